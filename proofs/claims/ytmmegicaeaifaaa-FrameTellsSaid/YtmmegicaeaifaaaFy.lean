/-
  Which transactions are the same: the contracts of Same, of the program and of the reference. Conditions: the sizes that the statements hold.
-/
import Derived.Test.YtmmegicaeaifaaaFv
namespace Go.Proofs.Ytmmegicaeaifaaa
open Go.RowKit Fr

instance sDec : DecidableEq Sc.S := fun a b => decidable_of_iff (a.name = b.name ∧ a.cols = b.cols ∧ a.keys = b.keys) (by cases a; cases b; simp)
instance chDec : DecidableEq Ch := fun a b => decidable_of_iff (a.op = b.op ∧ a.table = b.table ∧ a.row = b.row ∧ a.fr = b.fr ∧ a.to = b.to ∧ a.df = b.df) (by cases a; cases b; simp)
instance txDec : DecidableEq Tx := fun a b => decidable_of_iff (a.seq = b.seq ∧ a.time = b.time ∧ a.cs = b.cs) (by cases a; cases b; simp)
theorem sc_same_iff {a b : Sc.S} : Sc.same a b = true ↔ a = b := by
  unfold Sc.same
  rw [Bool.and_eq_true, Bool.and_eq_true, decide_eq_true_iff, decide_eq_true_iff, decide_eq_true_iff]
  obtain ⟨n, c, k⟩ := a
  obtain ⟨n', c', k'⟩ := b
  constructor
  · rintro ⟨a, b, d⟩
    have a' : n = n' := a
    have b' : k = k' := b
    have d' : c = c' := d
    rw [a', b', d']
  · intro e
    injection e with a b d
    exact ⟨a, d, b⟩
theorem sc_same_no {a b : Sc.S} (h : Sc.same a b = false) : a ≠ b := fun e => by
  rw [sc_same_iff.2 e] at h; cases h
theorem tx_ne {a b : Tx} (h : a ≠ b) : decide (a = b) = false := decide_eq_false h
theorem tx_ne_at {a b : Tx} {k : Nat} (hk : k < a.cs.length) (hl : a.cs.length = b.cs.length) (h : a.cs[k] ≠ b.cs[k]'(hl ▸ hk)) : decide (a = b) = false := tx_ne (fun e => by subst e; exact h rfl)
theorem take_eq_snoc {α : Type} {l r : List α} {k : Nat} (hk : k < l.length) (hl : l.length = r.length) (h0 : l.take k = r.take k) (h : l[k] = r[k]'(hl ▸ hk)) : l.take (k + 1) = r.take (k + 1) := by
  rw [List.take_succ_eq_append_getElem hk, List.take_succ_eq_append_getElem (hl ▸ hk), h0, h]
set_option maxRecDepth 100000 in
set_option maxHeartbeats 12800000 in
theorem rows_big (v1 v2 : Value) (l r : List Cd.V) (w : World) (h1 : VsAt w v1 l) (h2 : VsAt w v2 r) (hl : l.length ≤ 9223372036854775807) (hr : r.length ≤ 9223372036854775807) :
    Calls Try.prog 47 #[v1, v2] w fun e w' => e = .returned (.bool (decide (l = r))) ∧ Below w.heap.size w w' := by
  obtain ⟨adr, cap, rfl, hc⟩ := h1
  obtain ⟨adr2, cap2, rfl, hc2⟩ := h2
  have HC := hid hc
  have HC2 := hid hc2
  clear hc hc2
  by_cases hlen : l.length = r.length
  · have e1 : (((l.length : Int)) != (r.length : Int)) = false := by rw [bne_eq_false_iff_eq]; omega
    have HLEN := hid hlen
    have hlr : (r.length : Int) = (l.length : Int) := by omega
    have e2 : (((l.length : Int)) != (l.length : Int)) = false := by rw [bne_eq_false_iff_eq]
    rw [← hlen]
    clear hlr e1 hlen
    go_enter Try.func47, Try.ntmps47
    go_wp2_with fail
    go_loopw [5] (fun i wr => ∃ k : Nat, k ≤ l.length ∧ i = .int .i64 (k : Int) ∧ Hid (l.take k = r.take k) ∧ Below w.heap.size w wr) (fun i _ => l.length - (intOf i).toNat)
    case atStart => exact ⟨0, by omega, rfl, rfl, Below.refl _ _⟩
    case round =>
      obtain ⟨k, hk, rfl, htk, hbel⟩ := hrel
      obtain ⟨w4, rfl⟩ : ∃ w4 : World, w4 = wr := ⟨_, rfl⟩
      by_cases hlk : k < l.length
      · obtain ⟨g, off, rfl, q0, q1, q2, q3⟩ := HC.out k hlk
        obtain ⟨g2, off2, rfl, p0, p1, p2, p3⟩ := HC2.out k (by have := HLEN.out; omega)
        have HN := hid (take_eq_next HLEN.out k hlk htk.out)
        have HX := hid (take_ne HLEN.out k hlk)
        have hq := va_neq l[k].k l[k].n l[k].b l[k].s (r[k]'(by have := HLEN.out; omega)).k (r[k]'(by have := HLEN.out; omega)).n (r[k]'(by have := HLEN.out; omega)).b (r[k]'(by have := HLEN.out; omega)).s _ (v_beq _ _)
        generalize l[k] = x at q0 q1 q2 q3 HN HX hq
        generalize r[k]'(by have := HLEN.out; omega) = y at p0 p1 p2 p3 HN HX hq
        replace q0 := hkeep q0 hbel
        replace q1 := hkeep q1 hbel
        replace q2 := hkeep q2 hbel
        replace q3 := hkeep q3 hbel
        replace p0 := hkeep p0 hbel
        replace p1 := hkeep p1 hbel
        replace p2 := hkeep p2 hbel
        replace p3 := hkeep p3 hbel
        have hlk' : (k : Int) < l.length := by omega
        have hk0 : (0 : Int) ≤ (k : Int) := by omega
        unfold vv at hq
        by_cases hxy : x = y
        · have HT := hid (HN.out.2 hxy)
          rw [decide_eq_true hxy] at hq
          clear hxy
          go_wp2_with fail
          go_quiet (fail)
          go_wp2_with fail
          go_roundw
          case rel => exact ⟨k + 1, by omega, by go_num, HT, hdrewN hbel _⟩
          case measure => simp [intOf]; omega
        · have HNE := hid (HX.out hxy)
          rw [decide_eq_false hxy] at hq
          clear hxy
          go_wp2_with fail
          go_quiet (fail)
          go_wp2_with fail
          go_ret
          rw [decide_eq_false HNE.out]
          exact ⟨rfl, hdrewN hbel _⟩
      · obtain rfl : k = l.length := by omega
        have HE := hid (show l = r by have h := htk.out; rw [List.take_length, HLEN.out, List.take_length] at h; exact h)
        go_wp2_with fail
        go_ret
        rw [decide_eq_true HE.out]
        exact ⟨rfl, hbel⟩
  · have e1 : (((l.length : Int)) != (r.length : Int)) = true := by rw [bne_iff_ne]; omega
    have HE := hid (show l ≠ r by rintro rfl; exact hlen rfl)
    clear hlen
    go_enter Try.func47, Try.ntmps47
    go_wp2
    go_ret
    rw [decide_eq_false HE.out]
    exact ⟨rfl, Below.refl _ _⟩
set_option maxRecDepth 100000 in
set_option maxHeartbeats 12800000 in
theorem fsame_any (a b : Tx) (va vb : Value) (w : World) (hva : HsAt w va a.cs) (hvb : HsAt w vb b.cs) (hka : Hok a.cs) (hkb : Hok b.cs) : Calls Try.prog 19 #[tv a va, tv b vb] w fun e w' => e = .returned (.bool (decide (a = b))) ∧ Below w.heap.size w w' := by
  have hb1 := hba w (.cells #[.int .i64 a.seq, .int .i64 a.time, va] 24)
  have hb2 := hba (w.alloc (.cells #[.int .i64 a.seq, .int .i64 a.time, va] 24)) (.cells #[.int .i64 b.seq, .int .i64 b.time, vb] 24)
  have LB := hid (hnext hb1 hb2)
  have BA := hid ((BT.new w a va).keep hb2)
  have bb := BT.new (w.alloc (.cells #[.int .i64 a.seq, .int .i64 a.time, va] 24)) b vb
  rw [show (w.alloc (.cells #[.int .i64 a.seq, .int .i64 a.time, va] 24)).heap.size = w.heap.size + 1 by simp] at bb
  have BB := hid bb
  have HKA := hid hka.2
  have HKB := hid hkb.2
  have hla := hka.1
  obtain ⟨adr, cap, rfl, hc⟩ := hva
  obtain ⟨badr, bcap, rfl, hd⟩ := hvb
  have HC := hid hc
  have HD := hid hd
  clear hc hd hka hkb hb1 hb2 bb
  unfold tv
  obtain ⟨s0, s1, s2, g0, g1, g2, sl⟩ := BA.out.cells
  obtain ⟨t0, t1, t2, g3, g4, g5, tl⟩ := BB.out.cells
  clear g0 g1 g2 g3 g4 g5
  by_cases e1 : a.seq = b.seq
  case neg =>
    have HR : Hid (decide (a = b) = false) := tx_ne (fun e => e1 (by rw [e]))
    have ne1 : (a.seq != b.seq) = true := by rw [bne_iff_ne]; exact e1
    clear e1
    go_enter Try.func19, Try.ntmps19
    go_wp2_with fail
    go_ret
    rw [HR.out]
    exact ⟨rfl, LB.out⟩
  have m1 : (a.seq != b.seq) = false := by rw [e1]; simp
  have E1 := hid e1
  clear e1
  by_cases e2 : a.time = b.time
  case neg =>
    have HR : Hid (decide (a = b) = false) := tx_ne (fun e => e2 (by rw [e]))
    have ne2 : (a.time != b.time) = true := by rw [bne_iff_ne]; exact e2
    clear e2
    go_enter Try.func19, Try.ntmps19
    go_wp2_with fail
    go_ret
    rw [HR.out]
    exact ⟨rfl, LB.out⟩
  have m2 : (a.time != b.time) = false := by rw [e2]; simp
  have E2 := hid e2
  clear e2
  by_cases e3 : a.cs.length = b.cs.length
  case neg =>
    have HR : Hid (decide (a = b) = false) := tx_ne (fun e => e3 (by rw [e]))
    have ne3 : ((a.cs.length : Int) != (b.cs.length : Int)) = true := by rw [bne_iff_ne]; omega
    clear e3
    go_enter Try.func19, Try.ntmps19
    go_wp2_with fail
    go_ret
    rw [HR.out]
    exact ⟨rfl, LB.out⟩
  have m3 : ((a.cs.length : Int) != (b.cs.length : Int)) = false := by rw [e3]; simp
  have E3 := hid e3
  clear e3
  go_enter Try.func19, Try.ntmps19
  go_wp2_with fail
  clear s0 s1 s2 sl t0 t1 t2 tl m1 m2 m3
  go_loopw [33] (fun i wr => ∃ k : Nat, k ≤ a.cs.length ∧ i = .int .i64 (k : Int) ∧ Hid (a.cs.take k = b.cs.take k) ∧ Below w.heap.size w wr ∧ BT wr w.heap.size a (.slice adr a.cs.length cap) ∧ BT wr (w.heap.size + 1) b (.slice badr b.cs.length bcap)) (fun i _ => a.cs.length - (intOf i).toNat)
  case atStart => exact ⟨0, by omega, rfl, rfl, LB.out, BA.out, BB.out⟩
  case round =>
    obtain ⟨k, hk, rfl, htk, hbel, hba4, hbb4⟩ := hrel
    obtain ⟨w4, rfl⟩ : ∃ w4 : World, w4 = wr := ⟨_, rfl⟩
    have hk0 : (0 : Int) ≤ (k : Int) := by omega
    obtain ⟨s0, s1, s2, g0, g1, g2, sl⟩ := hba4.cells
    clear g0 g1 g2
    have L4 := hid hbel
    by_cases hkl : k < a.cs.length
    · have hkl' : (k : Int) < (a.cs.length : Int) := by omega
      have hkb : k < b.cs.length := by have := E3.out; omega
      have hkb' : (k : Int) < (b.cs.length : Int) := by omega
      obtain ⟨t0, t1, t2, g0, g1, g2, tl⟩ := hbb4.cells
      clear g0 g1 g2
      obtain ⟨g, off, vr, vc, rfl, q0, q1, q2, q3, q4, q5, q6, q7, p1, p2⟩ := HC.out k hkl
      obtain ⟨g', off', vr', vc', rfl, r0, r1, r2, r3, r4, r5, r6, r7, p3, p4⟩ := HD.out k hkb
      have HN := hid (tx_ne_at hkl E3.out)
      have HS := hid (take_eq_snoc hkl E3.out htk.out)
      have hxs := HKA.out a.cs[k] (List.getElem_mem hkl)
      have hys := HKB.out b.cs[k] (List.getElem_mem hkb)
      generalize hx : a.cs[k] = x at q0 q1 q2 q3 q4 q5 q6 q7 p1 p2 HN HS hxs
      generalize hy : b.cs[k] = y at r0 r1 r2 r3 r4 r5 r6 r7 p3 p4 HN HS hys
      clear hx hy htk
      obtain ⟨radr, rcap, rfl⟩ := vs_slc p1
      obtain ⟨cadr, ccap, rfl⟩ := p2.slc
      obtain ⟨radr', rcap', rfl⟩ := vs_slc p3
      obtain ⟨cadr', ccap', rfl⟩ := p4.slc
      replace q0 := hkeep q0 hbel
      replace r0 := hkeep r0 hbel
      replace q1 := hkeep q1 hbel
      replace r1 := hkeep r1 hbel
      replace q2 := hkeep q2 hbel
      replace r2 := hkeep r2 hbel
      replace q3 := hkeep q3 hbel
      replace r3 := hkeep r3 hbel
      replace q4 := hkeep q4 hbel
      replace r4 := hkeep r4 hbel
      replace q5 := hkeep q5 hbel
      replace r5 := hkeep r5 hbel
      replace q6 := hkeep q6 hbel
      replace r6 := hkeep r6 hbel
      replace q7 := hkeep q7 hbel
      replace r7 := hkeep r7 hbel
      obtain ⟨op, tb, row, fr, to, ⟨nm, cols, ky⟩⟩ := x
      obtain ⟨op', tb', row', fr', to', ⟨nm', cols', ky'⟩⟩ := y
      simp only at q0 q1 q2 q3 q4 q5 q6 q7 r0 r1 r2 r3 r4 r5 r6 r7 p1 p2 p3 p4 hxs hys
      have hb5 := hba w4 (.cells #[.int .i64 op, .string tb, .slice radr row.length rcap, .int .i64 fr, .int .i64 to, .string nm, .slice cadr cols.length ccap, .int .i64 ky] 32)
      have hb6 := hba (w4.alloc (.cells #[.int .i64 op, .string tb, .slice radr row.length rcap, .int .i64 fr, .int .i64 to, .string nm, .slice cadr cols.length ccap, .int .i64 ky] 32)) (.cells #[.int .i64 op', .string tb', .slice radr' row'.length rcap', .int .i64 fr', .int .i64 to', .string nm', .slice cadr' cols'.length ccap', .int .i64 ky'] 32)
      have hb7 := hnext hb5 hb6
      have L6 := hid (hnext hbel hb7)
      have t2' := hkeep t2 hb5
      have t1' := hkeep t1 hb5
      have r0' := hkeep r0 hb5
      have r1' := hkeep r1 hb5
      have r2' := hkeep r2 hb5
      have r3' := hkeep r3 hb5
      have r4' := hkeep r4 hb5
      have r5' := hkeep r5 hb5
      have r6' := hkeep r6 hb5
      have r7' := hkeep r7 hb5
      have BA6 := hid (hba4.keep hb7)
      have BB6 := hid (hbb4.keep hb7)
      have P1 := hid ((p1.below hbel).below hb7)
      have P2 := hid ((p2.below hbel).below hb7)
      have P3 := hid ((p3.below hbel).below hb7)
      have P4 := hid ((p4.below hbel).below hb7)
      have BX := hid ((BH.new w4 ⟨op, tb, row, fr, to, ⟨nm, cols, ky⟩⟩ (.slice radr row.length rcap) (.slice cadr cols.length ccap)).keep hb6)
      have by0 := BH.new (w4.alloc (.cells #[.int .i64 op, .string tb, .slice radr row.length rcap, .int .i64 fr, .int .i64 to, .string nm, .slice cadr cols.length ccap, .int .i64 ky] 32)) ⟨op', tb', row', fr', to', ⟨nm', cols', ky'⟩⟩ (.slice radr' row'.length rcap') (.slice cadr' cols'.length ccap')
      rw [show (w4.alloc (.cells #[.int .i64 op, .string tb, .slice radr row.length rcap, .int .i64 fr, .int .i64 to, .string nm, .slice cadr cols.length ccap, .int .i64 ky] 32)).heap.size = w4.heap.size + 1 by simp] at by0
      have BY := hid by0
      obtain ⟨x0, x1, x2, x3, x4, x5, x6, x7, f0, f1, f2, f3, f4, f5, f6, f7, xl⟩ := BX.out.cells
      obtain ⟨y0, y1, y2, y3, y4, y5, y6, y7, f0', f1', f2', f3', f4', f5', f6', f7', yl⟩ := BY.out.cells
      simp only at x0 x1 x2 x3 x4 x5 x6 x7 y0 y1 y2 y3 y4 y5 y6 y7
      clear f0 f1 f2 f3 f4 f5 f6 f7 f0' f1' f2' f3' f4' f5' f6' f7' xl yl
      have cs0 := fun W (h1 : CsAt W (.slice cadr cols.length ccap) cols) (h2 : CsAt W (.slice cadr' cols'.length ccap') cols') => same_any ⟨nm, cols, ky⟩ ⟨nm', cols', ky'⟩ _ _ W h1 h2
      unfold sv at cs0
      simp only at cs0
      have hlr := hxs.2
      have hls := hys.2
      clear hbel hba4 hbb4 hb5 hb6 hb7 by0 p1 p2 p3 p4 hxs hys
      by_cases h1 : op = op'
      case neg =>
        have HR : Hid (decide (a = b) = false) := HN.out (fun e => h1 (by injection e))
        have nh1 : (op != op') = true := by rw [bne_iff_ne]; exact h1
        clear h1 HN HS cs0
        go_wp2_with fail
        go_ret
        rw [HR.out]
        exact ⟨rfl, L6.out⟩
      have j1 : (op != op') = false := by rw [h1]; simp
      have H1 := hid h1
      clear h1
      have hbt : (tb.toList == tb'.toList) = decide (tb = tb') := bytes_beq tb tb'
      by_cases h2 : tb = tb'
      case neg =>
        have HR : Hid (decide (a = b) = false) := HN.out (fun e => h2 (by injection e))
        have nh2 : (tb.toList == tb'.toList) = false := by rw [hbt]; exact decide_eq_false h2
        clear h2 hbt HN HS cs0
        go_wp2_with fail
        go_ret
        rw [HR.out]
        exact ⟨rfl, L6.out⟩
      have j2 : (tb.toList == tb'.toList) = true := by rw [hbt]; exact decide_eq_true h2
      have H2 := hid h2
      clear h2 hbt
      have hsp := fun z hz w => sp_neq fr to fr' to' z hz w
      by_cases h3 : fr = fr' ∧ to = to'
      case neg =>
        have HR : Hid (decide (a = b) = false) := HN.out (fun e => h3 (by injection e with e1 e2 e3 e4 e5 e6; exact ⟨e4, e5⟩))
        have nh3 := fun w => hsp false (by rw [Bool.eq_false_iff]; intro h; simp at h; exact h3 h) w
        clear h3 HN HS cs0 hsp
        go_wp2_with fail
        go_ret
        rw [HR.out]
        exact ⟨rfl, L6.out⟩
      have j3 := fun w => hsp true (by simp; exact h3) w
      have H3 := hid h3
      clear h3 hsp
      by_cases h4 : row.length = row'.length
      case neg =>
        have HR : Hid (decide (a = b) = false) := HN.out (fun e => h4 (by injection e with e1 e2 e3; rw [e3]))
        have nh4 : ((row.length : Int) != (row'.length : Int)) = true := by rw [bne_iff_ne]; omega
        clear h4 HN HS cs0
        go_wp2_with fail
        go_ret
        rw [HR.out]
        exact ⟨rfl, L6.out⟩
      have j4 : ((row.length : Int) != (row'.length : Int)) = false := by rw [h4]; simp
      have H4 := hid h4
      clear h4
      cases hsm : Sc.same ⟨nm, cols, ky⟩ ⟨nm', cols', ky'⟩ with
      | false =>
        have HR : Hid (decide (a = b) = false) := HN.out (fun e => sc_same_no hsm (by injection e))
        rw [hsm] at cs0
        have CS := hid cs0
        clear hsm HN HS cs0
        go_wp2_with fail
        refine (CS.out _ P2.out P4.out).mono ?_; rintro e w6 ⟨rfl, b6⟩
        have L7 := hid (hnext L6.out b6)
        clear b6
        go_wp2_with fail
        go_ret
        rw [HR.out]
        exact ⟨rfl, L7.out⟩
      | true =>
        have H5 := hid (sc_same_iff.1 hsm)
        rw [hsm] at cs0
        have CS := hid cs0
        clear hsm cs0
        go_wp2_with fail
        refine (CS.out _ P2.out P4.out).mono ?_; rintro e w6 ⟨rfl, b6⟩
        have L7 := hid (hnext L6.out b6)
        have BA7 := hid (BA6.out.keep b6)
        have BB7 := hid (BB6.out.keep b6)
        have P17 := P1.out.below b6
        have P37 := P3.out.below b6
        replace BX := hid (BX.out.keep b6)
        replace BY := hid (BY.out.keep b6)
        clear b6 P2 P4 s0 s1 s2 sl t0 t1 t2 tl x0 x1 x2 x3 x4 x5 x6 x7 y0 y1 y2 y3 y4 y5 y6 y7
        obtain ⟨x0, x1, x2, x3, x4, x5, x6, x7, f0, f1, f2, f3, f4, f5, f6, f7, xl⟩ := BX.out.cells
        obtain ⟨y0, y1, y2, y3, y4, y5, y6, y7, f0', f1', f2', f3', f4', f5', f6', f7', yl⟩ := BY.out.cells
        simp only at x0 x1 x2 x3 x4 x5 x6 x7 y0 y1 y2 y3 y4 y5 y6 y7
        clear f0 f1 f2 f3 f4 f5 f6 f7 f0' f1' f2' f3' f4' f5' f6' f7' xl yl
        obtain ⟨_, _, e1, hr1⟩ := P17
        obtain ⟨_, _, e2, hr2⟩ := P37
        cases e1
        cases e2
        have HR1 := hid hr1
        have HR2 := hid hr2
        clear hr1 hr2
        go_wp2_with fail
        go_loopw [82] (fun i wr => ∃ j : Nat, j ≤ row.length ∧ i = .int .i64 (j : Int) ∧ Hid (row.take j = row'.take j) ∧ Below w6.heap.size w6 wr) (fun i _ => row.length - (intOf i).toNat)
        case atStart => exact ⟨0, by omega, rfl, rfl, Below.refl _ _⟩
        case round =>
          obtain ⟨j, hj, rfl, htj, hbel6⟩ := hrel
          obtain ⟨w7, rfl⟩ : ∃ w7 : World, w7 = wr := ⟨_, rfl⟩
          have hj0 : (0 : Int) ≤ (j : Int) := by omega
          by_cases hjl : j < row.length
          · have hjl' : (j : Int) < (row.length : Int) := by omega
            have hjr : j < row'.length := by have := H4.out; omega
            have hjr' : (j : Int) < (row'.length : Int) := by omega
            obtain ⟨rg, roff, rfl, u0, u1, u2, u3⟩ := HR1.out j hjl
            obtain ⟨rg', roff', rfl, z0, z1, z2, z3⟩ := HR2.out j hjr
            have HNR : Hid (row[j] ≠ row'[j] → decide (a = b) = false) := fun h => HN.out (fun e => by
              injection e with e1 e2 e3
              subst e3; exact h rfl)
            have HSR := hid (take_eq_snoc hjl H4.out htj.out)
            generalize row[j] = p at u0 u1 u2 u3 HNR HSR
            generalize row'[j] = q at z0 z1 z2 z3 HNR HSR
            obtain ⟨pk, pn, pb, ps⟩ := p
            obtain ⟨qk, qn, qb, qs⟩ := q
            simp only at u0 u1 u2 u3 z0 z1 z2 z3
            replace u0 := hkeep u0 hbel6
            replace z0 := hkeep z0 hbel6
            replace u1 := hkeep u1 hbel6
            replace z1 := hkeep z1 hbel6
            replace u2 := hkeep u2 hbel6
            replace z2 := hkeep z2 hbel6
            replace u3 := hkeep u3 hbel6
            replace z3 := hkeep z3 hbel6
            replace x2 := hkeep x2 hbel6
            replace y2 := hkeep y2 hbel6
            have L8 := hid (hnext L7.out hbel6)
            have HB6 := hid hbel6
            have hvn := fun z hz w => va_neq pk pn pb ps qk qn qb qs z hz w
            unfold vv at hvn
            have hveq : (pk == qk && (pn == qn && ((pb : Int) == (qb : Int) && decide (ps = qs)))) = decide ((⟨pk, pn, pb, ps⟩ : Cd.V) = ⟨qk, qn, qb, qs⟩) := v_beq ⟨pk, pn, pb, ps⟩ ⟨qk, qn, qb, qs⟩
            clear hbel6 htj x0 x1 x3 x4 x5 x6 x7 y0 y1 y3 y4 y5 y6 y7
            go_wp2_with fail
            obtain ⟨w20, hw20⟩ : ∃ w20, (w7).drew = w20 := ⟨_, rfl⟩
            have hd20 : Below (w7).heap.size (w7) w20 := hw20 ▸ (Below.refl _ _).drew
            have L20 := hid (hnext L8.out hd20)
            have B20 := hid (hnext HB6.out hd20)
            replace x2 := hkeep x2 hd20
            replace y2 := hkeep y2 hd20
            replace u0 := hkeep u0 hd20
            replace u1 := hkeep u1 hd20
            replace u2 := hkeep u2 hd20
            replace u3 := hkeep u3 hd20
            replace z0 := hkeep z0 hd20
            replace z1 := hkeep z1 hd20
            replace z2 := hkeep z2 hd20
            replace z3 := hkeep z3 hd20
            have mk20 : ∀ W, Below w20.heap.size w20 W → Below w20.heap.size w20 W ∧ W.cell? ⟨w4.heap.size, 2, none⟩ = some (.slice (some ⟨rg, roff, none⟩) row.length rcap) ∧ W.cell? ⟨w4.heap.size + 1, 2, none⟩ = some (.slice (some ⟨rg', roff', none⟩) row'.length rcap') ∧ W.cell? ⟨rg, roff + j * 4, none⟩ = some (.int .i64 pk) ∧ W.cell? ⟨rg, roff + j * 4 + 1, none⟩ = some (.int .i64 pn) ∧ W.cell? ⟨rg, roff + j * 4 + 2, none⟩ = some (.int .u64 (pb : Int)) ∧ W.cell? ⟨rg, roff + j * 4 + 3, none⟩ = some (.string ps) ∧ W.cell? ⟨rg', roff' + j * 4, none⟩ = some (.int .i64 qk) ∧ W.cell? ⟨rg', roff' + j * 4 + 1, none⟩ = some (.int .i64 qn) ∧ W.cell? ⟨rg', roff' + j * 4 + 2, none⟩ = some (.int .u64 (qb : Int)) ∧ W.cell? ⟨rg', roff' + j * 4 + 3, none⟩ = some (.string qs) := fun W h => ⟨h, hkeep x2 h, hkeep y2 h, hkeep u0 h, hkeep u1 h, hkeep u2 h, hkeep u3 h, hkeep z0 h, hkeep z1 h, hkeep z2 h, hkeep z3 h⟩
            clear x2 y2 u0 u1 u2 u3 z0 z1 z2 z3
            by_cases hpq : (⟨pk, pn, pb, ps⟩ : Cd.V) = ⟨qk, qn, qb, qs⟩
            · have hv := fun w => hvn true (hveq.trans (decide_eq_true hpq)) w
              have HS2 := hid (HSR.out hpq)
              clear hvn hveq HNR HSR hpq
              refine wp_region_held_drew (S := (fun W => Below w20.heap.size w20 W ∧ W.cell? ⟨w4.heap.size, 2, none⟩ = some (.slice (some ⟨rg, roff, none⟩) row.length rcap) ∧ W.cell? ⟨w4.heap.size + 1, 2, none⟩ = some (.slice (some ⟨rg', roff', none⟩) row'.length rcap') ∧ W.cell? ⟨rg, roff + j * 4, none⟩ = some (.int .i64 pk) ∧ W.cell? ⟨rg, roff + j * 4 + 1, none⟩ = some (.int .i64 pn) ∧ W.cell? ⟨rg, roff + j * 4 + 2, none⟩ = some (.int .u64 (pb : Int)) ∧ W.cell? ⟨rg, roff + j * 4 + 3, none⟩ = some (.string ps) ∧ W.cell? ⟨rg', roff' + j * 4, none⟩ = some (.int .i64 qk) ∧ W.cell? ⟨rg', roff' + j * 4 + 1, none⟩ = some (.int .i64 qn) ∧ W.cell? ⟨rg', roff' + j * 4 + 2, none⟩ = some (.int .u64 (qb : Int)) ∧ W.cell? ⟨rg', roff' + j * 4 + 3, none⟩ = some (.string qs))) (by kernel_rfl) (by rw [hw20]; exact mk20 _ (Below.refl _ _)) (fun hS20 => ?_)
              rw [hw20] at hS20 ⊢
              clear hw20
              refine wpAnyH_take (i := 0) (oi := ({ dst := some 85, op := Op.fieldAddr 32 (Operand.tmp 6) 2, type := 0, pos := "frame.go:184", after := #[], guard := none } : Oper)) (v := ?_) rfl (by kernel_rfl) (by kernel_rfl) (by kernel_rfl) (fun _ _ _ h => h) (Or.inl ⟨by rfl, ?_⟩) hS20 ?_
              rotate_left
              · intro w hSw; (try dsimp only at hSw); go_simp; (try with_reducible rfl)
              simp only [Act.put, List.setIfInBounds_toArray, List.set_cons_zero, List.set_cons_succ]
              refine wpAnyH_take (i := 1) (oi := ({ dst := some 86, op := Op.load 25 (Operand.tmp 85), type := 25, pos := "frame.go:184", after := #[{ on := 0, ground := Ground.data }], guard := none } : Oper)) (v := ?_) rfl (by kernel_rfl) (by kernel_rfl) (by kernel_rfl) (fun _ _ _ h => h) (Or.inl ⟨by rfl, ?_⟩) hS20 ?_
              rotate_left
              · intro w hSw; (try dsimp only at hSw); go_simp; (try with_reducible rfl)
              simp only [Act.put, List.setIfInBounds_toArray, List.set_cons_zero, List.set_cons_succ]
              refine wpAnyH_take (i := 2) (oi := ({ dst := some 87, op := Op.move (Operand.tmp 8), type := 3, pos := "frame.go:184", after := #[], guard := none } : Oper)) (v := ?_) rfl (by kernel_rfl) (by kernel_rfl) (by kernel_rfl) (fun _ _ _ h => h) (Or.inl ⟨by rfl, ?_⟩) hS20 ?_
              rotate_left
              · intro w hSw; (try dsimp only at hSw); go_simp; (try with_reducible rfl)
              simp only [Act.put, List.setIfInBounds_toArray, List.set_cons_zero, List.set_cons_succ]
              refine wpAnyH_take (i := 3) (oi := ({ dst := some 88, op := Op.indexAddr 25 (Operand.tmp 86) (Operand.tmp 87), type := 0, pos := "frame.go:184", after := #[{ on := 1, ground := Ground.data }, { on := 2, ground := Ground.data }], guard := none } : Oper)) (v := ?_) rfl (by kernel_rfl) (by kernel_rfl) (by kernel_rfl) (fun _ _ _ h => h) (Or.inl ⟨by rfl, ?_⟩) hS20 ?_
              rotate_left
              · intro w hSw; (try dsimp only at hSw); go_simp; (try with_reducible rfl)
              simp only [Act.put, List.setIfInBounds_toArray, List.set_cons_zero, List.set_cons_succ]
              refine wpAnyH_take (i := 4) (oi := ({ dst := some 89, op := Op.load 59 (Operand.tmp 88), type := 59, pos := "frame.go:184", after := #[{ on := 3, ground := Ground.data }], guard := none } : Oper)) (v := ?_) rfl (by kernel_rfl) (by kernel_rfl) (by kernel_rfl) (fun _ _ _ h => h) (Or.inl ⟨by rfl, ?_⟩) hS20 ?_
              rotate_left
              · intro w hSw; (try dsimp only at hSw); go_simp; (try with_reducible rfl)
              simp only [Act.put, List.setIfInBounds_toArray, List.set_cons_zero, List.set_cons_succ]
              refine wpAnyH_take (i := 5) (oi := ({ dst := some 90, op := Op.fieldAddr 32 (Operand.tmp 7) 2, type := 0, pos := "frame.go:184", after := #[], guard := none } : Oper)) (v := ?_) rfl (by kernel_rfl) (by kernel_rfl) (by kernel_rfl) (fun _ _ _ h => h) (Or.inl ⟨by rfl, ?_⟩) hS20 ?_
              rotate_left
              · intro w hSw; (try dsimp only at hSw); go_simp; (try with_reducible rfl)
              simp only [Act.put, List.setIfInBounds_toArray, List.set_cons_zero, List.set_cons_succ]
              refine wpAnyH_take (i := 6) (oi := ({ dst := some 91, op := Op.load 25 (Operand.tmp 90), type := 25, pos := "frame.go:184", after := #[{ on := 5, ground := Ground.data }], guard := none } : Oper)) (v := ?_) rfl (by kernel_rfl) (by kernel_rfl) (by kernel_rfl) (fun _ _ _ h => h) (Or.inl ⟨by rfl, ?_⟩) hS20 ?_
              rotate_left
              · intro w hSw; (try dsimp only at hSw); go_simp; (try with_reducible rfl)
              simp only [Act.put, List.setIfInBounds_toArray, List.set_cons_zero, List.set_cons_succ]
              refine wpAnyH_take (i := 7) (oi := ({ dst := some 92, op := Op.move (Operand.tmp 8), type := 3, pos := "frame.go:184", after := #[], guard := none } : Oper)) (v := ?_) rfl (by kernel_rfl) (by kernel_rfl) (by kernel_rfl) (fun _ _ _ h => h) (Or.inl ⟨by rfl, ?_⟩) hS20 ?_
              rotate_left
              · intro w hSw; (try dsimp only at hSw); go_simp; (try with_reducible rfl)
              simp only [Act.put, List.setIfInBounds_toArray, List.set_cons_zero, List.set_cons_succ]
              refine wpAnyH_take (i := 8) (oi := ({ dst := some 93, op := Op.indexAddr 25 (Operand.tmp 91) (Operand.tmp 92), type := 0, pos := "frame.go:184", after := #[{ on := 6, ground := Ground.data }, { on := 7, ground := Ground.data }], guard := none } : Oper)) (v := ?_) rfl (by kernel_rfl) (by kernel_rfl) (by kernel_rfl) (fun _ _ _ h => h) (Or.inl ⟨by rfl, ?_⟩) hS20 ?_
              rotate_left
              · intro w hSw; (try dsimp only at hSw); go_simp; (try with_reducible rfl)
              simp only [Act.put, List.setIfInBounds_toArray, List.set_cons_zero, List.set_cons_succ]
              refine wpAnyH_take (i := 9) (oi := ({ dst := some 94, op := Op.load 59 (Operand.tmp 93), type := 59, pos := "frame.go:184", after := #[{ on := 8, ground := Ground.data }], guard := none } : Oper)) (v := ?_) rfl (by kernel_rfl) (by kernel_rfl) (by kernel_rfl) (fun _ _ _ h => h) (Or.inl ⟨by rfl, ?_⟩) hS20 ?_
              rotate_left
              · intro w hSw; (try dsimp only at hSw); go_simp; (try with_reducible rfl)
              simp only [Act.put, List.setIfInBounds_toArray, List.set_cons_zero, List.set_cons_succ]
              refine wpAnyH_take (i := 10) (oi := ({ dst := some 95, op := Op.binOp BinOp.neq 59 (Operand.tmp 89) (Operand.tmp 94) 59, type := 4, pos := "frame.go:184", after := #[{ on := 4, ground := Ground.data }, { on := 9, ground := Ground.data }], guard := none } : Oper)) (v := ?_) rfl (by kernel_rfl) (by kernel_rfl) (by kernel_rfl) (fun _ _ _ h => h) (Or.inl ⟨by rfl, ?_⟩) hS20 ?_
              rotate_left
              · intro w hSw; (try dsimp only at hSw); go_simp; (try with_reducible rfl)
              simp only [Act.put, List.setIfInBounds_toArray, List.set_cons_zero, List.set_cons_succ]
              refine wpAnyH_done (by kernel_rfl) ?_ _
              go_wp2_with fail
              go_roundw
              case rel => exact ⟨j + 1, by omega, by first | rfl | go_num, HS2.out, hnext B20.out hS20.1⟩
              case measure => simp [intOf]; omega
            · have hv := fun w => hvn false (hveq.trans (decide_eq_false hpq)) w
              have HR : Hid (decide (a = b) = false) := HNR.out hpq
              clear hvn hveq HNR HSR hpq
              refine wp_region_held_drew (S := (fun W => Below w20.heap.size w20 W ∧ W.cell? ⟨w4.heap.size, 2, none⟩ = some (.slice (some ⟨rg, roff, none⟩) row.length rcap) ∧ W.cell? ⟨w4.heap.size + 1, 2, none⟩ = some (.slice (some ⟨rg', roff', none⟩) row'.length rcap') ∧ W.cell? ⟨rg, roff + j * 4, none⟩ = some (.int .i64 pk) ∧ W.cell? ⟨rg, roff + j * 4 + 1, none⟩ = some (.int .i64 pn) ∧ W.cell? ⟨rg, roff + j * 4 + 2, none⟩ = some (.int .u64 (pb : Int)) ∧ W.cell? ⟨rg, roff + j * 4 + 3, none⟩ = some (.string ps) ∧ W.cell? ⟨rg', roff' + j * 4, none⟩ = some (.int .i64 qk) ∧ W.cell? ⟨rg', roff' + j * 4 + 1, none⟩ = some (.int .i64 qn) ∧ W.cell? ⟨rg', roff' + j * 4 + 2, none⟩ = some (.int .u64 (qb : Int)) ∧ W.cell? ⟨rg', roff' + j * 4 + 3, none⟩ = some (.string qs))) (by kernel_rfl) (by rw [hw20]; exact mk20 _ (Below.refl _ _)) (fun hS20 => ?_)
              rw [hw20] at hS20 ⊢
              clear hw20
              refine wpAnyH_take (i := 0) (oi := ({ dst := some 85, op := Op.fieldAddr 32 (Operand.tmp 6) 2, type := 0, pos := "frame.go:184", after := #[], guard := none } : Oper)) (v := ?_) rfl (by kernel_rfl) (by kernel_rfl) (by kernel_rfl) (fun _ _ _ h => h) (Or.inl ⟨by rfl, ?_⟩) hS20 ?_
              rotate_left
              · intro w hSw; (try dsimp only at hSw); go_simp; (try with_reducible rfl)
              simp only [Act.put, List.setIfInBounds_toArray, List.set_cons_zero, List.set_cons_succ]
              refine wpAnyH_take (i := 1) (oi := ({ dst := some 86, op := Op.load 25 (Operand.tmp 85), type := 25, pos := "frame.go:184", after := #[{ on := 0, ground := Ground.data }], guard := none } : Oper)) (v := ?_) rfl (by kernel_rfl) (by kernel_rfl) (by kernel_rfl) (fun _ _ _ h => h) (Or.inl ⟨by rfl, ?_⟩) hS20 ?_
              rotate_left
              · intro w hSw; (try dsimp only at hSw); go_simp; (try with_reducible rfl)
              simp only [Act.put, List.setIfInBounds_toArray, List.set_cons_zero, List.set_cons_succ]
              refine wpAnyH_take (i := 2) (oi := ({ dst := some 87, op := Op.move (Operand.tmp 8), type := 3, pos := "frame.go:184", after := #[], guard := none } : Oper)) (v := ?_) rfl (by kernel_rfl) (by kernel_rfl) (by kernel_rfl) (fun _ _ _ h => h) (Or.inl ⟨by rfl, ?_⟩) hS20 ?_
              rotate_left
              · intro w hSw; (try dsimp only at hSw); go_simp; (try with_reducible rfl)
              simp only [Act.put, List.setIfInBounds_toArray, List.set_cons_zero, List.set_cons_succ]
              refine wpAnyH_take (i := 3) (oi := ({ dst := some 88, op := Op.indexAddr 25 (Operand.tmp 86) (Operand.tmp 87), type := 0, pos := "frame.go:184", after := #[{ on := 1, ground := Ground.data }, { on := 2, ground := Ground.data }], guard := none } : Oper)) (v := ?_) rfl (by kernel_rfl) (by kernel_rfl) (by kernel_rfl) (fun _ _ _ h => h) (Or.inl ⟨by rfl, ?_⟩) hS20 ?_
              rotate_left
              · intro w hSw; (try dsimp only at hSw); go_simp; (try with_reducible rfl)
              simp only [Act.put, List.setIfInBounds_toArray, List.set_cons_zero, List.set_cons_succ]
              refine wpAnyH_take (i := 4) (oi := ({ dst := some 89, op := Op.load 59 (Operand.tmp 88), type := 59, pos := "frame.go:184", after := #[{ on := 3, ground := Ground.data }], guard := none } : Oper)) (v := ?_) rfl (by kernel_rfl) (by kernel_rfl) (by kernel_rfl) (fun _ _ _ h => h) (Or.inl ⟨by rfl, ?_⟩) hS20 ?_
              rotate_left
              · intro w hSw; (try dsimp only at hSw); go_simp; (try with_reducible rfl)
              simp only [Act.put, List.setIfInBounds_toArray, List.set_cons_zero, List.set_cons_succ]
              refine wpAnyH_take (i := 5) (oi := ({ dst := some 90, op := Op.fieldAddr 32 (Operand.tmp 7) 2, type := 0, pos := "frame.go:184", after := #[], guard := none } : Oper)) (v := ?_) rfl (by kernel_rfl) (by kernel_rfl) (by kernel_rfl) (fun _ _ _ h => h) (Or.inl ⟨by rfl, ?_⟩) hS20 ?_
              rotate_left
              · intro w hSw; (try dsimp only at hSw); go_simp; (try with_reducible rfl)
              simp only [Act.put, List.setIfInBounds_toArray, List.set_cons_zero, List.set_cons_succ]
              refine wpAnyH_take (i := 6) (oi := ({ dst := some 91, op := Op.load 25 (Operand.tmp 90), type := 25, pos := "frame.go:184", after := #[{ on := 5, ground := Ground.data }], guard := none } : Oper)) (v := ?_) rfl (by kernel_rfl) (by kernel_rfl) (by kernel_rfl) (fun _ _ _ h => h) (Or.inl ⟨by rfl, ?_⟩) hS20 ?_
              rotate_left
              · intro w hSw; (try dsimp only at hSw); go_simp; (try with_reducible rfl)
              simp only [Act.put, List.setIfInBounds_toArray, List.set_cons_zero, List.set_cons_succ]
              refine wpAnyH_take (i := 7) (oi := ({ dst := some 92, op := Op.move (Operand.tmp 8), type := 3, pos := "frame.go:184", after := #[], guard := none } : Oper)) (v := ?_) rfl (by kernel_rfl) (by kernel_rfl) (by kernel_rfl) (fun _ _ _ h => h) (Or.inl ⟨by rfl, ?_⟩) hS20 ?_
              rotate_left
              · intro w hSw; (try dsimp only at hSw); go_simp; (try with_reducible rfl)
              simp only [Act.put, List.setIfInBounds_toArray, List.set_cons_zero, List.set_cons_succ]
              refine wpAnyH_take (i := 8) (oi := ({ dst := some 93, op := Op.indexAddr 25 (Operand.tmp 91) (Operand.tmp 92), type := 0, pos := "frame.go:184", after := #[{ on := 6, ground := Ground.data }, { on := 7, ground := Ground.data }], guard := none } : Oper)) (v := ?_) rfl (by kernel_rfl) (by kernel_rfl) (by kernel_rfl) (fun _ _ _ h => h) (Or.inl ⟨by rfl, ?_⟩) hS20 ?_
              rotate_left
              · intro w hSw; (try dsimp only at hSw); go_simp; (try with_reducible rfl)
              simp only [Act.put, List.setIfInBounds_toArray, List.set_cons_zero, List.set_cons_succ]
              refine wpAnyH_take (i := 9) (oi := ({ dst := some 94, op := Op.load 59 (Operand.tmp 93), type := 59, pos := "frame.go:184", after := #[{ on := 8, ground := Ground.data }], guard := none } : Oper)) (v := ?_) rfl (by kernel_rfl) (by kernel_rfl) (by kernel_rfl) (fun _ _ _ h => h) (Or.inl ⟨by rfl, ?_⟩) hS20 ?_
              rotate_left
              · intro w hSw; (try dsimp only at hSw); go_simp; (try with_reducible rfl)
              simp only [Act.put, List.setIfInBounds_toArray, List.set_cons_zero, List.set_cons_succ]
              refine wpAnyH_take (i := 10) (oi := ({ dst := some 95, op := Op.binOp BinOp.neq 59 (Operand.tmp 89) (Operand.tmp 94) 59, type := 4, pos := "frame.go:184", after := #[{ on := 4, ground := Ground.data }, { on := 9, ground := Ground.data }], guard := none } : Oper)) (v := ?_) rfl (by kernel_rfl) (by kernel_rfl) (by kernel_rfl) (fun _ _ _ h => h) (Or.inl ⟨by rfl, ?_⟩) hS20 ?_
              rotate_left
              · intro w hSw; (try dsimp only at hSw); go_simp; (try with_reducible rfl)
              simp only [Act.put, List.setIfInBounds_toArray, List.set_cons_zero, List.set_cons_succ]
              refine wpAnyH_done (by kernel_rfl) ?_ _
              go_wp2_with fail
              go_ret
              rw [HR.out]
              exact ⟨rfl, hnext L20.out hS20.1⟩
          · obtain rfl : j = row.length := by omega
            have HRW : Hid (row = row') := by
              have h := htj.out
              rw [List.take_length, List.take_of_length_le (by have := H4.out; omega)] at h
              exact h
            have HSX : Hid (a.cs.take (k + 1) = b.cs.take (k + 1)) := HS.out (by
              obtain ⟨h3, h3'⟩ := H3.out
              have h1 := H1.out
              have h2 := H2.out
              have h4 := HRW.out
              have h5 := H5.out
              rw [h1, h2, h3, h3', h4, h5])
            have L8 := hid (hnext L7.out hbel6)
            have BA8 := hid (BA7.out.keep hbel6)
            have BB8 := hid (BB7.out.keep hbel6)
            clear hbel6 htj hjl
            go_wp2_with fail
            go_roundw
            case rel => exact ⟨k + 1, by omega, by first | rfl | go_num, HSX.out, L8.out, BA8.out, BB8.out⟩
            case measure => simp [intOf]; omega
    · obtain rfl : k = a.cs.length := by omega
      have HR : Hid (decide (a = b) = true) := by
        have h := htk.out
        rw [List.take_length, List.take_of_length_le (by have := E3.out; omega)] at h
        have h1 := E1.out
        have h2 := E2.out
        refine decide_eq_true ?_
        obtain ⟨p, q, r⟩ := a
        obtain ⟨p', q', r'⟩ := b
        simp only at h h1 h2
        rw [h, h1, h2]
      clear htk hkl hbel hba4 hbb4
      go_wp2_with fail
      go_ret
      rw [HR.out]
      exact ⟨rfl, L4.out⟩
set_option maxRecDepth 100000 in
set_option maxHeartbeats 12800000 in
theorem fsameR_any (a b : Tx) (va vb : Value) (w : World) (hva : HsAt w va a.cs) (hvb : HsAt w vb b.cs) (hka : Hok a.cs) (hkb : Hok b.cs) : Calls Try.prog 20 #[tv a va, tv b vb] w fun e w' => e = .returned (.bool (decide (a = b))) ∧ Below w.heap.size w w' := by
  have hb1 := hba w (.cells #[.int .i64 a.seq, .int .i64 a.time, va] 24)
  have hb2 := hba (w.alloc (.cells #[.int .i64 a.seq, .int .i64 a.time, va] 24)) (.cells #[.int .i64 b.seq, .int .i64 b.time, vb] 24)
  have LB := hid (hnext hb1 hb2)
  have BA := hid ((BT.new w a va).keep hb2)
  have bb := BT.new (w.alloc (.cells #[.int .i64 a.seq, .int .i64 a.time, va] 24)) b vb
  rw [show (w.alloc (.cells #[.int .i64 a.seq, .int .i64 a.time, va] 24)).heap.size = w.heap.size + 1 by simp] at bb
  have BB := hid bb
  have HKA := hid hka.2
  have HKB := hid hkb.2
  have hla := hka.1
  obtain ⟨adr, cap, rfl, hc⟩ := hva
  obtain ⟨badr, bcap, rfl, hd⟩ := hvb
  have HC := hid hc
  have HD := hid hd
  clear hc hd hka hkb hb1 hb2 bb
  unfold tv
  obtain ⟨s0, s1, s2, g0, g1, g2, sl⟩ := BA.out.cells
  obtain ⟨t0, t1, t2, g3, g4, g5, tl⟩ := BB.out.cells
  clear g0 g1 g2 g3 g4 g5
  by_cases e1 : a.seq = b.seq
  case neg =>
    have HR : Hid (decide (a = b) = false) := tx_ne (fun e => e1 (by rw [e]))
    have ne1 : (a.seq != b.seq) = true := by rw [bne_iff_ne]; exact e1
    clear e1
    go_enter Try.func20, Try.ntmps20
    go_wp2_with fail
    go_ret
    rw [HR.out]
    exact ⟨rfl, LB.out⟩
  have m1 : (a.seq != b.seq) = false := by rw [e1]; simp
  have E1 := hid e1
  clear e1
  by_cases e2 : a.time = b.time
  case neg =>
    have HR : Hid (decide (a = b) = false) := tx_ne (fun e => e2 (by rw [e]))
    have ne2 : (a.time != b.time) = true := by rw [bne_iff_ne]; exact e2
    clear e2
    go_enter Try.func20, Try.ntmps20
    go_wp2_with fail
    go_ret
    rw [HR.out]
    exact ⟨rfl, LB.out⟩
  have m2 : (a.time != b.time) = false := by rw [e2]; simp
  have E2 := hid e2
  clear e2
  by_cases e3 : a.cs.length = b.cs.length
  case neg =>
    have HR : Hid (decide (a = b) = false) := tx_ne (fun e => e3 (by rw [e]))
    have ne3 : ((a.cs.length : Int) != (b.cs.length : Int)) = true := by rw [bne_iff_ne]; omega
    clear e3
    go_enter Try.func20, Try.ntmps20
    go_wp2_with fail
    go_ret
    rw [HR.out]
    exact ⟨rfl, LB.out⟩
  have m3 : ((a.cs.length : Int) != (b.cs.length : Int)) = false := by rw [e3]; simp
  have E3 := hid e3
  clear e3
  go_enter Try.func20, Try.ntmps20
  go_wp2_with fail
  clear s0 s1 s2 sl t0 t1 t2 tl m1 m2 m3
  go_loopw [5] (fun i wr => ∃ k : Nat, k ≤ a.cs.length ∧ i = .int .i64 (k : Int) ∧ Hid (a.cs.take k = b.cs.take k) ∧ Below w.heap.size w wr ∧ BT wr w.heap.size a (.slice adr a.cs.length cap) ∧ BT wr (w.heap.size + 1) b (.slice badr b.cs.length bcap)) (fun i _ => a.cs.length - (intOf i).toNat)
  case atStart => exact ⟨0, by omega, rfl, rfl, LB.out, BA.out, BB.out⟩
  case round =>
    obtain ⟨k, hk, rfl, htk, hbel, hba4, hbb4⟩ := hrel
    obtain ⟨w4, rfl⟩ : ∃ w4 : World, w4 = wr := ⟨_, rfl⟩
    have hk0 : (0 : Int) ≤ (k : Int) := by omega
    obtain ⟨s0, s1, s2, g0, g1, g2, sl⟩ := hba4.cells
    clear g0 g1 g2
    have L4 := hid hbel
    by_cases hkl : k < a.cs.length
    · have hkl' : (k : Int) < (a.cs.length : Int) := by omega
      have hkb : k < b.cs.length := by have := E3.out; omega
      have hkb' : (k : Int) < (b.cs.length : Int) := by omega
      obtain ⟨t0, t1, t2, g0, g1, g2, tl⟩ := hbb4.cells
      clear g0 g1 g2
      obtain ⟨g, off, vr, vc, rfl, q0, q1, q2, q3, q4, q5, q6, q7, p1, p2⟩ := HC.out k hkl
      obtain ⟨g', off', vr', vc', rfl, r0, r1, r2, r3, r4, r5, r6, r7, p3, p4⟩ := HD.out k hkb
      have HN := hid (tx_ne_at hkl E3.out)
      have HS := hid (take_eq_snoc hkl E3.out htk.out)
      have hxs := HKA.out a.cs[k] (List.getElem_mem hkl)
      have hys := HKB.out b.cs[k] (List.getElem_mem hkb)
      generalize hx : a.cs[k] = x at q0 q1 q2 q3 q4 q5 q6 q7 p1 p2 HN HS hxs
      generalize hy : b.cs[k] = y at r0 r1 r2 r3 r4 r5 r6 r7 p3 p4 HN HS hys
      clear hx hy htk
      obtain ⟨radr, rcap, rfl⟩ := vs_slc p1
      obtain ⟨cadr, ccap, rfl⟩ := p2.slc
      obtain ⟨radr', rcap', rfl⟩ := vs_slc p3
      obtain ⟨cadr', ccap', rfl⟩ := p4.slc
      replace q0 := hkeep q0 hbel
      replace r0 := hkeep r0 hbel
      replace q1 := hkeep q1 hbel
      replace r1 := hkeep r1 hbel
      replace q2 := hkeep q2 hbel
      replace r2 := hkeep r2 hbel
      replace q3 := hkeep q3 hbel
      replace r3 := hkeep r3 hbel
      replace q4 := hkeep q4 hbel
      replace r4 := hkeep r4 hbel
      replace q5 := hkeep q5 hbel
      replace r5 := hkeep r5 hbel
      replace q6 := hkeep q6 hbel
      replace r6 := hkeep r6 hbel
      replace q7 := hkeep q7 hbel
      replace r7 := hkeep r7 hbel
      obtain ⟨op, tb, row, fr, to, ⟨nm, cols, ky⟩⟩ := x
      obtain ⟨op', tb', row', fr', to', ⟨nm', cols', ky'⟩⟩ := y
      simp only at q0 q1 q2 q3 q4 q5 q6 q7 r0 r1 r2 r3 r4 r5 r6 r7 p1 p2 p3 p4 hxs hys
      have hb5 := hba w4 (.cells #[.int .i64 op, .string tb, .slice radr row.length rcap, .int .i64 fr, .int .i64 to, .string nm, .slice cadr cols.length ccap, .int .i64 ky] 32)
      have hb6 := hba (w4.alloc (.cells #[.int .i64 op, .string tb, .slice radr row.length rcap, .int .i64 fr, .int .i64 to, .string nm, .slice cadr cols.length ccap, .int .i64 ky] 32)) (.cells #[.int .i64 op', .string tb', .slice radr' row'.length rcap', .int .i64 fr', .int .i64 to', .string nm', .slice cadr' cols'.length ccap', .int .i64 ky'] 32)
      have hb7 := hnext hb5 hb6
      have L6 := hid (hnext hbel hb7)
      have t2' := hkeep t2 hb5
      have t1' := hkeep t1 hb5
      have r0' := hkeep r0 hb5
      have r1' := hkeep r1 hb5
      have r2' := hkeep r2 hb5
      have r3' := hkeep r3 hb5
      have r4' := hkeep r4 hb5
      have r5' := hkeep r5 hb5
      have r6' := hkeep r6 hb5
      have r7' := hkeep r7 hb5
      have BA6 := hid (hba4.keep hb7)
      have BB6 := hid (hbb4.keep hb7)
      have P1 := hid ((p1.below hbel).below hb7)
      have P2 := hid ((p2.below hbel).below hb7)
      have P3 := hid ((p3.below hbel).below hb7)
      have P4 := hid ((p4.below hbel).below hb7)
      have BX := hid ((BH.new w4 ⟨op, tb, row, fr, to, ⟨nm, cols, ky⟩⟩ (.slice radr row.length rcap) (.slice cadr cols.length ccap)).keep hb6)
      have by0 := BH.new (w4.alloc (.cells #[.int .i64 op, .string tb, .slice radr row.length rcap, .int .i64 fr, .int .i64 to, .string nm, .slice cadr cols.length ccap, .int .i64 ky] 32)) ⟨op', tb', row', fr', to', ⟨nm', cols', ky'⟩⟩ (.slice radr' row'.length rcap') (.slice cadr' cols'.length ccap')
      rw [show (w4.alloc (.cells #[.int .i64 op, .string tb, .slice radr row.length rcap, .int .i64 fr, .int .i64 to, .string nm, .slice cadr cols.length ccap, .int .i64 ky] 32)).heap.size = w4.heap.size + 1 by simp] at by0
      have BY := hid by0
      obtain ⟨x0, x1, x2, x3, x4, x5, x6, x7, f0, f1, f2, f3, f4, f5, f6, f7, xl⟩ := BX.out.cells
      obtain ⟨y0, y1, y2, y3, y4, y5, y6, y7, f0', f1', f2', f3', f4', f5', f6', f7', yl⟩ := BY.out.cells
      simp only at x0 x1 x2 x3 x4 x5 x6 x7 y0 y1 y2 y3 y4 y5 y6 y7
      clear f0 f1 f2 f3 f4 f5 f6 f7 f0' f1' f2' f3' f4' f5' f6' f7' xl yl
      have cs0 := fun W (h1 : CsAt W (.slice cadr cols.length ccap) cols) (h2 : CsAt W (.slice cadr' cols'.length ccap') cols') => sameR_any ⟨nm, cols, ky⟩ ⟨nm', cols', ky'⟩ _ _ W h1 h2
      unfold sv at cs0
      simp only at cs0
      have hlr := hxs.2
      have hls := hys.2
      have CR := hid (fun W (h1 : VsAt W (.slice radr row.length rcap) row) (h2 : VsAt W (.slice radr' row'.length rcap') row') => rows_big _ _ row row' W h1 h2 hlr hls)
      clear hbel hba4 hbb4 hb5 hb6 hb7 by0 p1 p2 p3 p4 hxs hys
      by_cases h1 : op = op'
      case neg =>
        have HR : Hid (decide (a = b) = false) := HN.out (fun e => h1 (by injection e))
        have nh1 : (op != op') = true := by rw [bne_iff_ne]; exact h1
        clear h1 HN HS cs0
        go_wp2_with fail
        go_ret
        rw [HR.out]
        exact ⟨rfl, L6.out⟩
      have j1 : (op != op') = false := by rw [h1]; simp
      have H1 := hid h1
      clear h1
      have hbt : (tb.toList == tb'.toList) = decide (tb = tb') := bytes_beq tb tb'
      by_cases h2 : tb = tb'
      case neg =>
        have HR : Hid (decide (a = b) = false) := HN.out (fun e => h2 (by injection e))
        have nh2 : (tb.toList == tb'.toList) = false := by rw [hbt]; exact decide_eq_false h2
        clear h2 hbt HN HS cs0
        go_wp2_with fail
        go_ret
        rw [HR.out]
        exact ⟨rfl, L6.out⟩
      have j2 : (tb.toList == tb'.toList) = true := by rw [hbt]; exact decide_eq_true h2
      have H2 := hid h2
      clear h2 hbt
      have hsp := fun z hz w => sp_neq fr to fr' to' z hz w
      by_cases h3 : fr = fr' ∧ to = to'
      case neg =>
        have HR : Hid (decide (a = b) = false) := HN.out (fun e => h3 (by injection e with e1 e2 e3 e4 e5 e6; exact ⟨e4, e5⟩))
        have nh3 := fun w => hsp false (by rw [Bool.eq_false_iff]; intro h; simp at h; exact h3 h) w
        clear h3 HN HS cs0 hsp
        go_wp2_with fail
        go_ret
        rw [HR.out]
        exact ⟨rfl, L6.out⟩
      have j3 := fun w => hsp true (by simp; exact h3) w
      have H3 := hid h3
      clear h3 hsp
      by_cases h4 : row = row'
      case neg =>
        have HR : Hid (decide (a = b) = false) := HN.out (fun e => h4 (by injection e))
        have cr1 := CR.out
        rw [decide_eq_false h4] at cr1
        replace CR := hid cr1
        clear h4 HN HS cs0 cr1
        go_wp2_with fail
        refine (CR.out _ P1.out P3.out).mono ?_; rintro e w6 ⟨rfl, b6⟩
        have L7 := hid (hnext L6.out b6)
        clear b6
        go_wp2_with fail
        go_ret
        rw [HR.out]
        exact ⟨rfl, L7.out⟩
      have cr1 := CR.out
      rw [decide_eq_true h4] at cr1
      replace CR := hid cr1
      have H4 := hid h4
      clear h4 cr1
      cases hsm : Sc.same ⟨nm, cols, ky⟩ ⟨nm', cols', ky'⟩ with
      | false =>
        have HR : Hid (decide (a = b) = false) := HN.out (fun e => sc_same_no hsm (by injection e))
        rw [hsm] at cs0
        have CS := hid cs0
        clear hsm HN HS cs0
        go_wp2_with fail
        refine (CR.out _ P1.out P3.out).mono ?_; rintro e w6 ⟨rfl, b6⟩
        have L7 := hid (hnext L6.out b6)
        have BA7 := hid (BA6.out.keep b6)
        have BB7 := hid (BB6.out.keep b6)
        have P27 := hid (P2.out.below b6)
        have P47 := hid (P4.out.below b6)
        replace BX := hid (BX.out.keep b6)
        replace BY := hid (BY.out.keep b6)
        clear b6 s0 s1 s2 sl t0 t1 t2 tl x0 x1 x2 x3 x4 x5 x6 x7 y0 y1 y2 y3 y4 y5 y6 y7
        obtain ⟨x0, x1, x2, x3, x4, x5, x6, x7, f0, f1, f2, f3, f4, f5, f6, f7, xl⟩ := BX.out.cells
        obtain ⟨y0, y1, y2, y3, y4, y5, y6, y7, f0', f1', f2', f3', f4', f5', f6', f7', yl⟩ := BY.out.cells
        simp only at x0 x1 x2 x3 x4 x5 x6 x7 y0 y1 y2 y3 y4 y5 y6 y7
        clear f0 f1 f2 f3 f4 f5 f6 f7 f0' f1' f2' f3' f4' f5' f6' f7' xl yl
        go_wp2_with fail
        refine (CS.out _ P27.out P47.out).mono ?_; rintro e w8 ⟨rfl, b8⟩
        have L8 := hid (hnext L7.out b8)
        have BA8 := hid (BA7.out.keep b8)
        have BB8 := hid (BB7.out.keep b8)
        clear b8 x0 x1 x2 x3 x4 x5 x6 x7 y0 y1 y2 y3 y4 y5 y6 y7
        go_wp2_with fail
        go_ret
        rw [HR.out]
        exact ⟨rfl, L8.out⟩
      | true =>
        have H5 := hid (sc_same_iff.1 hsm)
        have HSX : Hid (a.cs.take (k + 1) = b.cs.take (k + 1)) := HS.out (by
          obtain ⟨h3, h3'⟩ := H3.out
          have h1 := H1.out
          have h2 := H2.out
          have h4 := H4.out
          have h5 := H5.out
          rw [h1, h2, h3, h3', h4, h5])
        rw [hsm] at cs0
        have CS := hid cs0
        clear hsm HN HS cs0
        go_wp2_with fail
        refine (CR.out _ P1.out P3.out).mono ?_; rintro e w6 ⟨rfl, b6⟩
        have L7 := hid (hnext L6.out b6)
        have BA7 := hid (BA6.out.keep b6)
        have BB7 := hid (BB6.out.keep b6)
        have P27 := hid (P2.out.below b6)
        have P47 := hid (P4.out.below b6)
        replace BX := hid (BX.out.keep b6)
        replace BY := hid (BY.out.keep b6)
        clear b6 s0 s1 s2 sl t0 t1 t2 tl x0 x1 x2 x3 x4 x5 x6 x7 y0 y1 y2 y3 y4 y5 y6 y7
        obtain ⟨x0, x1, x2, x3, x4, x5, x6, x7, f0, f1, f2, f3, f4, f5, f6, f7, xl⟩ := BX.out.cells
        obtain ⟨y0, y1, y2, y3, y4, y5, y6, y7, f0', f1', f2', f3', f4', f5', f6', f7', yl⟩ := BY.out.cells
        simp only at x0 x1 x2 x3 x4 x5 x6 x7 y0 y1 y2 y3 y4 y5 y6 y7
        clear f0 f1 f2 f3 f4 f5 f6 f7 f0' f1' f2' f3' f4' f5' f6' f7' xl yl
        go_wp2_with fail
        refine (CS.out _ P27.out P47.out).mono ?_; rintro e w8 ⟨rfl, b8⟩
        have L8 := hid (hnext L7.out b8)
        have BA8 := hid (BA7.out.keep b8)
        have BB8 := hid (BB7.out.keep b8)
        clear b8 x0 x1 x2 x3 x4 x5 x6 x7 y0 y1 y2 y3 y4 y5 y6 y7
        go_wp2_with fail
        go_roundw
        case rel => exact ⟨k + 1, by omega, by first | rfl | go_num, HSX.out, L8.out, BA8.out, BB8.out⟩
        case measure => simp [intOf]; omega
    · obtain rfl : k = a.cs.length := by omega
      have HR : Hid (decide (a = b) = true) := by
        have h := htk.out
        rw [List.take_length, List.take_of_length_le (by have := E3.out; omega)] at h
        have h1 := E1.out
        have h2 := E2.out
        refine decide_eq_true ?_
        obtain ⟨p, q, r⟩ := a
        obtain ⟨p', q', r'⟩ := b
        simp only at h h1 h2
        rw [h, h1, h2]
      clear htk hkl hbel hba4 hbb4
      go_wp2_with fail
      go_ret
      rw [HR.out]
      exact ⟨rfl, L4.out⟩
end Go.Proofs.Ytmmegicaeaifaaa
