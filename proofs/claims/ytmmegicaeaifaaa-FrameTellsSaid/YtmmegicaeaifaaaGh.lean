/-
  What 'light' of the statements of frames says of a right transaction: its body is not too big. Condition: sizes that can stand in memory.
-/
import Derived.Test.YtmmegicaeaifaaaGf
import Derived.Test.YtmmegicaeaifaaaFx
namespace Go.Proofs.Ytmmegicaeaifaaa
open Go.RowKit Fr

namespace Fr
def rwt (l : List Cd.V) : Nat := (l.map (fun x => x.s.size)).sum
def cwt (l : List Sc.C) : Nat := (l.map (fun x => x.name.size)).sum
def wt (c : Ch) : Nat := c.table.size + c.df.name.size + c.row.length + 10 * c.df.cols.length + rwt c.row + cwt c.df.cols
def wts (l : List Ch) : Nat := (l.map wt).sum
theorem rwt_next {l : List Cd.V} {k : Nat} (h : k < l.length) : rwt (l.take (k + 1)) = rwt (l.take k) + l[k].s.size := by unfold rwt; rw [List.take_succ_eq_append_getElem h, List.map_append, List.sum_append]; simp only [List.map_cons, List.map_nil, List.sum_cons, List.sum_nil, Nat.add_zero]
theorem cwt_next {l : List Sc.C} {k : Nat} (h : k < l.length) : cwt (l.take (k + 1)) = cwt (l.take k) + l[k].name.size := by unfold cwt; rw [List.take_succ_eq_append_getElem h, List.map_append, List.sum_append]; simp only [List.map_cons, List.map_nil, List.sum_cons, List.sum_nil, Nat.add_zero]
theorem wts_next {l : List Ch} {k : Nat} (h : k < l.length) : wts (l.take (k + 1)) = wts (l.take k) + wt l[k] := by unfold wts; rw [List.take_succ_eq_append_getElem h, List.map_append, List.sum_append]; simp only [List.map_cons, List.map_nil, List.sum_cons, List.sum_nil, Nat.add_zero]
theorem rwt_le {l : List Cd.V} (h : ∀ x ∈ l, x.s.size ≤ 4096) : rwt l ≤ l.length * 4096 := by
  induction l with
  | nil => exact Nat.le_refl _
  | cons x l ih =>
    have a := h x (List.mem_cons_self ..)
    have b := ih (fun y hy => h y (List.mem_cons_of_mem _ hy))
    have e : rwt (x :: l) = x.s.size + rwt l := rfl
    rw [List.length_cons]; omega
theorem cwt_le {l : List Sc.C} (h : ∀ x ∈ l, x.name.size ≤ 32) : cwt l ≤ l.length * 32 := by
  induction l with
  | nil => exact Nat.le_refl _
  | cons x l ih =>
    have a := h x (List.mem_cons_self ..)
    have b := ih (fun y hy => h y (List.mem_cons_of_mem _ hy))
    have e : cwt (x :: l) = x.name.size + cwt l := rfl
    rw [List.length_cons]; omega
/-- a right change's sizes -/
theorem ch_sizes {c : Ch} (h : chB c = true) : c.table.size ≤ 32 ∧ c.row.length ≤ 16 ∧ c.df.name.size ≤ 32 ∧ c.df.cols.length ≤ 16 ∧ (∀ x ∈ c.row, x.right = true) ∧ ∀ x ∈ c.df.cols, x.name.size ≤ 32 := by
  obtain ⟨_, _, _, _, _, _, h1, h2⟩ := ch_nums h
  rcases chB_ways h with ⟨_, h⟩ | ⟨_, h⟩ | ⟨_, h⟩
  · obtain ⟨t1, t2, t3, _, _⟩ := tabB_iff.1 h
    have := Sc.right_head t1
    exact ⟨h1, h2, this.1, this.2.2.2, by rw [t3]; exact fun x hx => absurd hx List.not_mem_nil, fun x hx => (Sc.right_cols t1 x hx).1⟩
  all_goals
    obtain ⟨_, ⟨a, _⟩, _, b⟩ := putB_iff.1 h
    refine ⟨h1, h2, by rw [b]; exact Nat.zero_le _, by rw [b]; exact Nat.zero_le _, List.all_eq_true.1 a, by rw [b]; exact fun x hx => absurd hx List.not_mem_nil⟩
theorem right_sz {x : Cd.V} (h : x.right = true) : x.s.size ≤ 4096 ∧ x.bytes.length ≤ 20 + x.s.size := by
  have hb : x.bytes = Cd.value x.k x.n x.b x.s := rfl
  have e0 : x.right = Va.right x.k x.n x.b x.s := rfl
  rcases value_shape x.k x.n x.b x.s with ⟨h1, _⟩ | ⟨h1, hs⟩
  · rw [e0, h1] at h; cases h
  · have hsz : x.s.size ≤ 4096 := by
      unfold Va.right at h1
      repeat' split at h1
      all_goals
        first | (simp only [Bool.and_eq_true, Bool.or_eq_true, decide_eq_true_eq] at h1; omega) | cases h1
    refine ⟨hsz, ?_⟩
    rw [hb]
    rcases hs with ⟨_, h⟩ | ⟨_, _, _, h⟩ | ⟨_, h⟩ | ⟨_, h⟩ | ⟨_, h2, h⟩ | ⟨_, h2, h⟩
    all_goals rw [h]
    · simp; omega
    · simp; omega
    · have := (Cd.enc_length (Cd.zig x.n)).2; simp; omega
    · have : (Cd.eight x.b).length = 8 := Cd.low_length 8 x.b
      simp; omega
    · have := text_length x.s; simp; omega
    · have := text_length x.s; simp; omega
theorem flat_wt {l : List Cd.V} (h : ∀ x ∈ l, x.right = true) : (l.flatMap Cd.V.bytes).length ≤ l.length * 20 + rwt l := by
  induction l with
  | nil => exact Nat.le_refl _
  | cons x l ih =>
    have a := (right_sz (h x (List.mem_cons_self ..))).2
    have b := ih (fun y hy => h y (List.mem_cons_of_mem _ hy))
    have e : rwt (x :: l) = x.s.size + rwt l := rfl
    rw [List.flatMap_cons, List.length_append, List.length_cons]; omega
theorem cols_wt (l : List Sc.C) : (l.flatMap Sc.colB).length ≤ l.length * 30 + cwt l := by
  induction l with
  | nil => exact Nat.le_refl _
  | cons x l ih =>
    have e : cwt (x :: l) = x.name.size + cwt l := rfl
    have a : (Sc.colB x).length ≤ 30 + x.name.size := by
      unfold Sc.colB
      have a := text_length x.name
      have b := (Cd.enc_length x.kind.toNat).2
      have d := (Cd.enc_length (if x.need = true then 1 else 0)).2
      simp only [List.length_append]; omega
    rw [List.flatMap_cons, List.length_append, List.length_cons]; omega
theorem chL_wt {c : Ch} (h : chB c = true) : (chL c).length ≤ wt c + 600 := by
  obtain ⟨s1, s2, s3, s4, s5, s6⟩ := ch_sizes h
  unfold wt
  by_cases h3 : c.op = 3
  · rw [chL_tab h3, List.length_append]
    have a := text_length (bstr (Sc.encode c.df))
    rw [bstr_size] at a
    have b := (Cd.enc_length 3).2
    have d : (Sc.encode c.df).length ≤ 30 + c.df.name.size + (c.df.cols.length * 30 + cwt c.df.cols) := by
      unfold Sc.encode
      split
      · have a := text_length c.df.name
        have b := (Cd.enc_length c.df.keys.toNat).2
        have d := (Cd.enc_length c.df.cols.length).2
        have e := cols_wt c.df.cols
        unfold Sc.headB
        simp only [List.length_append]; omega
      · simp
    omega
  · rw [chL_put h3]
    have a := text_length c.table
    have b := (Cd.enc_length c.op.toNat).2
    have d := (Cd.enc_length c.fr.toNat).2
    have e := (Cd.enc_length c.to.toNat).2
    have f : (Cd.row c.row).length ≤ 10 + (c.row.length * 20 + rwt c.row) := by
      unfold Cd.row
      split
      · have a := (Cd.enc_length c.row.length).2
        have b := flat_wt s5
        rw [List.length_append]; omega
      · simp
    simp only [List.length_append]; omega
theorem chs_wt {l : List Ch} (h : ∀ c ∈ l, chB c = true) : (l.flatMap chL).length ≤ wts l + l.length * 600 := by
  induction l with
  | nil => exact Nat.le_refl _
  | cons x l ih =>
    have a := chL_wt (h x (List.mem_cons_self ..))
    have b := ih (fun y hy => h y (List.mem_cons_of_mem _ hy))
    have e : wts (x :: l) = wt x + wts l := rfl
    rw [List.flatMap_cons, List.length_append, List.length_cons]; omega
/-- what weighs little has a body -/
theorem light_body {t : Tx} (h : txB t = true) (hw : wts t.cs ≤ 20000) : body t ≠ [] := by
  obtain ⟨h1, h2⟩ := txB_iff.1 h
  have h3 := (headB_iff.1 h2).2.2.2.2
  have a := chs_wt h1
  have a1 := Cd.enc_length t.seq.toNat
  have a2 := Cd.enc_length t.time.toNat
  have a3 := Cd.enc_length t.cs.length
  have hl : (bodyL t).length ≤ 100000 := by unfold bodyL headL; simp only [List.length_append]; omega
  rw [body_yes h, if_neg (by omega)]
  intro e
  have := congrArg List.length e
  unfold bodyL headL at this
  simp only [List.length_append, List.length_nil] at this
  omega
end Fr
set_option maxRecDepth 100000 in
set_option maxHeartbeats 12800000 in
theorem fweight_right (t : Tx) (v : Value) (w : World) (hv : HsAt w v t.cs) (hl : t.cs.length ≤ 100) (hR : ∀ c ∈ t.cs, chB c = true) : Calls Try.prog 28 #[tv t v] w fun e w' => (∃ z : Int, e = .returned (.int .i64 z) ∧ (z ≤ 20000 → wts t.cs ≤ 20000)) ∧ Below w.heap.size w w' := by
  have hbx := hba w (.cells #[.int .i64 t.seq, .int .i64 t.time, v] 24)
  have BX := hid (BT.new w t v)
  have LB := hid hbx
  have HR := hid hR
  obtain ⟨adr, cap, rfl, hc⟩ := hv
  have HC := hid hc
  clear hc hbx hR
  unfold tv
  have h1 : ¬ (110 : Int) < (t.cs.length : Int) := by omega
  go_enter Try.func28, Try.ntmps28
  go_wp2_with fail
  go_loopw [4, 3] (fun i al wr => ∃ (k : Nat), k ≤ t.cs.length ∧ wts (t.cs.take k) ≤ 20000 ∧ i = .int .i64 (k : Int) ∧ al = .int .i64 (wts (t.cs.take k) : Int) ∧ Below w.heap.size w wr ∧ BT wr w.heap.size t (.slice adr t.cs.length cap)) (fun i _ _ => t.cs.length - (intOf i).toNat)
  case atStart => exact ⟨0, by omega, by rw [List.take_zero]; decide, rfl, rfl, LB.out, BX.out⟩
  case round =>
    obtain ⟨k, hk, hz20, rfl, rfl, hbel, hbt⟩ := hrel
    obtain ⟨w4, rfl⟩ : ∃ w4 : World, w4 = wr := ⟨_, rfl⟩
    clear LB BX
    have hk0 : (0 : Int) ≤ (k : Int) := by omega
    obtain ⟨s0, s1, s2, g0, g1, g2, sl⟩ := hbt.cells
    clear g0 g1 g2
    by_cases hkl : k < t.cs.length
    · have hkl' : (k : Int) < (t.cs.length : Int) := by omega
      obtain ⟨g, off, vr, vc, rfl, q0, q1, q2, q3, q4, q5, q6, q7, p1, p2⟩ := HC.out k hkl
      have hrt := ch_sizes (HR.out _ (List.getElem_mem hkl))
      have hnx := wts_next hkl
      unfold wt at hnx
      generalize hx : t.cs[k] = c at q0 q1 q2 q3 q4 q5 q6 q7 p1 p2 hrt hnx
      clear hx
      obtain ⟨radr, rcap, rfl⟩ := vs_slc p1
      obtain ⟨cadr, ccap, rfl⟩ := p2.slc
      obtain ⟨op, tb, row, fr, to, ⟨nm, cols, ky⟩⟩ := c
      simp only at q0 q1 q2 q3 q4 q5 q6 q7 p1 p2 hrt hnx
      obtain ⟨z1, z2, z3, z4, z5, z6⟩ := hrt
      have Z5 := hid (fun x hx => (right_sz (z5 x hx)).1)
      have Z6 := hid z6
      have NX := hid hnx
      generalize hal : wts (t.cs.take k) = al0 at hz20 hnx NX
      clear z5 z6 hnx hal
      replace q0 := hkeep q0 hbel
      replace q1 := hkeep q1 hbel
      replace q2 := hkeep q2 hbel
      replace q3 := hkeep q3 hbel
      replace q4 := hkeep q4 hbel
      replace q5 := hkeep q5 hbel
      replace q6 := hkeep q6 hbel
      replace q7 := hkeep q7 hbel
      have hb5 := hba w4 (.cells #[.int .i64 op, .string tb, .slice radr row.length rcap, .int .i64 fr, .int .i64 to, .string nm, .slice cadr cols.length ccap, .int .i64 ky] 32)
      have L5 := hid (hnext hbel hb5)
      have BT5 := hid (hbt.keep hb5)
      have BC := hid (BH.new w4 ⟨op, tb, row, fr, to, ⟨nm, cols, ky⟩⟩ (.slice radr row.length rcap) (.slice cadr cols.length ccap))
      obtain ⟨_, _, e1, hr1⟩ := (p1.below hbel).below hb5
      obtain ⟨_, _, e2, _, _, hr2⟩ := (p2.below hbel).below hb5
      cases e1
      cases e2
      have HR1 := hid hr1
      have HR2 := hid hr2
      clear hr1 hr2 p1 p2 hb5 hbel hbt
      go_wp2_with fail
      obtain ⟨cb, hcb⟩ : ∃ cb, w4.heap.size = cb := ⟨_, rfl⟩
      rw [hcb] at BC
      (try rw [hcb])
      generalize w4.alloc (.cells #[.int .i64 op, .string tb, .slice radr row.length rcap, .int .i64 fr, .int .i64 to, .string nm, .slice cadr cols.length ccap, .int .i64 ky] 32) = w5 at *
      clear hcb q0 q1 q2 q3 q4 q5 q6 q7 s0 s1 s2 sl
      obtain ⟨x0, x1, x2, x3, x4, x5, x6, x7, f0, f1, f2, f3, f4, f5, f6, f7, xl⟩ := BC.out.cells
      simp only at x0 x1 x2 x3 x4 x5 x6 x7
      clear f0 f1 f2 f3 f4 f5 f6 f7 xl
      obtain ⟨A, hA⟩ : ∃ A : Nat, A = al0 + tb.size + nm.size + row.length + 10 * cols.length := ⟨_, rfl⟩
      go_loopw [6, 3] (fun i al wr => ∃ (j : Nat), j ≤ row.length ∧ i = .int .i64 (j : Int) ∧ al = .int .i64 ((A + rwt (row.take j) : Nat) : Int) ∧ wr = w5) (fun i _ _ => 300 - (intOf i).toNat)
      case atStart => exact ⟨0, by omega, rfl, int_eq (by rw [List.take_zero, show rwt [] = 0 from rfl, hA]; first | omega | (simp only [IntKind.wrap_i64]; omega)), rfl⟩
      case round =>
        obtain ⟨j, hj, rfl, rfl, rfl⟩ := hrel
        obtain ⟨w5, rfl⟩ : ∃ w5 : World, w5 = wr := ⟨_, rfl⟩
        have hj0 : (0 : Int) ≤ (j : Int) := by omega
        by_cases hjl : j < row.length
        · have hjl' : (j : Int) < (row.length : Int) := by omega
          have hj300' : (j : Int) < 300 := by omega
          have hrl : rwt (row.take j) ≤ 16 * 4096 := Nat.le_trans (rwt_le (fun x hx => Z5.out x (List.mem_of_mem_take hx))) (Nat.mul_le_mul_right _ (by rw [List.length_take]; omega))
          have hrn := rwt_next hjl
          have hrz := Z5.out _ (List.getElem_mem hjl)
          obtain ⟨rg, roff, rfl, _, _, _, u3⟩ := HR1.out j hjl
          generalize row[j].s = rs at u3 hrn hrz
          have HRN := hid hrn
          generalize rwt (row.take j) = q at hrl HRN
          clear hrn
          go_wp2_with fail
          go_roundw
          case rel => exact ⟨j + 1, by omega, by first | rfl | go_num, int_eq (by rw [HRN.out]; first | omega | (simp only [IntKind.wrap_i64]; omega)), by first | rfl | trivial⟩
          case measure => simp [intOf]; omega
        · obtain rfl : j = row.length := by omega
          have hjl' : ¬ (row.length : Int) < (row.length : Int) := by omega
          have hrl : rwt row ≤ 16 * 4096 := Nat.le_trans (rwt_le Z5.out) (Nat.mul_le_mul_right _ (by omega))
          rw [List.take_length]
          generalize rwt row = rr at hrl NX
          go_wp2_with fail
          go_loopw [7, 3] (fun i al wr => ∃ (j : Nat), j ≤ cols.length ∧ i = .int .i64 (j : Int) ∧ al = .int .i64 ((A + rr + cwt (cols.take j) : Nat) : Int) ∧ wr = w5) (fun i _ _ => 300 - (intOf i).toNat)
          case atStart => exact ⟨0, by omega, rfl, int_eq (by rw [List.take_zero, show cwt [] = 0 from rfl]; omega), rfl⟩
          case round =>
            obtain ⟨j, hj, rfl, rfl, rfl⟩ := hrel
            obtain ⟨w5, rfl⟩ : ∃ w5 : World, w5 = wr := ⟨_, rfl⟩
            have hj0 : (0 : Int) ≤ (j : Int) := by omega
            by_cases hjl : j < cols.length
            · have hjl' : (j : Int) < (cols.length : Int) := by omega
              have hj300' : (j : Int) < 300 := by omega
              have hrl : cwt (cols.take j) ≤ 16 * 32 := Nat.le_trans (cwt_le (fun x hx => Z6.out x (List.mem_of_mem_take hx))) (Nat.mul_le_mul_right _ (by rw [List.length_take]; omega))
              have hrn := cwt_next hjl
              have hrz := Z6.out _ (List.getElem_mem hjl)
              obtain ⟨rg, roff, rfl, u0, _, _⟩ := HR2.out j hjl
              generalize cols[j].name = rs at u0 hrn hrz
              have HRN := hid hrn
              generalize cwt (cols.take j) = q at hrl HRN
              clear hrn
              go_wp2_with fail
              go_roundw
              case rel => exact ⟨j + 1, by omega, by first | rfl | go_num, int_eq (by rw [HRN.out]; first | omega | (simp only [IntKind.wrap_i64]; omega)), by first | rfl | trivial⟩
              case measure => simp [intOf]; omega
            · obtain rfl : j = cols.length := by omega
              have hjl' : ¬ (cols.length : Int) < (cols.length : Int) := by omega
              have hnx := NX.out
              rw [List.take_length]
              by_cases hz : 20000 < A + rr + cwt cols
              · have hz' : (20000 : Int) < ((A + rr + cwt cols : Nat) : Int) := by omega
                generalize A + rr + cwt cols = zz at hz'
                go_wp2_with fail
                go_ret
                exact ⟨⟨_, rfl, fun h => absurd h (by decide)⟩, L5.out⟩
              · have hz' : ¬ (20000 : Int) < ((A + rr + cwt cols : Nat) : Int) := by omega
                have hsum : wts (t.cs.take (k + 1)) = A + rr + cwt cols := by omega
                have hle : wts (t.cs.take (k + 1)) ≤ 20000 := by omega
                have HS := hid hsum
                have HLE := hid hle
                generalize A + rr + cwt cols = zz at hz' HS
                clear hsum hle hnx
                go_wp2_with fail
                go_roundw
                case rel => exact ⟨k + 1, by omega, HLE.out, by first | rfl | go_num, by rw [HS.out], L5.out, BT5.out⟩
                case measure => simp [intOf]; omega
    · obtain rfl : k = t.cs.length := by omega
      clear hkl
      rw [List.take_length] at hz20
      have HZ := hid hz20
      clear hz20
      go_wp2_with fail
      go_ret
      exact ⟨⟨_, rfl, fun _ => HZ.out⟩, hbel⟩
set_option maxRecDepth 100000 in
set_option maxHeartbeats 12800000 in
/-- what 'light' answers -/
theorem flight_full (t : Tx) (v : Value) (w : World) (hv : HsAt w v t.cs) (hk : Hok t.cs) : Calls Try.prog 9 #[tv t v] w fun e w' => (∃ z : Bool, e = .returned (.bool z) ∧ (z = true → txB t = true → body t ≠ [])) ∧ Below w.heap.size w w' := by
  cases hR : txB t with
  | false => exact (flight_any t v w hv hk.1).mono fun e w' h => by obtain ⟨⟨z, rfl⟩, hb⟩ := h; exact ⟨⟨z, rfl, fun _ h => by cases h⟩, hb⟩
  | true =>
    obtain ⟨r1, r2⟩ := txB_iff.1 hR
    have hbx := hba w (.cells #[.int .i64 t.seq, .int .i64 t.time, v] 24)
    have BX := hid (BT.new w t v)
    have LB := hid hbx
    have CW := hid (fweight_right t v _ (hv.below hbx) (headB_iff.1 r2).2.2.2.2 r1)
    have HR := hid hR
    obtain ⟨adr, cap, rfl⟩ := hv.slc
    clear hv hbx r1 r2 hR hk
    unfold tv at *
    obtain ⟨s0, s1, s2, g0, g1, g2, sl⟩ := BX.out.cells
    clear g0 g1 g2
    go_enter Try.func9, Try.ntmps9
    go_wp2_with fail
    refine CW.out.mono ?_; rintro e w1 ⟨⟨z, rfl, hz⟩, b1⟩
    have L1 := hid (hnext LB.out b1)
    have HZ := hid hz
    clear b1 hz
    by_cases h2 : z ≤ 20000
    · have HB := hid (light_body HR.out (HZ.out h2))
      go_wp2_with fail
      go_ret
      exact ⟨⟨_, rfl, fun _ _ => HB.out⟩, L1.out⟩
    · go_wp2_with fail
      go_ret
      exact ⟨⟨_, rfl, fun h => absurd (of_decide_eq_true h) (by omega)⟩, L1.out⟩
end Go.Proofs.Ytmmegicaeaifaaa
