/-
  Which queries are right: the contract of the reference. Condition: sizes that can stand in memory.
-/
import Derived.Test.YtmcneelapghfcaaRb
import Derived.Test.YtmcneelapghfcaaQr
namespace Go.Proofs.Ytmcneelapghfcaa
open Go.RowKit Pd Qu

set_option maxRecDepth 100000 in
set_option maxHeartbeats 6400000 in
theorem qrightR_any (q : Q) (vk vw vc : Value) (s : Sc.S) (u : Value) (w : World) (hq : QIn w q vk vw vc) (hu : CsAt w u s.cols) (hok : Qok q) (hlw : q.wh.length ≤ 1000000) : Calls Try.prog 13 #[qv q vk vw vc, sv s u] w fun e w' => e = .returned (.bool (rightB s q)) ∧ Below w.heap.size w w' := by
  obtain ⟨ka, kc, rfl⟩ := vs_slc hq.1
  obtain ⟨wa, wc, rfl⟩ := hq.2.1.slc
  obtain ⟨ca, cc, rfl⟩ := hq.2.2.slc
  obtain ⟨ua, uc, rfl⟩ := hu.slc
  obtain ⟨nm, cs, ky⟩ := s
  obtain ⟨kind, table, key, t, v, fr, to, wh, cols, limit, desc⟩ := q
  have b1 := hba w (.cells #[.int .i64 kind, .string table, .slice ka key.length kc, .int .i64 t, .int .i64 v, .int .i64 fr, .int .i64 to, .slice wa wh.length wc, .slice ca cols.length cc, .int .i64 limit, .bool desc] 39)
  have b2 := hba (w.alloc (.cells #[.int .i64 kind, .string table, .slice ka key.length kc, .int .i64 t, .int .i64 v, .int .i64 fr, .int .i64 to, .slice wa wh.length wc, .slice ca cols.length cc, .int .i64 limit, .bool desc] 39)) (.cells #[.string nm, .slice ua cs.length uc, .int .i64 ky] 31)
  have L := hid (hnext b1 b2)
  have BX := hid ((BQ.new w 39 ⟨kind, table, key, t, v, fr, to, wh, cols, limit, desc⟩ (.slice ka key.length kc) (.slice wa wh.length wc) (.slice ca cols.length cc)).keep b2)
  have BS0 := BS3.new (w.alloc (.cells #[.int .i64 kind, .string table, .slice ka key.length kc, .int .i64 t, .int .i64 v, .int .i64 fr, .int .i64 to, .slice wa wh.length wc, .slice ca cols.length cc, .int .i64 limit, .bool desc] 39)) ⟨nm, cs, ky⟩ (.slice ua cs.length uc)
  rw [show (w.alloc (.cells #[.int .i64 kind, .string table, .slice ka key.length kc, .int .i64 t, .int .i64 v, .int .i64 fr, .int .i64 to, .slice wa wh.length wc, .slice ca cols.length cc, .int .i64 limit, .bool desc] 39)).heap.size = w.heap.size + 1 by simp] at BS0
  have BS := hid BS0
  have HK := hid (hq.1.below L.out)
  have HW := hid (hq.2.1.below L.out)
  have HC := hid (hq.2.2.below L.out)
  have HU := hid (hu.below L.out)
  clear b1 b2 BS0 hq hu
  unfold qv sv
  simp only at HK HW HC HU ⊢
  obtain ⟨c0, c1, c2, c3, c4, c5, c6, c7, c8, c9, c10, cl⟩ := BX.out.cells
  obtain ⟨s0, s1, s2, sl⟩ := BS.out.cells
  simp only at c0 c1 c2 c3 c4 c5 c6 c7 c8 c9 c10 s0 s1 s2
  clear cl sl
  have HOK := hid hok
  by_cases h1 : table = nm
  case neg =>
    have hb : (table.toList == nm.toList) = false := by rw [bytes_beq]; exact decide_eq_false h1
    have HR : Hid (rightB ⟨nm, cs, ky⟩ ⟨kind, table, key, t, v, fr, to, wh, cols, limit, desc⟩ = false) := by show _ = _; unfold rightB; simp [h1]
    (try clear h1)
    (try clear h2)
    (try clear h3)
    (try clear h4)
    (try clear hw)
    (try clear hr)
    go_enter Try.func13, Try.ntmps13
    go_wp2_with fail
    go_ret
    rw [HR.out]
    exact ⟨rfl, L.out⟩
  have hb : (table.toList == nm.toList) = true := by rw [bytes_beq]; exact decide_eq_true h1
  by_cases hw : wh.length = 0
  case pos =>
    have hw' : ¬ (0 : Int) < (wh.length : Int) := by omega
    have hw'' : decide ((0 : Int) < (wh.length : Int)) = false := decide_eq_false hw'
    by_cases h2 : cols.length ≤ 16
    case neg =>
      have h2' : (16 : Int) < (cols.length : Int) := by omega
      have HR : Hid (rightB ⟨nm, cs, ky⟩ ⟨kind, table, key, t, v, fr, to, wh, cols, limit, desc⟩ = false) := by show _ = _; unfold rightB; simp [h1, h2]
      (try clear h1)
      (try clear h2)
      (try clear h3)
      (try clear h4)
      (try clear hw)
      (try clear hr)
      go_enter Try.func13, Try.ntmps13
      go_wp2_with fail
      go_ret
      rw [HR.out]
      exact ⟨rfl, L.out⟩
    have h2' : ¬ (16 : Int) < (cols.length : Int) := by omega
    have h2'' : decide ((16 : Int) < (cols.length : Int)) = false := decide_eq_false h2'
    by_cases h3 : 0 ≤ limit
    case neg =>
      have h3' : limit < 0 := by omega
      have HR : Hid (rightB ⟨nm, cs, ky⟩ ⟨kind, table, key, t, v, fr, to, wh, cols, limit, desc⟩ = false) := by show _ = _; unfold rightB; simp [h1, h2, h3]
      (try clear h1)
      (try clear h2)
      (try clear h3)
      (try clear h4)
      (try clear hw)
      (try clear hr)
      go_enter Try.func13, Try.ntmps13
      go_wp2_with fail
      go_ret
      rw [HR.out]
      exact ⟨rfl, L.out⟩
    have h3' : ¬ limit < 0 := by omega
    have h3'' : decide (limit < 0) = false := decide_eq_false h3'
    by_cases h4 : limit ≤ 1099511627776
    case neg =>
      have h4' : (1099511627776 : Int) < limit := by omega
      have HR : Hid (rightB ⟨nm, cs, ky⟩ ⟨kind, table, key, t, v, fr, to, wh, cols, limit, desc⟩ = false) := by show _ = _; unfold rightB; simp [h1, h2, h3, h4]
      (try clear h1)
      (try clear h2)
      (try clear h3)
      (try clear h4)
      (try clear hw)
      (try clear hr)
      go_enter Try.func13, Try.ntmps13
      go_wp2_with fail
      go_ret
      rw [HR.out]
      exact ⟨rfl, L.out⟩
    have h4' : ¬ (1099511627776 : Int) < limit := by omega
    have h4'' : decide ((1099511627776 : Int) < limit) = false := decide_eq_false h4'
    have HE : Hid (rightB ⟨nm, cs, ky⟩ ⟨kind, table, key, t, v, fr, to, wh, cols, limit, desc⟩ = (shapeB ⟨nm, cs, ky⟩ ⟨kind, table, key, t, v, fr, to, wh, cols, limit, desc⟩ && colsB cs.length cols)) := by
      show (decide (table = nm) && (decide (cols.length ≤ 16) && (decide (0 ≤ limit ∧ limit ≤ 1099511627776) && (shapeB ⟨nm, cs, ky⟩ ⟨kind, table, key, t, v, fr, to, wh, cols, limit, desc⟩ && (colsB cs.length cols && (decide (wh.length = 0) || rightL cs wh)))))) = _
      rw [decide_eq_true h1, decide_eq_true h2, decide_eq_true ⟨h3, h4⟩, decide_eq_true hw, Bool.true_or]
      cases shapeB ⟨nm, cs, ky⟩ ⟨kind, table, key, t, v, fr, to, wh, cols, limit, desc⟩ <;> cases colsB cs.length cols <;> rfl
    (try clear h1)
    (try clear h2)
    (try clear h3)
    (try clear h4)
    (try clear hw)
    (try clear hr)
    go_enter Try.func13, Try.ntmps13
    go_wp2_with fail
    obtain ⟨w0, hw0⟩ : ∃ w0, ((w.alloc (.cells #[.int .i64 kind, .string table, .slice ka key.length kc, .int .i64 t, .int .i64 v, .int .i64 fr, .int .i64 to, .slice wa wh.length wc, .slice ca cols.length cc, .int .i64 limit, .bool desc] 39)).alloc (.cells #[.string nm, .slice ua cs.length uc, .int .i64 ky] 31)) = w0 := ⟨_, rfl⟩
    rw [hw0] at c0 c1 c2 c3 c4 c5 c6 c7 c8 c9 c10 s0 s1 s2 BX BS HK HU HC L
    (try rw [hw0])
    clear hw0
    obtain ⟨_, _, ec, hcc⟩ := HC.out
    cases ec
    have HCC := hid hcc
    clear hcc
    go_loopw [5] (fun i wr => ∃ k : Nat, k ≤ cols.length ∧ i = .int .i64 (k : Int) ∧ Hid (∀ j (hj : j < cols.length), j < k → 0 ≤ cols[j] ∧ cols[j] < (cs.length : Int)) ∧ Below w0.heap.size w0 wr) (fun i _ => cols.length - (intOf i).toNat)
    case atStart => exact ⟨0, by omega, rfl, fun j _ hj => absurd hj (Nat.not_lt_zero j), Below.refl _ _⟩
    case round =>
      obtain ⟨k, hk, rfl, hall, b3⟩ := hrel
      obtain ⟨w4, rfl⟩ : ∃ w4 : World, w4 = wr := ⟨_, rfl⟩
      have hk0 : (0 : Int) ≤ (k : Int) := by omega
      clear c0 c1 c2 c3 c4 c5 c6 c7 c8 c9 c10 s0 s1 s2
      have LB := hid b3
      replace HCC := hid (fun k hk => by obtain ⟨g, off, e, h⟩ := HCC.out k hk; exact (⟨g, off, e, hkeep h b3⟩ : ∃ g off, ca = some ⟨g, off, none⟩ ∧ w4.cell? ⟨g, off + k, none⟩ = some (.int .i64 cols[k])))
      replace L := hid (hnext L.out b3)
      replace BX := hid (BX.out.keep b3)
      replace BS := hid (BS.out.keep b3)
      replace HK := hid (HK.out.below b3)
      replace HC := hid (HC.out.below b3)
      replace HU := hid (HU.out.below b3)
      clear b3
      obtain ⟨c0, c1, c2, c3, c4, c5, c6, c7, c8, c9, c10, cl⟩ := BX.out.cells
      obtain ⟨s0, s1, s2, sl⟩ := BS.out.cells
      simp only at c0 c1 c2 c3 c4 c5 c6 c7 c8 c9 c10 s0 s1 s2
      clear cl sl
      by_cases hkl : k < cols.length
      · have hkl' : (k : Int) < (cols.length : Int) := by omega
        obtain ⟨gc, oc, rfl, q0⟩ := HCC.out k hkl
        have HNO := hid (colsB_no (n := cs.length) hkl)
        have HYE := hid (fun (h : 0 ≤ cols[k] ∧ cols[k] < (cs.length : Int)) j (hj : j < cols.length) (hjk : j < k + 1) => (Nat.lt_succ_iff_lt_or_eq.1 hjk).elim (fun h2 => hall.out j hj h2) (fun h2 => (show 0 ≤ cols[j] ∧ cols[j] < (cs.length : Int) by subst h2; exact h)))
        generalize hx : cols[k] = c at q0 HNO HYE
        clear hx
        by_cases hc : 0 ≤ c ∧ c < (cs.length : Int)
        · have hc1 : decide (c < 0) = false := decide_eq_false (by omega)
          have hc2 : decide ((cs.length : Int) ≤ c) = false := decide_eq_false (by omega)
          have hc3 : ¬ c < 0 := by omega
          have hc4 : ¬ (cs.length : Int) ≤ c := by omega
          have HY := hid (HYE.out hc)
          clear HNO HYE hc
          go_wp2_with fail
          obtain ⟨w20, hw20⟩ : ∃ w20, (w4).drew = w20 := ⟨_, rfl⟩
          have hd20 : Below (w4).heap.size (w4) w20 := hw20 ▸ (Below.refl _ _).drew
          have mk20 : ∀ W, Below w20.heap.size w20 W → Below w20.heap.size w20 W ∧ W.cell? ⟨w.heap.size, 8, none⟩ = some (.slice (some ⟨gc, oc, none⟩) cols.length cc) ∧ W.cell? ⟨gc, oc + k, none⟩ = some (.int .i64 c) ∧ W.cell? ⟨w.heap.size + 1, 1, none⟩ = some (.slice ua cs.length uc) := fun W h => ⟨h, hkeep (hkeep c8 hd20) h, hkeep (hkeep q0 hd20) h, hkeep (hkeep s1 hd20) h⟩
          refine wp_region_held_drew (S := (fun W => Below w20.heap.size w20 W ∧ W.cell? ⟨w.heap.size, 8, none⟩ = some (.slice (some ⟨gc, oc, none⟩) cols.length cc) ∧ W.cell? ⟨gc, oc + k, none⟩ = some (.int .i64 c) ∧ W.cell? ⟨w.heap.size + 1, 1, none⟩ = some (.slice ua cs.length uc))) (by kernel_rfl) (by rw [hw20]; exact mk20 _ (Below.refl _ _)) (fun hS20 => ?_)
          rw [hw20] at hS20 ⊢
          clear hw20
          refine wT 0 hS20 ?_
          refine wT 1 hS20 ?_
          refine wT 2 hS20 ?_
          refine wT 3 hS20 ?_
          refine wT 4 hS20 ?_
          refine wT 5 hS20 ?_
          refine wT 6 hS20 ?_
          refine wT 7 hS20 ?_
          refine wT 8 hS20 ?_
          refine wT 9 hS20 ?_
          refine wT 10 hS20 ?_
          refine wT 11 hS20 ?_
          refine wT 12 hS20 ?_
          refine wT 13 hS20 ?_
          refine wT 14 hS20 ?_
          refine wT 15 hS20 ?_
          refine wT 16 hS20 ?_
          refine wpAnyH_done (by kernel_rfl) ?_ _
          go_wp2_with fail
          go_roundw
          case rel => exact ⟨k + 1, by omega, by first | rfl | go_num, HY.out, hnext LB.out (hnext hd20 hS20.1)⟩
          case measure => simp [intOf]; omega
        · have HR : Hid (rightB ⟨nm, cs, ky⟩ ⟨kind, table, key, t, v, fr, to, wh, cols, limit, desc⟩ = false) := by show _ = _; rw [HE.out, HNO.out hc, Bool.and_false]
          clear HNO HYE
          by_cases hc1 : c < 0
          · clear hc
            go_wp2_with fail
            obtain ⟨w20, hw20⟩ : ∃ w20, (w4).drew = w20 := ⟨_, rfl⟩
            have hd20 : Below (w4).heap.size (w4) w20 := hw20 ▸ (Below.refl _ _).drew
            have mk20 : ∀ W, Below w20.heap.size w20 W → Below w20.heap.size w20 W ∧ W.cell? ⟨w.heap.size, 8, none⟩ = some (.slice (some ⟨gc, oc, none⟩) cols.length cc) ∧ W.cell? ⟨gc, oc + k, none⟩ = some (.int .i64 c) ∧ W.cell? ⟨w.heap.size + 1, 1, none⟩ = some (.slice ua cs.length uc) := fun W h => ⟨h, hkeep (hkeep c8 hd20) h, hkeep (hkeep q0 hd20) h, hkeep (hkeep s1 hd20) h⟩
            refine wp_region_held_drew (S := (fun W => Below w20.heap.size w20 W ∧ W.cell? ⟨w.heap.size, 8, none⟩ = some (.slice (some ⟨gc, oc, none⟩) cols.length cc) ∧ W.cell? ⟨gc, oc + k, none⟩ = some (.int .i64 c) ∧ W.cell? ⟨w.heap.size + 1, 1, none⟩ = some (.slice ua cs.length uc))) (by kernel_rfl) (by rw [hw20]; exact mk20 _ (Below.refl _ _)) (fun hS20 => ?_)
            rw [hw20] at hS20 ⊢
            clear hw20
            refine wT 0 hS20 ?_
            refine wT 1 hS20 ?_
            refine wT 2 hS20 ?_
            refine wT 3 hS20 ?_
            refine wT 4 hS20 ?_
            refine wT 5 hS20 ?_
            refine wT 6 hS20 ?_
            refine wF 7 hS20 ?_
            refine wF 8 hS20 ?_
            refine wF 9 hS20 ?_
            refine wF 10 hS20 ?_
            refine wF 11 hS20 ?_
            refine wF 12 hS20 ?_
            refine wF 13 hS20 ?_
            refine wF 14 hS20 ?_
            refine wF 15 hS20 ?_
            refine wT 16 hS20 ?_
            refine wpAnyH_done (by kernel_rfl) ?_ _
            go_wp2_with fail
            go_ret
            rw [HR.out]
            exact ⟨rfl, hnext L.out (hnext hd20 hS20.1)⟩
          · have hc2 : (cs.length : Int) ≤ c := by omega
            have hc3 : decide (c < 0) = false := decide_eq_false hc1
            clear hc
            go_wp2_with fail
            obtain ⟨w20, hw20⟩ : ∃ w20, (w4).drew = w20 := ⟨_, rfl⟩
            have hd20 : Below (w4).heap.size (w4) w20 := hw20 ▸ (Below.refl _ _).drew
            have mk20 : ∀ W, Below w20.heap.size w20 W → Below w20.heap.size w20 W ∧ W.cell? ⟨w.heap.size, 8, none⟩ = some (.slice (some ⟨gc, oc, none⟩) cols.length cc) ∧ W.cell? ⟨gc, oc + k, none⟩ = some (.int .i64 c) ∧ W.cell? ⟨w.heap.size + 1, 1, none⟩ = some (.slice ua cs.length uc) := fun W h => ⟨h, hkeep (hkeep c8 hd20) h, hkeep (hkeep q0 hd20) h, hkeep (hkeep s1 hd20) h⟩
            refine wp_region_held_drew (S := (fun W => Below w20.heap.size w20 W ∧ W.cell? ⟨w.heap.size, 8, none⟩ = some (.slice (some ⟨gc, oc, none⟩) cols.length cc) ∧ W.cell? ⟨gc, oc + k, none⟩ = some (.int .i64 c) ∧ W.cell? ⟨w.heap.size + 1, 1, none⟩ = some (.slice ua cs.length uc))) (by kernel_rfl) (by rw [hw20]; exact mk20 _ (Below.refl _ _)) (fun hS20 => ?_)
            rw [hw20] at hS20 ⊢
            clear hw20
            refine wT 0 hS20 ?_
            refine wT 1 hS20 ?_
            refine wT 2 hS20 ?_
            refine wT 3 hS20 ?_
            refine wT 4 hS20 ?_
            refine wT 5 hS20 ?_
            refine wT 6 hS20 ?_
            refine wT 7 hS20 ?_
            refine wT 8 hS20 ?_
            refine wT 9 hS20 ?_
            refine wT 10 hS20 ?_
            refine wT 11 hS20 ?_
            refine wT 12 hS20 ?_
            refine wT 13 hS20 ?_
            refine wT 14 hS20 ?_
            refine wT 15 hS20 ?_
            refine wT 16 hS20 ?_
            refine wpAnyH_done (by kernel_rfl) ?_ _
            go_wp2_with fail
            go_ret
            rw [HR.out]
            exact ⟨rfl, hnext L.out (hnext hd20 hS20.1)⟩
      · obtain rfl : k = cols.length := by omega
        clear hkl
        have HE2 : Hid (rightB ⟨nm, cs, ky⟩ ⟨kind, table, key, t, v, fr, to, wh, cols, limit, desc⟩ = shapeB ⟨nm, cs, ky⟩ ⟨kind, table, key, t, v, fr, to, wh, cols, limit, desc⟩) := by show _ = _; rw [HE.out, colsB_yes (fun j hj => hall.out j hj hj), Bool.and_true]
        by_cases ht : t = 0
        · have ht' : (t == 0) = true := by simpa using ht
          by_cases hv : v = 0
          · have hv' : (v == 0) = true := by simpa using hv
            by_cases hk1 : kind = 1
            case pos =>
              subst hk1
              by_cases hk : key.length = 0
              case neg =>
                have hk' : ((key.length : Int) == 0) = false := by rw [beq_eq_false_iff_ne]; omega
                have HR : Hid (rightB ⟨nm, cs, ky⟩ ⟨1, table, key, t, v, fr, to, wh, cols, limit, desc⟩ = false) := by show _ = _; rw [HE2.out, shape1 rfl]; simp [hv, hk]
                (try clear hs)
                (try clear hv)
                (try clear ht)
                (try clear hk)
                (try clear hv1)
                (try clear hv2)
                go_wp2_with fail
                go_ret
                rw [HR.out]
                exact ⟨rfl, L.out⟩
              have hk' : ((key.length : Int) == 0) = true := by rw [hk]; rfl
              by_cases hs : fr = 0 ∧ to = 0
              case neg =>
                have hsp := sp_eql fr to 0 0 false (by rw [Bool.and_eq_false_iff]; by_cases hf : fr = 0; exact .inr (by rw [beq_eq_false_iff_ne]; exact fun h => hs ⟨hf, h⟩); exact .inl (by rw [beq_eq_false_iff_ne]; exact hf))
                have HR : Hid (rightB ⟨nm, cs, ky⟩ ⟨1, table, key, t, v, fr, to, wh, cols, limit, desc⟩ = false) := by show _ = _; rw [HE2.out, shape1 rfl]; simp [hv, hk, hs]
                (try clear hs)
                (try clear hv)
                (try clear ht)
                (try clear hk)
                (try clear hv1)
                (try clear hv2)
                go_wp2_with fail
                go_ret
                rw [HR.out]
                exact ⟨rfl, L.out⟩
              have hsp := sp_eql fr to 0 0 true (by rw [hs.1, hs.2]; rfl)
              have HR : Hid (rightB ⟨nm, cs, ky⟩ ⟨1, table, key, t, v, fr, to, wh, cols, limit, desc⟩ = true) := by show _ = _; rw [HE2.out, shape1 rfl]; simp [hv, hk, hs]
              (try clear hs)
              (try clear hv)
              (try clear ht)
              (try clear hk)
              (try clear hv1)
              (try clear hv2)
              go_wp2_with fail
              go_ret
              rw [HR.out]
              exact ⟨rfl, L.out⟩
            have hk1' : (kind == 1) = false := by simpa using hk1
            by_cases hk2 : kind = 2
            case pos =>
              subst hk2
              by_cases hk : key.length = 0
              case neg =>
                have hk' : ((key.length : Int) == 0) = false := by rw [beq_eq_false_iff_ne]; omega
                have HR : Hid (rightB ⟨nm, cs, ky⟩ ⟨2, table, key, t, v, fr, to, wh, cols, limit, desc⟩ = false) := by show _ = _; rw [HE2.out, shape2 rfl]; simp [hk]
                (try clear hs)
                (try clear hv)
                (try clear ht)
                (try clear hk)
                (try clear hv1)
                (try clear hv2)
                go_wp2_with fail
                go_ret
                rw [HR.out]
                exact ⟨rfl, L.out⟩
              have hk' : ((key.length : Int) == 0) = true := by rw [hk]; rfl
              by_cases hv1 : 0 ≤ v
              case neg =>
                have hv1' : ¬ 0 ≤ v := hv1
                have hv1'' : decide (0 ≤ v) = false := decide_eq_false hv1
                have HR : Hid (rightB ⟨nm, cs, ky⟩ ⟨2, table, key, t, v, fr, to, wh, cols, limit, desc⟩ = false) := by show _ = _; rw [HE2.out, shape2 rfl]; simp [hk, hv1]
                (try clear hs)
                (try clear hv)
                (try clear ht)
                (try clear hk)
                (try clear hv1)
                (try clear hv2)
                go_wp2_with fail
                go_ret
                rw [HR.out]
                exact ⟨rfl, L.out⟩
              have hv1' : 0 ≤ v := hv1
              by_cases hv2 : v < 1099511627776
              case neg =>
                have hv2' : ¬ v < 1099511627776 := hv2
                have hv2'' : decide (v < 1099511627776) = false := decide_eq_false hv2
                have HR : Hid (rightB ⟨nm, cs, ky⟩ ⟨2, table, key, t, v, fr, to, wh, cols, limit, desc⟩ = false) := by show _ = _; rw [HE2.out, shape2 rfl]; simp [hk, hv1, hv2]
                (try clear hs)
                (try clear hv)
                (try clear ht)
                (try clear hk)
                (try clear hv1)
                (try clear hv2)
                go_wp2_with fail
                go_ret
                rw [HR.out]
                exact ⟨rfl, L.out⟩
              have hv2' : v < 1099511627776 := hv2
              by_cases hs : fr = 0 ∧ to = 0
              case neg =>
                have hsp := sp_eql fr to 0 0 false (by rw [Bool.and_eq_false_iff]; by_cases hf : fr = 0; exact .inr (by rw [beq_eq_false_iff_ne]; exact fun h => hs ⟨hf, h⟩); exact .inl (by rw [beq_eq_false_iff_ne]; exact hf))
                have HR : Hid (rightB ⟨nm, cs, ky⟩ ⟨2, table, key, t, v, fr, to, wh, cols, limit, desc⟩ = false) := by show _ = _; rw [HE2.out, shape2 rfl]; simp [hk, hv1, hv2, hs]
                (try clear hs)
                (try clear hv)
                (try clear ht)
                (try clear hk)
                (try clear hv1)
                (try clear hv2)
                go_wp2_with fail
                go_ret
                rw [HR.out]
                exact ⟨rfl, L.out⟩
              have hsp := sp_eql fr to 0 0 true (by rw [hs.1, hs.2]; rfl)
              have HR : Hid (rightB ⟨nm, cs, ky⟩ ⟨2, table, key, t, v, fr, to, wh, cols, limit, desc⟩ = true) := by show _ = _; rw [HE2.out, shape2 rfl]; simp [hk, hv1, hv2, hs]
              (try clear hs)
              (try clear hv)
              (try clear ht)
              (try clear hk)
              (try clear hv1)
              (try clear hv2)
              go_wp2_with fail
              go_ret
              rw [HR.out]
              exact ⟨rfl, L.out⟩
            have hk2' : (kind == 2) = false := by simpa using hk2
            by_cases hk3 : kind = 3
            case pos =>
              subst hk3
              have ck0 := keyedR_any ⟨nm, cs, ky⟩ (.slice ua cs.length uc) key (.slice ka key.length kc) _ HU.out HK.out HOK.out.key HOK.out.lk
              unfold sv at ck0
              simp only at ck0
              have HS : Hid (rightB ⟨nm, cs, ky⟩ ⟨3, table, key, t, v, fr, to, wh, cols, limit, desc⟩ = (keyedB ⟨nm, cs, ky⟩ key && spanB fr to)) := by show _ = _; rw [HE2.out, shape3 rfl]; simp [ht, hv, Bool.and_comm]
              (try clear hv)
              (try clear ht)
              (try clear hk)
              (try clear hv1)
              (try clear hv2)
              cases hkb : keyedB ⟨nm, cs, ky⟩ key with
              | false =>
                rw [hkb] at ck0 HS
                have CK := hid ck0
                have HR : Hid (rightB ⟨nm, cs, ky⟩ ⟨3, table, key, t, v, fr, to, wh, cols, limit, desc⟩ = false) := HS.out
                clear ck0 HS hkb
                (try clear hs)
                go_wp2_with fail
                refine CK.out.mono ?_; rintro e w5 ⟨rfl, b5⟩
                replace BX := hid (BX.out.keep b5)
                replace L := hid (hnext L.out b5)
                clear b5 CK
                clear c0 c1 c2 c3 c4 c5 c6 c7 c8 c9 c10 s0 s1 s2
                obtain ⟨c0, c1, c2, c3, c4, c5, c6, c7, c8, c9, c10, cl⟩ := BX.out.cells
                simp only at c0 c1 c2 c3 c4 c5 c6 c7 c8 c9 c10
                clear cl
                go_wp2_with fail
                go_ret
                rw [HR.out]
                exact ⟨rfl, L.out⟩
              | true =>
                rw [hkb] at ck0 HS
                have CK := hid ck0
                have HR : Hid (rightB ⟨nm, cs, ky⟩ ⟨3, table, key, t, v, fr, to, wh, cols, limit, desc⟩ = spanB fr to) := HS.out
                clear ck0 HS hkb
                go_wp2_with fail
                refine CK.out.mono ?_; rintro e w5 ⟨rfl, b5⟩
                replace BX := hid (BX.out.keep b5)
                replace L := hid (hnext L.out b5)
                clear b5 CK
                clear c0 c1 c2 c3 c4 c5 c6 c7 c8 c9 c10 s0 s1 s2
                obtain ⟨c0, c1, c2, c3, c4, c5, c6, c7, c8, c9, c10, cl⟩ := BX.out.cells
                simp only at c0 c1 c2 c3 c4 c5 c6 c7 c8 c9 c10
                clear cl
                go_wp2_with fail
                refine (srightR_any fr to _).mono ?_; rintro e w6 ⟨rfl, b6⟩
                have L6 := hid (hnext L.out b6)
                clear b6
                generalize spanB fr to = r at HR
                (try generalize spanB fr to = r)
                clear c0 c1 c2 c3 c4 c5 c6 c7 c8 c9 c10
                go_wp2_with fail
                go_ret
                rw [HR.out]
                exact ⟨rfl, L6.out⟩
            have hk3' : (kind == 3) = false := by simpa using hk3
            by_cases hk4 : kind = 4
            case pos =>
              subst hk4
              have ck0 := keyedR_any ⟨nm, cs, ky⟩ (.slice ua cs.length uc) key (.slice ka key.length kc) _ HU.out HK.out HOK.out.key HOK.out.lk
              unfold sv at ck0
              simp only at ck0
              have HS : Hid (rightB ⟨nm, cs, ky⟩ ⟨4, table, key, t, v, fr, to, wh, cols, limit, desc⟩ = (keyedB ⟨nm, cs, ky⟩ key && decide (fr = 0 ∧ to = 0))) := by show _ = _; rw [HE2.out, shape4 rfl]; simp [ht, hv, Bool.and_comm]
              (try clear hv)
              (try clear ht)
              (try clear hk)
              (try clear hv1)
              (try clear hv2)
              cases hkb : keyedB ⟨nm, cs, ky⟩ key with
              | false =>
                rw [hkb] at ck0 HS
                have CK := hid ck0
                have HR : Hid (rightB ⟨nm, cs, ky⟩ ⟨4, table, key, t, v, fr, to, wh, cols, limit, desc⟩ = false) := HS.out
                clear ck0 HS hkb
                (try clear hs)
                go_wp2_with fail
                refine CK.out.mono ?_; rintro e w5 ⟨rfl, b5⟩
                replace BX := hid (BX.out.keep b5)
                replace L := hid (hnext L.out b5)
                clear b5 CK
                clear c0 c1 c2 c3 c4 c5 c6 c7 c8 c9 c10 s0 s1 s2
                obtain ⟨c0, c1, c2, c3, c4, c5, c6, c7, c8, c9, c10, cl⟩ := BX.out.cells
                simp only at c0 c1 c2 c3 c4 c5 c6 c7 c8 c9 c10
                clear cl
                go_wp2_with fail
                go_ret
                rw [HR.out]
                exact ⟨rfl, L.out⟩
              | true =>
                rw [hkb] at ck0 HS
                have CK := hid ck0
                have HR : Hid (rightB ⟨nm, cs, ky⟩ ⟨4, table, key, t, v, fr, to, wh, cols, limit, desc⟩ = decide (fr = 0 ∧ to = 0)) := HS.out
                clear ck0 HS hkb
                by_cases hs : fr = 0 ∧ to = 0
                case neg =>
                  have hsp := sp_eql fr to 0 0 false (by rw [Bool.and_eq_false_iff]; by_cases hf : fr = 0; exact .inr (by rw [beq_eq_false_iff_ne]; exact fun h => hs ⟨hf, h⟩); exact .inl (by rw [beq_eq_false_iff_ne]; exact hf))
                  rw [decide_eq_false hs] at HR
                  clear hs
                  go_wp2_with fail
                  refine CK.out.mono ?_; rintro e w5 ⟨rfl, b5⟩
                  replace BX := hid (BX.out.keep b5)
                  replace L := hid (hnext L.out b5)
                  clear b5 CK
                  clear c0 c1 c2 c3 c4 c5 c6 c7 c8 c9 c10 s0 s1 s2
                  obtain ⟨c0, c1, c2, c3, c4, c5, c6, c7, c8, c9, c10, cl⟩ := BX.out.cells
                  simp only at c0 c1 c2 c3 c4 c5 c6 c7 c8 c9 c10
                  clear cl
                  go_wp2_with fail
                  go_ret
                  rw [HR.out]
                  exact ⟨rfl, L.out⟩
                have hsp := sp_eql fr to 0 0 true (by rw [hs.1, hs.2]; rfl)
                rw [decide_eq_true hs] at HR
                clear hs
                go_wp2_with fail
                refine CK.out.mono ?_; rintro e w5 ⟨rfl, b5⟩
                replace BX := hid (BX.out.keep b5)
                replace L := hid (hnext L.out b5)
                clear b5 CK
                clear c0 c1 c2 c3 c4 c5 c6 c7 c8 c9 c10 s0 s1 s2
                obtain ⟨c0, c1, c2, c3, c4, c5, c6, c7, c8, c9, c10, cl⟩ := BX.out.cells
                simp only at c0 c1 c2 c3 c4 c5 c6 c7 c8 c9 c10
                clear cl
                go_wp2_with fail
                go_ret
                rw [HR.out]
                exact ⟨rfl, L.out⟩
            have hk4' : (kind == 4) = false := by simpa using hk4
            have HR : Hid (rightB ⟨nm, cs, ky⟩ ⟨kind, table, key, t, v, fr, to, wh, cols, limit, desc⟩ = false) := by show _ = _; rw [HE2.out]; exact shape0 hk1 hk2 hk3 hk4
            (try clear hs)
            (try clear hv)
            (try clear ht)
            (try clear hk)
            (try clear hv1)
            (try clear hv2)
            go_wp2_with fail
            go_ret
            rw [HR.out]
            exact ⟨rfl, L.out⟩
          · have hv' : (v == 0) = false := by simpa using hv
            by_cases hk1 : kind = 1
            case pos =>
              subst hk1
              by_cases hk : key.length = 0
              case neg =>
                have hk' : ((key.length : Int) == 0) = false := by rw [beq_eq_false_iff_ne]; omega
                have HR : Hid (rightB ⟨nm, cs, ky⟩ ⟨1, table, key, t, v, fr, to, wh, cols, limit, desc⟩ = false) := by show _ = _; rw [HE2.out, shape1 rfl]; simp [hv, hk]
                (try clear hs)
                (try clear hv)
                (try clear ht)
                (try clear hk)
                (try clear hv1)
                (try clear hv2)
                go_wp2_with fail
                go_ret
                rw [HR.out]
                exact ⟨rfl, L.out⟩
              have hk' : ((key.length : Int) == 0) = true := by rw [hk]; rfl
              have HR : Hid (rightB ⟨nm, cs, ky⟩ ⟨1, table, key, t, v, fr, to, wh, cols, limit, desc⟩ = false) := by show _ = _; rw [HE2.out, shape1 rfl]; simp [hv, hk]
              (try clear hs)
              (try clear hv)
              (try clear ht)
              (try clear hk)
              (try clear hv1)
              (try clear hv2)
              go_wp2_with fail
              go_ret
              rw [HR.out]
              exact ⟨rfl, L.out⟩
            have hk1' : (kind == 1) = false := by simpa using hk1
            by_cases hk2 : kind = 2
            case pos =>
              subst hk2
              by_cases hk : key.length = 0
              case neg =>
                have hk' : ((key.length : Int) == 0) = false := by rw [beq_eq_false_iff_ne]; omega
                have HR : Hid (rightB ⟨nm, cs, ky⟩ ⟨2, table, key, t, v, fr, to, wh, cols, limit, desc⟩ = false) := by show _ = _; rw [HE2.out, shape2 rfl]; simp [hk]
                (try clear hs)
                (try clear hv)
                (try clear ht)
                (try clear hk)
                (try clear hv1)
                (try clear hv2)
                go_wp2_with fail
                go_ret
                rw [HR.out]
                exact ⟨rfl, L.out⟩
              have hk' : ((key.length : Int) == 0) = true := by rw [hk]; rfl
              by_cases hv1 : 0 ≤ v
              case neg =>
                have hv1' : ¬ 0 ≤ v := hv1
                have hv1'' : decide (0 ≤ v) = false := decide_eq_false hv1
                have HR : Hid (rightB ⟨nm, cs, ky⟩ ⟨2, table, key, t, v, fr, to, wh, cols, limit, desc⟩ = false) := by show _ = _; rw [HE2.out, shape2 rfl]; simp [hk, hv1]
                (try clear hs)
                (try clear hv)
                (try clear ht)
                (try clear hk)
                (try clear hv1)
                (try clear hv2)
                go_wp2_with fail
                go_ret
                rw [HR.out]
                exact ⟨rfl, L.out⟩
              have hv1' : 0 ≤ v := hv1
              by_cases hv2 : v < 1099511627776
              case neg =>
                have hv2' : ¬ v < 1099511627776 := hv2
                have hv2'' : decide (v < 1099511627776) = false := decide_eq_false hv2
                have HR : Hid (rightB ⟨nm, cs, ky⟩ ⟨2, table, key, t, v, fr, to, wh, cols, limit, desc⟩ = false) := by show _ = _; rw [HE2.out, shape2 rfl]; simp [hk, hv1, hv2]
                (try clear hs)
                (try clear hv)
                (try clear ht)
                (try clear hk)
                (try clear hv1)
                (try clear hv2)
                go_wp2_with fail
                go_ret
                rw [HR.out]
                exact ⟨rfl, L.out⟩
              have hv2' : v < 1099511627776 := hv2
              by_cases hs : fr = 0 ∧ to = 0
              case neg =>
                have hsp := sp_eql fr to 0 0 false (by rw [Bool.and_eq_false_iff]; by_cases hf : fr = 0; exact .inr (by rw [beq_eq_false_iff_ne]; exact fun h => hs ⟨hf, h⟩); exact .inl (by rw [beq_eq_false_iff_ne]; exact hf))
                have HR : Hid (rightB ⟨nm, cs, ky⟩ ⟨2, table, key, t, v, fr, to, wh, cols, limit, desc⟩ = false) := by show _ = _; rw [HE2.out, shape2 rfl]; simp [hk, hv1, hv2, hs]
                (try clear hs)
                (try clear hv)
                (try clear ht)
                (try clear hk)
                (try clear hv1)
                (try clear hv2)
                go_wp2_with fail
                go_ret
                rw [HR.out]
                exact ⟨rfl, L.out⟩
              have hsp := sp_eql fr to 0 0 true (by rw [hs.1, hs.2]; rfl)
              have HR : Hid (rightB ⟨nm, cs, ky⟩ ⟨2, table, key, t, v, fr, to, wh, cols, limit, desc⟩ = true) := by show _ = _; rw [HE2.out, shape2 rfl]; simp [hk, hv1, hv2, hs]
              (try clear hs)
              (try clear hv)
              (try clear ht)
              (try clear hk)
              (try clear hv1)
              (try clear hv2)
              go_wp2_with fail
              go_ret
              rw [HR.out]
              exact ⟨rfl, L.out⟩
            have hk2' : (kind == 2) = false := by simpa using hk2
            by_cases hk3 : kind = 3
            case pos =>
              subst hk3
              have HR : Hid (rightB ⟨nm, cs, ky⟩ ⟨3, table, key, t, v, fr, to, wh, cols, limit, desc⟩ = false) := by show _ = _; rw [HE2.out, shape3 rfl]; simp [hv]
              (try clear hs)
              (try clear hv)
              (try clear ht)
              (try clear hk)
              (try clear hv1)
              (try clear hv2)
              go_wp2_with fail
              go_ret
              rw [HR.out]
              exact ⟨rfl, L.out⟩
            have hk3' : (kind == 3) = false := by simpa using hk3
            by_cases hk4 : kind = 4
            case pos =>
              subst hk4
              have HR : Hid (rightB ⟨nm, cs, ky⟩ ⟨4, table, key, t, v, fr, to, wh, cols, limit, desc⟩ = false) := by show _ = _; rw [HE2.out, shape4 rfl]; simp [hv]
              (try clear hs)
              (try clear hv)
              (try clear ht)
              (try clear hk)
              (try clear hv1)
              (try clear hv2)
              go_wp2_with fail
              go_ret
              rw [HR.out]
              exact ⟨rfl, L.out⟩
            have hk4' : (kind == 4) = false := by simpa using hk4
            have HR : Hid (rightB ⟨nm, cs, ky⟩ ⟨kind, table, key, t, v, fr, to, wh, cols, limit, desc⟩ = false) := by show _ = _; rw [HE2.out]; exact shape0 hk1 hk2 hk3 hk4
            (try clear hs)
            (try clear hv)
            (try clear ht)
            (try clear hk)
            (try clear hv1)
            (try clear hv2)
            go_wp2_with fail
            go_ret
            rw [HR.out]
            exact ⟨rfl, L.out⟩
        · have ht' : (t == 0) = false := by simpa using ht
          by_cases hk1 : kind = 1
          case pos =>
            subst hk1
            by_cases hk : key.length = 0
            case neg =>
              have hk' : ((key.length : Int) == 0) = false := by rw [beq_eq_false_iff_ne]; omega
              have HR : Hid (rightB ⟨nm, cs, ky⟩ ⟨1, table, key, t, v, fr, to, wh, cols, limit, desc⟩ = false) := by show _ = _; rw [HE2.out, shape1 rfl]; simp [hk]
              (try clear hs)
              (try clear hv)
              (try clear ht)
              (try clear hk)
              (try clear hv1)
              (try clear hv2)
              go_wp2_with fail
              go_ret
              rw [HR.out]
              exact ⟨rfl, L.out⟩
            have hk' : ((key.length : Int) == 0) = true := by rw [hk]; rfl
            by_cases hv : v = 0
            case neg =>
              have hv' : (v == 0) = false := by simpa using hv
              have HR : Hid (rightB ⟨nm, cs, ky⟩ ⟨1, table, key, t, v, fr, to, wh, cols, limit, desc⟩ = false) := by show _ = _; rw [HE2.out, shape1 rfl]; simp [hk, hv]
              (try clear hs)
              (try clear hv)
              (try clear ht)
              (try clear hk)
              (try clear hv1)
              (try clear hv2)
              go_wp2_with fail
              go_ret
              rw [HR.out]
              exact ⟨rfl, L.out⟩
            have hv' : (v == 0) = true := by simpa using hv
            by_cases hs : fr = 0 ∧ to = 0
            case neg =>
              have hsp := sp_eql fr to 0 0 false (by rw [Bool.and_eq_false_iff]; by_cases hf : fr = 0; exact .inr (by rw [beq_eq_false_iff_ne]; exact fun h => hs ⟨hf, h⟩); exact .inl (by rw [beq_eq_false_iff_ne]; exact hf))
              have HR : Hid (rightB ⟨nm, cs, ky⟩ ⟨1, table, key, t, v, fr, to, wh, cols, limit, desc⟩ = false) := by show _ = _; rw [HE2.out, shape1 rfl]; simp [hk, hv, hs]
              (try clear hs)
              (try clear hv)
              (try clear ht)
              (try clear hk)
              (try clear hv1)
              (try clear hv2)
              go_wp2_with fail
              go_ret
              rw [HR.out]
              exact ⟨rfl, L.out⟩
            have hsp := sp_eql fr to 0 0 true (by rw [hs.1, hs.2]; rfl)
            have HR : Hid (rightB ⟨nm, cs, ky⟩ ⟨1, table, key, t, v, fr, to, wh, cols, limit, desc⟩ = true) := by show _ = _; rw [HE2.out, shape1 rfl]; simp [hk, hv, hs]
            (try clear hs)
            (try clear hv)
            (try clear ht)
            (try clear hk)
            (try clear hv1)
            (try clear hv2)
            go_wp2_with fail
            go_ret
            rw [HR.out]
            exact ⟨rfl, L.out⟩
          have hk1' : (kind == 1) = false := by simpa using hk1
          by_cases hk2 : kind = 2
          case pos =>
            subst hk2
            by_cases hk : key.length = 0
            case neg =>
              have hk' : ((key.length : Int) == 0) = false := by rw [beq_eq_false_iff_ne]; omega
              have HR : Hid (rightB ⟨nm, cs, ky⟩ ⟨2, table, key, t, v, fr, to, wh, cols, limit, desc⟩ = false) := by show _ = _; rw [HE2.out, shape2 rfl]; simp [hk]
              (try clear hs)
              (try clear hv)
              (try clear ht)
              (try clear hk)
              (try clear hv1)
              (try clear hv2)
              go_wp2_with fail
              go_ret
              rw [HR.out]
              exact ⟨rfl, L.out⟩
            have hk' : ((key.length : Int) == 0) = true := by rw [hk]; rfl
            by_cases hv1 : 0 ≤ v
            case neg =>
              have hv1' : ¬ 0 ≤ v := hv1
              have hv1'' : decide (0 ≤ v) = false := decide_eq_false hv1
              have HR : Hid (rightB ⟨nm, cs, ky⟩ ⟨2, table, key, t, v, fr, to, wh, cols, limit, desc⟩ = false) := by show _ = _; rw [HE2.out, shape2 rfl]; simp [hk, hv1]
              (try clear hs)
              (try clear hv)
              (try clear ht)
              (try clear hk)
              (try clear hv1)
              (try clear hv2)
              go_wp2_with fail
              go_ret
              rw [HR.out]
              exact ⟨rfl, L.out⟩
            have hv1' : 0 ≤ v := hv1
            by_cases hv2 : v < 1099511627776
            case neg =>
              have hv2' : ¬ v < 1099511627776 := hv2
              have hv2'' : decide (v < 1099511627776) = false := decide_eq_false hv2
              have HR : Hid (rightB ⟨nm, cs, ky⟩ ⟨2, table, key, t, v, fr, to, wh, cols, limit, desc⟩ = false) := by show _ = _; rw [HE2.out, shape2 rfl]; simp [hk, hv1, hv2]
              (try clear hs)
              (try clear hv)
              (try clear ht)
              (try clear hk)
              (try clear hv1)
              (try clear hv2)
              go_wp2_with fail
              go_ret
              rw [HR.out]
              exact ⟨rfl, L.out⟩
            have hv2' : v < 1099511627776 := hv2
            by_cases hs : fr = 0 ∧ to = 0
            case neg =>
              have hsp := sp_eql fr to 0 0 false (by rw [Bool.and_eq_false_iff]; by_cases hf : fr = 0; exact .inr (by rw [beq_eq_false_iff_ne]; exact fun h => hs ⟨hf, h⟩); exact .inl (by rw [beq_eq_false_iff_ne]; exact hf))
              have HR : Hid (rightB ⟨nm, cs, ky⟩ ⟨2, table, key, t, v, fr, to, wh, cols, limit, desc⟩ = false) := by show _ = _; rw [HE2.out, shape2 rfl]; simp [hk, hv1, hv2, hs]
              (try clear hs)
              (try clear hv)
              (try clear ht)
              (try clear hk)
              (try clear hv1)
              (try clear hv2)
              go_wp2_with fail
              go_ret
              rw [HR.out]
              exact ⟨rfl, L.out⟩
            have hsp := sp_eql fr to 0 0 true (by rw [hs.1, hs.2]; rfl)
            have HR : Hid (rightB ⟨nm, cs, ky⟩ ⟨2, table, key, t, v, fr, to, wh, cols, limit, desc⟩ = true) := by show _ = _; rw [HE2.out, shape2 rfl]; simp [hk, hv1, hv2, hs]
            (try clear hs)
            (try clear hv)
            (try clear ht)
            (try clear hk)
            (try clear hv1)
            (try clear hv2)
            go_wp2_with fail
            go_ret
            rw [HR.out]
            exact ⟨rfl, L.out⟩
          have hk2' : (kind == 2) = false := by simpa using hk2
          by_cases hk3 : kind = 3
          case pos =>
            subst hk3
            have HR : Hid (rightB ⟨nm, cs, ky⟩ ⟨3, table, key, t, v, fr, to, wh, cols, limit, desc⟩ = false) := by show _ = _; rw [HE2.out, shape3 rfl]; simp [ht]
            (try clear hs)
            (try clear hv)
            (try clear ht)
            (try clear hk)
            (try clear hv1)
            (try clear hv2)
            go_wp2_with fail
            go_ret
            rw [HR.out]
            exact ⟨rfl, L.out⟩
          have hk3' : (kind == 3) = false := by simpa using hk3
          by_cases hk4 : kind = 4
          case pos =>
            subst hk4
            have HR : Hid (rightB ⟨nm, cs, ky⟩ ⟨4, table, key, t, v, fr, to, wh, cols, limit, desc⟩ = false) := by show _ = _; rw [HE2.out, shape4 rfl]; simp [ht]
            (try clear hs)
            (try clear hv)
            (try clear ht)
            (try clear hk)
            (try clear hv1)
            (try clear hv2)
            go_wp2_with fail
            go_ret
            rw [HR.out]
            exact ⟨rfl, L.out⟩
          have hk4' : (kind == 4) = false := by simpa using hk4
          have HR : Hid (rightB ⟨nm, cs, ky⟩ ⟨kind, table, key, t, v, fr, to, wh, cols, limit, desc⟩ = false) := by show _ = _; rw [HE2.out]; exact shape0 hk1 hk2 hk3 hk4
          (try clear hs)
          (try clear hv)
          (try clear ht)
          (try clear hk)
          (try clear hv1)
          (try clear hv2)
          go_wp2_with fail
          go_ret
          rw [HR.out]
          exact ⟨rfl, L.out⟩
  have hw' : (0 : Int) < (wh.length : Int) := by omega
  have cp0 := prightR_any (.slice wa wh.length wc) wh ⟨nm, cs, ky⟩ (.slice ua cs.length uc) _ HW.out HU.out hlw (fun x hx => ⟨(hok.wh x hx).2.2.2.2, (hok.wh x hx).2.2.2.1⟩)
  unfold sv at cp0
  simp only at cp0
  cases hr : rightL cs wh with
  | false =>
    rw [hr] at cp0
    have CP := hid cp0
    clear cp0
    have HR : Hid (rightB ⟨nm, cs, ky⟩ ⟨kind, table, key, t, v, fr, to, wh, cols, limit, desc⟩ = false) := by
      show (decide (table = nm) && (decide (cols.length ≤ 16) && (decide (0 ≤ limit ∧ limit ≤ 1099511627776) && (shapeB ⟨nm, cs, ky⟩ ⟨kind, table, key, t, v, fr, to, wh, cols, limit, desc⟩ && (colsB cs.length cols && (decide (wh.length = 0) || rightL cs wh)))))) = _
      rw [hr, decide_eq_false hw]
      simp
    (try clear h1)
    (try clear h2)
    (try clear h3)
    (try clear h4)
    (try clear hw)
    (try clear hr)
    go_enter Try.func13, Try.ntmps13
    go_wp2_with fail
    refine CP.out.mono ?_; rintro e w3 ⟨rfl, b3⟩
    replace L := hid (hnext L.out b3)
    replace BX := hid (BX.out.keep b3)
    replace BS := hid (BS.out.keep b3)
    replace HK := hid (HK.out.below b3)
    replace HC := hid (HC.out.below b3)
    replace HU := hid (HU.out.below b3)
    clear b3
    clear c0 c1 c2 c3 c4 c5 c6 c7 c8 c9 c10 s0 s1 s2
    obtain ⟨c0, c1, c2, c3, c4, c5, c6, c7, c8, c9, c10, cl⟩ := BX.out.cells
    obtain ⟨s0, s1, s2, sl⟩ := BS.out.cells
    simp only at c0 c1 c2 c3 c4 c5 c6 c7 c8 c9 c10 s0 s1 s2
    clear cl sl
    go_wp2_with fail
    go_ret
    rw [HR.out]
    exact ⟨rfl, L.out⟩
  | true =>
    rw [hr] at cp0
    have CP := hid cp0
    clear cp0
    by_cases h2 : cols.length ≤ 16
    case neg =>
      have h2' : (16 : Int) < (cols.length : Int) := by omega
      have HR : Hid (rightB ⟨nm, cs, ky⟩ ⟨kind, table, key, t, v, fr, to, wh, cols, limit, desc⟩ = false) := by show _ = _; unfold rightB; simp [h1, h2]
      (try clear h1)
      (try clear h2)
      (try clear h3)
      (try clear h4)
      (try clear hw)
      (try clear hr)
      go_enter Try.func13, Try.ntmps13
      go_wp2_with fail
      refine CP.out.mono ?_; rintro e w3 ⟨rfl, b3⟩
      replace L := hid (hnext L.out b3)
      replace BX := hid (BX.out.keep b3)
      replace BS := hid (BS.out.keep b3)
      replace HK := hid (HK.out.below b3)
      replace HC := hid (HC.out.below b3)
      replace HU := hid (HU.out.below b3)
      clear b3
      clear c0 c1 c2 c3 c4 c5 c6 c7 c8 c9 c10 s0 s1 s2
      obtain ⟨c0, c1, c2, c3, c4, c5, c6, c7, c8, c9, c10, cl⟩ := BX.out.cells
      obtain ⟨s0, s1, s2, sl⟩ := BS.out.cells
      simp only at c0 c1 c2 c3 c4 c5 c6 c7 c8 c9 c10 s0 s1 s2
      clear cl sl
      go_wp2_with fail
      go_ret
      rw [HR.out]
      exact ⟨rfl, L.out⟩
    have h2' : ¬ (16 : Int) < (cols.length : Int) := by omega
    have h2'' : decide ((16 : Int) < (cols.length : Int)) = false := decide_eq_false h2'
    by_cases h3 : 0 ≤ limit
    case neg =>
      have h3' : limit < 0 := by omega
      have HR : Hid (rightB ⟨nm, cs, ky⟩ ⟨kind, table, key, t, v, fr, to, wh, cols, limit, desc⟩ = false) := by show _ = _; unfold rightB; simp [h1, h2, h3]
      (try clear h1)
      (try clear h2)
      (try clear h3)
      (try clear h4)
      (try clear hw)
      (try clear hr)
      go_enter Try.func13, Try.ntmps13
      go_wp2_with fail
      refine CP.out.mono ?_; rintro e w3 ⟨rfl, b3⟩
      replace L := hid (hnext L.out b3)
      replace BX := hid (BX.out.keep b3)
      replace BS := hid (BS.out.keep b3)
      replace HK := hid (HK.out.below b3)
      replace HC := hid (HC.out.below b3)
      replace HU := hid (HU.out.below b3)
      clear b3
      clear c0 c1 c2 c3 c4 c5 c6 c7 c8 c9 c10 s0 s1 s2
      obtain ⟨c0, c1, c2, c3, c4, c5, c6, c7, c8, c9, c10, cl⟩ := BX.out.cells
      obtain ⟨s0, s1, s2, sl⟩ := BS.out.cells
      simp only at c0 c1 c2 c3 c4 c5 c6 c7 c8 c9 c10 s0 s1 s2
      clear cl sl
      go_wp2_with fail
      go_ret
      rw [HR.out]
      exact ⟨rfl, L.out⟩
    have h3' : ¬ limit < 0 := by omega
    have h3'' : decide (limit < 0) = false := decide_eq_false h3'
    by_cases h4 : limit ≤ 1099511627776
    case neg =>
      have h4' : (1099511627776 : Int) < limit := by omega
      have HR : Hid (rightB ⟨nm, cs, ky⟩ ⟨kind, table, key, t, v, fr, to, wh, cols, limit, desc⟩ = false) := by show _ = _; unfold rightB; simp [h1, h2, h3, h4]
      (try clear h1)
      (try clear h2)
      (try clear h3)
      (try clear h4)
      (try clear hw)
      (try clear hr)
      go_enter Try.func13, Try.ntmps13
      go_wp2_with fail
      refine CP.out.mono ?_; rintro e w3 ⟨rfl, b3⟩
      replace L := hid (hnext L.out b3)
      replace BX := hid (BX.out.keep b3)
      replace BS := hid (BS.out.keep b3)
      replace HK := hid (HK.out.below b3)
      replace HC := hid (HC.out.below b3)
      replace HU := hid (HU.out.below b3)
      clear b3
      clear c0 c1 c2 c3 c4 c5 c6 c7 c8 c9 c10 s0 s1 s2
      obtain ⟨c0, c1, c2, c3, c4, c5, c6, c7, c8, c9, c10, cl⟩ := BX.out.cells
      obtain ⟨s0, s1, s2, sl⟩ := BS.out.cells
      simp only at c0 c1 c2 c3 c4 c5 c6 c7 c8 c9 c10 s0 s1 s2
      clear cl sl
      go_wp2_with fail
      go_ret
      rw [HR.out]
      exact ⟨rfl, L.out⟩
    have h4' : ¬ (1099511627776 : Int) < limit := by omega
    have h4'' : decide ((1099511627776 : Int) < limit) = false := decide_eq_false h4'
    have HE : Hid (rightB ⟨nm, cs, ky⟩ ⟨kind, table, key, t, v, fr, to, wh, cols, limit, desc⟩ = (shapeB ⟨nm, cs, ky⟩ ⟨kind, table, key, t, v, fr, to, wh, cols, limit, desc⟩ && colsB cs.length cols)) := by
      show (decide (table = nm) && (decide (cols.length ≤ 16) && (decide (0 ≤ limit ∧ limit ≤ 1099511627776) && (shapeB ⟨nm, cs, ky⟩ ⟨kind, table, key, t, v, fr, to, wh, cols, limit, desc⟩ && (colsB cs.length cols && (decide (wh.length = 0) || rightL cs wh)))))) = _
      rw [decide_eq_true h1, decide_eq_true h2, decide_eq_true ⟨h3, h4⟩, hr, Bool.or_true]
      cases shapeB ⟨nm, cs, ky⟩ ⟨kind, table, key, t, v, fr, to, wh, cols, limit, desc⟩ <;> cases colsB cs.length cols <;> rfl
    (try clear h1)
    (try clear h2)
    (try clear h3)
    (try clear h4)
    (try clear hw)
    (try clear hr)
    go_enter Try.func13, Try.ntmps13
    go_wp2_with fail
    refine CP.out.mono ?_; rintro e w3 ⟨rfl, b3⟩
    replace L := hid (hnext L.out b3)
    replace BX := hid (BX.out.keep b3)
    replace BS := hid (BS.out.keep b3)
    replace HK := hid (HK.out.below b3)
    replace HC := hid (HC.out.below b3)
    replace HU := hid (HU.out.below b3)
    clear b3
    clear c0 c1 c2 c3 c4 c5 c6 c7 c8 c9 c10 s0 s1 s2
    obtain ⟨c0, c1, c2, c3, c4, c5, c6, c7, c8, c9, c10, cl⟩ := BX.out.cells
    obtain ⟨s0, s1, s2, sl⟩ := BS.out.cells
    simp only at c0 c1 c2 c3 c4 c5 c6 c7 c8 c9 c10 s0 s1 s2
    clear cl sl
    go_wp2_with fail
    obtain ⟨_, _, ec, hcc⟩ := HC.out
    cases ec
    have HCC := hid hcc
    clear hcc
    go_loopw [5] (fun i wr => ∃ k : Nat, k ≤ cols.length ∧ i = .int .i64 (k : Int) ∧ Hid (∀ j (hj : j < cols.length), j < k → 0 ≤ cols[j] ∧ cols[j] < (cs.length : Int)) ∧ Below w3.heap.size w3 wr) (fun i _ => cols.length - (intOf i).toNat)
    case atStart => exact ⟨0, by omega, rfl, fun j _ hj => absurd hj (Nat.not_lt_zero j), Below.refl _ _⟩
    case round =>
      obtain ⟨k, hk, rfl, hall, b3⟩ := hrel
      obtain ⟨w4, rfl⟩ : ∃ w4 : World, w4 = wr := ⟨_, rfl⟩
      have hk0 : (0 : Int) ≤ (k : Int) := by omega
      clear c0 c1 c2 c3 c4 c5 c6 c7 c8 c9 c10 s0 s1 s2
      have LB := hid b3
      replace HCC := hid (fun k hk => by obtain ⟨g, off, e, h⟩ := HCC.out k hk; exact (⟨g, off, e, hkeep h b3⟩ : ∃ g off, ca = some ⟨g, off, none⟩ ∧ w4.cell? ⟨g, off + k, none⟩ = some (.int .i64 cols[k])))
      replace L := hid (hnext L.out b3)
      replace BX := hid (BX.out.keep b3)
      replace BS := hid (BS.out.keep b3)
      replace HK := hid (HK.out.below b3)
      replace HC := hid (HC.out.below b3)
      replace HU := hid (HU.out.below b3)
      clear b3
      obtain ⟨c0, c1, c2, c3, c4, c5, c6, c7, c8, c9, c10, cl⟩ := BX.out.cells
      obtain ⟨s0, s1, s2, sl⟩ := BS.out.cells
      simp only at c0 c1 c2 c3 c4 c5 c6 c7 c8 c9 c10 s0 s1 s2
      clear cl sl
      by_cases hkl : k < cols.length
      · have hkl' : (k : Int) < (cols.length : Int) := by omega
        obtain ⟨gc, oc, rfl, q0⟩ := HCC.out k hkl
        have HNO := hid (colsB_no (n := cs.length) hkl)
        have HYE := hid (fun (h : 0 ≤ cols[k] ∧ cols[k] < (cs.length : Int)) j (hj : j < cols.length) (hjk : j < k + 1) => (Nat.lt_succ_iff_lt_or_eq.1 hjk).elim (fun h2 => hall.out j hj h2) (fun h2 => (show 0 ≤ cols[j] ∧ cols[j] < (cs.length : Int) by subst h2; exact h)))
        generalize hx : cols[k] = c at q0 HNO HYE
        clear hx
        by_cases hc : 0 ≤ c ∧ c < (cs.length : Int)
        · have hc1 : decide (c < 0) = false := decide_eq_false (by omega)
          have hc2 : decide ((cs.length : Int) ≤ c) = false := decide_eq_false (by omega)
          have hc3 : ¬ c < 0 := by omega
          have hc4 : ¬ (cs.length : Int) ≤ c := by omega
          have HY := hid (HYE.out hc)
          clear HNO HYE hc
          go_wp2_with fail
          obtain ⟨w20, hw20⟩ : ∃ w20, (w4).drew = w20 := ⟨_, rfl⟩
          have hd20 : Below (w4).heap.size (w4) w20 := hw20 ▸ (Below.refl _ _).drew
          have mk20 : ∀ W, Below w20.heap.size w20 W → Below w20.heap.size w20 W ∧ W.cell? ⟨w.heap.size, 8, none⟩ = some (.slice (some ⟨gc, oc, none⟩) cols.length cc) ∧ W.cell? ⟨gc, oc + k, none⟩ = some (.int .i64 c) ∧ W.cell? ⟨w.heap.size + 1, 1, none⟩ = some (.slice ua cs.length uc) := fun W h => ⟨h, hkeep (hkeep c8 hd20) h, hkeep (hkeep q0 hd20) h, hkeep (hkeep s1 hd20) h⟩
          refine wp_region_held_drew (S := (fun W => Below w20.heap.size w20 W ∧ W.cell? ⟨w.heap.size, 8, none⟩ = some (.slice (some ⟨gc, oc, none⟩) cols.length cc) ∧ W.cell? ⟨gc, oc + k, none⟩ = some (.int .i64 c) ∧ W.cell? ⟨w.heap.size + 1, 1, none⟩ = some (.slice ua cs.length uc))) (by kernel_rfl) (by rw [hw20]; exact mk20 _ (Below.refl _ _)) (fun hS20 => ?_)
          rw [hw20] at hS20 ⊢
          clear hw20
          refine wT 0 hS20 ?_
          refine wT 1 hS20 ?_
          refine wT 2 hS20 ?_
          refine wT 3 hS20 ?_
          refine wT 4 hS20 ?_
          refine wT 5 hS20 ?_
          refine wT 6 hS20 ?_
          refine wT 7 hS20 ?_
          refine wT 8 hS20 ?_
          refine wT 9 hS20 ?_
          refine wT 10 hS20 ?_
          refine wT 11 hS20 ?_
          refine wT 12 hS20 ?_
          refine wT 13 hS20 ?_
          refine wT 14 hS20 ?_
          refine wT 15 hS20 ?_
          refine wT 16 hS20 ?_
          refine wpAnyH_done (by kernel_rfl) ?_ _
          go_wp2_with fail
          go_roundw
          case rel => exact ⟨k + 1, by omega, by first | rfl | go_num, HY.out, hnext LB.out (hnext hd20 hS20.1)⟩
          case measure => simp [intOf]; omega
        · have HR : Hid (rightB ⟨nm, cs, ky⟩ ⟨kind, table, key, t, v, fr, to, wh, cols, limit, desc⟩ = false) := by show _ = _; rw [HE.out, HNO.out hc, Bool.and_false]
          clear HNO HYE
          by_cases hc1 : c < 0
          · clear hc
            go_wp2_with fail
            obtain ⟨w20, hw20⟩ : ∃ w20, (w4).drew = w20 := ⟨_, rfl⟩
            have hd20 : Below (w4).heap.size (w4) w20 := hw20 ▸ (Below.refl _ _).drew
            have mk20 : ∀ W, Below w20.heap.size w20 W → Below w20.heap.size w20 W ∧ W.cell? ⟨w.heap.size, 8, none⟩ = some (.slice (some ⟨gc, oc, none⟩) cols.length cc) ∧ W.cell? ⟨gc, oc + k, none⟩ = some (.int .i64 c) ∧ W.cell? ⟨w.heap.size + 1, 1, none⟩ = some (.slice ua cs.length uc) := fun W h => ⟨h, hkeep (hkeep c8 hd20) h, hkeep (hkeep q0 hd20) h, hkeep (hkeep s1 hd20) h⟩
            refine wp_region_held_drew (S := (fun W => Below w20.heap.size w20 W ∧ W.cell? ⟨w.heap.size, 8, none⟩ = some (.slice (some ⟨gc, oc, none⟩) cols.length cc) ∧ W.cell? ⟨gc, oc + k, none⟩ = some (.int .i64 c) ∧ W.cell? ⟨w.heap.size + 1, 1, none⟩ = some (.slice ua cs.length uc))) (by kernel_rfl) (by rw [hw20]; exact mk20 _ (Below.refl _ _)) (fun hS20 => ?_)
            rw [hw20] at hS20 ⊢
            clear hw20
            refine wT 0 hS20 ?_
            refine wT 1 hS20 ?_
            refine wT 2 hS20 ?_
            refine wT 3 hS20 ?_
            refine wT 4 hS20 ?_
            refine wT 5 hS20 ?_
            refine wT 6 hS20 ?_
            refine wF 7 hS20 ?_
            refine wF 8 hS20 ?_
            refine wF 9 hS20 ?_
            refine wF 10 hS20 ?_
            refine wF 11 hS20 ?_
            refine wF 12 hS20 ?_
            refine wF 13 hS20 ?_
            refine wF 14 hS20 ?_
            refine wF 15 hS20 ?_
            refine wT 16 hS20 ?_
            refine wpAnyH_done (by kernel_rfl) ?_ _
            go_wp2_with fail
            go_ret
            rw [HR.out]
            exact ⟨rfl, hnext L.out (hnext hd20 hS20.1)⟩
          · have hc2 : (cs.length : Int) ≤ c := by omega
            have hc3 : decide (c < 0) = false := decide_eq_false hc1
            clear hc
            go_wp2_with fail
            obtain ⟨w20, hw20⟩ : ∃ w20, (w4).drew = w20 := ⟨_, rfl⟩
            have hd20 : Below (w4).heap.size (w4) w20 := hw20 ▸ (Below.refl _ _).drew
            have mk20 : ∀ W, Below w20.heap.size w20 W → Below w20.heap.size w20 W ∧ W.cell? ⟨w.heap.size, 8, none⟩ = some (.slice (some ⟨gc, oc, none⟩) cols.length cc) ∧ W.cell? ⟨gc, oc + k, none⟩ = some (.int .i64 c) ∧ W.cell? ⟨w.heap.size + 1, 1, none⟩ = some (.slice ua cs.length uc) := fun W h => ⟨h, hkeep (hkeep c8 hd20) h, hkeep (hkeep q0 hd20) h, hkeep (hkeep s1 hd20) h⟩
            refine wp_region_held_drew (S := (fun W => Below w20.heap.size w20 W ∧ W.cell? ⟨w.heap.size, 8, none⟩ = some (.slice (some ⟨gc, oc, none⟩) cols.length cc) ∧ W.cell? ⟨gc, oc + k, none⟩ = some (.int .i64 c) ∧ W.cell? ⟨w.heap.size + 1, 1, none⟩ = some (.slice ua cs.length uc))) (by kernel_rfl) (by rw [hw20]; exact mk20 _ (Below.refl _ _)) (fun hS20 => ?_)
            rw [hw20] at hS20 ⊢
            clear hw20
            refine wT 0 hS20 ?_
            refine wT 1 hS20 ?_
            refine wT 2 hS20 ?_
            refine wT 3 hS20 ?_
            refine wT 4 hS20 ?_
            refine wT 5 hS20 ?_
            refine wT 6 hS20 ?_
            refine wT 7 hS20 ?_
            refine wT 8 hS20 ?_
            refine wT 9 hS20 ?_
            refine wT 10 hS20 ?_
            refine wT 11 hS20 ?_
            refine wT 12 hS20 ?_
            refine wT 13 hS20 ?_
            refine wT 14 hS20 ?_
            refine wT 15 hS20 ?_
            refine wT 16 hS20 ?_
            refine wpAnyH_done (by kernel_rfl) ?_ _
            go_wp2_with fail
            go_ret
            rw [HR.out]
            exact ⟨rfl, hnext L.out (hnext hd20 hS20.1)⟩
      · obtain rfl : k = cols.length := by omega
        clear hkl
        have HE2 : Hid (rightB ⟨nm, cs, ky⟩ ⟨kind, table, key, t, v, fr, to, wh, cols, limit, desc⟩ = shapeB ⟨nm, cs, ky⟩ ⟨kind, table, key, t, v, fr, to, wh, cols, limit, desc⟩) := by show _ = _; rw [HE.out, colsB_yes (fun j hj => hall.out j hj hj), Bool.and_true]
        by_cases ht : t = 0
        · have ht' : (t == 0) = true := by simpa using ht
          by_cases hv : v = 0
          · have hv' : (v == 0) = true := by simpa using hv
            by_cases hk1 : kind = 1
            case pos =>
              subst hk1
              by_cases hk : key.length = 0
              case neg =>
                have hk' : ((key.length : Int) == 0) = false := by rw [beq_eq_false_iff_ne]; omega
                have HR : Hid (rightB ⟨nm, cs, ky⟩ ⟨1, table, key, t, v, fr, to, wh, cols, limit, desc⟩ = false) := by show _ = _; rw [HE2.out, shape1 rfl]; simp [hv, hk]
                (try clear hs)
                (try clear hv)
                (try clear ht)
                (try clear hk)
                (try clear hv1)
                (try clear hv2)
                go_wp2_with fail
                go_ret
                rw [HR.out]
                exact ⟨rfl, L.out⟩
              have hk' : ((key.length : Int) == 0) = true := by rw [hk]; rfl
              by_cases hs : fr = 0 ∧ to = 0
              case neg =>
                have hsp := sp_eql fr to 0 0 false (by rw [Bool.and_eq_false_iff]; by_cases hf : fr = 0; exact .inr (by rw [beq_eq_false_iff_ne]; exact fun h => hs ⟨hf, h⟩); exact .inl (by rw [beq_eq_false_iff_ne]; exact hf))
                have HR : Hid (rightB ⟨nm, cs, ky⟩ ⟨1, table, key, t, v, fr, to, wh, cols, limit, desc⟩ = false) := by show _ = _; rw [HE2.out, shape1 rfl]; simp [hv, hk, hs]
                (try clear hs)
                (try clear hv)
                (try clear ht)
                (try clear hk)
                (try clear hv1)
                (try clear hv2)
                go_wp2_with fail
                go_ret
                rw [HR.out]
                exact ⟨rfl, L.out⟩
              have hsp := sp_eql fr to 0 0 true (by rw [hs.1, hs.2]; rfl)
              have HR : Hid (rightB ⟨nm, cs, ky⟩ ⟨1, table, key, t, v, fr, to, wh, cols, limit, desc⟩ = true) := by show _ = _; rw [HE2.out, shape1 rfl]; simp [hv, hk, hs]
              (try clear hs)
              (try clear hv)
              (try clear ht)
              (try clear hk)
              (try clear hv1)
              (try clear hv2)
              go_wp2_with fail
              go_ret
              rw [HR.out]
              exact ⟨rfl, L.out⟩
            have hk1' : (kind == 1) = false := by simpa using hk1
            by_cases hk2 : kind = 2
            case pos =>
              subst hk2
              by_cases hk : key.length = 0
              case neg =>
                have hk' : ((key.length : Int) == 0) = false := by rw [beq_eq_false_iff_ne]; omega
                have HR : Hid (rightB ⟨nm, cs, ky⟩ ⟨2, table, key, t, v, fr, to, wh, cols, limit, desc⟩ = false) := by show _ = _; rw [HE2.out, shape2 rfl]; simp [hk]
                (try clear hs)
                (try clear hv)
                (try clear ht)
                (try clear hk)
                (try clear hv1)
                (try clear hv2)
                go_wp2_with fail
                go_ret
                rw [HR.out]
                exact ⟨rfl, L.out⟩
              have hk' : ((key.length : Int) == 0) = true := by rw [hk]; rfl
              by_cases hv1 : 0 ≤ v
              case neg =>
                have hv1' : ¬ 0 ≤ v := hv1
                have hv1'' : decide (0 ≤ v) = false := decide_eq_false hv1
                have HR : Hid (rightB ⟨nm, cs, ky⟩ ⟨2, table, key, t, v, fr, to, wh, cols, limit, desc⟩ = false) := by show _ = _; rw [HE2.out, shape2 rfl]; simp [hk, hv1]
                (try clear hs)
                (try clear hv)
                (try clear ht)
                (try clear hk)
                (try clear hv1)
                (try clear hv2)
                go_wp2_with fail
                go_ret
                rw [HR.out]
                exact ⟨rfl, L.out⟩
              have hv1' : 0 ≤ v := hv1
              by_cases hv2 : v < 1099511627776
              case neg =>
                have hv2' : ¬ v < 1099511627776 := hv2
                have hv2'' : decide (v < 1099511627776) = false := decide_eq_false hv2
                have HR : Hid (rightB ⟨nm, cs, ky⟩ ⟨2, table, key, t, v, fr, to, wh, cols, limit, desc⟩ = false) := by show _ = _; rw [HE2.out, shape2 rfl]; simp [hk, hv1, hv2]
                (try clear hs)
                (try clear hv)
                (try clear ht)
                (try clear hk)
                (try clear hv1)
                (try clear hv2)
                go_wp2_with fail
                go_ret
                rw [HR.out]
                exact ⟨rfl, L.out⟩
              have hv2' : v < 1099511627776 := hv2
              by_cases hs : fr = 0 ∧ to = 0
              case neg =>
                have hsp := sp_eql fr to 0 0 false (by rw [Bool.and_eq_false_iff]; by_cases hf : fr = 0; exact .inr (by rw [beq_eq_false_iff_ne]; exact fun h => hs ⟨hf, h⟩); exact .inl (by rw [beq_eq_false_iff_ne]; exact hf))
                have HR : Hid (rightB ⟨nm, cs, ky⟩ ⟨2, table, key, t, v, fr, to, wh, cols, limit, desc⟩ = false) := by show _ = _; rw [HE2.out, shape2 rfl]; simp [hk, hv1, hv2, hs]
                (try clear hs)
                (try clear hv)
                (try clear ht)
                (try clear hk)
                (try clear hv1)
                (try clear hv2)
                go_wp2_with fail
                go_ret
                rw [HR.out]
                exact ⟨rfl, L.out⟩
              have hsp := sp_eql fr to 0 0 true (by rw [hs.1, hs.2]; rfl)
              have HR : Hid (rightB ⟨nm, cs, ky⟩ ⟨2, table, key, t, v, fr, to, wh, cols, limit, desc⟩ = true) := by show _ = _; rw [HE2.out, shape2 rfl]; simp [hk, hv1, hv2, hs]
              (try clear hs)
              (try clear hv)
              (try clear ht)
              (try clear hk)
              (try clear hv1)
              (try clear hv2)
              go_wp2_with fail
              go_ret
              rw [HR.out]
              exact ⟨rfl, L.out⟩
            have hk2' : (kind == 2) = false := by simpa using hk2
            by_cases hk3 : kind = 3
            case pos =>
              subst hk3
              have ck0 := keyedR_any ⟨nm, cs, ky⟩ (.slice ua cs.length uc) key (.slice ka key.length kc) _ HU.out HK.out HOK.out.key HOK.out.lk
              unfold sv at ck0
              simp only at ck0
              have HS : Hid (rightB ⟨nm, cs, ky⟩ ⟨3, table, key, t, v, fr, to, wh, cols, limit, desc⟩ = (keyedB ⟨nm, cs, ky⟩ key && spanB fr to)) := by show _ = _; rw [HE2.out, shape3 rfl]; simp [ht, hv, Bool.and_comm]
              (try clear hv)
              (try clear ht)
              (try clear hk)
              (try clear hv1)
              (try clear hv2)
              cases hkb : keyedB ⟨nm, cs, ky⟩ key with
              | false =>
                rw [hkb] at ck0 HS
                have CK := hid ck0
                have HR : Hid (rightB ⟨nm, cs, ky⟩ ⟨3, table, key, t, v, fr, to, wh, cols, limit, desc⟩ = false) := HS.out
                clear ck0 HS hkb
                (try clear hs)
                go_wp2_with fail
                refine CK.out.mono ?_; rintro e w5 ⟨rfl, b5⟩
                replace BX := hid (BX.out.keep b5)
                replace L := hid (hnext L.out b5)
                clear b5 CK
                clear c0 c1 c2 c3 c4 c5 c6 c7 c8 c9 c10 s0 s1 s2
                obtain ⟨c0, c1, c2, c3, c4, c5, c6, c7, c8, c9, c10, cl⟩ := BX.out.cells
                simp only at c0 c1 c2 c3 c4 c5 c6 c7 c8 c9 c10
                clear cl
                go_wp2_with fail
                go_ret
                rw [HR.out]
                exact ⟨rfl, L.out⟩
              | true =>
                rw [hkb] at ck0 HS
                have CK := hid ck0
                have HR : Hid (rightB ⟨nm, cs, ky⟩ ⟨3, table, key, t, v, fr, to, wh, cols, limit, desc⟩ = spanB fr to) := HS.out
                clear ck0 HS hkb
                go_wp2_with fail
                refine CK.out.mono ?_; rintro e w5 ⟨rfl, b5⟩
                replace BX := hid (BX.out.keep b5)
                replace L := hid (hnext L.out b5)
                clear b5 CK
                clear c0 c1 c2 c3 c4 c5 c6 c7 c8 c9 c10 s0 s1 s2
                obtain ⟨c0, c1, c2, c3, c4, c5, c6, c7, c8, c9, c10, cl⟩ := BX.out.cells
                simp only at c0 c1 c2 c3 c4 c5 c6 c7 c8 c9 c10
                clear cl
                go_wp2_with fail
                refine (srightR_any fr to _).mono ?_; rintro e w6 ⟨rfl, b6⟩
                have L6 := hid (hnext L.out b6)
                clear b6
                generalize spanB fr to = r at HR
                (try generalize spanB fr to = r)
                clear c0 c1 c2 c3 c4 c5 c6 c7 c8 c9 c10
                go_wp2_with fail
                go_ret
                rw [HR.out]
                exact ⟨rfl, L6.out⟩
            have hk3' : (kind == 3) = false := by simpa using hk3
            by_cases hk4 : kind = 4
            case pos =>
              subst hk4
              have ck0 := keyedR_any ⟨nm, cs, ky⟩ (.slice ua cs.length uc) key (.slice ka key.length kc) _ HU.out HK.out HOK.out.key HOK.out.lk
              unfold sv at ck0
              simp only at ck0
              have HS : Hid (rightB ⟨nm, cs, ky⟩ ⟨4, table, key, t, v, fr, to, wh, cols, limit, desc⟩ = (keyedB ⟨nm, cs, ky⟩ key && decide (fr = 0 ∧ to = 0))) := by show _ = _; rw [HE2.out, shape4 rfl]; simp [ht, hv, Bool.and_comm]
              (try clear hv)
              (try clear ht)
              (try clear hk)
              (try clear hv1)
              (try clear hv2)
              cases hkb : keyedB ⟨nm, cs, ky⟩ key with
              | false =>
                rw [hkb] at ck0 HS
                have CK := hid ck0
                have HR : Hid (rightB ⟨nm, cs, ky⟩ ⟨4, table, key, t, v, fr, to, wh, cols, limit, desc⟩ = false) := HS.out
                clear ck0 HS hkb
                (try clear hs)
                go_wp2_with fail
                refine CK.out.mono ?_; rintro e w5 ⟨rfl, b5⟩
                replace BX := hid (BX.out.keep b5)
                replace L := hid (hnext L.out b5)
                clear b5 CK
                clear c0 c1 c2 c3 c4 c5 c6 c7 c8 c9 c10 s0 s1 s2
                obtain ⟨c0, c1, c2, c3, c4, c5, c6, c7, c8, c9, c10, cl⟩ := BX.out.cells
                simp only at c0 c1 c2 c3 c4 c5 c6 c7 c8 c9 c10
                clear cl
                go_wp2_with fail
                go_ret
                rw [HR.out]
                exact ⟨rfl, L.out⟩
              | true =>
                rw [hkb] at ck0 HS
                have CK := hid ck0
                have HR : Hid (rightB ⟨nm, cs, ky⟩ ⟨4, table, key, t, v, fr, to, wh, cols, limit, desc⟩ = decide (fr = 0 ∧ to = 0)) := HS.out
                clear ck0 HS hkb
                by_cases hs : fr = 0 ∧ to = 0
                case neg =>
                  have hsp := sp_eql fr to 0 0 false (by rw [Bool.and_eq_false_iff]; by_cases hf : fr = 0; exact .inr (by rw [beq_eq_false_iff_ne]; exact fun h => hs ⟨hf, h⟩); exact .inl (by rw [beq_eq_false_iff_ne]; exact hf))
                  rw [decide_eq_false hs] at HR
                  clear hs
                  go_wp2_with fail
                  refine CK.out.mono ?_; rintro e w5 ⟨rfl, b5⟩
                  replace BX := hid (BX.out.keep b5)
                  replace L := hid (hnext L.out b5)
                  clear b5 CK
                  clear c0 c1 c2 c3 c4 c5 c6 c7 c8 c9 c10 s0 s1 s2
                  obtain ⟨c0, c1, c2, c3, c4, c5, c6, c7, c8, c9, c10, cl⟩ := BX.out.cells
                  simp only at c0 c1 c2 c3 c4 c5 c6 c7 c8 c9 c10
                  clear cl
                  go_wp2_with fail
                  go_ret
                  rw [HR.out]
                  exact ⟨rfl, L.out⟩
                have hsp := sp_eql fr to 0 0 true (by rw [hs.1, hs.2]; rfl)
                rw [decide_eq_true hs] at HR
                clear hs
                go_wp2_with fail
                refine CK.out.mono ?_; rintro e w5 ⟨rfl, b5⟩
                replace BX := hid (BX.out.keep b5)
                replace L := hid (hnext L.out b5)
                clear b5 CK
                clear c0 c1 c2 c3 c4 c5 c6 c7 c8 c9 c10 s0 s1 s2
                obtain ⟨c0, c1, c2, c3, c4, c5, c6, c7, c8, c9, c10, cl⟩ := BX.out.cells
                simp only at c0 c1 c2 c3 c4 c5 c6 c7 c8 c9 c10
                clear cl
                go_wp2_with fail
                go_ret
                rw [HR.out]
                exact ⟨rfl, L.out⟩
            have hk4' : (kind == 4) = false := by simpa using hk4
            have HR : Hid (rightB ⟨nm, cs, ky⟩ ⟨kind, table, key, t, v, fr, to, wh, cols, limit, desc⟩ = false) := by show _ = _; rw [HE2.out]; exact shape0 hk1 hk2 hk3 hk4
            (try clear hs)
            (try clear hv)
            (try clear ht)
            (try clear hk)
            (try clear hv1)
            (try clear hv2)
            go_wp2_with fail
            go_ret
            rw [HR.out]
            exact ⟨rfl, L.out⟩
          · have hv' : (v == 0) = false := by simpa using hv
            by_cases hk1 : kind = 1
            case pos =>
              subst hk1
              by_cases hk : key.length = 0
              case neg =>
                have hk' : ((key.length : Int) == 0) = false := by rw [beq_eq_false_iff_ne]; omega
                have HR : Hid (rightB ⟨nm, cs, ky⟩ ⟨1, table, key, t, v, fr, to, wh, cols, limit, desc⟩ = false) := by show _ = _; rw [HE2.out, shape1 rfl]; simp [hv, hk]
                (try clear hs)
                (try clear hv)
                (try clear ht)
                (try clear hk)
                (try clear hv1)
                (try clear hv2)
                go_wp2_with fail
                go_ret
                rw [HR.out]
                exact ⟨rfl, L.out⟩
              have hk' : ((key.length : Int) == 0) = true := by rw [hk]; rfl
              have HR : Hid (rightB ⟨nm, cs, ky⟩ ⟨1, table, key, t, v, fr, to, wh, cols, limit, desc⟩ = false) := by show _ = _; rw [HE2.out, shape1 rfl]; simp [hv, hk]
              (try clear hs)
              (try clear hv)
              (try clear ht)
              (try clear hk)
              (try clear hv1)
              (try clear hv2)
              go_wp2_with fail
              go_ret
              rw [HR.out]
              exact ⟨rfl, L.out⟩
            have hk1' : (kind == 1) = false := by simpa using hk1
            by_cases hk2 : kind = 2
            case pos =>
              subst hk2
              by_cases hk : key.length = 0
              case neg =>
                have hk' : ((key.length : Int) == 0) = false := by rw [beq_eq_false_iff_ne]; omega
                have HR : Hid (rightB ⟨nm, cs, ky⟩ ⟨2, table, key, t, v, fr, to, wh, cols, limit, desc⟩ = false) := by show _ = _; rw [HE2.out, shape2 rfl]; simp [hk]
                (try clear hs)
                (try clear hv)
                (try clear ht)
                (try clear hk)
                (try clear hv1)
                (try clear hv2)
                go_wp2_with fail
                go_ret
                rw [HR.out]
                exact ⟨rfl, L.out⟩
              have hk' : ((key.length : Int) == 0) = true := by rw [hk]; rfl
              by_cases hv1 : 0 ≤ v
              case neg =>
                have hv1' : ¬ 0 ≤ v := hv1
                have hv1'' : decide (0 ≤ v) = false := decide_eq_false hv1
                have HR : Hid (rightB ⟨nm, cs, ky⟩ ⟨2, table, key, t, v, fr, to, wh, cols, limit, desc⟩ = false) := by show _ = _; rw [HE2.out, shape2 rfl]; simp [hk, hv1]
                (try clear hs)
                (try clear hv)
                (try clear ht)
                (try clear hk)
                (try clear hv1)
                (try clear hv2)
                go_wp2_with fail
                go_ret
                rw [HR.out]
                exact ⟨rfl, L.out⟩
              have hv1' : 0 ≤ v := hv1
              by_cases hv2 : v < 1099511627776
              case neg =>
                have hv2' : ¬ v < 1099511627776 := hv2
                have hv2'' : decide (v < 1099511627776) = false := decide_eq_false hv2
                have HR : Hid (rightB ⟨nm, cs, ky⟩ ⟨2, table, key, t, v, fr, to, wh, cols, limit, desc⟩ = false) := by show _ = _; rw [HE2.out, shape2 rfl]; simp [hk, hv1, hv2]
                (try clear hs)
                (try clear hv)
                (try clear ht)
                (try clear hk)
                (try clear hv1)
                (try clear hv2)
                go_wp2_with fail
                go_ret
                rw [HR.out]
                exact ⟨rfl, L.out⟩
              have hv2' : v < 1099511627776 := hv2
              by_cases hs : fr = 0 ∧ to = 0
              case neg =>
                have hsp := sp_eql fr to 0 0 false (by rw [Bool.and_eq_false_iff]; by_cases hf : fr = 0; exact .inr (by rw [beq_eq_false_iff_ne]; exact fun h => hs ⟨hf, h⟩); exact .inl (by rw [beq_eq_false_iff_ne]; exact hf))
                have HR : Hid (rightB ⟨nm, cs, ky⟩ ⟨2, table, key, t, v, fr, to, wh, cols, limit, desc⟩ = false) := by show _ = _; rw [HE2.out, shape2 rfl]; simp [hk, hv1, hv2, hs]
                (try clear hs)
                (try clear hv)
                (try clear ht)
                (try clear hk)
                (try clear hv1)
                (try clear hv2)
                go_wp2_with fail
                go_ret
                rw [HR.out]
                exact ⟨rfl, L.out⟩
              have hsp := sp_eql fr to 0 0 true (by rw [hs.1, hs.2]; rfl)
              have HR : Hid (rightB ⟨nm, cs, ky⟩ ⟨2, table, key, t, v, fr, to, wh, cols, limit, desc⟩ = true) := by show _ = _; rw [HE2.out, shape2 rfl]; simp [hk, hv1, hv2, hs]
              (try clear hs)
              (try clear hv)
              (try clear ht)
              (try clear hk)
              (try clear hv1)
              (try clear hv2)
              go_wp2_with fail
              go_ret
              rw [HR.out]
              exact ⟨rfl, L.out⟩
            have hk2' : (kind == 2) = false := by simpa using hk2
            by_cases hk3 : kind = 3
            case pos =>
              subst hk3
              have HR : Hid (rightB ⟨nm, cs, ky⟩ ⟨3, table, key, t, v, fr, to, wh, cols, limit, desc⟩ = false) := by show _ = _; rw [HE2.out, shape3 rfl]; simp [hv]
              (try clear hs)
              (try clear hv)
              (try clear ht)
              (try clear hk)
              (try clear hv1)
              (try clear hv2)
              go_wp2_with fail
              go_ret
              rw [HR.out]
              exact ⟨rfl, L.out⟩
            have hk3' : (kind == 3) = false := by simpa using hk3
            by_cases hk4 : kind = 4
            case pos =>
              subst hk4
              have HR : Hid (rightB ⟨nm, cs, ky⟩ ⟨4, table, key, t, v, fr, to, wh, cols, limit, desc⟩ = false) := by show _ = _; rw [HE2.out, shape4 rfl]; simp [hv]
              (try clear hs)
              (try clear hv)
              (try clear ht)
              (try clear hk)
              (try clear hv1)
              (try clear hv2)
              go_wp2_with fail
              go_ret
              rw [HR.out]
              exact ⟨rfl, L.out⟩
            have hk4' : (kind == 4) = false := by simpa using hk4
            have HR : Hid (rightB ⟨nm, cs, ky⟩ ⟨kind, table, key, t, v, fr, to, wh, cols, limit, desc⟩ = false) := by show _ = _; rw [HE2.out]; exact shape0 hk1 hk2 hk3 hk4
            (try clear hs)
            (try clear hv)
            (try clear ht)
            (try clear hk)
            (try clear hv1)
            (try clear hv2)
            go_wp2_with fail
            go_ret
            rw [HR.out]
            exact ⟨rfl, L.out⟩
        · have ht' : (t == 0) = false := by simpa using ht
          by_cases hk1 : kind = 1
          case pos =>
            subst hk1
            by_cases hk : key.length = 0
            case neg =>
              have hk' : ((key.length : Int) == 0) = false := by rw [beq_eq_false_iff_ne]; omega
              have HR : Hid (rightB ⟨nm, cs, ky⟩ ⟨1, table, key, t, v, fr, to, wh, cols, limit, desc⟩ = false) := by show _ = _; rw [HE2.out, shape1 rfl]; simp [hk]
              (try clear hs)
              (try clear hv)
              (try clear ht)
              (try clear hk)
              (try clear hv1)
              (try clear hv2)
              go_wp2_with fail
              go_ret
              rw [HR.out]
              exact ⟨rfl, L.out⟩
            have hk' : ((key.length : Int) == 0) = true := by rw [hk]; rfl
            by_cases hv : v = 0
            case neg =>
              have hv' : (v == 0) = false := by simpa using hv
              have HR : Hid (rightB ⟨nm, cs, ky⟩ ⟨1, table, key, t, v, fr, to, wh, cols, limit, desc⟩ = false) := by show _ = _; rw [HE2.out, shape1 rfl]; simp [hk, hv]
              (try clear hs)
              (try clear hv)
              (try clear ht)
              (try clear hk)
              (try clear hv1)
              (try clear hv2)
              go_wp2_with fail
              go_ret
              rw [HR.out]
              exact ⟨rfl, L.out⟩
            have hv' : (v == 0) = true := by simpa using hv
            by_cases hs : fr = 0 ∧ to = 0
            case neg =>
              have hsp := sp_eql fr to 0 0 false (by rw [Bool.and_eq_false_iff]; by_cases hf : fr = 0; exact .inr (by rw [beq_eq_false_iff_ne]; exact fun h => hs ⟨hf, h⟩); exact .inl (by rw [beq_eq_false_iff_ne]; exact hf))
              have HR : Hid (rightB ⟨nm, cs, ky⟩ ⟨1, table, key, t, v, fr, to, wh, cols, limit, desc⟩ = false) := by show _ = _; rw [HE2.out, shape1 rfl]; simp [hk, hv, hs]
              (try clear hs)
              (try clear hv)
              (try clear ht)
              (try clear hk)
              (try clear hv1)
              (try clear hv2)
              go_wp2_with fail
              go_ret
              rw [HR.out]
              exact ⟨rfl, L.out⟩
            have hsp := sp_eql fr to 0 0 true (by rw [hs.1, hs.2]; rfl)
            have HR : Hid (rightB ⟨nm, cs, ky⟩ ⟨1, table, key, t, v, fr, to, wh, cols, limit, desc⟩ = true) := by show _ = _; rw [HE2.out, shape1 rfl]; simp [hk, hv, hs]
            (try clear hs)
            (try clear hv)
            (try clear ht)
            (try clear hk)
            (try clear hv1)
            (try clear hv2)
            go_wp2_with fail
            go_ret
            rw [HR.out]
            exact ⟨rfl, L.out⟩
          have hk1' : (kind == 1) = false := by simpa using hk1
          by_cases hk2 : kind = 2
          case pos =>
            subst hk2
            by_cases hk : key.length = 0
            case neg =>
              have hk' : ((key.length : Int) == 0) = false := by rw [beq_eq_false_iff_ne]; omega
              have HR : Hid (rightB ⟨nm, cs, ky⟩ ⟨2, table, key, t, v, fr, to, wh, cols, limit, desc⟩ = false) := by show _ = _; rw [HE2.out, shape2 rfl]; simp [hk]
              (try clear hs)
              (try clear hv)
              (try clear ht)
              (try clear hk)
              (try clear hv1)
              (try clear hv2)
              go_wp2_with fail
              go_ret
              rw [HR.out]
              exact ⟨rfl, L.out⟩
            have hk' : ((key.length : Int) == 0) = true := by rw [hk]; rfl
            by_cases hv1 : 0 ≤ v
            case neg =>
              have hv1' : ¬ 0 ≤ v := hv1
              have hv1'' : decide (0 ≤ v) = false := decide_eq_false hv1
              have HR : Hid (rightB ⟨nm, cs, ky⟩ ⟨2, table, key, t, v, fr, to, wh, cols, limit, desc⟩ = false) := by show _ = _; rw [HE2.out, shape2 rfl]; simp [hk, hv1]
              (try clear hs)
              (try clear hv)
              (try clear ht)
              (try clear hk)
              (try clear hv1)
              (try clear hv2)
              go_wp2_with fail
              go_ret
              rw [HR.out]
              exact ⟨rfl, L.out⟩
            have hv1' : 0 ≤ v := hv1
            by_cases hv2 : v < 1099511627776
            case neg =>
              have hv2' : ¬ v < 1099511627776 := hv2
              have hv2'' : decide (v < 1099511627776) = false := decide_eq_false hv2
              have HR : Hid (rightB ⟨nm, cs, ky⟩ ⟨2, table, key, t, v, fr, to, wh, cols, limit, desc⟩ = false) := by show _ = _; rw [HE2.out, shape2 rfl]; simp [hk, hv1, hv2]
              (try clear hs)
              (try clear hv)
              (try clear ht)
              (try clear hk)
              (try clear hv1)
              (try clear hv2)
              go_wp2_with fail
              go_ret
              rw [HR.out]
              exact ⟨rfl, L.out⟩
            have hv2' : v < 1099511627776 := hv2
            by_cases hs : fr = 0 ∧ to = 0
            case neg =>
              have hsp := sp_eql fr to 0 0 false (by rw [Bool.and_eq_false_iff]; by_cases hf : fr = 0; exact .inr (by rw [beq_eq_false_iff_ne]; exact fun h => hs ⟨hf, h⟩); exact .inl (by rw [beq_eq_false_iff_ne]; exact hf))
              have HR : Hid (rightB ⟨nm, cs, ky⟩ ⟨2, table, key, t, v, fr, to, wh, cols, limit, desc⟩ = false) := by show _ = _; rw [HE2.out, shape2 rfl]; simp [hk, hv1, hv2, hs]
              (try clear hs)
              (try clear hv)
              (try clear ht)
              (try clear hk)
              (try clear hv1)
              (try clear hv2)
              go_wp2_with fail
              go_ret
              rw [HR.out]
              exact ⟨rfl, L.out⟩
            have hsp := sp_eql fr to 0 0 true (by rw [hs.1, hs.2]; rfl)
            have HR : Hid (rightB ⟨nm, cs, ky⟩ ⟨2, table, key, t, v, fr, to, wh, cols, limit, desc⟩ = true) := by show _ = _; rw [HE2.out, shape2 rfl]; simp [hk, hv1, hv2, hs]
            (try clear hs)
            (try clear hv)
            (try clear ht)
            (try clear hk)
            (try clear hv1)
            (try clear hv2)
            go_wp2_with fail
            go_ret
            rw [HR.out]
            exact ⟨rfl, L.out⟩
          have hk2' : (kind == 2) = false := by simpa using hk2
          by_cases hk3 : kind = 3
          case pos =>
            subst hk3
            have HR : Hid (rightB ⟨nm, cs, ky⟩ ⟨3, table, key, t, v, fr, to, wh, cols, limit, desc⟩ = false) := by show _ = _; rw [HE2.out, shape3 rfl]; simp [ht]
            (try clear hs)
            (try clear hv)
            (try clear ht)
            (try clear hk)
            (try clear hv1)
            (try clear hv2)
            go_wp2_with fail
            go_ret
            rw [HR.out]
            exact ⟨rfl, L.out⟩
          have hk3' : (kind == 3) = false := by simpa using hk3
          by_cases hk4 : kind = 4
          case pos =>
            subst hk4
            have HR : Hid (rightB ⟨nm, cs, ky⟩ ⟨4, table, key, t, v, fr, to, wh, cols, limit, desc⟩ = false) := by show _ = _; rw [HE2.out, shape4 rfl]; simp [ht]
            (try clear hs)
            (try clear hv)
            (try clear ht)
            (try clear hk)
            (try clear hv1)
            (try clear hv2)
            go_wp2_with fail
            go_ret
            rw [HR.out]
            exact ⟨rfl, L.out⟩
          have hk4' : (kind == 4) = false := by simpa using hk4
          have HR : Hid (rightB ⟨nm, cs, ky⟩ ⟨kind, table, key, t, v, fr, to, wh, cols, limit, desc⟩ = false) := by show _ = _; rw [HE2.out]; exact shape0 hk1 hk2 hk3 hk4
          (try clear hs)
          (try clear hv)
          (try clear ht)
          (try clear hk)
          (try clear hv1)
          (try clear hv2)
          go_wp2_with fail
          go_ret
          rw [HR.out]
          exact ⟨rfl, L.out⟩
end Go.Proofs.Ytmcneelapghfcaa
