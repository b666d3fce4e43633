/-
  Contracts and laws of the layers below, put together: Ph. Conditions: where they are named.
-/
import Derived.Test.YtmcneelapghfcaaBb

namespace Go.Proofs.Ytmcneelapghfcaa
open Go.RowKit Pd

set_option maxRecDepth 100000 in
set_option maxHeartbeats 6400000 in
theorem eval_any (v u : Value) (l : List N) (row : List Cd.V) (w : World) (hv : NsAt w v l) (hu : VsAt w u row) (hl : l.length ≤ 1000000) (hok : ∀ x ∈ l, x.v.s.size ≤ maxLen) (hrk : ∀ x ∈ row, x.s.size ≤ maxLen) : Calls Try.prog 33 #[v, u] w fun e w' => e = .returned (.int .i64 (evalI l row)) ∧ Below w.heap.size w w' := by
  have cw0 := whole_any v l w hv hl
  obtain ⟨adr, cap, rfl, hc⟩ := hv
  obtain ⟨uadr, ucap, rfl, huc⟩ := hu
  have HC := hid hc
  have HU := hid huc
  have HOK := hid hok
  have HRK := hid hrk
  have HLL := hid hl
  clear hc huc hok hrk
  cases hw : whole l with
  | false =>
    have HR : Hid (evalI l row = -1) := if_pos hw
    rw [hw] at cw0
    have cw := hid cw0
    clear cw0 hw
    go_enter Try.func33, Try.ntmps33
    go_wp2_with fail
    refine cw.out.mono ?_; rintro e w1 ⟨rfl, rfl⟩
    go_wp2_with fail
    go_ret
    rw [HR.out]
    exact ⟨rfl, Below.refl _ _⟩
  | true =>
    have HW := hid hw
    have HR1 : Hid (evalI l row = if colsOk l row.length = false then -1 else (stack row l).headD 0) := if_neg (by rw [hw]; decide)
    have hl0 := (whole_ends hw).2.1
    rw [hw] at cw0
    have cw := hid cw0
    clear cw0 hw
    have hl0' : (0 : Int) < (l.length : Int) := by omega
    go_enter Try.func33, Try.ntmps33
    go_wp2_with fail
    refine cw.out.mono ?_; rintro e w1 ⟨rfl, rfl⟩
    go_wp2_with fail
    go_loopw [16] (fun i wr => ∃ k : Nat, k ≤ l.length ∧ i = .int .i64 (k : Int) ∧ Hid (∀ j (hj : j < l.length), j < k → 0 ≤ l[j].col ∧ l[j].col < (row.length : Int)) ∧ Below w.heap.size w wr) (fun i _ => l.length - (intOf i).toNat)
    case atStart => exact ⟨0, by omega, rfl, hid (fun j _ hj => absurd hj (Nat.not_lt_zero j)), Below.refl _ _⟩
    case round =>
      obtain ⟨k, hk, rfl, hall, hbel⟩ := hrel
      obtain ⟨w4, rfl⟩ : ∃ w4 : World, w4 = wr := ⟨_, rfl⟩
      have hk0 : (0 : Int) ≤ (k : Int) := by omega
      by_cases hkl : k < l.length
      · have hkl' : (k : Int) < (l.length : Int) := by omega
        obtain ⟨g, off, rfl, q0, q1, q2, q3, q4, q5⟩ := HC.out k hkl
        have HN := hid (colsOk_no (n := row.length) hkl)
        have HA : Hid (∀ h : 0 ≤ l[k].col ∧ l[k].col < (row.length : Int), ∀ j (hj : j < l.length), j < k + 1 → 0 ≤ l[j].col ∧ l[j].col < (row.length : Int)) := fun h j hj hjk => if e : j < k then hall.out j hj e else by
          have : j = k := by omega
          subst this; exact h
        generalize hx : l[k] = x at q0 q1 q2 q3 q4 q5 HN HA
        clear hx
        obtain ⟨op, col, ⟨xk, xn, xb, xs⟩⟩ := x
        simp only at q0 q1 q2 q3 q4 q5 HN HA
        replace q0 := hkeep q0 hbel
        replace q1 := hkeep q1 hbel
        replace q2 := hkeep q2 hbel
        replace q3 := hkeep q3 hbel
        replace q4 := hkeep q4 hbel
        replace q5 := hkeep q5 hbel
        have hB5 := hid (hnext hbel (hba w4 (.cells #[.int .i64 op, .int .i64 col, .int .i64 xk, .int .i64 xn, .int .u64 (xb : Int), .string xs] 65)))
        clear hbel hall
        by_cases c1 : col < 0
        · have HR : Hid (evalI l row = -1) := by show _ = _; rw [HR1.out, if_pos (HN.out (.inl c1))]
          clear HN HA
          go_wp2_with fail
          go_ret
          rw [HR.out]
          exact ⟨rfl, hB5.out⟩
        · by_cases c2 : (row.length : Int) ≤ col
          · have HR : Hid (evalI l row = -1) := by show _ = _; rw [HR1.out, if_pos (HN.out (.inr c2))]
            clear HN HA
            go_wp2_with fail
            go_ret
            rw [HR.out]
            exact ⟨rfl, hB5.out⟩
          · have HA2 := hid (HA.out ⟨by omega, by omega⟩)
            clear HN HA
            go_wp2_with fail
            go_roundw
            case rel => exact ⟨k + 1, by omega, by go_num, HA2, hB5.out⟩
            case measure => simp [intOf]; omega
      · obtain rfl : k = l.length := by omega
        have HCOL : Hid (∀ j (hj : j < l.length), 0 ≤ l[j].col ∧ l[j].col < (row.length : Int)) := fun j hj => hall.out j hj hj
        have HR : Hid (evalI l row = (stack row l).headD 0) := by show _ = _; rw [HR1.out, if_neg (by rw [colsOk_yes HCOL.out]; decide)]
        have HB0 := hid hbel
        clear hall hbel HR1 hk0 hk
        have wl : IntKind.i64.wrap ((l.length : Int) - 1) = (l.length : Int) - 1 := by rw [IntKind.wrap_i64]; omega
        go_wp2_with fail
        go_loopw [7, 8] (fun pv iv wr => ∃ (k : Nat) (pv' : Value) (z : Int), k ≤ l.length ∧ iv = .int .i64 z ∧ z = (k : Int) - 1 ∧ pv = pv' ∧ OwnI wr w.heap.size pv' (stack row (l.drop k)).reverse ∧ Below w.heap.size w wr) (fun _ iv _ => (intOf iv + 1).toNat)
        case atStart => exact ⟨l.length, _, _, by omega, rfl, rfl, rfl, by rw [List.drop_length]; exact OwnI.nil _ _, HB0.out⟩
        case round =>
          obtain ⟨k, pv', z, hk, rfl, hz, rfl, hown, hbel⟩ := hrel
          obtain ⟨w4, rfl⟩ : ∃ w4 : World, w4 = wr := ⟨_, rfl⟩
          have HB := hid hbel
          cases k with
          | zero =>
            obtain rfl : z = -1 := by omega
            clear hz
            rw [List.drop_zero] at hown
            have hsl := stack_len row l 1 (whole_ends HW.out).1
            have HST : Hid (∃ t, stack row l = [t]) := by
              show ∃ _, _
              match stack row l, hsl with
              | [t], _ => exact ⟨t, rfl⟩
            obtain ⟨t, ht⟩ := HST.out
            rw [ht, show [t].reverse = [t] from rfl] at hown
            obtain ⟨gp, pcap, e, _, _, _, _, hcell⟩ := hown.ex (by simp)
            have q := (hcell 0 (by simp)).1
            have HF : Hid (evalI l row = t) := by show _ = _; rw [HR.out, ht]; rfl
            rw [show [t].length = 1 from rfl] at e
            subst e
            rw [show [t][0] = t from rfl] at q
            clear hcell hown HST ht hsl
            go_wp2_with fail
            go_ret
            rw [HF.out]
            exact ⟨rfl, HB.out⟩
          | succ j =>
            obtain rfl : z = (j : Int) := by omega
            clear hz hbel
            have hj : j < l.length := by omega
            have hj' : (j : Int) < (l.length : Int) := by omega
            have hj0 : (0 : Int) ≤ (j : Int) := by omega
            have HAT := hid (at_node row HW.out hj)
            have HSK : Hid (stack row (l.drop j) = Pd.step row l[j] (stack row (l.drop (j + 1)))) := by show _ = _; rw [List.drop_eq_getElem_cons hj]; rfl
            have HRG := hid (stack_range row (l.drop (j + 1)))
            have hcol := HCOL.out j hj
            have hxs := HOK.out l[j] (List.getElem_mem hj)
            have HSL : Hid ((stack row (l.drop (j + 1))).length ≤ 1000000) := by
              have h1 := stack_le row (l.drop (j + 1))
              rw [List.length_drop] at h1
              have h2 := HLL.out
              show _ ≤ _
              omega
            obtain ⟨g, off, rfl, q0, q1, q2, q3, q4, q5⟩ := HC.out j hj
            generalize stack row (l.drop (j + 1)) = st at hown HAT HSK HRG HSL
            generalize l[j] = x at q0 q1 q2 q3 q4 q5 HAT HSK hcol hxs
            obtain ⟨op, col, ⟨xk, xn, xb, xs⟩⟩ := x
            simp only at q0 q1 q2 q3 q4 q5 HAT hcol hxs
            replace q0 := hkeep q0 HB.out
            replace q1 := hkeep q1 HB.out
            replace q2 := hkeep q2 HB.out
            replace q3 := hkeep q3 HB.out
            replace q4 := hkeep q4 HB.out
            replace q5 := hkeep q5 HB.out
            have HO := hid hown
            have HBX := hid (hnext HB.out (hba w4 (.cells #[.int .i64 op, .int .i64 col, .int .i64 xk, .int .i64 xn, .int .u64 (xb : Int), .string xs] 65)))
            rcases HAT.out with ⟨o1, o2⟩ | ⟨rfl, t, s, rfl⟩ | ⟨hop, a, b, s, rfl⟩
            · obtain ⟨cn, rfl⟩ : ∃ cn : Nat, col = (cn : Int) := ⟨col.toNat, by omega⟩
              have hcn : cn < row.length := by omega
              have hcn' : (cn : Int) < (row.length : Int) := by omega
              obtain ⟨ug, uoff, rfl, y0, y1, y2, y3⟩ := HU.out cn hcn
              have HLF : Hid (stack row (l.drop j) = leafV ⟨op, (cn : Int), ⟨xk, xn, xb, xs⟩⟩ row[cn] :: st) := by
                show _ = _
                rw [HSK.out]
                unfold Pd.step
                rw [if_neg (by show ¬ op = 11; omega), if_neg (by show ¬ op = 9; omega), if_neg (by show ¬ op = 10; omega)]
                rw [Int.toNat_natCast, List.getD_eq_getElem?_getD, List.getElem?_eq_getElem hcn]; rfl
              have cl0 := fun W => leaf_any ⟨op, (cn : Int), ⟨xk, xn, xb, xs⟩⟩ row[cn] o1 o2 hxs (HRK.out _ (List.getElem_mem hcn)) W
              generalize row[cn] = y at y0 y1 y2 y3 HLF cl0
              obtain ⟨yk, yn, yb, ys⟩ := y
              simp only at y0 y1 y2 y3
              replace y0 := hkeep y0 HB.out
              replace y1 := hkeep y1 HB.out
              replace y2 := hkeep y2 HB.out
              replace y3 := hkeep y3 HB.out
              unfold nv vv at cl0
              have cl := hid cl0
              have o9 : (op == 9) = false := by rw [beq_eq_false_iff_ne]; omega
              have o10 : (op == 10) = false := by rw [beq_eq_false_iff_ne]; omega
              have o11 : (op == 11) = false := by rw [beq_eq_false_iff_ne]; omega
              clear cl0 o1 o2 HAT HSK hown
              generalize leafV ⟨op, (cn : Int), ⟨xk, xn, xb, xs⟩⟩ ⟨yk, yn, yb, ys⟩ = t at cl HLF
              have HRV : Hid ((stack row (l.drop j)).reverse = st.reverse ++ [t]) := by show _ = _; rw [HLF.out, List.reverse_cons]
              have hsr : st.reverse.length ≤ 1000000 := by rw [List.length_reverse]; exact HSL.out
              have HLN := hid hsr
              clear HLF hsr
              generalize st.reverse = P at *
              obtain ⟨padr, pcap, e⟩ := HO.out.slc
              subst e
              go_wp2_with fail
              refine wp_region_held_drew (S := fun _ => True) (by kernel_rfl) trivial (fun hS => ?_)
              obtain ⟨w20, hw20⟩ : ∃ w20, (w4.alloc (.cells #[.int .i64 op, .int .i64 (cn : Int), .int .i64 xk, .int .i64 xn, .int .u64 (xb : Int), .string xs] 65)).drew = w20 := ⟨_, rfl⟩
              have hd20 : Below w4.heap.size w4 w20 := hw20 ▸ (hba w4 (.cells #[.int .i64 op, .int .i64 (cn : Int), .int .i64 xk, .int .i64 xn, .int .u64 (xb : Int), .string xs] 65)).drew
              rw [hw20]
              have B20 := hid (hnext HB.out hd20)
              have O20 := hid (HO.out.below hd20)
              have y0' := hkeep y0 hd20
              have y1' := hkeep y1 hd20
              have y2' := hkeep y2 hd20
              have y3' := hkeep y3 hd20
              have BX := BN.keep (BN.new 65 w4 ⟨op, (cn : Int), ⟨xk, xn, xb, xs⟩⟩) (hw20 ▸ (Below.refl _ _).drew : Below (w4.alloc (.cells #[.int .i64 op, .int .i64 (cn : Int), .int .i64 xk, .int .i64 xn, .int .u64 (xb : Int), .string xs] 65)).heap.size (w4.alloc (.cells #[.int .i64 op, .int .i64 (cn : Int), .int .i64 xk, .int .i64 xn, .int .u64 (xb : Int), .string xs] 65)) w20)
              obtain ⟨x0, x1, x2, x3, x4, x5, _, _, _, _, _, _, xl⟩ := BX.cells
              simp only at x0 x1 x2 x3 x4 x5
              clear BX HO HB HBX y0 y1 y2 y3 q0 q1 q2 q3 q4 q5
              clear hd20 hw20
              refine wT 0 hS ?_
              refine wT 2 hS ?_
              refine wT 3 hS ?_
              refine wpAnyH_ready (rs := [1, 4]) (by kernel_rfl) (by simp) ?_
              refine wC (fun K hK => ?_) (wC (fun K hK => ?_) AllReadyH.nil)
              · go_simp
                refine hK.out _ _ trivial (fun _ => ?_)
                clear hK K
                (try simp only [Act.put, List.setIfInBounds_toArray, List.set_cons_zero, List.set_cons_succ])
                refine wpAnyH_ready (rs := [4]) (by kernel_rfl) (by simp) ?_
                refine wC (fun K hK => ?_) AllReadyH.nil
                go_simp
                refine hK.out _ _ trivial (fun _ => ?_)
                clear hK K
                (try simp only [Act.put, List.setIfInBounds_toArray, List.set_cons_zero, List.set_cons_succ])
                refine wT 5 hS ?_
                refine wpAnyH_ready (rs := [6]) (by kernel_rfl) (by simp) ?_
                refine wC (fun K hK => ?_) AllReadyH.nil
                go_simp
                refine hK.out _ _ trivial (fun _ => ?_)
                clear hK K
                (try simp only [Act.put, List.setIfInBounds_toArray, List.set_cons_zero, List.set_cons_succ])
                refine wpAnyH_ready (rs := [7]) (by kernel_rfl) (by simp) ?_
                refine wC (fun K hK => ?_) AllReadyH.nil
                go_simp
                refine (cl.out _).mono ?_; rintro e w21 ⟨rfl, b21⟩
                have O21 := hid (O20.out.below b21)
                have B21 := hid (hnext B20.out b21)
                clear b21
                go_wp2_with fail
                refine hK.out _ _ trivial (fun _ => ?_)
                clear hK K
                (try simp only [Act.put, List.setIfInBounds_toArray, List.set_cons_zero, List.set_cons_succ])
                refine wpAnyH_ready (rs := [8]) (by kernel_rfl) (by simp) ?_
                refine wC (fun K hK => ?_) AllReadyH.nil
                go_simp
                refine hK.out _ _ trivial (fun _ => ?_)
                clear hK K
                (try simp only [Act.put, List.setIfInBounds_toArray, List.set_cons_zero, List.set_cons_succ])
                refine wpAnyH_ready (rs := [9]) (by kernel_rfl) (by simp) ?_
                refine wC (fun K hK => ?_) AllReadyH.nil
                refine append_int_wp _ _ _ rfl w.heap.size _ P rfl O21.out t _ rfl rfl HLN.out B21.out.size ?_
                intro v2 w7 own2 gr2
                have O7 := hid own2
                have B7 := hid (Below.grown B21.out gr2 B21.out.size (fun q e => O21.out.ge q e))
                clear own2 gr2
                refine hK.out _ _ trivial (fun _ => ?_)
                clear hK K
                (try simp only [Act.put, List.setIfInBounds_toArray, List.set_cons_zero, List.set_cons_succ])
                refine wT 10 hS ?_
                refine wpAnyH_done (by kernel_rfl) ?_ _
                go_wp2_with fail
                go_roundw
                case rel => exact ⟨j, _, _, by omega, rfl, by first | rfl | omega, rfl, by rw [HRV.out]; exact O7.out, B7.out⟩
                case measure => simp [intOf] <;> omega
              · go_simp
                refine hK.out _ _ trivial (fun _ => ?_)
                clear hK K
                (try simp only [Act.put, List.setIfInBounds_toArray, List.set_cons_zero, List.set_cons_succ])
                refine wT 5 hS ?_
                refine wpAnyH_ready (rs := [1, 6]) (by kernel_rfl) (by simp) ?_
                refine wC (fun K hK => ?_) (wC (fun K hK => ?_) AllReadyH.nil)
                · go_simp
                  refine hK.out _ _ trivial (fun _ => ?_)
                  clear hK K
                  (try simp only [Act.put, List.setIfInBounds_toArray, List.set_cons_zero, List.set_cons_succ])
                  refine wpAnyH_ready (rs := [6]) (by kernel_rfl) (by simp) ?_
                  refine wC (fun K hK => ?_) AllReadyH.nil
                  go_simp
                  refine hK.out _ _ trivial (fun _ => ?_)
                  clear hK K
                  (try simp only [Act.put, List.setIfInBounds_toArray, List.set_cons_zero, List.set_cons_succ])
                  refine wpAnyH_ready (rs := [7]) (by kernel_rfl) (by simp) ?_
                  refine wC (fun K hK => ?_) AllReadyH.nil
                  go_simp
                  refine (cl.out _).mono ?_; rintro e w21 ⟨rfl, b21⟩
                  have O21 := hid (O20.out.below b21)
                  have B21 := hid (hnext B20.out b21)
                  clear b21
                  go_wp2_with fail
                  refine hK.out _ _ trivial (fun _ => ?_)
                  clear hK K
                  (try simp only [Act.put, List.setIfInBounds_toArray, List.set_cons_zero, List.set_cons_succ])
                  refine wpAnyH_ready (rs := [8]) (by kernel_rfl) (by simp) ?_
                  refine wC (fun K hK => ?_) AllReadyH.nil
                  go_simp
                  refine hK.out _ _ trivial (fun _ => ?_)
                  clear hK K
                  (try simp only [Act.put, List.setIfInBounds_toArray, List.set_cons_zero, List.set_cons_succ])
                  refine wpAnyH_ready (rs := [9]) (by kernel_rfl) (by simp) ?_
                  refine wC (fun K hK => ?_) AllReadyH.nil
                  refine append_int_wp _ _ _ rfl w.heap.size _ P rfl O21.out t _ rfl rfl HLN.out B21.out.size ?_
                  intro v2 w7 own2 gr2
                  have O7 := hid own2
                  have B7 := hid (Below.grown B21.out gr2 B21.out.size (fun q e => O21.out.ge q e))
                  clear own2 gr2
                  refine hK.out _ _ trivial (fun _ => ?_)
                  clear hK K
                  (try simp only [Act.put, List.setIfInBounds_toArray, List.set_cons_zero, List.set_cons_succ])
                  refine wT 10 hS ?_
                  refine wpAnyH_done (by kernel_rfl) ?_ _
                  go_wp2_with fail
                  go_roundw
                  case rel => exact ⟨j, _, _, by omega, rfl, by first | rfl | omega, rfl, by rw [HRV.out]; exact O7.out, B7.out⟩
                  case measure => simp [intOf] <;> omega
                · go_simp
                  refine hK.out _ _ trivial (fun _ => ?_)
                  clear hK K
                  (try simp only [Act.put, List.setIfInBounds_toArray, List.set_cons_zero, List.set_cons_succ])
                  refine wpAnyH_ready (rs := [1]) (by kernel_rfl) (by simp) ?_
                  refine wC (fun K hK => ?_) AllReadyH.nil
                  go_simp
                  refine hK.out _ _ trivial (fun _ => ?_)
                  clear hK K
                  (try simp only [Act.put, List.setIfInBounds_toArray, List.set_cons_zero, List.set_cons_succ])
                  refine wpAnyH_ready (rs := [7]) (by kernel_rfl) (by simp) ?_
                  refine wC (fun K hK => ?_) AllReadyH.nil
                  go_simp
                  refine (cl.out _).mono ?_; rintro e w21 ⟨rfl, b21⟩
                  have O21 := hid (O20.out.below b21)
                  have B21 := hid (hnext B20.out b21)
                  clear b21
                  go_wp2_with fail
                  refine hK.out _ _ trivial (fun _ => ?_)
                  clear hK K
                  (try simp only [Act.put, List.setIfInBounds_toArray, List.set_cons_zero, List.set_cons_succ])
                  refine wpAnyH_ready (rs := [8]) (by kernel_rfl) (by simp) ?_
                  refine wC (fun K hK => ?_) AllReadyH.nil
                  go_simp
                  refine hK.out _ _ trivial (fun _ => ?_)
                  clear hK K
                  (try simp only [Act.put, List.setIfInBounds_toArray, List.set_cons_zero, List.set_cons_succ])
                  refine wpAnyH_ready (rs := [9]) (by kernel_rfl) (by simp) ?_
                  refine wC (fun K hK => ?_) AllReadyH.nil
                  refine append_int_wp _ _ _ rfl w.heap.size _ P rfl O21.out t _ rfl rfl HLN.out B21.out.size ?_
                  intro v2 w7 own2 gr2
                  have O7 := hid own2
                  have B7 := hid (Below.grown B21.out gr2 B21.out.size (fun q e => O21.out.ge q e))
                  clear own2 gr2
                  refine hK.out _ _ trivial (fun _ => ?_)
                  clear hK K
                  (try simp only [Act.put, List.setIfInBounds_toArray, List.set_cons_zero, List.set_cons_succ])
                  refine wT 10 hS ?_
                  refine wpAnyH_done (by kernel_rfl) ?_ _
                  go_wp2_with fail
                  go_roundw
                  case rel => exact ⟨j, _, _, by omega, rfl, by first | rfl | omega, rfl, by rw [HRV.out]; exact O7.out, B7.out⟩
                  case measure => simp [intOf] <;> omega
            · have HRT := HRG.out t (List.mem_cons_self ..)
              have cn := hid (fun W => not_any t HRT.1 HRT.2 W)
              have HRV : Hid ((stack row (l.drop j)).reverse = s.reverse ++ [notI t]) := by
                show _ = _
                rw [HSK.out]
                show (notI t :: s).reverse = _
                rw [List.reverse_cons]
              have hsr : s.reverse.length ≤ 1000000 := by rw [List.length_reverse]; have := HSL.out; simp at this; omega
              rw [List.reverse_cons] at hown
              clear HSK HRG HAT HRT
              generalize notI t = nt at cn HRV
              generalize s.reverse = Q at *
              obtain ⟨gp, pcap, e, hpc, hpm, hgB, hgl, hcell⟩ := hown.ex (by simp)
              have ht := hcell Q.length (by simp)
              have hlen : (Q ++ [t]).length = Q.length + 1 := by simp
              rw [hlen] at e
              subst e
              have eg : (Q ++ [t])[Q.length]'(by simp) = t := by simp
              rw [eg] at ht
              obtain ⟨t0, tf⟩ := ht
              have O1 := hid ((hown.set nt).below (hba _ (.cells #[.int .i64 11, .int .i64 col, .int .i64 xk, .int .i64 xn, .int .u64 (xb : Int), .string xs] 65)))
              have HBZ := hid (hnext (HB.out.setCell (p := ⟨gp, Q.length, none⟩) hgB (.int .i64 nt)) (hba _ (.cells #[.int .i64 11, .int .i64 col, .int .i64 xk, .int .i64 xn, .int .u64 (xb : Int), .string xs] 65)))
              have hne : gp ≠ w4.heap.size := by omega
              clear hcell hown eg hpc hpm hlen HO
              generalize Q.length = n at *
              go_wp2_with fail
              refine (cn.out _).mono ?_; rintro e w5 ⟨rfl, rfl⟩
              go_wp2_with fail
              go_roundw
              case rel => exact ⟨j, _, _, by omega, rfl, by first | rfl | omega, rfl, by rw [HRV.out]; exact O1.out, HBZ.out⟩
              case measure => simp [intOf] <;> omega
            · rcases hop with rfl | rfl
              · have HRA := HRG.out a (List.mem_cons_self ..)
                have HRB := HRG.out b (List.mem_cons_of_mem _ (List.mem_cons_self ..))
                have ca := hid (fun W => and_any a b HRA.1 HRA.2 HRB.1 HRB.2 W)
                have HRV : Hid ((stack row (l.drop j)).reverse = s.reverse ++ [andI a b]) := by
                  show _ = _
                  rw [HSK.out]
                  show (andI a b :: s).reverse = _
                  rw [List.reverse_cons]
                have HLN : Hid (s.reverse.length ≤ 1000000) := by show _ ≤ _; rw [List.length_reverse]; have := HSL.out; simp at this; omega
                rw [List.reverse_cons, List.reverse_cons, List.append_assoc] at hown
                clear HSK HRG HAT HRA HRB
                generalize s.reverse = Q at *
                obtain ⟨gp, pcap, e, hpc, hpm, hgB, hgl, hcell⟩ := hown.ex (by simp)
                have ha := (hcell (Q.length + 1) (by simp)).1
                have hb := (hcell Q.length (by simp)).1
                have hlen : (Q ++ ([b] ++ [a])).length = Q.length + 2 := by simp
                rw [hlen] at e hpc
                subst e
                have eg : (Q ++ ([b] ++ [a]))[Q.length]'(by simp) = b := by simp
                have eg2 : (Q ++ ([b] ++ [a]))[Q.length + 1]'(by simp) = a := by simp
                rw [eg] at hb
                rw [eg2] at ha
                have OT := hid (OwnI.take hown)
                have hpc' : ((Q.length : Nat) : Int) + 2 ≤ (pcap : Int) := by omega
                have hpm' : (pcap : Int) ≤ 9223372036854775807 := by have := hpm; unfold maxLen at this; omega
                clear hcell hown eg eg2 hlen HO
                have hQ := HLN.out
                generalize hnQ : Q.length = n at *
                have HNQ := hid hnQ
                clear hnQ
                have wn : IntKind.i64.wrap (n : Int) = (n : Int) := by rw [IntKind.wrap_i64]; omega
                have n1 : (0 : Int) ≤ (n : Int) + 1 := by omega
                have np : (n : Int) ≤ (pcap : Int) := by omega
                have n2 : (n : Int) < (n : Int) + 2 := by omega
                have wt : (n : Int) + 2 - 1 = ((n + 1 : Nat) : Int) := by omega
                have hnb : (n : Int) + 2 ≤ 9223372036854775807 := by omega
                go_wp2_with fail
                refine wp_region_held_drew (S := fun _ => True) (by kernel_rfl) trivial (fun hS => ?_)
                obtain ⟨w20, hw20⟩ : ∃ w20, (w4.alloc (.cells #[.int .i64 9, .int .i64 col, .int .i64 xk, .int .i64 xn, .int .u64 (xb : Int), .string xs] 65)).drew = w20 := ⟨_, rfl⟩
                have hd20 : Below w4.heap.size w4 w20 := hw20 ▸ (hba w4 (.cells #[.int .i64 9, .int .i64 col, .int .i64 xk, .int .i64 xn, .int .u64 (xb : Int), .string xs] 65)).drew
                rw [hw20]
                have B20 := hid (hnext HB.out hd20)
                have O20 := hid (OT.out.below hd20)
                have ha' := hkeep ha hd20
                have hb' := hkeep hb hd20
                have S20 := hid B20.out.size
                clear ha hb OT HB HBX
                clear hd20 hw20
                refine wT 0 hS ?_
                refine wT 1 hS ?_
                refine wT 2 hS ?_
                refine wT 3 hS ?_
                refine wT 4 hS ?_
                refine wT 5 hS ?_
                refine wT 6 hS ?_
                refine wT 8 hS ?_
                refine wT 9 hS ?_
                refine wT 10 hS ?_
                refine wT 11 hS ?_
                refine wpAnyH_ready (rs := [7, 12]) (by kernel_rfl) (by simp) ?_
                refine wC (fun K hK => ?_) (wC (fun K hK => ?_) AllReadyH.nil)
                · go_simp
                  refine hK.out _ _ trivial (fun _ => ?_)
                  clear hK K
                  (try simp only [Act.put, List.setIfInBounds_toArray, List.set_cons_zero, List.set_cons_succ])
                  refine wpAnyH_ready (rs := [12]) (by kernel_rfl) (by simp) ?_
                  refine wC (fun K hK => ?_) AllReadyH.nil
                  go_simp
                  refine hK.out _ _ trivial (fun _ => ?_)
                  clear hK K
                  (try simp only [Act.put, List.setIfInBounds_toArray, List.set_cons_zero, List.set_cons_succ])
                  refine wpAnyH_ready (rs := [13]) (by kernel_rfl) (by simp) ?_
                  refine wC (fun K hK => ?_) AllReadyH.nil
                  go_simp
                  refine (ca.out _).mono ?_; rintro e w21 ⟨rfl, rfl⟩
                  go_wp2_with fail
                  refine hK.out _ _ trivial (fun _ => ?_)
                  clear hK K
                  (try simp only [Act.put, List.setIfInBounds_toArray, List.set_cons_zero, List.set_cons_succ])
                  refine wpAnyH_ready (rs := [14]) (by kernel_rfl) (by simp) ?_
                  refine wC (fun K hK => ?_) AllReadyH.nil
                  go_simp
                  refine hK.out _ _ trivial (fun _ => ?_)
                  clear hK K
                  (try simp only [Act.put, List.setIfInBounds_toArray, List.set_cons_zero, List.set_cons_succ])
                  refine wpAnyH_ready (rs := [15]) (by kernel_rfl) (by simp) ?_
                  refine wC (fun K hK => ?_) AllReadyH.nil
                  refine append_int_wp _ _ _ rfl w.heap.size _ Q rfl O20.out (andI a b) _ rfl rfl (by rw [HNQ.out]; exact HLN.out) S20.out ?_
                  intro v2 w7 own2 gr2
                  have O7 := hid own2
                  have B7 := hid (Below.grown B20.out gr2 S20.out (fun q e => O20.out.ge q e))
                  clear own2 gr2
                  refine hK.out _ _ trivial (fun _ => ?_)
                  clear hK K
                  (try simp only [Act.put, List.setIfInBounds_toArray, List.set_cons_zero, List.set_cons_succ])
                  refine wT 16 hS ?_
                  refine wpAnyH_done (by kernel_rfl) ?_ _
                  go_wp2_with fail
                  go_roundw
                  case rel => exact ⟨j, _, _, by omega, rfl, by first | rfl | omega, rfl, by rw [HRV.out]; exact O7.out, B7.out⟩
                  case measure => simp [intOf] <;> omega
                · go_simp
                  refine hK.out _ _ trivial (fun _ => ?_)
                  clear hK K
                  (try simp only [Act.put, List.setIfInBounds_toArray, List.set_cons_zero, List.set_cons_succ])
                  refine wpAnyH_ready (rs := [7]) (by kernel_rfl) (by simp) ?_
                  refine wC (fun K hK => ?_) AllReadyH.nil
                  go_simp
                  refine hK.out _ _ trivial (fun _ => ?_)
                  clear hK K
                  (try simp only [Act.put, List.setIfInBounds_toArray, List.set_cons_zero, List.set_cons_succ])
                  refine wpAnyH_ready (rs := [13]) (by kernel_rfl) (by simp) ?_
                  refine wC (fun K hK => ?_) AllReadyH.nil
                  go_simp
                  refine (ca.out _).mono ?_; rintro e w21 ⟨rfl, rfl⟩
                  go_wp2_with fail
                  refine hK.out _ _ trivial (fun _ => ?_)
                  clear hK K
                  (try simp only [Act.put, List.setIfInBounds_toArray, List.set_cons_zero, List.set_cons_succ])
                  refine wpAnyH_ready (rs := [14]) (by kernel_rfl) (by simp) ?_
                  refine wC (fun K hK => ?_) AllReadyH.nil
                  go_simp
                  refine hK.out _ _ trivial (fun _ => ?_)
                  clear hK K
                  (try simp only [Act.put, List.setIfInBounds_toArray, List.set_cons_zero, List.set_cons_succ])
                  refine wpAnyH_ready (rs := [15]) (by kernel_rfl) (by simp) ?_
                  refine wC (fun K hK => ?_) AllReadyH.nil
                  refine append_int_wp _ _ _ rfl w.heap.size _ Q rfl O20.out (andI a b) _ rfl rfl (by rw [HNQ.out]; exact HLN.out) S20.out ?_
                  intro v2 w7 own2 gr2
                  have O7 := hid own2
                  have B7 := hid (Below.grown B20.out gr2 S20.out (fun q e => O20.out.ge q e))
                  clear own2 gr2
                  refine hK.out _ _ trivial (fun _ => ?_)
                  clear hK K
                  (try simp only [Act.put, List.setIfInBounds_toArray, List.set_cons_zero, List.set_cons_succ])
                  refine wT 16 hS ?_
                  refine wpAnyH_done (by kernel_rfl) ?_ _
                  go_wp2_with fail
                  go_roundw
                  case rel => exact ⟨j, _, _, by omega, rfl, by first | rfl | omega, rfl, by rw [HRV.out]; exact O7.out, B7.out⟩
                  case measure => simp [intOf] <;> omega
              · have HRA := HRG.out a (List.mem_cons_self ..)
                have HRB := HRG.out b (List.mem_cons_of_mem _ (List.mem_cons_self ..))
                have c1 := hid (fun W => not_any a HRA.1 HRA.2 W)
                have c2 := hid (fun W => not_any b HRB.1 HRB.2 W)
                have c3 := hid (fun W => and_any (notI a) (notI b) (notI_range HRA).1 (notI_range HRA).2 (notI_range HRB).1 (notI_range HRB).2 W)
                have c4 := hid (fun W => not_any (andI (notI a) (notI b)) (andI_range _ _).1 (andI_range _ _).2 W)
                rw [show notI (andI (notI a) (notI b)) = orI a b from rfl] at c4
                have HRV : Hid ((stack row (l.drop j)).reverse = s.reverse ++ [orI a b]) := by
                  show _ = _
                  rw [HSK.out]
                  show (orI a b :: s).reverse = _
                  rw [List.reverse_cons]
                have HLN : Hid (s.reverse.length ≤ 1000000) := by show _ ≤ _; rw [List.length_reverse]; have := HSL.out; simp at this; omega
                rw [List.reverse_cons, List.reverse_cons, List.append_assoc] at hown
                clear HSK HRG HAT HRA HRB
                generalize s.reverse = Q at *
                obtain ⟨gp, pcap, e, hpc, hpm, hgB, hgl, hcell⟩ := hown.ex (by simp)
                have ha := (hcell (Q.length + 1) (by simp)).1
                have hb := (hcell Q.length (by simp)).1
                have hlen : (Q ++ ([b] ++ [a])).length = Q.length + 2 := by simp
                rw [hlen] at e hpc
                subst e
                have eg : (Q ++ ([b] ++ [a]))[Q.length]'(by simp) = b := by simp
                have eg2 : (Q ++ ([b] ++ [a]))[Q.length + 1]'(by simp) = a := by simp
                rw [eg] at hb
                rw [eg2] at ha
                have OT := hid (OwnI.take hown)
                have hpc' : ((Q.length : Nat) : Int) + 2 ≤ (pcap : Int) := by omega
                have hpm' : (pcap : Int) ≤ 9223372036854775807 := by have := hpm; unfold maxLen at this; omega
                clear hcell hown eg eg2 hlen HO
                have hQ := HLN.out
                generalize hnQ : Q.length = n at *
                have HNQ := hid hnQ
                clear hnQ
                have wn : IntKind.i64.wrap (n : Int) = (n : Int) := by rw [IntKind.wrap_i64]; omega
                have n1 : (0 : Int) ≤ (n : Int) + 1 := by omega
                have np : (n : Int) ≤ (pcap : Int) := by omega
                have n2 : (n : Int) < (n : Int) + 2 := by omega
                have wt : (n : Int) + 2 - 1 = ((n + 1 : Nat) : Int) := by omega
                have hnb : (n : Int) + 2 ≤ 9223372036854775807 := by omega
                go_wp2_with fail
                refine wp_region_held_drew (S := fun _ => True) (by kernel_rfl) trivial (fun hS => ?_)
                obtain ⟨w20, hw20⟩ : ∃ w20, (w4.alloc (.cells #[.int .i64 10, .int .i64 col, .int .i64 xk, .int .i64 xn, .int .u64 (xb : Int), .string xs] 65)).drew = w20 := ⟨_, rfl⟩
                have hd20 : Below w4.heap.size w4 w20 := hw20 ▸ (hba w4 (.cells #[.int .i64 10, .int .i64 col, .int .i64 xk, .int .i64 xn, .int .u64 (xb : Int), .string xs] 65)).drew
                rw [hw20]
                have B20 := hid (hnext HB.out hd20)
                have O20 := hid (OT.out.below hd20)
                have ha' := hkeep ha hd20
                have hb' := hkeep hb hd20
                have S20 := hid B20.out.size
                clear ha hb OT HB HBX
                clear hd20 hw20
                refine wT 0 hS ?_
                refine wT 1 hS ?_
                refine wT 2 hS ?_
                refine wT 3 hS ?_
                refine wT 4 hS ?_
                refine wT 5 hS ?_
                refine wT 6 hS ?_
                refine wT 9 hS ?_
                refine wT 10 hS ?_
                refine wT 11 hS ?_
                refine wT 12 hS ?_
                refine wpAnyH_ready (rs := [7, 13]) (by kernel_rfl) (by simp) ?_
                refine wC (fun K hK => ?_) (wC (fun K hK => ?_) AllReadyH.nil)
                · go_simp
                  refine hK.out _ _ trivial (fun _ => ?_)
                  clear hK K
                  (try simp only [Act.put, List.setIfInBounds_toArray, List.set_cons_zero, List.set_cons_succ])
                  refine wpAnyH_ready (rs := [8, 13]) (by kernel_rfl) (by simp) ?_
                  refine wC (fun K hK => ?_) (wC (fun K hK => ?_) AllReadyH.nil)
                  · go_simp
                    refine (c1.out _).mono ?_; rintro e w21 ⟨rfl, rfl⟩
                    go_wp2_with fail
                    refine hK.out _ _ trivial (fun _ => ?_)
                    clear hK K
                    (try simp only [Act.put, List.setIfInBounds_toArray, List.set_cons_zero, List.set_cons_succ])
                    refine wpAnyH_ready (rs := [13]) (by kernel_rfl) (by simp) ?_
                    refine wC (fun K hK => ?_) AllReadyH.nil
                    go_simp
                    refine hK.out _ _ trivial (fun _ => ?_)
                    clear hK K
                    (try simp only [Act.put, List.setIfInBounds_toArray, List.set_cons_zero, List.set_cons_succ])
                    refine wpAnyH_ready (rs := [14]) (by kernel_rfl) (by simp) ?_
                    refine wC (fun K hK => ?_) AllReadyH.nil
                    go_simp
                    refine (c2.out _).mono ?_; rintro e w21 ⟨rfl, rfl⟩
                    go_wp2_with fail
                    refine hK.out _ _ trivial (fun _ => ?_)
                    clear hK K
                    (try simp only [Act.put, List.setIfInBounds_toArray, List.set_cons_zero, List.set_cons_succ])
                    refine wpAnyH_ready (rs := [15]) (by kernel_rfl) (by simp) ?_
                    refine wC (fun K hK => ?_) AllReadyH.nil
                    go_simp
                    refine (c3.out _).mono ?_; rintro e w21 ⟨rfl, rfl⟩
                    go_wp2_with fail
                    refine hK.out _ _ trivial (fun _ => ?_)
                    clear hK K
                    (try simp only [Act.put, List.setIfInBounds_toArray, List.set_cons_zero, List.set_cons_succ])
                    refine wpAnyH_ready (rs := [16]) (by kernel_rfl) (by simp) ?_
                    refine wC (fun K hK => ?_) AllReadyH.nil
                    go_simp
                    refine (c4.out _).mono ?_; rintro e w21 ⟨rfl, rfl⟩
                    go_wp2_with fail
                    refine hK.out _ _ trivial (fun _ => ?_)
                    clear hK K
                    (try simp only [Act.put, List.setIfInBounds_toArray, List.set_cons_zero, List.set_cons_succ])
                    refine wpAnyH_ready (rs := [17]) (by kernel_rfl) (by simp) ?_
                    refine wC (fun K hK => ?_) AllReadyH.nil
                    go_simp
                    refine hK.out _ _ trivial (fun _ => ?_)
                    clear hK K
                    (try simp only [Act.put, List.setIfInBounds_toArray, List.set_cons_zero, List.set_cons_succ])
                    refine wpAnyH_ready (rs := [18]) (by kernel_rfl) (by simp) ?_
                    refine wC (fun K hK => ?_) AllReadyH.nil
                    refine append_int_wp _ _ _ rfl w.heap.size _ Q rfl O20.out (orI a b) _ rfl rfl (by rw [HNQ.out]; exact HLN.out) S20.out ?_
                    intro v2 w7 own2 gr2
                    have O7 := hid own2
                    have B7 := hid (Below.grown B20.out gr2 S20.out (fun q e => O20.out.ge q e))
                    clear own2 gr2
                    refine hK.out _ _ trivial (fun _ => ?_)
                    clear hK K
                    (try simp only [Act.put, List.setIfInBounds_toArray, List.set_cons_zero, List.set_cons_succ])
                    refine wT 19 hS ?_
                    refine wpAnyH_done (by kernel_rfl) ?_ _
                    go_wp2_with fail
                    go_roundw
                    case rel => exact ⟨j, _, _, by omega, rfl, by first | rfl | omega, rfl, by rw [HRV.out]; exact O7.out, B7.out⟩
                    case measure => simp [intOf] <;> omega
                  · go_simp
                    refine hK.out _ _ trivial (fun _ => ?_)
                    clear hK K
                    (try simp only [Act.put, List.setIfInBounds_toArray, List.set_cons_zero, List.set_cons_succ])
                    refine wpAnyH_ready (rs := [8]) (by kernel_rfl) (by simp) ?_
                    refine wC (fun K hK => ?_) AllReadyH.nil
                    go_simp
                    refine (c1.out _).mono ?_; rintro e w21 ⟨rfl, rfl⟩
                    go_wp2_with fail
                    refine hK.out _ _ trivial (fun _ => ?_)
                    clear hK K
                    (try simp only [Act.put, List.setIfInBounds_toArray, List.set_cons_zero, List.set_cons_succ])
                    refine wpAnyH_ready (rs := [14]) (by kernel_rfl) (by simp) ?_
                    refine wC (fun K hK => ?_) AllReadyH.nil
                    go_simp
                    refine (c2.out _).mono ?_; rintro e w21 ⟨rfl, rfl⟩
                    go_wp2_with fail
                    refine hK.out _ _ trivial (fun _ => ?_)
                    clear hK K
                    (try simp only [Act.put, List.setIfInBounds_toArray, List.set_cons_zero, List.set_cons_succ])
                    refine wpAnyH_ready (rs := [15]) (by kernel_rfl) (by simp) ?_
                    refine wC (fun K hK => ?_) AllReadyH.nil
                    go_simp
                    refine (c3.out _).mono ?_; rintro e w21 ⟨rfl, rfl⟩
                    go_wp2_with fail
                    refine hK.out _ _ trivial (fun _ => ?_)
                    clear hK K
                    (try simp only [Act.put, List.setIfInBounds_toArray, List.set_cons_zero, List.set_cons_succ])
                    refine wpAnyH_ready (rs := [16]) (by kernel_rfl) (by simp) ?_
                    refine wC (fun K hK => ?_) AllReadyH.nil
                    go_simp
                    refine (c4.out _).mono ?_; rintro e w21 ⟨rfl, rfl⟩
                    go_wp2_with fail
                    refine hK.out _ _ trivial (fun _ => ?_)
                    clear hK K
                    (try simp only [Act.put, List.setIfInBounds_toArray, List.set_cons_zero, List.set_cons_succ])
                    refine wpAnyH_ready (rs := [17]) (by kernel_rfl) (by simp) ?_
                    refine wC (fun K hK => ?_) AllReadyH.nil
                    go_simp
                    refine hK.out _ _ trivial (fun _ => ?_)
                    clear hK K
                    (try simp only [Act.put, List.setIfInBounds_toArray, List.set_cons_zero, List.set_cons_succ])
                    refine wpAnyH_ready (rs := [18]) (by kernel_rfl) (by simp) ?_
                    refine wC (fun K hK => ?_) AllReadyH.nil
                    refine append_int_wp _ _ _ rfl w.heap.size _ Q rfl O20.out (orI a b) _ rfl rfl (by rw [HNQ.out]; exact HLN.out) S20.out ?_
                    intro v2 w7 own2 gr2
                    have O7 := hid own2
                    have B7 := hid (Below.grown B20.out gr2 S20.out (fun q e => O20.out.ge q e))
                    clear own2 gr2
                    refine hK.out _ _ trivial (fun _ => ?_)
                    clear hK K
                    (try simp only [Act.put, List.setIfInBounds_toArray, List.set_cons_zero, List.set_cons_succ])
                    refine wT 19 hS ?_
                    refine wpAnyH_done (by kernel_rfl) ?_ _
                    go_wp2_with fail
                    go_roundw
                    case rel => exact ⟨j, _, _, by omega, rfl, by first | rfl | omega, rfl, by rw [HRV.out]; exact O7.out, B7.out⟩
                    case measure => simp [intOf] <;> omega
                · go_simp
                  refine hK.out _ _ trivial (fun _ => ?_)
                  clear hK K
                  (try simp only [Act.put, List.setIfInBounds_toArray, List.set_cons_zero, List.set_cons_succ])
                  refine wpAnyH_ready (rs := [7]) (by kernel_rfl) (by simp) ?_
                  refine wC (fun K hK => ?_) AllReadyH.nil
                  go_simp
                  refine hK.out _ _ trivial (fun _ => ?_)
                  clear hK K
                  (try simp only [Act.put, List.setIfInBounds_toArray, List.set_cons_zero, List.set_cons_succ])
                  refine wpAnyH_ready (rs := [8]) (by kernel_rfl) (by simp) ?_
                  refine wC (fun K hK => ?_) AllReadyH.nil
                  go_simp
                  refine (c1.out _).mono ?_; rintro e w21 ⟨rfl, rfl⟩
                  go_wp2_with fail
                  refine hK.out _ _ trivial (fun _ => ?_)
                  clear hK K
                  (try simp only [Act.put, List.setIfInBounds_toArray, List.set_cons_zero, List.set_cons_succ])
                  refine wpAnyH_ready (rs := [14]) (by kernel_rfl) (by simp) ?_
                  refine wC (fun K hK => ?_) AllReadyH.nil
                  go_simp
                  refine (c2.out _).mono ?_; rintro e w21 ⟨rfl, rfl⟩
                  go_wp2_with fail
                  refine hK.out _ _ trivial (fun _ => ?_)
                  clear hK K
                  (try simp only [Act.put, List.setIfInBounds_toArray, List.set_cons_zero, List.set_cons_succ])
                  refine wpAnyH_ready (rs := [15]) (by kernel_rfl) (by simp) ?_
                  refine wC (fun K hK => ?_) AllReadyH.nil
                  go_simp
                  refine (c3.out _).mono ?_; rintro e w21 ⟨rfl, rfl⟩
                  go_wp2_with fail
                  refine hK.out _ _ trivial (fun _ => ?_)
                  clear hK K
                  (try simp only [Act.put, List.setIfInBounds_toArray, List.set_cons_zero, List.set_cons_succ])
                  refine wpAnyH_ready (rs := [16]) (by kernel_rfl) (by simp) ?_
                  refine wC (fun K hK => ?_) AllReadyH.nil
                  go_simp
                  refine (c4.out _).mono ?_; rintro e w21 ⟨rfl, rfl⟩
                  go_wp2_with fail
                  refine hK.out _ _ trivial (fun _ => ?_)
                  clear hK K
                  (try simp only [Act.put, List.setIfInBounds_toArray, List.set_cons_zero, List.set_cons_succ])
                  refine wpAnyH_ready (rs := [17]) (by kernel_rfl) (by simp) ?_
                  refine wC (fun K hK => ?_) AllReadyH.nil
                  go_simp
                  refine hK.out _ _ trivial (fun _ => ?_)
                  clear hK K
                  (try simp only [Act.put, List.setIfInBounds_toArray, List.set_cons_zero, List.set_cons_succ])
                  refine wpAnyH_ready (rs := [18]) (by kernel_rfl) (by simp) ?_
                  refine wC (fun K hK => ?_) AllReadyH.nil
                  refine append_int_wp _ _ _ rfl w.heap.size _ Q rfl O20.out (orI a b) _ rfl rfl (by rw [HNQ.out]; exact HLN.out) S20.out ?_
                  intro v2 w7 own2 gr2
                  have O7 := hid own2
                  have B7 := hid (Below.grown B20.out gr2 S20.out (fun q e => O20.out.ge q e))
                  clear own2 gr2
                  refine hK.out _ _ trivial (fun _ => ?_)
                  clear hK K
                  (try simp only [Act.put, List.setIfInBounds_toArray, List.set_cons_zero, List.set_cons_succ])
                  refine wT 19 hS ?_
                  refine wpAnyH_done (by kernel_rfl) ?_ _
                  go_wp2_with fail
                  go_roundw
                  case rel => exact ⟨j, _, _, by omega, rfl, by first | rfl | omega, rfl, by rw [HRV.out]; exact O7.out, B7.out⟩
                  case measure => simp [intOf] <;> omega
end Go.Proofs.Ytmcneelapghfcaa
