/-
  Which transactions are right: the contracts of Right, of the program and of the reference. Conditions: the sizes that the statements hold.
-/
import Derived.Test.YtmmegicaeaifaaaFu
namespace Go.Proofs.Ytmmegicaeaifaaa
open Go.RowKit Fr

/-- changes that the statements hold -/
def Hok (l : List Ch) : Prop := l.length ≤ 9223372036854775807 ∧ ∀ c ∈ l, Chk c ∧ c.row.length ≤ 9223372036854775807
theorem txB_no {t : Tx} {k : Nat} (hk : k < t.cs.length) (h : chB t.cs[k] = false) : txB t = false := by
  unfold txB
  have : t.cs.all chB = false := List.all_eq_false.2 ⟨t.cs[k], List.getElem_mem hk, by rw [h]; decide⟩
  rw [this, Bool.false_and]
theorem chs_snoc {l : List Ch} {k : Nat} (hk : k < l.length) (h0 : (l.take k).all chB = true) (h : chB l[k] = true) : (l.take (k + 1)).all chB = true := by
  rw [List.take_succ_eq_append_getElem hk, List.all_append, h0]
  simp [h]
theorem txB_all {t : Tx} (h : t.cs.all chB = true) : txB t = headB t := by unfold txB; rw [h, Bool.true_and]
set_option maxRecDepth 100000 in
set_option maxHeartbeats 6400000 in
theorem fright_any (t : Tx) (v : Value) (w : World) (hv : HsAt w v t.cs) (hk : Hok t.cs) : Calls Try.prog 11 #[tv t v] w fun e w' => e = .returned (.bool (txB t)) ∧ Below w.heap.size w w' := by
  have hbx := hba w (.cells #[.int .i64 t.seq, .int .i64 t.time, v] 24)
  have BX := hid (BT.new w t v)
  have LB := hid hbx
  have HK := hid hk.2
  have hl := hk.1
  obtain ⟨adr, cap, rfl, hc⟩ := hv
  have HC := hid hc
  clear hc hk hbx
  unfold tv
  obtain ⟨s0, s1, s2, g0, g1, g2, sl⟩ := BX.out.cells
  clear g0 g1 g2
  go_enter Try.func11, Try.ntmps11
  go_wp2_with fail
  clear s0 s1 s2 sl
  go_loopw [8] (fun i wr => ∃ k : Nat, k ≤ t.cs.length ∧ i = .int .i64 (k : Int) ∧ Hid ((t.cs.take k).all chB = true) ∧ Below w.heap.size w wr ∧ BT wr w.heap.size t (.slice adr t.cs.length cap)) (fun i _ => t.cs.length - (intOf i).toNat)
  case atStart => exact ⟨0, by omega, rfl, rfl, LB.out, BX.out⟩
  case round =>
    obtain ⟨k, hk, rfl, hall, hbel, hbt⟩ := hrel
    obtain ⟨w4, rfl⟩ : ∃ w4 : World, w4 = wr := ⟨_, rfl⟩
    have hk0 : (0 : Int) ≤ (k : Int) := by omega
    have HB0 := hid hbel
    have BT4 := hid hbt
    by_cases hkl : k < t.cs.length
    · have hkl' : (k : Int) < (t.cs.length : Int) := by omega
      obtain ⟨g, off, vr, vc, rfl, q0, q1, q2, q3, q4, q5, q6, q7, p1, p2⟩ := HC.out k hkl
      have HN := hid (txB_no hkl)
      have HA := hid (chs_snoc hkl hall.out)
      have hxs := HK.out t.cs[k] (List.getElem_mem hkl)
      generalize hx : t.cs[k] = c at q0 q1 q2 q3 q4 q5 q6 q7 p1 p2 HN HA hxs
      clear hx
      obtain ⟨radr, rcap, rfl⟩ := vs_slc p1
      obtain ⟨cadr, ccap, rfl⟩ := p2.slc
      replace q0 := hkeep q0 hbel
      replace q1 := hkeep q1 hbel
      replace q2 := hkeep q2 hbel
      replace q3 := hkeep q3 hbel
      replace q4 := hkeep q4 hbel
      replace q5 := hkeep q5 hbel
      replace q6 := hkeep q6 hbel
      replace q7 := hkeep q7 hbel
      have hb1 := hba w4 (.cells #[.int .i64 c.op, .string c.table, .slice radr c.row.length rcap, .int .i64 c.fr, .int .i64 c.to, .string c.df.name, .slice cadr c.df.cols.length ccap, .int .i64 c.df.keys] 32)
      have cr0 := fchange_any c _ _ _ ((p1.below hbel).below hb1) ((p2.below hbel).below hb1) hxs.1 hxs.2
      have HB1 := hid (hnext hbel hb1)
      replace BT4 := hid (hbt.keep hb1)
      unfold cvv at cr0
      clear hbel hall hxs hbt p1 p2 hb1
      cases hr : chB c with
      | false =>
        rw [hr] at cr0
        have cr := hid cr0
        have HR : Hid (txB t = false) := HN.out hr
        clear cr0 hr HN HA
        go_wp2_with fail
        refine cr.out.mono ?_; rintro e w5 ⟨rfl, b5⟩
        have HB2 := hid (hnext HB1.out b5)
        clear b5
        go_wp2_with fail
        go_ret
        rw [HR.out]
        exact ⟨rfl, HB2.out⟩
      | true =>
        rw [hr] at cr0
        have cr := hid cr0
        have HA2 := hid (HA.out hr)
        clear cr0 hr HN HA
        go_wp2_with fail
        refine cr.out.mono ?_; rintro e w5 ⟨rfl, b5⟩
        have HB2 := hid (hnext HB1.out b5)
        have BT5 := hid (BT4.out.keep b5)
        clear b5
        go_wp2_with fail
        go_roundw
        case rel => exact ⟨k + 1, by omega, by first | rfl | go_num, HA2, HB2.out, BT5.out⟩
        case measure => simp [intOf]; omega
    · obtain rfl : k = t.cs.length := by omega
      have hall2 := hall.out
      rw [List.take_length] at hall2
      have HE : Hid (txB t = (decide (1 ≤ t.seq) && (decide (t.seq ≤ 1099511627776) && (decide (0 ≤ t.time) && (decide (t.time < 1099511627776) && decide (t.cs.length ≤ 100)))))) := txB_all hall2
      obtain ⟨s0, s1, s2, g0, g1, g2, sl⟩ := hbt.cells
      clear hall hall2 hkl hbel hbt g0 g1 g2 HC HK LB BX
      obtain ⟨seq, time, cs⟩ := t
      simp only at *
      have h5 : decide ((cs.length : Int) ≤ 100) = decide (cs.length ≤ 100) := by rw [decide_eq_decide]; omega
      generalize hf0 : decide (1 ≤ seq) = r0 at HE
      generalize hf1 : decide (seq ≤ 1099511627776) = r1 at HE
      generalize hf2 : decide (0 ≤ time) = r2 at HE
      generalize hf3 : decide (time < 1099511627776) = r3 at HE
      generalize hf4 : decide (cs.length ≤ 100) = r4 at HE h5
      cases r0 with
      | false =>
        have g0 : ¬ 1 ≤ seq := of_decide_eq_false hf0
        clear hf0 hf1 hf2 hf3 hf4 h5
        go_wp2_with fail
        go_ret
        rw [HE.out]
        exact ⟨by simp, HB0.out⟩
      | true =>
        have g0 : 1 ≤ seq := of_decide_eq_true hf0
        clear hf0
        cases r1 with
        | false =>
          have g1 : ¬ seq ≤ 1099511627776 := of_decide_eq_false hf1
          clear hf1 hf2 hf3 hf4 h5
          go_wp2_with fail
          go_ret
          rw [HE.out]
          exact ⟨by simp, HB0.out⟩
        | true =>
          have g1 : seq ≤ 1099511627776 := of_decide_eq_true hf1
          clear hf1
          cases r2 with
          | false =>
            have g2 : ¬ 0 ≤ time := of_decide_eq_false hf2
            clear hf2 hf3 hf4 h5
            go_wp2_with fail
            go_ret
            rw [HE.out]
            exact ⟨by simp, HB0.out⟩
          | true =>
            have g2 : 0 ≤ time := of_decide_eq_true hf2
            clear hf2
            cases r3 with
            | false =>
              have g3 : ¬ time < 1099511627776 := of_decide_eq_false hf3
              clear hf3 hf4 h5
              go_wp2_with fail
              go_ret
              rw [HE.out]
              exact ⟨by simp, HB0.out⟩
            | true =>
              have g3 : time < 1099511627776 := of_decide_eq_true hf3
              clear hf3
              cases r4 with
              | false =>
                have g4 : ¬ (cs.length : Int) ≤ 100 := of_decide_eq_false h5
                clear hf4 h5
                go_wp2_with fail
                go_ret
                rw [HE.out]
                exact ⟨by simp, HB0.out⟩
              | true =>
                have g4 : (cs.length : Int) ≤ 100 := of_decide_eq_true h5
                clear hf4 h5
                go_wp2_with fail
                go_ret
                rw [HE.out]
                exact ⟨by simp, HB0.out⟩
set_option maxRecDepth 100000 in
set_option maxHeartbeats 6400000 in
theorem frightR_any (t : Tx) (v : Value) (w : World) (hv : HsAt w v t.cs) (hk : Hok t.cs) : Calls Try.prog 12 #[tv t v] w fun e w' => e = .returned (.bool (txB t)) ∧ Below w.heap.size w w' := by
  have hbx := hba w (.cells #[.int .i64 t.seq, .int .i64 t.time, v] 24)
  have BX := hid (BT.new w t v)
  have LB := hid hbx
  have HK := hid hk.2
  have hl := hk.1
  obtain ⟨adr, cap, rfl, hc⟩ := hv
  have HC := hid hc
  clear hc hk hbx
  unfold tv
  obtain ⟨s0, s1, s2, g0, g1, g2, sl⟩ := BX.out.cells
  clear g0 g1 g2
  go_enter Try.func12, Try.ntmps12
  go_wp2_with fail
  clear s0 s1 s2 sl
  go_loopw [3] (fun i wr => ∃ k : Nat, k ≤ t.cs.length ∧ i = .int .i64 (k : Int) ∧ Hid ((t.cs.take k).all chB = true) ∧ Below w.heap.size w wr ∧ BT wr w.heap.size t (.slice adr t.cs.length cap)) (fun i _ => t.cs.length - (intOf i).toNat)
  case atStart => exact ⟨0, by omega, rfl, rfl, LB.out, BX.out⟩
  case round =>
    obtain ⟨k, hk, rfl, hall, hbel, hbt⟩ := hrel
    obtain ⟨w4, rfl⟩ : ∃ w4 : World, w4 = wr := ⟨_, rfl⟩
    have hk0 : (0 : Int) ≤ (k : Int) := by omega
    have HB0 := hid hbel
    have BT4 := hid hbt
    by_cases hkl : k < t.cs.length
    · have hkl' : (k : Int) < (t.cs.length : Int) := by omega
      obtain ⟨g, off, vr, vc, rfl, q0, q1, q2, q3, q4, q5, q6, q7, p1, p2⟩ := HC.out k hkl
      have HN := hid (txB_no hkl)
      have HA := hid (chs_snoc hkl hall.out)
      have hxs := HK.out t.cs[k] (List.getElem_mem hkl)
      generalize hx : t.cs[k] = c at q0 q1 q2 q3 q4 q5 q6 q7 p1 p2 HN HA hxs
      clear hx
      obtain ⟨radr, rcap, rfl⟩ := vs_slc p1
      obtain ⟨cadr, ccap, rfl⟩ := p2.slc
      replace q0 := hkeep q0 hbel
      replace q1 := hkeep q1 hbel
      replace q2 := hkeep q2 hbel
      replace q3 := hkeep q3 hbel
      replace q4 := hkeep q4 hbel
      replace q5 := hkeep q5 hbel
      replace q6 := hkeep q6 hbel
      replace q7 := hkeep q7 hbel
      have cr0 := fchangeR_any c _ _ w4 (p1.below hbel) (p2.below hbel) hxs.1 hxs.2
      have HB1 := hid hbel
      obtain ⟨s0, s1, s2, g0, g1, g2, sl⟩ := hbt.cells
      clear g0 g1 g2
      unfold cvv at cr0
      clear hbel hall hxs hbt p1 p2
      cases hr : chB c with
      | false =>
        rw [hr] at cr0
        have cr := hid cr0
        have HR : Hid (txB t = false) := HN.out hr
        clear cr0 hr HN HA
        go_wp2_with fail
        refine cr.out.mono ?_; rintro e w5 ⟨rfl, b5⟩
        have HB2 := hid (hnext HB1.out b5)
        clear b5
        go_wp2_with fail
        go_ret
        rw [HR.out]
        exact ⟨rfl, HB2.out⟩
      | true =>
        rw [hr] at cr0
        have cr := hid cr0
        have HA2 := hid (HA.out hr)
        clear cr0 hr HN HA
        go_wp2_with fail
        refine cr.out.mono ?_; rintro e w5 ⟨rfl, b5⟩
        have HB2 := hid (hnext HB1.out b5)
        have BT5 := hid (BT4.out.keep b5)
        clear b5
        go_wp2_with fail
        go_roundw
        case rel => exact ⟨k + 1, by omega, by first | rfl | go_num, HA2, HB2.out, BT5.out⟩
        case measure => simp [intOf]; omega
    · obtain rfl : k = t.cs.length := by omega
      have hall2 := hall.out
      rw [List.take_length] at hall2
      have HE : Hid (txB t = (decide (1 ≤ t.seq) && (decide (t.seq ≤ 1099511627776) && (decide (0 ≤ t.time) && (decide (t.time < 1099511627776) && decide (t.cs.length ≤ 100)))))) := txB_all hall2
      obtain ⟨s0, s1, s2, g0, g1, g2, sl⟩ := hbt.cells
      clear hall hall2 hkl hbel hbt g0 g1 g2 HC HK LB BX
      obtain ⟨seq, time, cs⟩ := t
      simp only at *
      have h5 : decide ((cs.length : Int) ≤ 100) = decide (cs.length ≤ 100) := by rw [decide_eq_decide]; omega
      generalize hf0 : decide (1 ≤ seq) = r0 at HE
      generalize hf1 : decide (seq ≤ 1099511627776) = r1 at HE
      generalize hf2 : decide (0 ≤ time) = r2 at HE
      generalize hf3 : decide (time < 1099511627776) = r3 at HE
      generalize hf4 : decide (cs.length ≤ 100) = r4 at HE h5
      cases r0 with
      | false =>
        have g0 : ¬ 1 ≤ seq := of_decide_eq_false hf0
        clear hf0 hf1 hf2 hf3 hf4 h5
        go_wp2_with fail
        go_ret
        rw [HE.out]
        exact ⟨by simp, HB0.out⟩
      | true =>
        have g0 : 1 ≤ seq := of_decide_eq_true hf0
        clear hf0
        cases r1 with
        | false =>
          have g1 : ¬ seq ≤ 1099511627776 := of_decide_eq_false hf1
          clear hf1 hf2 hf3 hf4 h5
          go_wp2_with fail
          go_ret
          rw [HE.out]
          exact ⟨by simp, HB0.out⟩
        | true =>
          have g1 : seq ≤ 1099511627776 := of_decide_eq_true hf1
          clear hf1
          cases r2 with
          | false =>
            have g2 : ¬ 0 ≤ time := of_decide_eq_false hf2
            clear hf2 hf3 hf4 h5
            go_wp2_with fail
            go_ret
            rw [HE.out]
            exact ⟨by simp, HB0.out⟩
          | true =>
            have g2 : 0 ≤ time := of_decide_eq_true hf2
            clear hf2
            cases r3 with
            | false =>
              have g3 : ¬ time < 1099511627776 := of_decide_eq_false hf3
              clear hf3 hf4 h5
              go_wp2_with fail
              go_ret
              rw [HE.out]
              exact ⟨by simp, HB0.out⟩
            | true =>
              have g3 : time < 1099511627776 := of_decide_eq_true hf3
              clear hf3
              cases r4 with
              | false =>
                have g4 : ¬ (cs.length : Int) ≤ 100 := of_decide_eq_false h5
                clear hf4 h5
                go_wp2_with fail
                go_ret
                rw [HE.out]
                exact ⟨by simp, HB0.out⟩
              | true =>
                have g4 : (cs.length : Int) ≤ 100 := of_decide_eq_true h5
                clear hf4 h5
                go_wp2_with fail
                go_ret
                rw [HE.out]
                exact ⟨by simp, HB0.out⟩
end Go.Proofs.Ytmmegicaeaifaaa
