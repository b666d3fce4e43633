/-
  Which changes are right: the contracts of row, span and Change, of the program and of the reference. Conditions: the sizes that the statements hold.
-/
import Derived.Test.YtmmegicaeaifaaaFr
namespace Go.Proofs.Ytmmegicaeaifaaa
open Go.RowKit Fr

theorem all_snoc {l : List Cd.V} {k : Nat} (hk : k < l.length) (h0 : (l.take k).all Cd.V.right = true) (h : l[k].right = true) : (l.take (k + 1)).all Cd.V.right = true := by
  rw [List.take_succ_eq_append_getElem hk, List.all_append, h0]
  simp [h]
theorem rowB_no {l : List Cd.V} {m k : Nat} (hk : k < l.length) (h : l[k].right = false) : rowB l m = false := by
  unfold rowB
  have : l.all Cd.V.right = false := List.all_eq_false.2 ⟨l[k], List.getElem_mem hk, by rw [h]; decide⟩
  rw [this, Bool.false_and]
theorem rowB_all {l : List Cd.V} {m : Nat} (h : l.all Cd.V.right = true) : rowB l m = (decide (1 ≤ l.length) && decide (l.length ≤ m)) := by unfold rowB; rw [h, Bool.true_and]
set_option maxRecDepth 100000 in
set_option maxHeartbeats 6400000 in
theorem frow_any (v : Value) (l : List Cd.V) (m : Nat) (w : World) (hv : VsAt w v l) (hok : ∀ x ∈ l, Vok x) (hl : l.length ≤ 9223372036854775807) : Calls Try.prog 31 #[v, .int .i64 (m : Int)] w fun e w' => e = .returned (.bool (rowB l m)) ∧ Below w.heap.size w w' := by
  obtain ⟨adr, cap, rfl, hc⟩ := hv
  have HC := hid hc
  have HOK := hid hok
  clear hc hok
  go_enter Try.func31, Try.ntmps31
  go_wp2_with fail
  go_loopw [9] (fun i wr => ∃ k : Nat, k ≤ l.length ∧ i = .int .i64 (k : Int) ∧ Hid ((l.take k).all Cd.V.right = true) ∧ Below w.heap.size w wr) (fun i _ => l.length - (intOf i).toNat)
  case atStart => exact ⟨0, by omega, rfl, rfl, Below.refl _ _⟩
  case round =>
    obtain ⟨k, hk, rfl, hall, hbel⟩ := hrel
    obtain ⟨w4, rfl⟩ : ∃ w4 : World, w4 = wr := ⟨_, rfl⟩
    have hk0 : (0 : Int) ≤ (k : Int) := by omega
    by_cases hkl : k < l.length
    · have hkl' : (k : Int) < (l.length : Int) := by omega
      obtain ⟨g, off, rfl, q0, q1, q2, q3⟩ := HC.out k hkl
      have HN := hid (rowB_no (m := m) hkl)
      have HA := hid (all_snoc hkl hall.out)
      have hxs := HOK.out l[k] (List.getElem_mem hkl)
      generalize hx : l[k] = x at q0 q1 q2 q3 HN HA hxs
      clear hx
      obtain ⟨xk, xn, xb, xs⟩ := x
      simp only at q0 q1 q2 q3
      have cr0 := fun W => right_any xk xn xb xs hxs.2.2 W
      unfold vv at cr0
      replace q0 := hkeep q0 hbel
      replace q1 := hkeep q1 hbel
      replace q2 := hkeep q2 hbel
      replace q3 := hkeep q3 hbel
      have HB0 := hid hbel
      have HB1 := hid (hnext hbel (hba w4 (.cells #[.int .i64 xk, .int .i64 xn, .int .u64 (xb : Int), .string xs] 59)))
      clear hbel hall
      cases hr : Va.right xk xn xb xs with
      | false =>
        rw [hr] at cr0
        have cr := hid cr0
        have HR : Hid (rowB l m = false) := HN.out hr
        clear cr0 hr HN HA
        go_wp2_with fail
        refine (cr.out _).mono ?_; rintro e w5 ⟨rfl, b5⟩
        have HB2 := hid (hnext HB1.out b5)
        clear b5
        go_wp2_with fail
        go_ret
        rw [HR.out]
        exact ⟨rfl, HB2.out⟩
      | true =>
        rw [hr] at cr0
        have cr := hid cr0
        have HA2 := hid (HA.out hr)
        clear cr0 hr HN HA
        go_wp2_with fail
        refine (cr.out _).mono ?_; rintro e w5 ⟨rfl, b5⟩
        have HB2 := hid (hnext HB1.out b5)
        clear b5
        go_wp2_with fail
        go_roundw
        case rel => exact ⟨k + 1, by omega, by first | rfl | go_num, HA2, HB2.out⟩
        case measure => simp [intOf]; omega
    · obtain rfl : k = l.length := by omega
      have hall2 := hall.out
      rw [List.take_length] at hall2
      have HE := hid (rowB_all (m := m) hall2)
      clear hall hall2 hkl
      have HB := hid hbel
      clear hbel
      by_cases h1 : 1 ≤ l.length
      · have h1' : (0 : Int) < (l.length : Int) := by omega
        have h1'' : (1 : Int) ≤ (l.length : Int) := by omega
        by_cases h2 : l.length ≤ m
        · have h2' : (l.length : Int) ≤ (m : Int) := by omega
          have HR : Hid (rowB l m = true) := by show _ = _; rw [HE.out, decide_eq_true h1, decide_eq_true h2]; rfl
          clear h1 h2 HE
          go_wp2_with fail
          go_ret
          rw [HR.out]
          exact ⟨rfl, HB.out⟩
        · have h2' : ¬ (l.length : Int) ≤ (m : Int) := by omega
          have HR : Hid (rowB l m = false) := by show _ = _; rw [HE.out, decide_eq_false h2, Bool.and_false]
          clear h1 h2 HE
          go_wp2_with fail
          go_ret
          rw [HR.out]
          exact ⟨rfl, HB.out⟩
      · have h1' : ¬ (0 : Int) < (l.length : Int) := by omega
        have h1'' : ¬ (1 : Int) ≤ (l.length : Int) := by omega
        have HR : Hid (rowB l m = false) := by show _ = _; rw [HE.out, decide_eq_false h1, Bool.false_and]
        clear h1 HE
        go_wp2_with fail
        go_ret
        rw [HR.out]
        exact ⟨rfl, HB.out⟩
set_option maxRecDepth 100000 in
set_option maxHeartbeats 6400000 in
theorem frowR_any (v : Value) (l : List Cd.V) (m : Nat) (w : World) (hv : VsAt w v l) (hok : ∀ x ∈ l, Vok x) (hl : l.length ≤ 9223372036854775807) : Calls Try.prog 36 #[v, .int .i64 (m : Int)] w fun e w' => e = .returned (.bool (rowB l m)) ∧ Below w.heap.size w w' := by
  obtain ⟨adr, cap, rfl, hc⟩ := hv
  have HC := hid hc
  have HOK := hid hok
  clear hc hok
  go_enter Try.func36, Try.ntmps36
  go_wp2_with fail
  go_loopw [5] (fun i wr => ∃ k : Nat, k ≤ l.length ∧ i = .int .i64 (k : Int) ∧ Hid ((l.take k).all Cd.V.right = true) ∧ Below w.heap.size w wr) (fun i _ => l.length - (intOf i).toNat)
  case atStart => exact ⟨0, by omega, rfl, rfl, Below.refl _ _⟩
  case round =>
    obtain ⟨k, hk, rfl, hall, hbel⟩ := hrel
    obtain ⟨w4, rfl⟩ : ∃ w4 : World, w4 = wr := ⟨_, rfl⟩
    have hk0 : (0 : Int) ≤ (k : Int) := by omega
    by_cases hkl : k < l.length
    · have hkl' : (k : Int) < (l.length : Int) := by omega
      obtain ⟨g, off, rfl, q0, q1, q2, q3⟩ := HC.out k hkl
      have HN := hid (rowB_no (m := m) hkl)
      have HA := hid (all_snoc hkl hall.out)
      have hxs := HOK.out l[k] (List.getElem_mem hkl)
      generalize hx : l[k] = x at q0 q1 q2 q3 HN HA hxs
      clear hx
      obtain ⟨xk, xn, xb, xs⟩ := x
      simp only at q0 q1 q2 q3
      have cr0 := fun W => rightR_any xk xn xb xs hxs.2.2 hxs.2.1 W
      unfold vv at cr0
      replace q0 := hkeep q0 hbel
      replace q1 := hkeep q1 hbel
      replace q2 := hkeep q2 hbel
      replace q3 := hkeep q3 hbel
      have HB0 := hid hbel
      have HB1 := hid hbel
      clear hbel hall
      cases hr : Va.right xk xn xb xs with
      | false =>
        rw [hr] at cr0
        have cr := hid cr0
        have HR : Hid (rowB l m = false) := HN.out hr
        clear cr0 hr HN HA
        go_wp2_with fail
        refine (cr.out _).mono ?_; rintro e w5 ⟨rfl, b5⟩
        have HB2 := hid (hnext HB1.out b5)
        clear b5
        go_wp2_with fail
        go_ret
        rw [HR.out]
        exact ⟨rfl, HB2.out⟩
      | true =>
        rw [hr] at cr0
        have cr := hid cr0
        have HA2 := hid (HA.out hr)
        clear cr0 hr HN HA
        go_wp2_with fail
        refine (cr.out _).mono ?_; rintro e w5 ⟨rfl, b5⟩
        have HB2 := hid (hnext HB1.out b5)
        clear b5
        go_wp2_with fail
        go_roundw
        case rel => exact ⟨k + 1, by omega, by first | rfl | go_num, HA2, HB2.out⟩
        case measure => simp [intOf]; omega
    · obtain rfl : k = l.length := by omega
      have hall2 := hall.out
      rw [List.take_length] at hall2
      have HE := hid (rowB_all (m := m) hall2)
      clear hall hall2 hkl
      have HB := hid hbel
      clear hbel
      by_cases h1 : 1 ≤ l.length
      · have h1' : (0 : Int) < (l.length : Int) := by omega
        have h1'' : (1 : Int) ≤ (l.length : Int) := by omega
        by_cases h2 : l.length ≤ m
        · have h2' : (l.length : Int) ≤ (m : Int) := by omega
          have HR : Hid (rowB l m = true) := by show _ = _; rw [HE.out, decide_eq_true h1, decide_eq_true h2]; rfl
          clear h1 h2 HE
          go_wp2_with fail
          go_ret
          rw [HR.out]
          exact ⟨rfl, HB.out⟩
        · have h2' : ¬ (l.length : Int) ≤ (m : Int) := by omega
          have HR : Hid (rowB l m = false) := by show _ = _; rw [HE.out, decide_eq_false h2, Bool.and_false]
          clear h1 h2 HE
          go_wp2_with fail
          go_ret
          rw [HR.out]
          exact ⟨rfl, HB.out⟩
      · have h1' : ¬ (0 : Int) < (l.length : Int) := by omega
        have h1'' : ¬ (1 : Int) ≤ (l.length : Int) := by omega
        have HR : Hid (rowB l m = false) := by show _ = _; rw [HE.out, decide_eq_false h1, Bool.false_and]
        clear h1 HE
        go_wp2_with fail
        go_ret
        rw [HR.out]
        exact ⟨rfl, HB.out⟩
set_option maxRecDepth 100000 in
set_option maxHeartbeats 6400000 in
theorem fspan_any (a b : Int) (w : World) : Calls Try.prog 32 #[.agg #[.int .i64 a, .int .i64 b]] w fun e w' => e = .returned (.bool (spanB a b)) ∧ Below w.heap.size w w' := by
  have LB := hid (hba w (.cells #[.int .i64 a, .int .i64 b] 27))
  by_cases h0 : 0 ≤ a
  · by_cases h1 : a < b
    · by_cases h2 : b ≤ 1099511627776
      · have HR : Hid (spanB a b = true) := by show _ = _; unfold spanB; simp; omega
        go_enter Try.func32, Try.ntmps32
        go_wp2_with fail
        go_ret
        rw [HR.out]
        exact ⟨rfl, LB.out⟩
      · have HR : Hid (spanB a b = false) := by show _ = _; unfold spanB; simp; omega
        go_enter Try.func32, Try.ntmps32
        go_wp2_with fail
        go_ret
        rw [HR.out]
        exact ⟨rfl, LB.out⟩
    · have HR : Hid (spanB a b = false) := by show _ = _; unfold spanB; simp; omega
      go_enter Try.func32, Try.ntmps32
      go_wp2_with fail
      go_ret
      rw [HR.out]
      exact ⟨rfl, LB.out⟩
  · have HR : Hid (spanB a b = false) := by show _ = _; unfold spanB; simp; omega
    go_enter Try.func32, Try.ntmps32
    go_wp2_with fail
    go_ret
    rw [HR.out]
    exact ⟨rfl, LB.out⟩
set_option maxRecDepth 100000 in
set_option maxHeartbeats 6400000 in
theorem fchange_any (c : Ch) (vr vc : Value) (w : World) (h1 : VsAt w vr c.row) (h2 : CsAt w vc c.df.cols) (hk : Chk c) (hl : c.row.length ≤ 9223372036854775807) : Calls Try.prog 13 #[cvv c vr vc] w fun e w' => e = .returned (.bool (chB c)) ∧ Below w.heap.size w w' := by
  have hbx := hba w (.cells #[.int .i64 c.op, .string c.table, vr, .int .i64 c.fr, .int .i64 c.to, .string c.df.name, vc, .int .i64 c.df.keys] 32)
  have VR := hid (h1.below hbx)
  have VC := hid (h2.below hbx)
  have LB := hid hbx
  have BX := hid (BH.new w c vr vc)
  have c1 := fun W (h : CsAt W vc c.df.cols) => right_sc c.df vc W h hk.2.2.2.2.2
  have c2 := fun W => (name_any c.table hk.2.2.2.1 W).mono (R' := fun e w' => e = .returned (.bool (Sc.nameB c.table)) ∧ Below W.heap.size W w') (fun e w' h => ⟨h.1, h.2⟩)
  have c3 := fun (m : Nat) W (h : VsAt W vr c.row) => frow_any vr c.row m W h hk.2.2.2.2.1 hl
  have c4 := fun W => fspan_any c.fr c.to W
  have c5 := fun W (h : CsAt W vc c.df.cols) => same_any c.df noS vc (.slice none 0 0) W h (CsAt.nil0 W)
  obtain ⟨radr, rcap, rfl⟩ := vs_slc h1
  obtain ⟨cadr, ccap, rfl⟩ := h2.slc
  clear h1 h2 hbx hk
  have HE0 : chB c = if c.op = 3 then tabB c else if c.op = 1 then putB c 16 else if c.op = 2 then putB c 8 else false := rfl
  have HT0 : tabB c = (Sc.right c.df && (decide (c.table = c.df.name) && (decide (c.row.length = 0) && (decide (c.fr = 0) && decide (c.to = 0))))) := rfl
  have HP0 : ∀ m, putB c m = (Sc.nameB c.table && (rowB c.row m && (spanB c.fr c.to && Sc.same c.df noS))) := fun _ => rfl
  obtain ⟨op, tb, row, fr, to, ⟨nm, cols, ky⟩⟩ := c
  unfold cvv
  unfold sv at c1 c5
  unfold noS at c5
  simp only at *
  by_cases h3 : op = 3
  · subst h3
    have HE : chB ⟨3, tb, row, fr, to, ⟨nm, cols, ky⟩⟩ = _ := HE0.trans ((if_pos rfl).trans HT0)
    have hb2 : (tb.toList == nm.toList) = decide (tb = nm) := bytes_beq tb nm
    have hb3 : ((row.length : Int) == 0) = decide (row.length = 0) := by rw [Bool.eq_iff_iff]; simp
    have hb4 : (fr == 0 && to == 0) = (decide (fr = 0) && decide (to = 0)) := by rw [Bool.eq_iff_iff]; simp
    have hq := fun w => sp_eql fr to 0 0 _ hb4 w
    generalize Sc.right ⟨nm, cols, ky⟩ = r1 at c1 HE
    generalize decide (tb = nm) = r2 at hb2 HE
    generalize decide (row.length = 0) = r3 at hb3 HE
    clear hb4
    generalize (decide (fr = 0) && decide (to = 0)) = r4 at hq HE
    have HEH := hid HE
    have C1 := hid c1
    clear c1 c2 c3 c4 c5 HE HE0 HT0 HP0
    cases r1 <;> cases r2 <;> cases r3 <;> cases r4
    all_goals
      go_enter Try.func13, Try.ntmps13
      go_wp2_with fail
      refine (C1.out _ VC.out).mono ?_; rintro e w2 ⟨rfl, b2⟩
      have L2 := hid (hnext LB.out b2)
      obtain ⟨x0, x1, x2, x3, x4, x5, x6, x7, f0, f1, f2, f3, f4, f5, f6, f7, xl⟩ := (BX.out.keep b2).cells
      simp only at x0 x1 x2 x3 x4 x5 x6 x7
      clear b2 f0 f1 f2 f3 f4 f5 f6 f7
      go_wp2_with fail
      go_ret
      rw [HEH.out]
      exact ⟨rfl, L2.out⟩
  have n3 : (op == 3) = false := by rw [beq_eq_false_iff_ne]; exact h3
  by_cases h1 : op = 1
  · subst h1
    have HE : chB ⟨1, tb, row, fr, to, ⟨nm, cols, ky⟩⟩ = _ := HE0.trans ((if_neg h3).trans ((if_pos rfl).trans (HP0 16)))
    generalize Sc.nameB tb = r1 at c2 HE
    have c3' := c3 16
    generalize rowB row 16 = r2 at c3' HE
    generalize spanB fr to = r3 at c4 HE
    change chB _ = (_ && (_ && (_ && Sc.same ⟨nm, cols, ky⟩ ⟨⟨#[]⟩, [], 0⟩))) at HE
    generalize Sc.same ⟨nm, cols, ky⟩ ⟨⟨#[]⟩, [], 0⟩ = r4 at c5 HE
    have HEH := hid HE
    have C2 := hid c2
    have C3 := hid c3'
    have C4 := hid c4
    have C5 := hid c5
    clear c1 c2 c3 c3' c4 c5 HE HE0 HT0 HP0 h3
    cases r1 with
    | false =>
      go_enter Try.func13, Try.ntmps13
      go_wp2_with fail
      refine (C2.out _).mono ?_; rintro e w2 ⟨rfl, b2⟩
      have L2 := hid (hnext LB.out b2)
      replace VR := hid (VR.out.below b2)
      replace VC := hid (VC.out.below b2)
      replace BX := hid (BX.out.keep b2)
      have cl2 := BX.out.cells
      obtain ⟨x0, x1, x2, x3, x4, x5, x6, x7, f0, f1, f2, f3, f4, f5, f6, f7, xl⟩ := cl2
      simp only at x0 x1 x2 x3 x4 x5 x6 x7
      clear b2 f0 f1 f2 f3 f4 f5 f6 f7
      go_wp2_with fail
      go_ret
      rw [HEH.out]
      exact ⟨by simp, L2.out⟩
    | true =>
      cases r2 with
      | false =>
        go_enter Try.func13, Try.ntmps13
        go_wp2_with fail
        refine (C2.out _).mono ?_; rintro e w2 ⟨rfl, b2⟩
        have L2 := hid (hnext LB.out b2)
        replace VR := hid (VR.out.below b2)
        replace VC := hid (VC.out.below b2)
        replace BX := hid (BX.out.keep b2)
        have cl2 := BX.out.cells
        obtain ⟨x0, x1, x2, x3, x4, x5, x6, x7, f0, f1, f2, f3, f4, f5, f6, f7, xl⟩ := cl2
        simp only at x0 x1 x2 x3 x4 x5 x6 x7
        clear b2 f0 f1 f2 f3 f4 f5 f6 f7
        go_wp2_with fail
        clear x0 x1 x2 x3 x4 x5 x6 x7 xl
        refine (C3.out _ VR.out).mono ?_; rintro e w3 ⟨rfl, b3⟩
        have L3 := hid (hnext L2.out b3)
        replace VR := hid (VR.out.below b3)
        replace VC := hid (VC.out.below b3)
        replace BX := hid (BX.out.keep b3)
        have cl3 := BX.out.cells
        obtain ⟨x0, x1, x2, x3, x4, x5, x6, x7, f0, f1, f2, f3, f4, f5, f6, f7, xl⟩ := cl3
        simp only at x0 x1 x2 x3 x4 x5 x6 x7
        clear b3 f0 f1 f2 f3 f4 f5 f6 f7
        go_wp2_with fail
        go_ret
        rw [HEH.out]
        exact ⟨by simp, L3.out⟩
      | true =>
        cases r3 with
        | false =>
          go_enter Try.func13, Try.ntmps13
          go_wp2_with fail
          refine (C2.out _).mono ?_; rintro e w2 ⟨rfl, b2⟩
          have L2 := hid (hnext LB.out b2)
          replace VR := hid (VR.out.below b2)
          replace VC := hid (VC.out.below b2)
          replace BX := hid (BX.out.keep b2)
          have cl2 := BX.out.cells
          obtain ⟨x0, x1, x2, x3, x4, x5, x6, x7, f0, f1, f2, f3, f4, f5, f6, f7, xl⟩ := cl2
          simp only at x0 x1 x2 x3 x4 x5 x6 x7
          clear b2 f0 f1 f2 f3 f4 f5 f6 f7
          go_wp2_with fail
          clear x0 x1 x2 x3 x4 x5 x6 x7 xl
          refine (C3.out _ VR.out).mono ?_; rintro e w3 ⟨rfl, b3⟩
          have L3 := hid (hnext L2.out b3)
          replace VR := hid (VR.out.below b3)
          replace VC := hid (VC.out.below b3)
          replace BX := hid (BX.out.keep b3)
          have cl3 := BX.out.cells
          obtain ⟨x0, x1, x2, x3, x4, x5, x6, x7, f0, f1, f2, f3, f4, f5, f6, f7, xl⟩ := cl3
          simp only at x0 x1 x2 x3 x4 x5 x6 x7
          clear b3 f0 f1 f2 f3 f4 f5 f6 f7
          go_wp2_with fail
          clear x0 x1 x2 x3 x4 x5 x6 x7 xl
          refine (C4.out _).mono ?_; rintro e w4 ⟨rfl, b4⟩
          have L4 := hid (hnext L3.out b4)
          replace VR := hid (VR.out.below b4)
          replace VC := hid (VC.out.below b4)
          replace BX := hid (BX.out.keep b4)
          have cl4 := BX.out.cells
          obtain ⟨x0, x1, x2, x3, x4, x5, x6, x7, f0, f1, f2, f3, f4, f5, f6, f7, xl⟩ := cl4
          simp only at x0 x1 x2 x3 x4 x5 x6 x7
          clear b4 f0 f1 f2 f3 f4 f5 f6 f7
          go_wp2_with fail
          go_ret
          rw [HEH.out]
          exact ⟨by simp, L4.out⟩
        | true =>
          cases r4
          all_goals
            go_enter Try.func13, Try.ntmps13
            go_wp2_with fail
            refine (C2.out _).mono ?_; rintro e w2 ⟨rfl, b2⟩
            have L2 := hid (hnext LB.out b2)
            replace VR := hid (VR.out.below b2)
            replace VC := hid (VC.out.below b2)
            replace BX := hid (BX.out.keep b2)
            have cl2 := BX.out.cells
            obtain ⟨x0, x1, x2, x3, x4, x5, x6, x7, f0, f1, f2, f3, f4, f5, f6, f7, xl⟩ := cl2
            simp only at x0 x1 x2 x3 x4 x5 x6 x7
            clear b2 f0 f1 f2 f3 f4 f5 f6 f7
            go_wp2_with fail
            clear x0 x1 x2 x3 x4 x5 x6 x7 xl
            refine (C3.out _ VR.out).mono ?_; rintro e w3 ⟨rfl, b3⟩
            have L3 := hid (hnext L2.out b3)
            replace VR := hid (VR.out.below b3)
            replace VC := hid (VC.out.below b3)
            replace BX := hid (BX.out.keep b3)
            have cl3 := BX.out.cells
            obtain ⟨x0, x1, x2, x3, x4, x5, x6, x7, f0, f1, f2, f3, f4, f5, f6, f7, xl⟩ := cl3
            simp only at x0 x1 x2 x3 x4 x5 x6 x7
            clear b3 f0 f1 f2 f3 f4 f5 f6 f7
            go_wp2_with fail
            clear x0 x1 x2 x3 x4 x5 x6 x7 xl
            refine (C4.out _).mono ?_; rintro e w4 ⟨rfl, b4⟩
            have L4 := hid (hnext L3.out b4)
            replace VR := hid (VR.out.below b4)
            replace VC := hid (VC.out.below b4)
            replace BX := hid (BX.out.keep b4)
            have cl4 := BX.out.cells
            obtain ⟨x0, x1, x2, x3, x4, x5, x6, x7, f0, f1, f2, f3, f4, f5, f6, f7, xl⟩ := cl4
            simp only at x0 x1 x2 x3 x4 x5 x6 x7
            clear b4 f0 f1 f2 f3 f4 f5 f6 f7
            go_wp2_with fail
            clear x0 x1 x2 x3 x4 x5 x6 x7 xl
            refine (C5.out _ VC.out).mono ?_; rintro e w5 ⟨rfl, b5⟩
            have L5 := hid (hnext L4.out b5)
            replace VR := hid (VR.out.below b5)
            replace VC := hid (VC.out.below b5)
            replace BX := hid (BX.out.keep b5)
            have cl5 := BX.out.cells
            obtain ⟨x0, x1, x2, x3, x4, x5, x6, x7, f0, f1, f2, f3, f4, f5, f6, f7, xl⟩ := cl5
            simp only at x0 x1 x2 x3 x4 x5 x6 x7
            clear b5 f0 f1 f2 f3 f4 f5 f6 f7
            go_wp2_with fail
            go_ret
            rw [HEH.out]
            exact ⟨by simp, L5.out⟩
  have n1 : (op == 1) = false := by rw [beq_eq_false_iff_ne]; exact h1
  by_cases h2 : op = 2
  · subst h2
    have HE : chB ⟨2, tb, row, fr, to, ⟨nm, cols, ky⟩⟩ = _ := HE0.trans ((if_neg h3).trans ((if_neg (by decide)).trans ((if_pos rfl).trans (HP0 8))))
    generalize Sc.nameB tb = r1 at c2 HE
    have c3' := c3 8
    generalize rowB row 8 = r2 at c3' HE
    generalize spanB fr to = r3 at c4 HE
    change chB _ = (_ && (_ && (_ && Sc.same ⟨nm, cols, ky⟩ ⟨⟨#[]⟩, [], 0⟩))) at HE
    generalize Sc.same ⟨nm, cols, ky⟩ ⟨⟨#[]⟩, [], 0⟩ = r4 at c5 HE
    have HEH := hid HE
    have C2 := hid c2
    have C3 := hid c3'
    have C4 := hid c4
    have C5 := hid c5
    clear c1 c2 c3 c3' c4 c5 HE HE0 HT0 HP0 h3
    cases r1 with
    | false =>
      go_enter Try.func13, Try.ntmps13
      go_wp2_with fail
      refine (C2.out _).mono ?_; rintro e w2 ⟨rfl, b2⟩
      have L2 := hid (hnext LB.out b2)
      replace VR := hid (VR.out.below b2)
      replace VC := hid (VC.out.below b2)
      replace BX := hid (BX.out.keep b2)
      have cl2 := BX.out.cells
      obtain ⟨x0, x1, x2, x3, x4, x5, x6, x7, f0, f1, f2, f3, f4, f5, f6, f7, xl⟩ := cl2
      simp only at x0 x1 x2 x3 x4 x5 x6 x7
      clear b2 f0 f1 f2 f3 f4 f5 f6 f7
      go_wp2_with fail
      go_ret
      rw [HEH.out]
      exact ⟨by simp, L2.out⟩
    | true =>
      cases r2 with
      | false =>
        go_enter Try.func13, Try.ntmps13
        go_wp2_with fail
        refine (C2.out _).mono ?_; rintro e w2 ⟨rfl, b2⟩
        have L2 := hid (hnext LB.out b2)
        replace VR := hid (VR.out.below b2)
        replace VC := hid (VC.out.below b2)
        replace BX := hid (BX.out.keep b2)
        have cl2 := BX.out.cells
        obtain ⟨x0, x1, x2, x3, x4, x5, x6, x7, f0, f1, f2, f3, f4, f5, f6, f7, xl⟩ := cl2
        simp only at x0 x1 x2 x3 x4 x5 x6 x7
        clear b2 f0 f1 f2 f3 f4 f5 f6 f7
        go_wp2_with fail
        clear x0 x1 x2 x3 x4 x5 x6 x7 xl
        refine (C3.out _ VR.out).mono ?_; rintro e w3 ⟨rfl, b3⟩
        have L3 := hid (hnext L2.out b3)
        replace VR := hid (VR.out.below b3)
        replace VC := hid (VC.out.below b3)
        replace BX := hid (BX.out.keep b3)
        have cl3 := BX.out.cells
        obtain ⟨x0, x1, x2, x3, x4, x5, x6, x7, f0, f1, f2, f3, f4, f5, f6, f7, xl⟩ := cl3
        simp only at x0 x1 x2 x3 x4 x5 x6 x7
        clear b3 f0 f1 f2 f3 f4 f5 f6 f7
        go_wp2_with fail
        go_ret
        rw [HEH.out]
        exact ⟨by simp, L3.out⟩
      | true =>
        cases r3 with
        | false =>
          go_enter Try.func13, Try.ntmps13
          go_wp2_with fail
          refine (C2.out _).mono ?_; rintro e w2 ⟨rfl, b2⟩
          have L2 := hid (hnext LB.out b2)
          replace VR := hid (VR.out.below b2)
          replace VC := hid (VC.out.below b2)
          replace BX := hid (BX.out.keep b2)
          have cl2 := BX.out.cells
          obtain ⟨x0, x1, x2, x3, x4, x5, x6, x7, f0, f1, f2, f3, f4, f5, f6, f7, xl⟩ := cl2
          simp only at x0 x1 x2 x3 x4 x5 x6 x7
          clear b2 f0 f1 f2 f3 f4 f5 f6 f7
          go_wp2_with fail
          clear x0 x1 x2 x3 x4 x5 x6 x7 xl
          refine (C3.out _ VR.out).mono ?_; rintro e w3 ⟨rfl, b3⟩
          have L3 := hid (hnext L2.out b3)
          replace VR := hid (VR.out.below b3)
          replace VC := hid (VC.out.below b3)
          replace BX := hid (BX.out.keep b3)
          have cl3 := BX.out.cells
          obtain ⟨x0, x1, x2, x3, x4, x5, x6, x7, f0, f1, f2, f3, f4, f5, f6, f7, xl⟩ := cl3
          simp only at x0 x1 x2 x3 x4 x5 x6 x7
          clear b3 f0 f1 f2 f3 f4 f5 f6 f7
          go_wp2_with fail
          clear x0 x1 x2 x3 x4 x5 x6 x7 xl
          refine (C4.out _).mono ?_; rintro e w4 ⟨rfl, b4⟩
          have L4 := hid (hnext L3.out b4)
          replace VR := hid (VR.out.below b4)
          replace VC := hid (VC.out.below b4)
          replace BX := hid (BX.out.keep b4)
          have cl4 := BX.out.cells
          obtain ⟨x0, x1, x2, x3, x4, x5, x6, x7, f0, f1, f2, f3, f4, f5, f6, f7, xl⟩ := cl4
          simp only at x0 x1 x2 x3 x4 x5 x6 x7
          clear b4 f0 f1 f2 f3 f4 f5 f6 f7
          go_wp2_with fail
          go_ret
          rw [HEH.out]
          exact ⟨by simp, L4.out⟩
        | true =>
          cases r4
          all_goals
            go_enter Try.func13, Try.ntmps13
            go_wp2_with fail
            refine (C2.out _).mono ?_; rintro e w2 ⟨rfl, b2⟩
            have L2 := hid (hnext LB.out b2)
            replace VR := hid (VR.out.below b2)
            replace VC := hid (VC.out.below b2)
            replace BX := hid (BX.out.keep b2)
            have cl2 := BX.out.cells
            obtain ⟨x0, x1, x2, x3, x4, x5, x6, x7, f0, f1, f2, f3, f4, f5, f6, f7, xl⟩ := cl2
            simp only at x0 x1 x2 x3 x4 x5 x6 x7
            clear b2 f0 f1 f2 f3 f4 f5 f6 f7
            go_wp2_with fail
            clear x0 x1 x2 x3 x4 x5 x6 x7 xl
            refine (C3.out _ VR.out).mono ?_; rintro e w3 ⟨rfl, b3⟩
            have L3 := hid (hnext L2.out b3)
            replace VR := hid (VR.out.below b3)
            replace VC := hid (VC.out.below b3)
            replace BX := hid (BX.out.keep b3)
            have cl3 := BX.out.cells
            obtain ⟨x0, x1, x2, x3, x4, x5, x6, x7, f0, f1, f2, f3, f4, f5, f6, f7, xl⟩ := cl3
            simp only at x0 x1 x2 x3 x4 x5 x6 x7
            clear b3 f0 f1 f2 f3 f4 f5 f6 f7
            go_wp2_with fail
            clear x0 x1 x2 x3 x4 x5 x6 x7 xl
            refine (C4.out _).mono ?_; rintro e w4 ⟨rfl, b4⟩
            have L4 := hid (hnext L3.out b4)
            replace VR := hid (VR.out.below b4)
            replace VC := hid (VC.out.below b4)
            replace BX := hid (BX.out.keep b4)
            have cl4 := BX.out.cells
            obtain ⟨x0, x1, x2, x3, x4, x5, x6, x7, f0, f1, f2, f3, f4, f5, f6, f7, xl⟩ := cl4
            simp only at x0 x1 x2 x3 x4 x5 x6 x7
            clear b4 f0 f1 f2 f3 f4 f5 f6 f7
            go_wp2_with fail
            clear x0 x1 x2 x3 x4 x5 x6 x7 xl
            refine (C5.out _ VC.out).mono ?_; rintro e w5 ⟨rfl, b5⟩
            have L5 := hid (hnext L4.out b5)
            replace VR := hid (VR.out.below b5)
            replace VC := hid (VC.out.below b5)
            replace BX := hid (BX.out.keep b5)
            have cl5 := BX.out.cells
            obtain ⟨x0, x1, x2, x3, x4, x5, x6, x7, f0, f1, f2, f3, f4, f5, f6, f7, xl⟩ := cl5
            simp only at x0 x1 x2 x3 x4 x5 x6 x7
            clear b5 f0 f1 f2 f3 f4 f5 f6 f7
            go_wp2_with fail
            go_ret
            rw [HEH.out]
            exact ⟨by simp, L5.out⟩
  have n2 : (op == 2) = false := by rw [beq_eq_false_iff_ne]; exact h2
  have m1 : (op != 1) = true := by rw [bne_iff_ne]; exact h1
  have m2 : (op != 2) = true := by rw [bne_iff_ne]; exact h2
  have HEH : Hid (chB ⟨op, tb, row, fr, to, ⟨nm, cols, ky⟩⟩ = false) := by show _ = _; rw [HE0, if_neg h3, if_neg h1, if_neg h2]
  clear c1 c2 c3 c5 HT0 HP0 h1 h2 h3
  go_enter Try.func13, Try.ntmps13
  go_wp2_with fail
  go_ret
  rw [HEH.out]
  exact ⟨rfl, LB.out⟩
set_option maxRecDepth 100000 in
set_option maxHeartbeats 6400000 in
theorem fchangeR_any (c : Ch) (vr vc : Value) (w : World) (h1 : VsAt w vr c.row) (h2 : CsAt w vc c.df.cols) (hk : Chk c) (hl : c.row.length ≤ 9223372036854775807) : Calls Try.prog 14 #[cvv c vr vc] w fun e w' => e = .returned (.bool (chB c)) ∧ Below w.heap.size w w' := by
  have hbx := hba w (.cells #[.int .i64 c.op, .string c.table, vr, .int .i64 c.fr, .int .i64 c.to, .string c.df.name, vc, .int .i64 c.df.keys] 32)
  have VR := hid (h1.below hbx)
  have VC := hid (h2.below hbx)
  have LB := hid hbx
  have BX := hid (BH.new w c vr vc)
  have c1 := fun W (h : CsAt W vc c.df.cols) => rightR_sc c.df vc W h hk.2.2.2.2.2
  have c2 := fun W => (nameR_any c.table hk.2.2.2.1 W).mono (R' := fun e w' => e = .returned (.bool (Sc.nameB c.table)) ∧ Below W.heap.size W w') (fun e w' h => ⟨h.1, h.2 ▸ Below.refl _ _⟩)
  have c3 := fun (m : Nat) W (h : VsAt W vr c.row) => frowR_any vr c.row m W h hk.2.2.2.2.1 hl
  have c5 := fun W (h : CsAt W vc c.df.cols) => sameR_any c.df noS vc (.slice none 0 0) W h (CsAt.nil0 W)
  obtain ⟨radr, rcap, rfl⟩ := vs_slc h1
  obtain ⟨cadr, ccap, rfl⟩ := h2.slc
  clear h1 h2 hbx hk
  have HE0 : chB c = if c.op = 3 then tabB c else if c.op = 1 then putB c 16 else if c.op = 2 then putB c 8 else false := rfl
  have HT0 : tabB c = (Sc.right c.df && (decide (c.table = c.df.name) && (decide (c.row.length = 0) && (decide (c.fr = 0) && decide (c.to = 0))))) := rfl
  have HP0 : ∀ m, putB c m = (Sc.nameB c.table && (rowB c.row m && (spanB c.fr c.to && Sc.same c.df noS))) := fun _ => rfl
  obtain ⟨op, tb, row, fr, to, ⟨nm, cols, ky⟩⟩ := c
  unfold cvv
  unfold sv at c1 c5
  unfold noS at c5
  simp only at *
  by_cases h3 : op = 3
  · subst h3
    have HE : chB ⟨3, tb, row, fr, to, ⟨nm, cols, ky⟩⟩ = _ := HE0.trans ((if_pos rfl).trans HT0)
    have hb2 : (tb.toList == nm.toList) = decide (tb = nm) := bytes_beq tb nm
    have hb3 : ((row.length : Int) == 0) = decide (row.length = 0) := by rw [Bool.eq_iff_iff]; simp
    have hb4 : (fr == 0 && to == 0) = (decide (fr = 0) && decide (to = 0)) := by rw [Bool.eq_iff_iff]; simp
    have hq := fun w => sp_eql fr to 0 0 _ hb4 w
    generalize Sc.right ⟨nm, cols, ky⟩ = r1 at c1 HE
    generalize decide (tb = nm) = r2 at hb2 HE
    generalize decide (row.length = 0) = r3 at hb3 HE
    clear hb4
    generalize (decide (fr = 0) && decide (to = 0)) = r4 at hq HE
    have HEH := hid HE
    have C1 := hid c1
    clear c1 c2 c3 c5 HE HE0 HT0 HP0
    cases r1 <;> cases r2 <;> cases r3 <;> cases r4
    all_goals
      go_enter Try.func14, Try.ntmps14
      go_wp2_with fail
      refine (C1.out _ VC.out).mono ?_; rintro e w2 ⟨rfl, b2⟩
      have L2 := hid (hnext LB.out b2)
      obtain ⟨x0, x1, x2, x3, x4, x5, x6, x7, f0, f1, f2, f3, f4, f5, f6, f7, xl⟩ := (BX.out.keep b2).cells
      simp only at x0 x1 x2 x3 x4 x5 x6 x7
      clear b2 f0 f1 f2 f3 f4 f5 f6 f7
      go_wp2_with fail
      go_ret
      rw [HEH.out]
      exact ⟨rfl, L2.out⟩
  have n3 : (op == 3) = false := by rw [beq_eq_false_iff_ne]; exact h3
  by_cases h1 : op = 1
  · subst h1
    have HE : chB ⟨1, tb, row, fr, to, ⟨nm, cols, ky⟩⟩ = _ := HE0.trans ((if_neg h3).trans ((if_pos rfl).trans (HP0 16)))
    generalize Sc.nameB tb = r1 at c2 HE
    have c3' := c3 16
    generalize rowB row 16 = r2 at c3' HE
    change chB _ = (_ && (_ && (_ && Sc.same ⟨nm, cols, ky⟩ ⟨⟨#[]⟩, [], 0⟩))) at HE
    generalize Sc.same ⟨nm, cols, ky⟩ ⟨⟨#[]⟩, [], 0⟩ = r4 at c5 HE
    have HEH := hid HE
    have C2 := hid c2
    have C3 := hid c3'
    have C5 := hid c5
    clear c1 c2 c3 c3' c5 HE HE0 HT0 HP0 h3
    cases r1 with
    | false =>
      go_enter Try.func14, Try.ntmps14
      go_wp2_with fail
      refine (C2.out _).mono ?_; rintro e w2 ⟨rfl, b2⟩
      have L2 := hid (hnext LB.out b2)
      replace VR := hid (VR.out.below b2)
      replace VC := hid (VC.out.below b2)
      replace BX := hid (BX.out.keep b2)
      have cl2 := BX.out.cells
      obtain ⟨x0, x1, x2, x3, x4, x5, x6, x7, f0, f1, f2, f3, f4, f5, f6, f7, xl⟩ := cl2
      simp only at x0 x1 x2 x3 x4 x5 x6 x7
      clear b2 f0 f1 f2 f3 f4 f5 f6 f7
      go_wp2_with fail
      go_ret
      rw [HEH.out]
      exact ⟨by simp, L2.out⟩
    | true =>
      cases r2 with
      | false =>
        go_enter Try.func14, Try.ntmps14
        go_wp2_with fail
        refine (C2.out _).mono ?_; rintro e w2 ⟨rfl, b2⟩
        have L2 := hid (hnext LB.out b2)
        replace VR := hid (VR.out.below b2)
        replace VC := hid (VC.out.below b2)
        replace BX := hid (BX.out.keep b2)
        have cl2 := BX.out.cells
        obtain ⟨x0, x1, x2, x3, x4, x5, x6, x7, f0, f1, f2, f3, f4, f5, f6, f7, xl⟩ := cl2
        simp only at x0 x1 x2 x3 x4 x5 x6 x7
        clear b2 f0 f1 f2 f3 f4 f5 f6 f7
        go_wp2_with fail
        clear x0 x1 x2 x3 x4 x5 x6 x7 xl
        refine (C3.out _ VR.out).mono ?_; rintro e w3 ⟨rfl, b3⟩
        have L3 := hid (hnext L2.out b3)
        replace VR := hid (VR.out.below b3)
        replace VC := hid (VC.out.below b3)
        replace BX := hid (BX.out.keep b3)
        have cl3 := BX.out.cells
        obtain ⟨x0, x1, x2, x3, x4, x5, x6, x7, f0, f1, f2, f3, f4, f5, f6, f7, xl⟩ := cl3
        simp only at x0 x1 x2 x3 x4 x5 x6 x7
        clear b3 f0 f1 f2 f3 f4 f5 f6 f7
        go_wp2_with fail
        go_ret
        rw [HEH.out]
        exact ⟨by simp, L3.out⟩
      | true =>
        cases r4 with
        | false =>
          go_enter Try.func14, Try.ntmps14
          go_wp2_with fail
          refine (C2.out _).mono ?_; rintro e w2 ⟨rfl, b2⟩
          have L2 := hid (hnext LB.out b2)
          replace VR := hid (VR.out.below b2)
          replace VC := hid (VC.out.below b2)
          replace BX := hid (BX.out.keep b2)
          have cl2 := BX.out.cells
          obtain ⟨x0, x1, x2, x3, x4, x5, x6, x7, f0, f1, f2, f3, f4, f5, f6, f7, xl⟩ := cl2
          simp only at x0 x1 x2 x3 x4 x5 x6 x7
          clear b2 f0 f1 f2 f3 f4 f5 f6 f7
          go_wp2_with fail
          clear x0 x1 x2 x3 x4 x5 x6 x7 xl
          refine (C3.out _ VR.out).mono ?_; rintro e w3 ⟨rfl, b3⟩
          have L3 := hid (hnext L2.out b3)
          replace VR := hid (VR.out.below b3)
          replace VC := hid (VC.out.below b3)
          replace BX := hid (BX.out.keep b3)
          have cl3 := BX.out.cells
          obtain ⟨x0, x1, x2, x3, x4, x5, x6, x7, f0, f1, f2, f3, f4, f5, f6, f7, xl⟩ := cl3
          simp only at x0 x1 x2 x3 x4 x5 x6 x7
          clear b3 f0 f1 f2 f3 f4 f5 f6 f7
          go_wp2_with fail
          clear x0 x1 x2 x3 x4 x5 x6 x7 xl
          refine (C5.out _ VC.out).mono ?_; rintro e w5 ⟨rfl, b5⟩
          have L5 := hid (hnext L3.out b5)
          replace VR := hid (VR.out.below b5)
          replace VC := hid (VC.out.below b5)
          replace BX := hid (BX.out.keep b5)
          have cl5 := BX.out.cells
          obtain ⟨x0, x1, x2, x3, x4, x5, x6, x7, f0, f1, f2, f3, f4, f5, f6, f7, xl⟩ := cl5
          simp only at x0 x1 x2 x3 x4 x5 x6 x7
          clear b5 f0 f1 f2 f3 f4 f5 f6 f7
          go_wp2_with fail
          go_ret
          rw [HEH.out]
          exact ⟨by simp, L5.out⟩
        | true =>
          by_cases s0 : 0 ≤ fr
          · by_cases s1 : fr < to
            · by_cases s2 : to ≤ 1099511627776
              · have HS : Hid (spanB fr to = true) := by show _ = _; unfold spanB; simp; omega
                go_enter Try.func14, Try.ntmps14
                go_wp2_with fail
                refine (C2.out _).mono ?_; rintro e w2 ⟨rfl, b2⟩
                have L2 := hid (hnext LB.out b2)
                replace VR := hid (VR.out.below b2)
                replace VC := hid (VC.out.below b2)
                replace BX := hid (BX.out.keep b2)
                have cl2 := BX.out.cells
                obtain ⟨x0, x1, x2, x3, x4, x5, x6, x7, f0, f1, f2, f3, f4, f5, f6, f7, xl⟩ := cl2
                simp only at x0 x1 x2 x3 x4 x5 x6 x7
                clear b2 f0 f1 f2 f3 f4 f5 f6 f7
                go_wp2_with fail
                clear x0 x1 x2 x3 x4 x5 x6 x7 xl
                refine (C3.out _ VR.out).mono ?_; rintro e w3 ⟨rfl, b3⟩
                have L3 := hid (hnext L2.out b3)
                replace VR := hid (VR.out.below b3)
                replace VC := hid (VC.out.below b3)
                replace BX := hid (BX.out.keep b3)
                have cl3 := BX.out.cells
                obtain ⟨x0, x1, x2, x3, x4, x5, x6, x7, f0, f1, f2, f3, f4, f5, f6, f7, xl⟩ := cl3
                simp only at x0 x1 x2 x3 x4 x5 x6 x7
                clear b3 f0 f1 f2 f3 f4 f5 f6 f7
                go_wp2_with fail
                clear x0 x1 x2 x3 x4 x5 x6 x7 xl
                refine (C5.out _ VC.out).mono ?_; rintro e w5 ⟨rfl, b5⟩
                have L5 := hid (hnext L3.out b5)
                replace VR := hid (VR.out.below b5)
                replace VC := hid (VC.out.below b5)
                replace BX := hid (BX.out.keep b5)
                have cl5 := BX.out.cells
                obtain ⟨x0, x1, x2, x3, x4, x5, x6, x7, f0, f1, f2, f3, f4, f5, f6, f7, xl⟩ := cl5
                simp only at x0 x1 x2 x3 x4 x5 x6 x7
                clear b5 f0 f1 f2 f3 f4 f5 f6 f7
                go_wp2_with fail
                go_ret
                rw [HEH.out, HS.out]
                exact ⟨by first | (simp; done) | (simp; omega), L5.out⟩
              · have HS : Hid (spanB fr to = false) := by show _ = _; unfold spanB; simp; omega
                go_enter Try.func14, Try.ntmps14
                go_wp2_with fail
                refine (C2.out _).mono ?_; rintro e w2 ⟨rfl, b2⟩
                have L2 := hid (hnext LB.out b2)
                replace VR := hid (VR.out.below b2)
                replace VC := hid (VC.out.below b2)
                replace BX := hid (BX.out.keep b2)
                have cl2 := BX.out.cells
                obtain ⟨x0, x1, x2, x3, x4, x5, x6, x7, f0, f1, f2, f3, f4, f5, f6, f7, xl⟩ := cl2
                simp only at x0 x1 x2 x3 x4 x5 x6 x7
                clear b2 f0 f1 f2 f3 f4 f5 f6 f7
                go_wp2_with fail
                clear x0 x1 x2 x3 x4 x5 x6 x7 xl
                refine (C3.out _ VR.out).mono ?_; rintro e w3 ⟨rfl, b3⟩
                have L3 := hid (hnext L2.out b3)
                replace VR := hid (VR.out.below b3)
                replace VC := hid (VC.out.below b3)
                replace BX := hid (BX.out.keep b3)
                have cl3 := BX.out.cells
                obtain ⟨x0, x1, x2, x3, x4, x5, x6, x7, f0, f1, f2, f3, f4, f5, f6, f7, xl⟩ := cl3
                simp only at x0 x1 x2 x3 x4 x5 x6 x7
                clear b3 f0 f1 f2 f3 f4 f5 f6 f7
                go_wp2_with fail
                clear x0 x1 x2 x3 x4 x5 x6 x7 xl
                refine (C5.out _ VC.out).mono ?_; rintro e w5 ⟨rfl, b5⟩
                have L5 := hid (hnext L3.out b5)
                replace VR := hid (VR.out.below b5)
                replace VC := hid (VC.out.below b5)
                replace BX := hid (BX.out.keep b5)
                have cl5 := BX.out.cells
                obtain ⟨x0, x1, x2, x3, x4, x5, x6, x7, f0, f1, f2, f3, f4, f5, f6, f7, xl⟩ := cl5
                simp only at x0 x1 x2 x3 x4 x5 x6 x7
                clear b5 f0 f1 f2 f3 f4 f5 f6 f7
                go_wp2_with fail
                go_ret
                rw [HEH.out, HS.out]
                exact ⟨by first | (simp; done) | (simp; omega), L5.out⟩
            · have HS : Hid (spanB fr to = false) := by show _ = _; unfold spanB; simp; omega
              go_enter Try.func14, Try.ntmps14
              go_wp2_with fail
              refine (C2.out _).mono ?_; rintro e w2 ⟨rfl, b2⟩
              have L2 := hid (hnext LB.out b2)
              replace VR := hid (VR.out.below b2)
              replace VC := hid (VC.out.below b2)
              replace BX := hid (BX.out.keep b2)
              have cl2 := BX.out.cells
              obtain ⟨x0, x1, x2, x3, x4, x5, x6, x7, f0, f1, f2, f3, f4, f5, f6, f7, xl⟩ := cl2
              simp only at x0 x1 x2 x3 x4 x5 x6 x7
              clear b2 f0 f1 f2 f3 f4 f5 f6 f7
              go_wp2_with fail
              clear x0 x1 x2 x3 x4 x5 x6 x7 xl
              refine (C3.out _ VR.out).mono ?_; rintro e w3 ⟨rfl, b3⟩
              have L3 := hid (hnext L2.out b3)
              replace VR := hid (VR.out.below b3)
              replace VC := hid (VC.out.below b3)
              replace BX := hid (BX.out.keep b3)
              have cl3 := BX.out.cells
              obtain ⟨x0, x1, x2, x3, x4, x5, x6, x7, f0, f1, f2, f3, f4, f5, f6, f7, xl⟩ := cl3
              simp only at x0 x1 x2 x3 x4 x5 x6 x7
              clear b3 f0 f1 f2 f3 f4 f5 f6 f7
              go_wp2_with fail
              clear x0 x1 x2 x3 x4 x5 x6 x7 xl
              refine (C5.out _ VC.out).mono ?_; rintro e w5 ⟨rfl, b5⟩
              have L5 := hid (hnext L3.out b5)
              replace VR := hid (VR.out.below b5)
              replace VC := hid (VC.out.below b5)
              replace BX := hid (BX.out.keep b5)
              have cl5 := BX.out.cells
              obtain ⟨x0, x1, x2, x3, x4, x5, x6, x7, f0, f1, f2, f3, f4, f5, f6, f7, xl⟩ := cl5
              simp only at x0 x1 x2 x3 x4 x5 x6 x7
              clear b5 f0 f1 f2 f3 f4 f5 f6 f7
              go_wp2_with fail
              go_ret
              rw [HEH.out, HS.out]
              exact ⟨by first | (simp; done) | (simp; omega), L5.out⟩
          · have HS : Hid (spanB fr to = false) := by show _ = _; unfold spanB; simp; omega
            go_enter Try.func14, Try.ntmps14
            go_wp2_with fail
            refine (C2.out _).mono ?_; rintro e w2 ⟨rfl, b2⟩
            have L2 := hid (hnext LB.out b2)
            replace VR := hid (VR.out.below b2)
            replace VC := hid (VC.out.below b2)
            replace BX := hid (BX.out.keep b2)
            have cl2 := BX.out.cells
            obtain ⟨x0, x1, x2, x3, x4, x5, x6, x7, f0, f1, f2, f3, f4, f5, f6, f7, xl⟩ := cl2
            simp only at x0 x1 x2 x3 x4 x5 x6 x7
            clear b2 f0 f1 f2 f3 f4 f5 f6 f7
            go_wp2_with fail
            clear x0 x1 x2 x3 x4 x5 x6 x7 xl
            refine (C3.out _ VR.out).mono ?_; rintro e w3 ⟨rfl, b3⟩
            have L3 := hid (hnext L2.out b3)
            replace VR := hid (VR.out.below b3)
            replace VC := hid (VC.out.below b3)
            replace BX := hid (BX.out.keep b3)
            have cl3 := BX.out.cells
            obtain ⟨x0, x1, x2, x3, x4, x5, x6, x7, f0, f1, f2, f3, f4, f5, f6, f7, xl⟩ := cl3
            simp only at x0 x1 x2 x3 x4 x5 x6 x7
            clear b3 f0 f1 f2 f3 f4 f5 f6 f7
            go_wp2_with fail
            clear x0 x1 x2 x3 x4 x5 x6 x7 xl
            refine (C5.out _ VC.out).mono ?_; rintro e w5 ⟨rfl, b5⟩
            have L5 := hid (hnext L3.out b5)
            replace VR := hid (VR.out.below b5)
            replace VC := hid (VC.out.below b5)
            replace BX := hid (BX.out.keep b5)
            have cl5 := BX.out.cells
            obtain ⟨x0, x1, x2, x3, x4, x5, x6, x7, f0, f1, f2, f3, f4, f5, f6, f7, xl⟩ := cl5
            simp only at x0 x1 x2 x3 x4 x5 x6 x7
            clear b5 f0 f1 f2 f3 f4 f5 f6 f7
            go_wp2_with fail
            go_ret
            rw [HEH.out, HS.out]
            exact ⟨by first | (simp; done) | (simp; omega), L5.out⟩
  have n1 : (op == 1) = false := by rw [beq_eq_false_iff_ne]; exact h1
  by_cases h2 : op = 2
  · subst h2
    have HE : chB ⟨2, tb, row, fr, to, ⟨nm, cols, ky⟩⟩ = _ := HE0.trans ((if_neg h3).trans ((if_neg (by decide)).trans ((if_pos rfl).trans (HP0 8))))
    generalize Sc.nameB tb = r1 at c2 HE
    have c3' := c3 8
    generalize rowB row 8 = r2 at c3' HE
    change chB _ = (_ && (_ && (_ && Sc.same ⟨nm, cols, ky⟩ ⟨⟨#[]⟩, [], 0⟩))) at HE
    generalize Sc.same ⟨nm, cols, ky⟩ ⟨⟨#[]⟩, [], 0⟩ = r4 at c5 HE
    have HEH := hid HE
    have C2 := hid c2
    have C3 := hid c3'
    have C5 := hid c5
    clear c1 c2 c3 c3' c5 HE HE0 HT0 HP0 h3
    cases r1 with
    | false =>
      go_enter Try.func14, Try.ntmps14
      go_wp2_with fail
      refine (C2.out _).mono ?_; rintro e w2 ⟨rfl, b2⟩
      have L2 := hid (hnext LB.out b2)
      replace VR := hid (VR.out.below b2)
      replace VC := hid (VC.out.below b2)
      replace BX := hid (BX.out.keep b2)
      have cl2 := BX.out.cells
      obtain ⟨x0, x1, x2, x3, x4, x5, x6, x7, f0, f1, f2, f3, f4, f5, f6, f7, xl⟩ := cl2
      simp only at x0 x1 x2 x3 x4 x5 x6 x7
      clear b2 f0 f1 f2 f3 f4 f5 f6 f7
      go_wp2_with fail
      go_ret
      rw [HEH.out]
      exact ⟨by simp, L2.out⟩
    | true =>
      cases r2 with
      | false =>
        go_enter Try.func14, Try.ntmps14
        go_wp2_with fail
        refine (C2.out _).mono ?_; rintro e w2 ⟨rfl, b2⟩
        have L2 := hid (hnext LB.out b2)
        replace VR := hid (VR.out.below b2)
        replace VC := hid (VC.out.below b2)
        replace BX := hid (BX.out.keep b2)
        have cl2 := BX.out.cells
        obtain ⟨x0, x1, x2, x3, x4, x5, x6, x7, f0, f1, f2, f3, f4, f5, f6, f7, xl⟩ := cl2
        simp only at x0 x1 x2 x3 x4 x5 x6 x7
        clear b2 f0 f1 f2 f3 f4 f5 f6 f7
        go_wp2_with fail
        clear x0 x1 x2 x3 x4 x5 x6 x7 xl
        refine (C3.out _ VR.out).mono ?_; rintro e w3 ⟨rfl, b3⟩
        have L3 := hid (hnext L2.out b3)
        replace VR := hid (VR.out.below b3)
        replace VC := hid (VC.out.below b3)
        replace BX := hid (BX.out.keep b3)
        have cl3 := BX.out.cells
        obtain ⟨x0, x1, x2, x3, x4, x5, x6, x7, f0, f1, f2, f3, f4, f5, f6, f7, xl⟩ := cl3
        simp only at x0 x1 x2 x3 x4 x5 x6 x7
        clear b3 f0 f1 f2 f3 f4 f5 f6 f7
        go_wp2_with fail
        go_ret
        rw [HEH.out]
        exact ⟨by simp, L3.out⟩
      | true =>
        cases r4 with
        | false =>
          go_enter Try.func14, Try.ntmps14
          go_wp2_with fail
          refine (C2.out _).mono ?_; rintro e w2 ⟨rfl, b2⟩
          have L2 := hid (hnext LB.out b2)
          replace VR := hid (VR.out.below b2)
          replace VC := hid (VC.out.below b2)
          replace BX := hid (BX.out.keep b2)
          have cl2 := BX.out.cells
          obtain ⟨x0, x1, x2, x3, x4, x5, x6, x7, f0, f1, f2, f3, f4, f5, f6, f7, xl⟩ := cl2
          simp only at x0 x1 x2 x3 x4 x5 x6 x7
          clear b2 f0 f1 f2 f3 f4 f5 f6 f7
          go_wp2_with fail
          clear x0 x1 x2 x3 x4 x5 x6 x7 xl
          refine (C3.out _ VR.out).mono ?_; rintro e w3 ⟨rfl, b3⟩
          have L3 := hid (hnext L2.out b3)
          replace VR := hid (VR.out.below b3)
          replace VC := hid (VC.out.below b3)
          replace BX := hid (BX.out.keep b3)
          have cl3 := BX.out.cells
          obtain ⟨x0, x1, x2, x3, x4, x5, x6, x7, f0, f1, f2, f3, f4, f5, f6, f7, xl⟩ := cl3
          simp only at x0 x1 x2 x3 x4 x5 x6 x7
          clear b3 f0 f1 f2 f3 f4 f5 f6 f7
          go_wp2_with fail
          clear x0 x1 x2 x3 x4 x5 x6 x7 xl
          refine (C5.out _ VC.out).mono ?_; rintro e w5 ⟨rfl, b5⟩
          have L5 := hid (hnext L3.out b5)
          replace VR := hid (VR.out.below b5)
          replace VC := hid (VC.out.below b5)
          replace BX := hid (BX.out.keep b5)
          have cl5 := BX.out.cells
          obtain ⟨x0, x1, x2, x3, x4, x5, x6, x7, f0, f1, f2, f3, f4, f5, f6, f7, xl⟩ := cl5
          simp only at x0 x1 x2 x3 x4 x5 x6 x7
          clear b5 f0 f1 f2 f3 f4 f5 f6 f7
          go_wp2_with fail
          go_ret
          rw [HEH.out]
          exact ⟨by simp, L5.out⟩
        | true =>
          by_cases s0 : 0 ≤ fr
          · by_cases s1 : fr < to
            · by_cases s2 : to ≤ 1099511627776
              · have HS : Hid (spanB fr to = true) := by show _ = _; unfold spanB; simp; omega
                go_enter Try.func14, Try.ntmps14
                go_wp2_with fail
                refine (C2.out _).mono ?_; rintro e w2 ⟨rfl, b2⟩
                have L2 := hid (hnext LB.out b2)
                replace VR := hid (VR.out.below b2)
                replace VC := hid (VC.out.below b2)
                replace BX := hid (BX.out.keep b2)
                have cl2 := BX.out.cells
                obtain ⟨x0, x1, x2, x3, x4, x5, x6, x7, f0, f1, f2, f3, f4, f5, f6, f7, xl⟩ := cl2
                simp only at x0 x1 x2 x3 x4 x5 x6 x7
                clear b2 f0 f1 f2 f3 f4 f5 f6 f7
                go_wp2_with fail
                clear x0 x1 x2 x3 x4 x5 x6 x7 xl
                refine (C3.out _ VR.out).mono ?_; rintro e w3 ⟨rfl, b3⟩
                have L3 := hid (hnext L2.out b3)
                replace VR := hid (VR.out.below b3)
                replace VC := hid (VC.out.below b3)
                replace BX := hid (BX.out.keep b3)
                have cl3 := BX.out.cells
                obtain ⟨x0, x1, x2, x3, x4, x5, x6, x7, f0, f1, f2, f3, f4, f5, f6, f7, xl⟩ := cl3
                simp only at x0 x1 x2 x3 x4 x5 x6 x7
                clear b3 f0 f1 f2 f3 f4 f5 f6 f7
                go_wp2_with fail
                clear x0 x1 x2 x3 x4 x5 x6 x7 xl
                refine (C5.out _ VC.out).mono ?_; rintro e w5 ⟨rfl, b5⟩
                have L5 := hid (hnext L3.out b5)
                replace VR := hid (VR.out.below b5)
                replace VC := hid (VC.out.below b5)
                replace BX := hid (BX.out.keep b5)
                have cl5 := BX.out.cells
                obtain ⟨x0, x1, x2, x3, x4, x5, x6, x7, f0, f1, f2, f3, f4, f5, f6, f7, xl⟩ := cl5
                simp only at x0 x1 x2 x3 x4 x5 x6 x7
                clear b5 f0 f1 f2 f3 f4 f5 f6 f7
                go_wp2_with fail
                go_ret
                rw [HEH.out, HS.out]
                exact ⟨by first | (simp; done) | (simp; omega), L5.out⟩
              · have HS : Hid (spanB fr to = false) := by show _ = _; unfold spanB; simp; omega
                go_enter Try.func14, Try.ntmps14
                go_wp2_with fail
                refine (C2.out _).mono ?_; rintro e w2 ⟨rfl, b2⟩
                have L2 := hid (hnext LB.out b2)
                replace VR := hid (VR.out.below b2)
                replace VC := hid (VC.out.below b2)
                replace BX := hid (BX.out.keep b2)
                have cl2 := BX.out.cells
                obtain ⟨x0, x1, x2, x3, x4, x5, x6, x7, f0, f1, f2, f3, f4, f5, f6, f7, xl⟩ := cl2
                simp only at x0 x1 x2 x3 x4 x5 x6 x7
                clear b2 f0 f1 f2 f3 f4 f5 f6 f7
                go_wp2_with fail
                clear x0 x1 x2 x3 x4 x5 x6 x7 xl
                refine (C3.out _ VR.out).mono ?_; rintro e w3 ⟨rfl, b3⟩
                have L3 := hid (hnext L2.out b3)
                replace VR := hid (VR.out.below b3)
                replace VC := hid (VC.out.below b3)
                replace BX := hid (BX.out.keep b3)
                have cl3 := BX.out.cells
                obtain ⟨x0, x1, x2, x3, x4, x5, x6, x7, f0, f1, f2, f3, f4, f5, f6, f7, xl⟩ := cl3
                simp only at x0 x1 x2 x3 x4 x5 x6 x7
                clear b3 f0 f1 f2 f3 f4 f5 f6 f7
                go_wp2_with fail
                clear x0 x1 x2 x3 x4 x5 x6 x7 xl
                refine (C5.out _ VC.out).mono ?_; rintro e w5 ⟨rfl, b5⟩
                have L5 := hid (hnext L3.out b5)
                replace VR := hid (VR.out.below b5)
                replace VC := hid (VC.out.below b5)
                replace BX := hid (BX.out.keep b5)
                have cl5 := BX.out.cells
                obtain ⟨x0, x1, x2, x3, x4, x5, x6, x7, f0, f1, f2, f3, f4, f5, f6, f7, xl⟩ := cl5
                simp only at x0 x1 x2 x3 x4 x5 x6 x7
                clear b5 f0 f1 f2 f3 f4 f5 f6 f7
                go_wp2_with fail
                go_ret
                rw [HEH.out, HS.out]
                exact ⟨by first | (simp; done) | (simp; omega), L5.out⟩
            · have HS : Hid (spanB fr to = false) := by show _ = _; unfold spanB; simp; omega
              go_enter Try.func14, Try.ntmps14
              go_wp2_with fail
              refine (C2.out _).mono ?_; rintro e w2 ⟨rfl, b2⟩
              have L2 := hid (hnext LB.out b2)
              replace VR := hid (VR.out.below b2)
              replace VC := hid (VC.out.below b2)
              replace BX := hid (BX.out.keep b2)
              have cl2 := BX.out.cells
              obtain ⟨x0, x1, x2, x3, x4, x5, x6, x7, f0, f1, f2, f3, f4, f5, f6, f7, xl⟩ := cl2
              simp only at x0 x1 x2 x3 x4 x5 x6 x7
              clear b2 f0 f1 f2 f3 f4 f5 f6 f7
              go_wp2_with fail
              clear x0 x1 x2 x3 x4 x5 x6 x7 xl
              refine (C3.out _ VR.out).mono ?_; rintro e w3 ⟨rfl, b3⟩
              have L3 := hid (hnext L2.out b3)
              replace VR := hid (VR.out.below b3)
              replace VC := hid (VC.out.below b3)
              replace BX := hid (BX.out.keep b3)
              have cl3 := BX.out.cells
              obtain ⟨x0, x1, x2, x3, x4, x5, x6, x7, f0, f1, f2, f3, f4, f5, f6, f7, xl⟩ := cl3
              simp only at x0 x1 x2 x3 x4 x5 x6 x7
              clear b3 f0 f1 f2 f3 f4 f5 f6 f7
              go_wp2_with fail
              clear x0 x1 x2 x3 x4 x5 x6 x7 xl
              refine (C5.out _ VC.out).mono ?_; rintro e w5 ⟨rfl, b5⟩
              have L5 := hid (hnext L3.out b5)
              replace VR := hid (VR.out.below b5)
              replace VC := hid (VC.out.below b5)
              replace BX := hid (BX.out.keep b5)
              have cl5 := BX.out.cells
              obtain ⟨x0, x1, x2, x3, x4, x5, x6, x7, f0, f1, f2, f3, f4, f5, f6, f7, xl⟩ := cl5
              simp only at x0 x1 x2 x3 x4 x5 x6 x7
              clear b5 f0 f1 f2 f3 f4 f5 f6 f7
              go_wp2_with fail
              go_ret
              rw [HEH.out, HS.out]
              exact ⟨by first | (simp; done) | (simp; omega), L5.out⟩
          · have HS : Hid (spanB fr to = false) := by show _ = _; unfold spanB; simp; omega
            go_enter Try.func14, Try.ntmps14
            go_wp2_with fail
            refine (C2.out _).mono ?_; rintro e w2 ⟨rfl, b2⟩
            have L2 := hid (hnext LB.out b2)
            replace VR := hid (VR.out.below b2)
            replace VC := hid (VC.out.below b2)
            replace BX := hid (BX.out.keep b2)
            have cl2 := BX.out.cells
            obtain ⟨x0, x1, x2, x3, x4, x5, x6, x7, f0, f1, f2, f3, f4, f5, f6, f7, xl⟩ := cl2
            simp only at x0 x1 x2 x3 x4 x5 x6 x7
            clear b2 f0 f1 f2 f3 f4 f5 f6 f7
            go_wp2_with fail
            clear x0 x1 x2 x3 x4 x5 x6 x7 xl
            refine (C3.out _ VR.out).mono ?_; rintro e w3 ⟨rfl, b3⟩
            have L3 := hid (hnext L2.out b3)
            replace VR := hid (VR.out.below b3)
            replace VC := hid (VC.out.below b3)
            replace BX := hid (BX.out.keep b3)
            have cl3 := BX.out.cells
            obtain ⟨x0, x1, x2, x3, x4, x5, x6, x7, f0, f1, f2, f3, f4, f5, f6, f7, xl⟩ := cl3
            simp only at x0 x1 x2 x3 x4 x5 x6 x7
            clear b3 f0 f1 f2 f3 f4 f5 f6 f7
            go_wp2_with fail
            clear x0 x1 x2 x3 x4 x5 x6 x7 xl
            refine (C5.out _ VC.out).mono ?_; rintro e w5 ⟨rfl, b5⟩
            have L5 := hid (hnext L3.out b5)
            replace VR := hid (VR.out.below b5)
            replace VC := hid (VC.out.below b5)
            replace BX := hid (BX.out.keep b5)
            have cl5 := BX.out.cells
            obtain ⟨x0, x1, x2, x3, x4, x5, x6, x7, f0, f1, f2, f3, f4, f5, f6, f7, xl⟩ := cl5
            simp only at x0 x1 x2 x3 x4 x5 x6 x7
            clear b5 f0 f1 f2 f3 f4 f5 f6 f7
            go_wp2_with fail
            go_ret
            rw [HEH.out, HS.out]
            exact ⟨by first | (simp; done) | (simp; omega), L5.out⟩
  have n2 : (op == 2) = false := by rw [beq_eq_false_iff_ne]; exact h2
  have m1 : (op != 1) = true := by rw [bne_iff_ne]; exact h1
  have m2 : (op != 2) = true := by rw [bne_iff_ne]; exact h2
  have HEH : Hid (chB ⟨op, tb, row, fr, to, ⟨nm, cols, ky⟩⟩ = false) := by show _ = _; rw [HE0, if_neg h3, if_neg h1, if_neg h2]
  clear c1 c2 c3 c5 HT0 HP0 h1 h2 h3
  go_enter Try.func14, Try.ntmps14
  go_wp2_with fail
  go_ret
  rw [HEH.out]
  exact ⟨rfl, LB.out⟩
end Go.Proofs.Ytmmegicaeaifaaa
