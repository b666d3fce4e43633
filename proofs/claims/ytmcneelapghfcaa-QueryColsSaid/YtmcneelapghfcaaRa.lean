/-
  Which rows a query passes: contracts, of the program and of the reference. Condition: sizes that can stand in memory.
-/
import Derived.Test.YtmcneelapghfcaaQa
import Derived.Test.YtmcneelapghfcaaPh
import Derived.Test.YtmcneelapghfcaaQe
namespace Go.Proofs.Ytmcneelapghfcaa
open Go.RowKit Pd Qu

theorem eval_range (l : List N) (row : List Cd.V) : -1 ≤ evalI l row ∧ evalI l row ≤ 1 := by
  unfold evalI
  split
  · decide
  · split
    · decide
    · have h := stack_range row l
      cases hs : stack row l with
      | nil => decide
      | cons t r => exact h t (by rw [hs]; exact List.mem_cons_self ..)
set_option maxRecDepth 100000 in
set_option maxHeartbeats 6400000 in
theorem pass_any (q : Q) (vk vw vc : Value) (row : List Cd.V) (u : Value) (w : World) (hq : QIn w q vk vw vc) (hu : VsAt w u row) (hl : q.wh.length ≤ 1000000) (hok : ∀ x ∈ q.wh, Nok x) (hrk : ∀ x ∈ row, Vok x) : Calls Try.prog 14 #[qv q vk vw vc, u] w fun e w' => e = .returned (.bool (passB q row)) ∧ Below w.heap.size w w' := by
  obtain ⟨ka, kc, rfl⟩ := vs_slc hq.1
  obtain ⟨wa, wc, rfl⟩ := hq.2.1.slc
  obtain ⟨ca, cc, rfl⟩ := hq.2.2.slc
  obtain ⟨ra, rc, rfl⟩ := vs_slc hu
  have BX := hid (BQ.new w 28 q (.slice ka q.key.length kc) (.slice wa q.wh.length wc) (.slice ca q.cols.length cc))
  have L := hid (hba w (.cells #[.int .i64 q.kind, .string q.table, .slice ka q.key.length kc, .int .i64 q.t, .int .i64 q.v, .int .i64 q.fr, .int .i64 q.to, .slice wa q.wh.length wc, .slice ca q.cols.length cc, .int .i64 q.limit, .bool q.desc] 28))
  have HW := hid (hq.2.1.below L.out)
  have HU := hid (hu.below L.out)
  obtain ⟨c0, c1, c2, c3, c4, c5, c6, c7, c8, c9, c10, cl⟩ := BX.out.cells
  clear cl
  unfold qv
  by_cases h0 : q.wh.length = 0
  case pos =>
    have h0' : ((q.wh.length : Int) == 0) = true := by rw [h0]; rfl
    have HR : Hid (passB q row = true) := by show _ = _; unfold passB; rw [decide_eq_true h0]; rfl
    clear h0
    go_enter Try.func14, Try.ntmps14
    go_wp2_with fail
    go_ret
    rw [HR.out]
    exact ⟨rfl, L.out⟩
  have h0' : ((q.wh.length : Int) == 0) = false := by rw [beq_eq_false_iff_ne]; omega
  have ce := eval_any _ _ q.wh row _ HW.out HU.out hl (fun x hx => (hok x hx).2.2.2.2) (fun x hx => (hrk x hx).2.2)
  have hP : passB q row = decide (evalI q.wh row = 1) := by unfold passB; rw [decide_eq_false h0, Bool.false_or]
  have hr := eval_range q.wh row
  have HP := hid hP
  generalize evalI q.wh row = z at ce HP hr
  clear hP h0
  have CE := hid ce
  clear ce
  by_cases hz : z = 1
  case pos =>
    subst hz
    have HR := hid (HP.out.trans (decide_eq_true rfl))
    go_enter Try.func14, Try.ntmps14
    go_wp2_with fail
    refine CE.out.mono ?_; rintro e w2 ⟨rfl, b2⟩
    have L2 := hid (hnext L.out b2)
    clear b2 c0 c1 c2 c3 c4 c5 c6 c7 c8 c9 c10
    go_wp2_with fail
    go_ret
    rw [HR.out]
    exact ⟨rfl, L2.out⟩
  have HR := hid (HP.out.trans (decide_eq_false hz))
  have hz1 : ¬ (0 : Int) < z := by omega
  have hz3 : decide ((0 : Int) < z) = false := decide_eq_false hz1
  have hz2 : (z == 1) = false := by simpa using hz
  go_enter Try.func14, Try.ntmps14
  go_wp2_with fail
  refine CE.out.mono ?_; rintro e w2 ⟨rfl, b2⟩
  have L2 := hid (hnext L.out b2)
  clear b2 c0 c1 c2 c3 c4 c5 c6 c7 c8 c9 c10
  go_wp2_with fail
  go_ret
  rw [HR.out]
  exact ⟨rfl, L2.out⟩
set_option maxRecDepth 100000 in
set_option maxHeartbeats 6400000 in
theorem passR_any (q : Q) (vk vw vc : Value) (row : List Cd.V) (u : Value) (w : World) (hq : QIn w q vk vw vc) (hu : VsAt w u row) (hl : q.wh.length ≤ 1000000) (hok : ∀ x ∈ q.wh, Nok x) (hrk : ∀ x ∈ row, Vok x) : Calls Try.prog 15 #[qv q vk vw vc, u] w fun e w' => e = .returned (.bool (passB q row)) ∧ Below w.heap.size w w' := by
  obtain ⟨ka, kc, rfl⟩ := vs_slc hq.1
  obtain ⟨wa, wc, rfl⟩ := hq.2.1.slc
  obtain ⟨ca, cc, rfl⟩ := hq.2.2.slc
  obtain ⟨ra, rc, rfl⟩ := vs_slc hu
  have BX := hid (BQ.new w 39 q (.slice ka q.key.length kc) (.slice wa q.wh.length wc) (.slice ca q.cols.length cc))
  have L := hid (hba w (.cells #[.int .i64 q.kind, .string q.table, .slice ka q.key.length kc, .int .i64 q.t, .int .i64 q.v, .int .i64 q.fr, .int .i64 q.to, .slice wa q.wh.length wc, .slice ca q.cols.length cc, .int .i64 q.limit, .bool q.desc] 39))
  have HW := hid (hq.2.1.below L.out)
  have HU := hid (hu.below L.out)
  obtain ⟨c0, c1, c2, c3, c4, c5, c6, c7, c8, c9, c10, cl⟩ := BX.out.cells
  clear cl
  unfold qv
  by_cases h0 : q.wh.length = 0
  case pos =>
    have h0' : ((q.wh.length : Int) == 0) = true := by rw [h0]; rfl
    have HR : Hid (passB q row = true) := by show _ = _; unfold passB; rw [decide_eq_true h0]; rfl
    clear h0
    go_enter Try.func15, Try.ntmps15
    go_wp2_with fail
    go_ret
    rw [HR.out]
    exact ⟨rfl, L.out⟩
  have h0' : ((q.wh.length : Int) == 0) = false := by rw [beq_eq_false_iff_ne]; omega
  have ce := evalR_any _ _ q.wh row _ HW.out HU.out hl (fun x hx => ⟨(hok x hx).2.2.2.2, (hok x hx).2.2.2.1⟩) (fun x hx => ⟨(hrk x hx).2.2, (hrk x hx).2.1⟩)
  have hP : passB q row = decide (evalI q.wh row = 1) := by unfold passB; rw [decide_eq_false h0, Bool.false_or]
  have hr := eval_range q.wh row
  have HP := hid hP
  generalize evalI q.wh row = z at ce HP hr
  clear hP h0
  have CE := hid ce
  clear ce
  by_cases hz : z = 1
  case pos =>
    subst hz
    have HR := hid (HP.out.trans (decide_eq_true rfl))
    go_enter Try.func15, Try.ntmps15
    go_wp2_with fail
    refine CE.out.mono ?_; rintro e w2 ⟨rfl, b2⟩
    have L2 := hid (hnext L.out b2)
    clear b2 c0 c1 c2 c3 c4 c5 c6 c7 c8 c9 c10
    go_wp2_with fail
    go_ret
    rw [HR.out]
    exact ⟨rfl, L2.out⟩
  have HR := hid (HP.out.trans (decide_eq_false hz))
  have hz1 : ¬ (0 : Int) < z := by omega
  have hz3 : decide ((0 : Int) < z) = false := decide_eq_false hz1
  have hz2 : (z == 1) = false := by simpa using hz
  go_enter Try.func15, Try.ntmps15
  go_wp2_with fail
  refine CE.out.mono ?_; rintro e w2 ⟨rfl, b2⟩
  have L2 := hid (hnext L.out b2)
  clear b2 c0 c1 c2 c3 c4 c5 c6 c7 c8 c9 c10
  go_wp2_with fail
  go_ret
  rw [HR.out]
  exact ⟨rfl, L2.out⟩
end Go.Proofs.Ytmcneelapghfcaa
