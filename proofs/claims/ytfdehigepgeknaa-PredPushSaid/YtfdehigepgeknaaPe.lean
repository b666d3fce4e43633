/-
  The small functions of conditions, End, whole: their contracts. Conditions: where they are named.
-/
import Derived.Test.YtfdehigepgeknaaPd
namespace Go.Proofs.Ytfdehigepgeknaa
open Go.RowKit Pd

set_option maxRecDepth 100000 in
set_option maxHeartbeats 3200000 in
theorem parts_any (op : Int) (w : World) : Calls Try.prog 28 #[.int .i64 op] w fun e w' => e = .returned (.int .i64 (parts op)) ∧ w = w' := by
  by_cases h0 : op < 1
  · have HE : Hid (parts op = -1) := if_pos (.inl h0)
    have g0 : op < 1 := h0
    have g1 : ¬ (1 : Int) ≤ op := by omega
    have g9 : (op == 9) = false := by rw [beq_eq_false_iff_ne]; omega
    have g10 : (op == 10) = false := by rw [beq_eq_false_iff_ne]; omega
    have g11 : (op == 11) = false := by rw [beq_eq_false_iff_ne]; omega
    go_enter Try.func28, Try.ntmps28
    go_wp2_with fail
    go_ret
    rw [HE.out]
    exact ⟨rfl, rfl⟩
  · skip
    by_cases h1 : 11 < op
    · have HE : Hid (parts op = -1) := if_pos (.inr h1)
      have g0 : ¬ op ≤ 10 := by omega
      have g9 : (op == 9) = false := by rw [beq_eq_false_iff_ne]; omega
      have g10 : (op == 10) = false := by rw [beq_eq_false_iff_ne]; omega
      have g11 : (op == 11) = false := by rw [beq_eq_false_iff_ne]; omega
      have g1 : (1 : Int) ≤ op := by omega
      have g8 : ¬ op ≤ 8 := by omega
      go_enter Try.func28, Try.ntmps28
      go_wp2_with fail
      go_ret
      rw [HE.out]
      exact ⟨rfl, rfl⟩
    · skip
      by_cases h2 : op = 11
      · subst h2
        have HE : Hid (parts 11 = 1) := rfl
        go_enter Try.func28, Try.ntmps28
        go_wp2_with fail
        go_ret
        rw [HE.out]
        exact ⟨rfl, rfl⟩
      · skip
        by_cases h3 : op = 9
        · subst h3
          have HE : Hid (parts 9 = 2) := rfl
          go_enter Try.func28, Try.ntmps28
          go_wp2_with fail
          go_ret
          rw [HE.out]
          exact ⟨rfl, rfl⟩
        · skip
          by_cases h4 : op = 10
          · subst h4
            have HE : Hid (parts 10 = 2) := rfl
            go_enter Try.func28, Try.ntmps28
            go_wp2_with fail
            go_ret
            rw [HE.out]
            exact ⟨rfl, rfl⟩
          · skip
            have HE : Hid (parts op = 0) := by show _ = _; unfold parts; rw [if_neg (by omega), if_neg h2, if_neg (by omega)]
            have g1 : (1 : Int) ≤ op := by omega
            have g8 : op ≤ 8 := by omega
            have g9 : (op == 9) = false := by rw [beq_eq_false_iff_ne]; omega
            have g10 : (op == 10) = false := by rw [beq_eq_false_iff_ne]; omega
            have g11 : (op == 11) = false := by rw [beq_eq_false_iff_ne]; omega
            go_enter Try.func28, Try.ntmps28
            go_wp2_with fail
            go_ret
            rw [HE.out]
            exact ⟨rfl, rfl⟩
set_option maxRecDepth 100000 in
set_option maxHeartbeats 3200000 in
theorem kids_any (op : Int) (w : World) : Calls Try.prog 45 #[.int .i64 op] w fun e w' => e = .returned (.int .i64 (parts op)) ∧ w = w' := by
  by_cases h0 : op < 1
  · have HE : Hid (parts op = -1) := if_pos (.inl h0)
    have g0 : op < 1 := h0
    have g1 : ¬ (1 : Int) ≤ op := by omega
    have g9 : (op == 9) = false := by rw [beq_eq_false_iff_ne]; omega
    have g10 : (op == 10) = false := by rw [beq_eq_false_iff_ne]; omega
    have g11 : (op == 11) = false := by rw [beq_eq_false_iff_ne]; omega
    go_enter Try.func45, Try.ntmps45
    go_wp2_with fail
    go_ret
    rw [HE.out]
    exact ⟨rfl, rfl⟩
  · skip
    by_cases h1 : 11 < op
    · have HE : Hid (parts op = -1) := if_pos (.inr h1)
      have g0 : ¬ op ≤ 10 := by omega
      have g9 : (op == 9) = false := by rw [beq_eq_false_iff_ne]; omega
      have g10 : (op == 10) = false := by rw [beq_eq_false_iff_ne]; omega
      have g11 : (op == 11) = false := by rw [beq_eq_false_iff_ne]; omega
      have g1 : (1 : Int) ≤ op := by omega
      have g8 : ¬ op ≤ 8 := by omega
      go_enter Try.func45, Try.ntmps45
      go_wp2_with fail
      go_ret
      rw [HE.out]
      exact ⟨rfl, rfl⟩
    · skip
      by_cases h2 : op = 11
      · subst h2
        have HE : Hid (parts 11 = 1) := rfl
        go_enter Try.func45, Try.ntmps45
        go_wp2_with fail
        go_ret
        rw [HE.out]
        exact ⟨rfl, rfl⟩
      · skip
        by_cases h3 : op = 9
        · subst h3
          have HE : Hid (parts 9 = 2) := rfl
          go_enter Try.func45, Try.ntmps45
          go_wp2_with fail
          go_ret
          rw [HE.out]
          exact ⟨rfl, rfl⟩
        · skip
          by_cases h4 : op = 10
          · subst h4
            have HE : Hid (parts 10 = 2) := rfl
            go_enter Try.func45, Try.ntmps45
            go_wp2_with fail
            go_ret
            rw [HE.out]
            exact ⟨rfl, rfl⟩
          · skip
            have HE : Hid (parts op = 0) := by show _ = _; unfold parts; rw [if_neg (by omega), if_neg h2, if_neg (by omega)]
            have g1 : (1 : Int) ≤ op := by omega
            have g8 : op ≤ 8 := by omega
            have g9 : (op == 9) = false := by rw [beq_eq_false_iff_ne]; omega
            have g10 : (op == 10) = false := by rw [beq_eq_false_iff_ne]; omega
            have g11 : (op == 11) = false := by rw [beq_eq_false_iff_ne]; omega
            go_enter Try.func45, Try.ntmps45
            go_wp2_with fail
            go_ret
            rw [HE.out]
            exact ⟨rfl, rfl⟩
namespace Pd
def tr (b : Bool) : Int := if b then 1 else 0
def notI (t : Int) : Int := if t = -1 then -1 else 1 - t
def andI (a b : Int) : Int := if a = 0 ∨ b = 0 then 0 else if a = -1 ∨ b = -1 then -1 else 1
def opB (op c : Int) : Bool := if op = 1 then decide (c = 0) else if op = 2 then !decide (c = 0) else if op = 3 then decide (c < 0) else if op = 4 then decide (c ≤ 0) else if op = 5 then decide (0 < c) else decide (0 ≤ c)
def leafV (x : N) (y : Cd.V) : Int := if x.op = 7 then tr (decide (y.k = 0)) else if x.op = 8 then tr (!decide (y.k = 0)) else if y.k = 0 ∨ x.v.k = 0 then -1 else tr (opB x.op (Ky.cmp y x.v))
def otherOp (op : Int) : Int := if op = 1 then 2 else if op = 2 then 1 else if op = 3 then 6 else if op = 6 then 3 else if op = 4 then 5 else if op = 5 then 4 else if op = 7 then 8 else if op = 8 then 7 else if op = 9 then 10 else if op = 10 then 9 else 0
def other (x : N) : N := ⟨otherOp x.op, x.col, x.v⟩
end Pd
set_option maxRecDepth 100000 in
set_option maxHeartbeats 3200000 in
theorem truth_any (b : Bool) (w : World) : Calls Try.prog 38 #[.bool b] w fun e w' => e = .returned (.int .i64 (tr b)) ∧ w = w' := by
  cases b
  all_goals
    go_enter Try.func38, Try.ntmps38
    go_wp2_with fail
    go_ret
    exact ⟨rfl, rfl⟩
set_option maxRecDepth 100000 in
set_option maxHeartbeats 3200000 in
theorem truthR_any (b : Bool) (w : World) : Calls Try.prog 50 #[.bool b] w fun e w' => e = .returned (.int .i64 (tr b)) ∧ w = w' := by
  cases b
  all_goals
    go_enter Try.func50, Try.ntmps50
    go_wp2_with fail
    go_ret
    exact ⟨rfl, rfl⟩
set_option maxRecDepth 100000 in
set_option maxHeartbeats 3200000 in
theorem not_any (t : Int) (h0 : -1 ≤ t) (h1 : t ≤ 1) (w : World) : Calls Try.prog 29 #[.int .i64 t] w fun e w' => e = .returned (.int .i64 (notI t)) ∧ w = w' := by
  obtain rfl | rfl | rfl : t = -1 ∨ t = 0 ∨ t = 1 := by omega
  all_goals
    go_enter Try.func29, Try.ntmps29
    go_wp2_with fail
    go_ret
    exact ⟨rfl, rfl⟩
set_option maxRecDepth 100000 in
set_option maxHeartbeats 3200000 in
theorem and_any (a b : Int) (h0 : -1 ≤ a) (h1 : a ≤ 1) (h2 : -1 ≤ b) (h3 : b ≤ 1) (w : World) : Calls Try.prog 30 #[.int .i64 a, .int .i64 b] w fun e w' => e = .returned (.int .i64 (andI a b)) ∧ w = w' := by
  obtain rfl | rfl | rfl : a = -1 ∨ a = 0 ∨ a = 1 := by omega
  all_goals
    obtain rfl | rfl | rfl : b = -1 ∨ b = 0 ∨ b = 1 := by omega
    all_goals
      go_enter Try.func30, Try.ntmps30
      go_wp2_with fail
      go_ret
      exact ⟨rfl, rfl⟩
set_option maxRecDepth 100000 in
set_option maxHeartbeats 3200000 in
theorem pdecimal_any (n : Int) (h0 : -9223372036854775808 ≤ n) (h1 : n ≤ 9223372036854775807) (w : World) : Calls Try.prog 41 #[.int .i64 n] w fun e w' => e = .returned (.string (bstr (Vl.decI n))) ∧ Below w.heap.size w w' := by
  have c := hid (fun W => show_any 2 n 0 ⟨#[]⟩ (by decide) h0 h1 (by decide) W)
  rw [show Vl.txt 2 n 0 ⟨#[]⟩ = Vl.decI n from rfl] at c
  unfold vv at c
  go_enter Try.func41, Try.ntmps41
  go_wp2_with fail
  refine (c.out _).mono ?_; rintro e w1 ⟨rfl, b1⟩
  go_wp2_with fail
  go_ret
  exact ⟨rfl, b1⟩
set_option maxRecDepth 100000 in
set_option maxHeartbeats 3200000 in
theorem one_any (n : Int) (w : World) : Calls Try.prog 21 #[.int .i64 n] w fun e w' => e = .returned (vv 2 n 0 ⟨#[]⟩) ∧ Below w.heap.size w w' := by
  unfold vv
  go_enter Try.func21, Try.ntmps21
  go_wp2_with fail
  refine bodyPost_ret (v := .agg #[.int .i64 2, .int .i64 n, .int .u64 0, .string ⟨#[]⟩]) (by simp [results, Try.results21, go_sem]) rfl ?_
  exact ⟨rfl, hba _ _⟩
theorem idx_other (w : World) : (Instr.index 72 (.agg #[.int .i64 0, .int .i64 2, .int .i64 1, .int .i64 6, .int .i64 5, .int .i64 4, .int .i64 3, .int .i64 8, .int .i64 7, .int .i64 10, .int .i64 9]) (.int .i64 1)).run Try.prog w = .ok (.int .i64 2) w ∧ (Instr.index 72 (.agg #[.int .i64 0, .int .i64 2, .int .i64 1, .int .i64 6, .int .i64 5, .int .i64 4, .int .i64 3, .int .i64 8, .int .i64 7, .int .i64 10, .int .i64 9]) (.int .i64 2)).run Try.prog w = .ok (.int .i64 1) w ∧ (Instr.index 72 (.agg #[.int .i64 0, .int .i64 2, .int .i64 1, .int .i64 6, .int .i64 5, .int .i64 4, .int .i64 3, .int .i64 8, .int .i64 7, .int .i64 10, .int .i64 9]) (.int .i64 3)).run Try.prog w = .ok (.int .i64 6) w ∧ (Instr.index 72 (.agg #[.int .i64 0, .int .i64 2, .int .i64 1, .int .i64 6, .int .i64 5, .int .i64 4, .int .i64 3, .int .i64 8, .int .i64 7, .int .i64 10, .int .i64 9]) (.int .i64 4)).run Try.prog w = .ok (.int .i64 5) w ∧ (Instr.index 72 (.agg #[.int .i64 0, .int .i64 2, .int .i64 1, .int .i64 6, .int .i64 5, .int .i64 4, .int .i64 3, .int .i64 8, .int .i64 7, .int .i64 10, .int .i64 9]) (.int .i64 5)).run Try.prog w = .ok (.int .i64 4) w ∧ (Instr.index 72 (.agg #[.int .i64 0, .int .i64 2, .int .i64 1, .int .i64 6, .int .i64 5, .int .i64 4, .int .i64 3, .int .i64 8, .int .i64 7, .int .i64 10, .int .i64 9]) (.int .i64 6)).run Try.prog w = .ok (.int .i64 3) w ∧ (Instr.index 72 (.agg #[.int .i64 0, .int .i64 2, .int .i64 1, .int .i64 6, .int .i64 5, .int .i64 4, .int .i64 3, .int .i64 8, .int .i64 7, .int .i64 10, .int .i64 9]) (.int .i64 7)).run Try.prog w = .ok (.int .i64 8) w ∧ (Instr.index 72 (.agg #[.int .i64 0, .int .i64 2, .int .i64 1, .int .i64 6, .int .i64 5, .int .i64 4, .int .i64 3, .int .i64 8, .int .i64 7, .int .i64 10, .int .i64 9]) (.int .i64 8)).run Try.prog w = .ok (.int .i64 7) w ∧ (Instr.index 72 (.agg #[.int .i64 0, .int .i64 2, .int .i64 1, .int .i64 6, .int .i64 5, .int .i64 4, .int .i64 3, .int .i64 8, .int .i64 7, .int .i64 10, .int .i64 9]) (.int .i64 9)).run Try.prog w = .ok (.int .i64 10) w ∧ (Instr.index 72 (.agg #[.int .i64 0, .int .i64 2, .int .i64 1, .int .i64 6, .int .i64 5, .int .i64 4, .int .i64 3, .int .i64 8, .int .i64 7, .int .i64 10, .int .i64 9]) (.int .i64 10)).run Try.prog w = .ok (.int .i64 9) w := by
  refine ⟨?_, ?_, ?_, ?_, ?_, ?_, ?_, ?_, ?_, ?_⟩ <;> kernel_rfl
set_option maxRecDepth 100000 in
set_option maxHeartbeats 3200000 in
theorem other_any (x : N) (h0 : 1 ≤ x.op) (h1 : x.op ≤ 10) (w : World) : Calls Try.prog 27 #[nv x] w fun e w' => e = .returned (nv (other x)) ∧ Below w.heap.size w w' := by
  obtain ⟨op, c, ⟨k, n, b, s⟩⟩ := x
  unfold nv
  simp only at h0 h1 ⊢
  obtain rfl | rfl | rfl | rfl | rfl | rfl | rfl | rfl | rfl | rfl : op = 1 ∨ op = 2 ∨ op = 3 ∨ op = 4 ∨ op = 5 ∨ op = 6 ∨ op = 7 ∨ op = 8 ∨ op = 9 ∨ op = 10 := by omega
  · have hi := fun w => (idx_other w).1
    go_enter Try.func27, Try.ntmps27
    go_wp2_with fail
    refine bodyPost_ret (v := .agg #[.int .i64 2, .int .i64 c, .int .i64 k, .int .i64 n, .int .u64 (b : Int), .string s]) (by simp [results, Try.results27, go_sem]) rfl ?_
    exact ⟨rfl, hnext (hba _ _) (hba _ _)⟩
  · have hi := fun w => (idx_other w).2.1
    go_enter Try.func27, Try.ntmps27
    go_wp2_with fail
    refine bodyPost_ret (v := .agg #[.int .i64 1, .int .i64 c, .int .i64 k, .int .i64 n, .int .u64 (b : Int), .string s]) (by simp [results, Try.results27, go_sem]) rfl ?_
    exact ⟨rfl, hnext (hba _ _) (hba _ _)⟩
  · have hi := fun w => (idx_other w).2.2.1
    go_enter Try.func27, Try.ntmps27
    go_wp2_with fail
    refine bodyPost_ret (v := .agg #[.int .i64 6, .int .i64 c, .int .i64 k, .int .i64 n, .int .u64 (b : Int), .string s]) (by simp [results, Try.results27, go_sem]) rfl ?_
    exact ⟨rfl, hnext (hba _ _) (hba _ _)⟩
  · have hi := fun w => (idx_other w).2.2.2.1
    go_enter Try.func27, Try.ntmps27
    go_wp2_with fail
    refine bodyPost_ret (v := .agg #[.int .i64 5, .int .i64 c, .int .i64 k, .int .i64 n, .int .u64 (b : Int), .string s]) (by simp [results, Try.results27, go_sem]) rfl ?_
    exact ⟨rfl, hnext (hba _ _) (hba _ _)⟩
  · have hi := fun w => (idx_other w).2.2.2.2.1
    go_enter Try.func27, Try.ntmps27
    go_wp2_with fail
    refine bodyPost_ret (v := .agg #[.int .i64 4, .int .i64 c, .int .i64 k, .int .i64 n, .int .u64 (b : Int), .string s]) (by simp [results, Try.results27, go_sem]) rfl ?_
    exact ⟨rfl, hnext (hba _ _) (hba _ _)⟩
  · have hi := fun w => (idx_other w).2.2.2.2.2.1
    go_enter Try.func27, Try.ntmps27
    go_wp2_with fail
    refine bodyPost_ret (v := .agg #[.int .i64 3, .int .i64 c, .int .i64 k, .int .i64 n, .int .u64 (b : Int), .string s]) (by simp [results, Try.results27, go_sem]) rfl ?_
    exact ⟨rfl, hnext (hba _ _) (hba _ _)⟩
  · have hi := fun w => (idx_other w).2.2.2.2.2.2.1
    go_enter Try.func27, Try.ntmps27
    go_wp2_with fail
    refine bodyPost_ret (v := .agg #[.int .i64 8, .int .i64 c, .int .i64 k, .int .i64 n, .int .u64 (b : Int), .string s]) (by simp [results, Try.results27, go_sem]) rfl ?_
    exact ⟨rfl, hnext (hba _ _) (hba _ _)⟩
  · have hi := fun w => (idx_other w).2.2.2.2.2.2.2.1
    go_enter Try.func27, Try.ntmps27
    go_wp2_with fail
    refine bodyPost_ret (v := .agg #[.int .i64 7, .int .i64 c, .int .i64 k, .int .i64 n, .int .u64 (b : Int), .string s]) (by simp [results, Try.results27, go_sem]) rfl ?_
    exact ⟨rfl, hnext (hba _ _) (hba _ _)⟩
  · have hi := fun w => (idx_other w).2.2.2.2.2.2.2.2.1
    go_enter Try.func27, Try.ntmps27
    go_wp2_with fail
    refine bodyPost_ret (v := .agg #[.int .i64 10, .int .i64 c, .int .i64 k, .int .i64 n, .int .u64 (b : Int), .string s]) (by simp [results, Try.results27, go_sem]) rfl ?_
    exact ⟨rfl, hnext (hba _ _) (hba _ _)⟩
  · have hi := fun w => (idx_other w).2.2.2.2.2.2.2.2.2
    go_enter Try.func27, Try.ntmps27
    go_wp2_with fail
    refine bodyPost_ret (v := .agg #[.int .i64 9, .int .i64 c, .int .i64 k, .int .i64 n, .int .u64 (b : Int), .string s]) (by simp [results, Try.results27, go_sem]) rfl ?_
    exact ⟨rfl, hnext (hba _ _) (hba _ _)⟩
theorem idx_leaf (b1 b2 b3 b4 b5 b6 : Bool) (w : World) : (Instr.index 75 (.agg #[.bool false, .bool b1, .bool b2, .bool b3, .bool b4, .bool b5, .bool b6]) (.int .i64 1)).run Try.prog w = .ok (.bool b1) w ∧ (Instr.index 75 (.agg #[.bool false, .bool b1, .bool b2, .bool b3, .bool b4, .bool b5, .bool b6]) (.int .i64 2)).run Try.prog w = .ok (.bool b2) w ∧ (Instr.index 75 (.agg #[.bool false, .bool b1, .bool b2, .bool b3, .bool b4, .bool b5, .bool b6]) (.int .i64 3)).run Try.prog w = .ok (.bool b3) w ∧ (Instr.index 75 (.agg #[.bool false, .bool b1, .bool b2, .bool b3, .bool b4, .bool b5, .bool b6]) (.int .i64 4)).run Try.prog w = .ok (.bool b4) w ∧ (Instr.index 75 (.agg #[.bool false, .bool b1, .bool b2, .bool b3, .bool b4, .bool b5, .bool b6]) (.int .i64 5)).run Try.prog w = .ok (.bool b5) w ∧ (Instr.index 75 (.agg #[.bool false, .bool b1, .bool b2, .bool b3, .bool b4, .bool b5, .bool b6]) (.int .i64 6)).run Try.prog w = .ok (.bool b6) w := by
  refine ⟨?_, ?_, ?_, ?_, ?_, ?_⟩ <;> kernel_rfl
set_option maxRecDepth 100000 in
set_option maxHeartbeats 3200000 in
theorem leaf_any (x : N) (y : Cd.V) (h0 : 1 ≤ x.op) (h1 : x.op ≤ 8) (hx : x.v.s.size ≤ maxLen) (hy : y.s.size ≤ maxLen) (w : World) : Calls Try.prog 31 #[nv x, vv y.k y.n y.b y.s] w fun e w' => e = .returned (.int .i64 (leafV x y)) ∧ Below w.heap.size w w' := by
  have cc := hid (fun W => compare_any y x.v hy hx W)
  have ct := hid (fun b W => truth_any b W)
  obtain ⟨op, c, ⟨xk, xn, xb, xs⟩⟩ := x
  obtain ⟨k, n, b, s⟩ := y
  unfold nv vv at *
  simp only at h0 h1 ⊢
  have LB := hid (hnext (hba w (.cells #[.int .i64 op, .int .i64 c, .int .i64 xk, .int .i64 xn, .int .u64 (xb : Int), .string xs] 41)) (hba _ (.cells #[.int .i64 k, .int .i64 n, .int .u64 (b : Int), .string s] 39)))
  by_cases e7 : op = 7
  · subst e7
    by_cases hk : k = 0
    · subst hk
      have HE : Hid (leafV ⟨7, c, ⟨xk, xn, xb, xs⟩⟩ ⟨0, n, b, s⟩ = tr true) := by show _ = _; unfold leafV; simp
      go_enter Try.func31, Try.ntmps31
      go_wp2_with fail
      refine (ct.out _ _).mono ?_; rintro e w1 ⟨rfl, rfl⟩
      go_wp2_with fail
      go_ret
      rw [HE.out]
      exact ⟨rfl, LB.out⟩
    · have hk' : (k == 0) = false := by rw [beq_eq_false_iff_ne]; exact hk
      have HE : Hid (leafV ⟨7, c, ⟨xk, xn, xb, xs⟩⟩ ⟨k, n, b, s⟩ = tr false) := by show _ = _; unfold leafV; simp [hk]
      clear hk
      go_enter Try.func31, Try.ntmps31
      go_wp2_with fail
      refine (ct.out _ _).mono ?_; rintro e w1 ⟨rfl, rfl⟩
      go_wp2_with fail
      go_ret
      rw [HE.out]
      exact ⟨rfl, LB.out⟩
  by_cases e8 : op = 8
  · subst e8
    by_cases hk : k = 0
    · subst hk
      have HE : Hid (leafV ⟨8, c, ⟨xk, xn, xb, xs⟩⟩ ⟨0, n, b, s⟩ = tr false) := by show _ = _; unfold leafV; simp
      go_enter Try.func31, Try.ntmps31
      go_wp2_with fail
      refine (ct.out _ _).mono ?_; rintro e w1 ⟨rfl, rfl⟩
      go_wp2_with fail
      go_ret
      rw [HE.out]
      exact ⟨rfl, LB.out⟩
    · have hk' : (k == 0) = false := by rw [beq_eq_false_iff_ne]; exact hk
      have HE : Hid (leafV ⟨8, c, ⟨xk, xn, xb, xs⟩⟩ ⟨k, n, b, s⟩ = tr true) := by show _ = _; unfold leafV; simp [hk]
      clear hk
      go_enter Try.func31, Try.ntmps31
      go_wp2_with fail
      refine (ct.out _ _).mono ?_; rintro e w1 ⟨rfl, rfl⟩
      go_wp2_with fail
      go_ret
      rw [HE.out]
      exact ⟨rfl, LB.out⟩
  have n7 : (op == 7) = false := by rw [beq_eq_false_iff_ne]; exact e7
  have n8 : (op == 8) = false := by rw [beq_eq_false_iff_ne]; exact e8
  by_cases hk : k = 0
  · subst hk
    have HE : Hid (leafV ⟨op, c, ⟨xk, xn, xb, xs⟩⟩ ⟨0, n, b, s⟩ = -1) := by show _ = _; unfold leafV; rw [if_neg e7, if_neg e8]; simp
    go_enter Try.func31, Try.ntmps31
    go_wp2_with fail
    go_ret
    rw [HE.out]
    exact ⟨rfl, LB.out⟩
  have hk' : (k == 0) = false := by rw [beq_eq_false_iff_ne]; exact hk
  by_cases hxk : xk = 0
  · subst hxk
    have HE : Hid (leafV ⟨op, c, ⟨0, xn, xb, xs⟩⟩ ⟨k, n, b, s⟩ = -1) := by show _ = _; unfold leafV; rw [if_neg e7, if_neg e8]; simp
    go_enter Try.func31, Try.ntmps31
    go_wp2_with fail
    go_ret
    rw [HE.out]
    exact ⟨rfl, LB.out⟩
  have hxk' : (xk == 0) = false := by rw [beq_eq_false_iff_ne]; exact hxk
  have HE0 : Hid (leafV ⟨op, c, ⟨xk, xn, xb, xs⟩⟩ ⟨k, n, b, s⟩ = tr (opB op (Ky.cmp ⟨k, n, b, s⟩ ⟨xk, xn, xb, xs⟩))) := by show _ = _; unfold leafV; rw [if_neg e7, if_neg e8, if_neg (by rintro (h | h); exact hk h; exact hxk h)]
  generalize Ky.cmp ⟨k, n, b, s⟩ ⟨xk, xn, xb, xs⟩ = z at cc HE0
  obtain ⟨b1, hb1⟩ : ∃ r, (z == 0) = r := ⟨_, rfl⟩
  obtain ⟨b3, hb3⟩ : ∃ r, decide (z < 0) = r := ⟨_, rfl⟩
  obtain ⟨b4, hb4⟩ : ∃ r, decide (z ≤ 0) = r := ⟨_, rfl⟩
  obtain ⟨b5, hb5⟩ : ∃ r, decide (0 < z) = r := ⟨_, rfl⟩
  obtain ⟨b6, hb6⟩ : ∃ r, decide (0 ≤ z) = r := ⟨_, rfl⟩
  have hb2 : (z != 0) = !b1 := by rw [← hb1]; rfl
  have hb1' : decide (z = 0) = b1 := by rw [← hb1]; rfl
  clear hk hxk e7 e8
  obtain rfl | rfl | rfl | rfl | rfl | rfl : op = 1 ∨ op = 2 ∨ op = 3 ∨ op = 4 ∨ op = 5 ∨ op = 6 := by have := beq_eq_false_iff_ne.1 n7; have := beq_eq_false_iff_ne.1 n8; omega
  · have HE : Hid (leafV ⟨1, c, ⟨xk, xn, xb, xs⟩⟩ ⟨k, n, b, s⟩ = tr (b1)) := by show _ = _; rw [HE0.out, ← hb1']; rfl
    clear HE0
    have hi := fun p1 p2 p3 p4 p5 p6 w => (idx_leaf p1 p2 p3 p4 p5 p6 w).1
    go_enter Try.func31, Try.ntmps31
    go_wp2_with fail
    refine (cc.out _).mono ?_; rintro e w1 ⟨rfl, b7⟩
    have V1 := BN.keep (BN.keep (BN.new 41 w ⟨1, c, ⟨xk, xn, xb, xs⟩⟩) (hba _ (.cells #[.int .i64 k, .int .i64 n, .int .u64 (b : Int), .string s] 39))) b7
    have LB1 := hid (hnext LB.out b7)
    clear b7
    obtain ⟨q0, q1, q2, q3, q4, q5, qf0, qf1, qf2, qf3, qf4, qf5, ql⟩ := V1.cells
    simp only at q0 q1 q2 q3 q4 q5
    go_wp2_with fail
    refine (ct.out _ _).mono ?_; rintro e w2 ⟨rfl, rfl⟩
    go_wp2_with fail
    go_ret
    rw [HE.out]
    exact ⟨rfl, LB1.out⟩
  · have HE : Hid (leafV ⟨2, c, ⟨xk, xn, xb, xs⟩⟩ ⟨k, n, b, s⟩ = tr (!b1)) := by show _ = _; rw [HE0.out, ← hb1']; rfl
    clear HE0
    have hi := fun p1 p2 p3 p4 p5 p6 w => (idx_leaf p1 p2 p3 p4 p5 p6 w).2.1
    go_enter Try.func31, Try.ntmps31
    go_wp2_with fail
    refine (cc.out _).mono ?_; rintro e w1 ⟨rfl, b7⟩
    have V1 := BN.keep (BN.keep (BN.new 41 w ⟨2, c, ⟨xk, xn, xb, xs⟩⟩) (hba _ (.cells #[.int .i64 k, .int .i64 n, .int .u64 (b : Int), .string s] 39))) b7
    have LB1 := hid (hnext LB.out b7)
    clear b7
    obtain ⟨q0, q1, q2, q3, q4, q5, qf0, qf1, qf2, qf3, qf4, qf5, ql⟩ := V1.cells
    simp only at q0 q1 q2 q3 q4 q5
    go_wp2_with fail
    refine (ct.out _ _).mono ?_; rintro e w2 ⟨rfl, rfl⟩
    go_wp2_with fail
    go_ret
    rw [HE.out]
    exact ⟨rfl, LB1.out⟩
  · have HE : Hid (leafV ⟨3, c, ⟨xk, xn, xb, xs⟩⟩ ⟨k, n, b, s⟩ = tr (b3)) := by show _ = _; rw [HE0.out, ← hb3]; rfl
    clear HE0
    have hi := fun p1 p2 p3 p4 p5 p6 w => (idx_leaf p1 p2 p3 p4 p5 p6 w).2.2.1
    go_enter Try.func31, Try.ntmps31
    go_wp2_with fail
    refine (cc.out _).mono ?_; rintro e w1 ⟨rfl, b7⟩
    have V1 := BN.keep (BN.keep (BN.new 41 w ⟨3, c, ⟨xk, xn, xb, xs⟩⟩) (hba _ (.cells #[.int .i64 k, .int .i64 n, .int .u64 (b : Int), .string s] 39))) b7
    have LB1 := hid (hnext LB.out b7)
    clear b7
    obtain ⟨q0, q1, q2, q3, q4, q5, qf0, qf1, qf2, qf3, qf4, qf5, ql⟩ := V1.cells
    simp only at q0 q1 q2 q3 q4 q5
    go_wp2_with fail
    refine (ct.out _ _).mono ?_; rintro e w2 ⟨rfl, rfl⟩
    go_wp2_with fail
    go_ret
    rw [HE.out]
    exact ⟨rfl, LB1.out⟩
  · have HE : Hid (leafV ⟨4, c, ⟨xk, xn, xb, xs⟩⟩ ⟨k, n, b, s⟩ = tr (b4)) := by show _ = _; rw [HE0.out, ← hb4]; rfl
    clear HE0
    have hi := fun p1 p2 p3 p4 p5 p6 w => (idx_leaf p1 p2 p3 p4 p5 p6 w).2.2.2.1
    go_enter Try.func31, Try.ntmps31
    go_wp2_with fail
    refine (cc.out _).mono ?_; rintro e w1 ⟨rfl, b7⟩
    have V1 := BN.keep (BN.keep (BN.new 41 w ⟨4, c, ⟨xk, xn, xb, xs⟩⟩) (hba _ (.cells #[.int .i64 k, .int .i64 n, .int .u64 (b : Int), .string s] 39))) b7
    have LB1 := hid (hnext LB.out b7)
    clear b7
    obtain ⟨q0, q1, q2, q3, q4, q5, qf0, qf1, qf2, qf3, qf4, qf5, ql⟩ := V1.cells
    simp only at q0 q1 q2 q3 q4 q5
    go_wp2_with fail
    refine (ct.out _ _).mono ?_; rintro e w2 ⟨rfl, rfl⟩
    go_wp2_with fail
    go_ret
    rw [HE.out]
    exact ⟨rfl, LB1.out⟩
  · have HE : Hid (leafV ⟨5, c, ⟨xk, xn, xb, xs⟩⟩ ⟨k, n, b, s⟩ = tr (b5)) := by show _ = _; rw [HE0.out, ← hb5]; rfl
    clear HE0
    have hi := fun p1 p2 p3 p4 p5 p6 w => (idx_leaf p1 p2 p3 p4 p5 p6 w).2.2.2.2.1
    go_enter Try.func31, Try.ntmps31
    go_wp2_with fail
    refine (cc.out _).mono ?_; rintro e w1 ⟨rfl, b7⟩
    have V1 := BN.keep (BN.keep (BN.new 41 w ⟨5, c, ⟨xk, xn, xb, xs⟩⟩) (hba _ (.cells #[.int .i64 k, .int .i64 n, .int .u64 (b : Int), .string s] 39))) b7
    have LB1 := hid (hnext LB.out b7)
    clear b7
    obtain ⟨q0, q1, q2, q3, q4, q5, qf0, qf1, qf2, qf3, qf4, qf5, ql⟩ := V1.cells
    simp only at q0 q1 q2 q3 q4 q5
    go_wp2_with fail
    refine (ct.out _ _).mono ?_; rintro e w2 ⟨rfl, rfl⟩
    go_wp2_with fail
    go_ret
    rw [HE.out]
    exact ⟨rfl, LB1.out⟩
  · have HE : Hid (leafV ⟨6, c, ⟨xk, xn, xb, xs⟩⟩ ⟨k, n, b, s⟩ = tr (b6)) := by show _ = _; rw [HE0.out, ← hb6]; rfl
    clear HE0
    have hi := fun p1 p2 p3 p4 p5 p6 w => (idx_leaf p1 p2 p3 p4 p5 p6 w).2.2.2.2.2
    go_enter Try.func31, Try.ntmps31
    go_wp2_with fail
    refine (cc.out _).mono ?_; rintro e w1 ⟨rfl, b7⟩
    have V1 := BN.keep (BN.keep (BN.new 41 w ⟨6, c, ⟨xk, xn, xb, xs⟩⟩) (hba _ (.cells #[.int .i64 k, .int .i64 n, .int .u64 (b : Int), .string s] 39))) b7
    have LB1 := hid (hnext LB.out b7)
    clear b7
    obtain ⟨q0, q1, q2, q3, q4, q5, qf0, qf1, qf2, qf3, qf4, qf5, ql⟩ := V1.cells
    simp only at q0 q1 q2 q3 q4 q5
    go_wp2_with fail
    refine (ct.out _ _).mono ?_; rintro e w2 ⟨rfl, rfl⟩
    go_wp2_with fail
    go_ret
    rw [HE.out]
    exact ⟨rfl, LB1.out⟩
end Go.Proofs.Ytfdehigepgeknaa
