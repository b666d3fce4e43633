/-
  value.Truth, OfFloat; Copysign of two fixed numbers, NaN: their contracts. Condition: the value can stand in memory.
-/
import Derived.Test.YtgdegoacjobpdaaRe
namespace Go.Proofs.Ytgdegoacjobpdaa
open Go.RowKit

namespace Vl
/-- a truth, or none -/
def tru (k n : Int) (b : Nat) (s : ByteArray) : Int := if k = 1 ∧ Va.right k n b s = true then n else -1
end Vl
set_option maxRecDepth 100000 in
set_option maxHeartbeats 3200000 in
theorem truth_any (k n : Int) (b : Nat) (s : ByteArray) (hs : s.size ≤ maxLen) (w : World) : Calls Try.prog 18 #[vv k n b s] w fun e w' => e = .returned (.int .i64 (Vl.tru k n b s)) ∧ Below w.heap.size w w' := by
  have cr0 := fun W => right_any k n b s hs W
  unfold vv at cr0 ⊢
  have bv := BV.new w k n b s
  have L0 := hid (hba w (.cells #[.int .i64 k, .int .i64 n, .int .u64 (b : Int), .string s] 24))
  by_cases hk : k = 1
  · cases hr : Va.right k n b s with
    | true =>
      have HE : Hid (Vl.tru k n b s = n) := if_pos ⟨hk, hr⟩
      rw [hr] at cr0
      have cr := hid cr0
      clear cr0 hr
      subst hk
      go_enter Try.func18, Try.ntmps18
      go_wp2_with fail
      refine (cr.out _).mono ?_; rintro e w1 ⟨rfl, b1⟩
      have bv1 := bv.keep b1
      have L1 := hid (hnext L0.out b1)
      clear b1 bv L0
      obtain ⟨v0, v1, v2, v3, vf0, vf1, vf2, vf3, vl⟩ := bv1.cells
      go_wp2_with fail
      go_ret
      rw [HE.out]
      exact ⟨rfl, L1.out⟩
    | false =>
      have HE : Hid (Vl.tru k n b s = -1) := if_neg (fun h => by rw [hr] at h; exact absurd h.2 (by decide))
      rw [hr] at cr0
      have cr := hid cr0
      clear cr0 hr
      subst hk
      go_enter Try.func18, Try.ntmps18
      go_wp2_with fail
      refine (cr.out _).mono ?_; rintro e w1 ⟨rfl, b1⟩
      have bv1 := bv.keep b1
      have L1 := hid (hnext L0.out b1)
      clear b1 bv L0
      obtain ⟨v0, v1, v2, v3, vf0, vf1, vf2, vf3, vl⟩ := bv1.cells
      go_wp2_with fail
      go_ret
      rw [HE.out]
      exact ⟨rfl, L1.out⟩
  · have HE : Hid (Vl.tru k n b s = -1) := if_neg (fun h => hk h.1)
    have e1 : (k != 1) = true := by rw [bne_iff_ne]; exact hk
    have e2 : (k == 1) = false := by rw [beq_eq_false_iff_ne]; exact hk
    clear hk cr0
    go_enter Try.func18, Try.ntmps18
    go_wp2_with fail
    go_ret
    rw [HE.out]
    exact ⟨rfl, L0.out⟩
set_option maxRecDepth 100000 in
set_option maxHeartbeats 3200000 in
theorem offloat_any (b : Nat) (w : World) : Calls Try.prog 22 #[.float .f64 b] w fun e w' => e = .returned (vv 3 0 (Va.canon b) ⟨#[]⟩) ∧ Below w.heap.size w w' := by
  have c := hid (fun W => canonical_any b W)
  unfold vv
  generalize Va.canon b = m at c ⊢
  go_enter Try.func22, Try.ntmps22
  go_wp2_with fail
  refine (c.out _).mono ?_; rintro e w1 ⟨rfl, rfl⟩
  go_wp2_with fail
  refine bodyPost_ret (v := .agg #[.int .i64 3, .int .i64 0, .int .u64 (m : Int), .string ⟨#[]⟩]) (by simp [results, Try.results22, go_sem]) rfl ?_
  exact ⟨rfl, hba _ _⟩
set_option maxRecDepth 100000 in
set_option maxHeartbeats 1600000 in
theorem nan_any (w : World) : Calls Try.prog 25 #[] w fun e w' => e = .returned (.float .f64 9221120237041090561) ∧ w' = w := by
  have h : ∀ w : World, (callFunc 21 #[.int .u64 9221120237041090561]).run Try.prog w = .ok (.value (.float .f64 9221120237041090561)) w := fun w => run_frombits 9221120237041090561 w
  go_enter Try.func25, Try.ntmps25
  go_wp2_with fail
  go_ret
  exact ⟨rfl, rfl⟩
set_option maxRecDepth 100000 in
set_option maxHeartbeats 1600000 in
theorem copysign_any (w : World) : Calls Try.prog 24 #[.float .f64 0, .float .f64 13830554455654793216] w fun e w' => e = .returned (.float .f64 9223372036854775808) ∧ w' = w := by
  have h : ∀ w : World, (callFunc 21 #[.int .u64 9223372036854775808]).run Try.prog w = .ok (.value (.float .f64 9223372036854775808)) w := fun w => run_frombits 9223372036854775808 w
  have h1 : ∀ w : World, (callFunc 42 #[.float .f64 0]).run Try.prog w = .ok (.value (.int .u64 0)) w := fun w => run_bits 0 w
  have h2 : ∀ w : World, (callFunc 42 #[.float .f64 13830554455654793216]).run Try.prog w = .ok (.value (.int .u64 13830554455654793216)) w := fun w => run_bits 13830554455654793216 w
  have q1 : bits .andNot .u64 0 9223372036854775808 = 0 := by decide +kernel
  have q2 : bits .and .u64 13830554455654793216 9223372036854775808 = 9223372036854775808 := by decide +kernel
  have q3 : bits .or .u64 0 9223372036854775808 = 9223372036854775808 := by decide +kernel
  go_enter Try.func24, Try.ntmps24
  go_wp2_with fail
  go_ret
  exact ⟨rfl, rfl⟩
end Go.Proofs.Ytgdegoacjobpdaa
