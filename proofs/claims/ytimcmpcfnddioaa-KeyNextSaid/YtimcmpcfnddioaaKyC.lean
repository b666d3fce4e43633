/-
  Which number, which text is ahead: contracts. No condition.
-/
import Derived.Test.YtimcmpcfnddioaaKyQ
namespace Go.Proofs.Ytimcmpcfnddioaa
open Go.RowKit

/-- -1, 0, 1 -/
def Ky.ints (a b : Int) : Int := if a < b then -1 else if b < a then 1 else 0
theorem ints_any (a b : Int) (w : World) : Calls Try.prog 29 #[.int .i64 a, .int .i64 b] w fun e w' => e = .returned (.int .i64 (Ky.ints a b)) ∧ w = w' := by
  unfold Ky.ints
  by_cases h : a < b
  · rw [if_pos h]
    go_enter Try.func29, Try.ntmps29
    go_wp2_with fail
    go_ret
    exact ⟨rfl, rfl⟩
  · rw [if_neg h]
    by_cases h2 : b < a
    · rw [if_pos h2]
      go_enter Try.func29, Try.ntmps29
      go_wp2_with fail
      go_ret
      exact ⟨rfl, rfl⟩
    · rw [if_neg h2]
      go_enter Try.func29, Try.ntmps29
      go_wp2_with fail
      go_ret
      exact ⟨rfl, rfl⟩
theorem order_any (a b : Int) (w : World) : Calls Try.prog 40 #[.int .i64 a, .int .i64 b] w fun e w' => e = .returned (.int .i64 (Ky.ints a b)) ∧ w = w' := by
  unfold Ky.ints
  by_cases h : a < b
  · rw [if_pos h]
    go_enter Try.func40, Try.ntmps40
    go_wp2_with fail
    go_ret
    exact ⟨rfl, rfl⟩
  · rw [if_neg h]
    by_cases h2 : b < a
    · rw [if_pos h2]
      go_enter Try.func40, Try.ntmps40
      go_wp2_with fail
      go_ret
      exact ⟨rfl, rfl⟩
    · rw [if_neg h2]
      go_enter Try.func40, Try.ntmps40
      go_wp2_with fail
      go_ret
      exact ⟨rfl, rfl⟩
/-- -1, 0, 1: which text is ahead -/
def Ky.strs (a b : ByteArray) : Int := if Op.bytesLess a.toList b.toList then -1 else if a = b then 0 else 1
theorem orders_any (a b : ByteArray) (w : World) : Calls Try.prog 43 #[.string a, .string b] w fun e w' => e = .returned (.int .i64 (Ky.strs a b)) ∧ w = w' := by
  unfold Ky.strs
  cases h : Op.bytesLess a.toList b.toList
  · have hb := bytes_beq a b
    rw [if_neg (by decide)]
    by_cases h2 : a = b
    · rw [decide_eq_true h2] at hb
      rw [if_pos h2]
      clear h2
      go_enter Try.func43, Try.ntmps43
      go_wp2_with fail
      go_ret
      exact ⟨rfl, rfl⟩
    · rw [decide_eq_false h2] at hb
      rw [if_neg h2]
      clear h2
      go_enter Try.func43, Try.ntmps43
      go_wp2_with fail
      go_ret
      exact ⟨rfl, rfl⟩
  · rw [if_pos rfl]
    go_enter Try.func43, Try.ntmps43
    go_wp2_with fail
    go_ret
    exact ⟨rfl, rfl⟩
end Go.Proofs.Ytimcmpcfnddioaa
