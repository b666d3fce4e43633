/-
  value's order of floats, and AsFloat: their contracts. No condition.
-/
import Derived.Test.YtimcmpcfnddioaaKyL
namespace Go.Proofs.Ytimcmpcfnddioaa
open Go.RowKit

/-- -1, 0, 1 by the floats' order -/
def Ky.fl (a b : Nat) : Int := match FloatKind.f64.format.order a b with | some .lt => -1 | some .gt => 1 | _ => 0
theorem orderf_any (a b : Nat) (w : World) : Calls Try.prog 55 #[.float .f64 a, .float .f64 b] w fun e w' => e = .returned (.int .i64 (Ky.fl a b)) ∧ w = w' := by
  unfold Ky.fl
  cases h : FloatKind.f64.format.order a b with
  | none =>
    go_enter Try.func55, Try.ntmps55
    go_wp2_with fail
    go_ret
    exact ⟨rfl, rfl⟩
  | some o =>
    cases o with
    | lt =>
      go_enter Try.func55, Try.ntmps55
      go_wp2_with fail
      go_ret
      exact ⟨rfl, rfl⟩
    | eq =>
      go_enter Try.func55, Try.ntmps55
      go_wp2_with fail
      go_ret
      exact ⟨rfl, rfl⟩
    | gt =>
      go_enter Try.func55, Try.ntmps55
      go_wp2_with fail
      go_ret
      exact ⟨rfl, rfl⟩
theorem none_any (b : Nat) (w : World) : Calls Try.prog 53 #[.float .f64 b] w fun e w' => e = .returned (.int .i64 (if Va.INF < b % Va.SIGN then 1 else 0)) ∧ w = w' := by
  have hn := hid (fun W => isnan_any b W)
  by_cases h : Va.INF < b % Va.SIGN
  · rw [if_pos h]
    rw [decide_eq_true h] at hn
    clear h
    go_enter Try.func53, Try.ntmps53
    go_wp2_with fail
    refine (hn.out _).mono ?_; rintro e w1 ⟨rfl, rfl⟩
    go_wp2_with fail
    go_ret
    exact ⟨rfl, rfl⟩
  · rw [if_neg h]
    rw [decide_eq_false h] at hn
    clear h
    go_enter Try.func53, Try.ntmps53
    go_wp2_with fail
    refine (hn.out _).mono ?_; rintro e w1 ⟨rfl, rfl⟩
    go_wp2_with fail
    go_ret
    exact ⟨rfl, rfl⟩
end Go.Proofs.Ytimcmpcfnddioaa
