/-
  value.Same, key.Prefix, key.Next and the reference's Prefix: their contracts. Condition: the values can stand in memory.
-/
import Derived.Test.YtimcmpcfnddioaaKyF
namespace Go.Proofs.Ytimcmpcfnddioaa
open Go.RowKit

theorem same_any (x y : Cd.V) (hs : x.s.size ≤ maxLen) (w : World) : Calls Try.prog 30 #[vv x.k x.n x.b x.s, vv y.k y.n y.b y.s] w fun e w' => e = .returned (.bool (decide (x = y) && x.right)) ∧ Below w.heap.size w w' := by
  have hq := va_eql x.k x.n x.b x.s y.k y.n y.b y.s _ (v_beq x y)
  have hR := hid (fun W => right_any x.k x.n x.b x.s hs W)
  have LB := hid (hnext (hba w (.cells #[.int .i64 x.k, .int .i64 x.n, .int .u64 (x.b : Int), .string x.s] 39)) (hba _ (.cells #[.int .i64 y.k, .int .i64 y.n, .int .u64 (y.b : Int), .string y.s] 39)))
  unfold vv at hq hR ⊢
  cases hd : decide (x = y)
  · rw [hd] at hq
    clear hd
    go_enter Try.func30, Try.ntmps30
    go_wp2_with fail
    go_ret
    exact ⟨rfl, LB.out⟩
  · rw [hd] at hq
    clear hd
    go_enter Try.func30, Try.ntmps30
    go_wp2_with fail
    refine (hR.out _).mono ?_; rintro e w1 ⟨rfl, b1⟩
    go_wp2_with fail
    go_ret
    exact ⟨rfl, hnext LB.out b1⟩
theorem next_any (s : ByteArray) (hs : s.size ≤ 1000000) (w : World) : Calls Try.prog 18 #[.string s] w fun e w' => e = .returned (.string (s ++ ⟨#[0]⟩)) ∧ w = w' := by
  go_enter Try.func18, Try.ntmps18
  go_wp2_with fail
  go_ret
  exact ⟨rfl, rfl⟩
end Go.Proofs.Ytimcmpcfnddioaa
