/-
  value.floats and AsFloat: their contracts. No condition.
-/
import Derived.Test.YtimcmpcfnddioaaKyG
namespace Go.Proofs.Ytimcmpcfnddioaa
open Go.RowKit

/-- is it no number? -/
def Ky.nan (b : Nat) : Int := if Va.INF < b % Va.SIGN then 1 else 0
/-- -1, 0, 1: what is no number is behind all -/
def Ky.floats (a b : Nat) : Int := if Ky.ints (Ky.nan a) (Ky.nan b) = 0 then Ky.fl a b else Ky.ints (Ky.nan a) (Ky.nan b)
theorem floats_any (a b : Nat) (w : World) : Calls Try.prog 41 #[.float .f64 a, .float .f64 b] w fun e w' => e = .returned (.int .i64 (Ky.floats a b)) ∧ w = w' := by
  have c1 : Hid (∀ W, Calls Try.prog 53 #[.float .f64 a] W fun e w' => e = .returned (.int .i64 (Ky.nan a)) ∧ W = w') := fun W => none_any a W
  have c2 : Hid (∀ W, Calls Try.prog 53 #[.float .f64 b] W fun e w' => e = .returned (.int .i64 (Ky.nan b)) ∧ W = w') := fun W => none_any b W
  have c3 := hid (fun W => order_any (Ky.nan a) (Ky.nan b) W)
  have c4 := hid (fun W => orderf_any a b W)
  unfold Ky.floats
  generalize Ky.ints (Ky.nan a) (Ky.nan b) = r at c3 ⊢
  generalize Ky.nan a = na at c1 c3
  generalize Ky.nan b = nb at c2 c3
  by_cases h : r = 0
  · rw [if_pos h]
    subst h
    go_enter Try.func41, Try.ntmps41
    go_wp2_with fail
    refine (c1.out _).mono ?_; rintro e w1 ⟨rfl, rfl⟩
    go_wp2_with fail
    refine (c2.out _).mono ?_; rintro e w1 ⟨rfl, rfl⟩
    go_wp2_with fail
    refine (c3.out _).mono ?_; rintro e w1 ⟨rfl, rfl⟩
    go_wp2_with fail
    refine (c4.out _).mono ?_; rintro e w1 ⟨rfl, rfl⟩
    go_wp2_with fail
    go_ret
    exact ⟨rfl, rfl⟩
  · rw [if_neg h]
    have e0 : (r != 0) = true := by rw [bne_iff_ne]; exact h
    clear h
    go_enter Try.func41, Try.ntmps41
    go_wp2_with fail
    refine (c1.out _).mono ?_; rintro e w1 ⟨rfl, rfl⟩
    go_wp2_with fail
    refine (c2.out _).mono ?_; rintro e w1 ⟨rfl, rfl⟩
    go_wp2_with fail
    refine (c3.out _).mono ?_; rintro e w1 ⟨rfl, rfl⟩
    go_wp2_with fail
    go_ret
    exact ⟨rfl, rfl⟩
/-- a right Float's number -/
theorem asfloat_any (n : Int) (b : Nat) (s : ByteArray) (hs : s.size ≤ maxLen) (hr : Va.right 3 n b s = true) (w : World) : Calls Try.prog 42 #[vv 3 n b s] w fun e w' => e = .returned (.float .f64 b) ∧ Below w.heap.size w w' := by
  have hR0 := fun W => right_any 3 n b s hs W
  rw [hr] at hR0
  have hf := run_frombits b
  have LB := hid (hba w (.cells #[.int .i64 3, .int .i64 n, .int .u64 (b : Int), .string s] 39))
  have V0 := hid (VB.new w 3 n b s)
  unfold vv at hR0 ⊢
  have hR := hid hR0
  obtain ⟨q0, q1, q2, q3⟩ := V0.out.cells
  clear hR0 hr
  go_enter Try.func42, Try.ntmps42
  go_wp2_with fail
  refine (hR.out _).mono ?_; rintro e w1 ⟨rfl, b1⟩
  obtain ⟨p0, p1, p2, p3⟩ := (V0.out.keep b1).cells
  go_wp2_with fail
  go_ret
  exact ⟨rfl, hnext LB.out b1⟩
end Go.Proofs.Ytimcmpcfnddioaa
