/-
  key's turned and straight: their contracts. No condition.
-/
import Derived.Test.YtimcmpcfnddioaaKyE
import Derived.Laws.Bits64
import Derived.Laws.Bits64b
namespace Go.Proofs.Ytimcmpcfnddioaa
open Go.RowKit

namespace Ky
def TOP : Nat := 9223372036854775808
/-- a number's bits, in the numbers' order -/
def turned (b : Nat) : Nat := if b < 9223372036854775808 then b + 9223372036854775808 else 18446744073709551615 - b
def straight (b : Nat) : Nat := if b < 9223372036854775808 then 18446744073709551615 - b else b - 9223372036854775808
theorem turned_lt {b : Nat} (h : b < 18446744073709551616) : turned b < 18446744073709551616 := by unfold turned; split <;> omega
theorem straight_turned {b : Nat} (h : b < 18446744073709551616) : straight (turned b) = b := by unfold straight turned; split <;> split <;> omega
theorem turned_straight {b : Nat} (h : b < 18446744073709551616) : turned (straight b) = b := by unfold straight turned; split <;> split <;> omega
end Ky
theorem nat_and_top (b : Nat) (hb : b < 18446744073709551616) : b &&& 2 ^ 63 = if b < 2 ^ 63 then 0 else 2 ^ 63 := by
  apply Nat.eq_of_testBit_eq
  intro i
  rw [Nat.testBit_and, Nat.testBit_two_pow]
  by_cases hi : 63 = i
  · subst hi
    by_cases hl : b < 2 ^ 63
    · rw [if_pos hl, Nat.testBit_lt_two_pow hl]; simp
    · rw [if_neg hl, Nat.testBit_eq_decide_div_mod_eq, Nat.testBit_two_pow, decide_eq_true (show b / 2 ^ 63 % 2 = 1 by omega)]; simp
  · by_cases hl : b < 2 ^ 63
    · rw [if_pos hl]; simp [hi]
    · rw [if_neg hl, Nat.testBit_two_pow]; simp [hi]
theorem and_top (b : Nat) (hb : b < 18446744073709551616) : bits .and .u64 (b : Int) 9223372036854775808 = if b < 9223372036854775808 then 0 else 9223372036854775808 := by
  have h := bits_and_u64_nat b 9223372036854775808 hb (by decide)
  have h2 := nat_and_top b hb
  rw [show (2 ^ 63 : Nat) = 9223372036854775808 from rfl] at h2
  rw [h2] at h
  rw [show (9223372036854775808 : Int) = ((9223372036854775808 : Nat) : Int) from rfl, h]
  split <;> rfl
theorem ret_u64 {a b : Int} (h : a = b) : Ending.returned (.int .u64 a) = .returned (.int .u64 b) := by rw [h]
theorem andNot_top (b : Nat) (hb : b < 18446744073709551616) (hl : ¬ b < 9223372036854775808) : bits .andNot .u64 (b : Int) 9223372036854775808 = ((b - 9223372036854775808 : Nat) : Int) := by
  show IntKind.u64.wrap ((BitVec.ofInt 64 (b : Int) &&& ~~~ (BitVec.ofInt 64 9223372036854775808)).toNat : Int) = _
  rw [show (~~~ (BitVec.ofInt 64 9223372036854775808)) = BitVec.ofNat 64 9223372036854775807 from by decide, BitVec.toNat_and, BitVec.toNat_ofInt, show (BitVec.ofNat 64 9223372036854775807).toNat = 2 ^ 63 - 1 from rfl, Nat.and_two_pow_sub_one_eq_mod, IntKind.wrap_u64]
  omega
theorem compl_u64 (b : Nat) (hb : b < 18446744073709551616) : bits .xor .u64 IntKind.u64.max (b : Int) = ((18446744073709551615 - b : Nat) : Int) := by
  show IntKind.u64.wrap ((BitVec.ofInt 64 18446744073709551615 ^^^ BitVec.ofInt 64 (b : Int)).toNat : Int) = _
  rw [show (BitVec.ofInt 64 18446744073709551615) = BitVec.allOnes 64 from by decide, BitVec.allOnes_xor, BitVec.toNat_not, BitVec.toNat_ofInt, IntKind.wrap_u64]
  omega
theorem or_top (b : Nat) (hb : b < 9223372036854775808) : bits .or .u64 (b : Int) 9223372036854775808 = ((b + 9223372036854775808 : Nat) : Int) := by
  have h := bits_or_u64_nat b 9223372036854775808 (by omega) (by decide)
  rw [Nat.or_comm, show (9223372036854775808 : Nat) = 2 ^ 63 * 1 from rfl, ← Nat.two_pow_add_eq_or_of_lt (by omega)] at h
  rw [show ((2 ^ 63 * 1 : Nat) : Int) = 9223372036854775808 from rfl] at h
  rw [h]; congr 1; omega
set_option maxRecDepth 100000 in
theorem turned_any (b : Nat) (hb : b < 18446744073709551616) (w : World) : Calls Try.prog 37 #[.int .u64 (b : Int)] w fun e w' => e = .returned (.int .u64 (Ky.turned b : Int)) ∧ w = w' := by
  have h0 := and_top b hb
  by_cases hl : b < 9223372036854775808
  · rw [if_pos hl] at h0
    have h1 := or_top b hl
    have HE : Hid (Ky.turned b = b + 9223372036854775808) := if_pos hl
    go_enter Try.func37, Try.ntmps37
    go_wp2_with fail
    go_ret
    rw [HE.out]
    exact ⟨rfl, rfl⟩
  · rw [if_neg hl] at h0
    have HE : Hid (Ky.turned b = 18446744073709551615 - b) := if_neg hl
    go_enter Try.func37, Try.ntmps37
    go_wp2_with fail
    go_ret
    rw [HE.out]
    exact ⟨ret_u64 (compl_u64 b hb), rfl⟩
set_option maxRecDepth 100000 in
theorem straight_any (b : Nat) (hb : b < 18446744073709551616) (w : World) : Calls Try.prog 48 #[.int .u64 (b : Int)] w fun e w' => e = .returned (.int .u64 (Ky.straight b : Int)) ∧ w = w' := by
  have h0 := and_top b hb
  by_cases hl : b < 9223372036854775808
  · rw [if_pos hl] at h0
    have HE : Hid (Ky.straight b = 18446744073709551615 - b) := if_pos hl
    go_enter Try.func48, Try.ntmps48
    go_wp2_with fail
    go_ret
    rw [HE.out]
    exact ⟨ret_u64 (compl_u64 b hb), rfl⟩
  · rw [if_neg hl] at h0
    have HE : Hid (Ky.straight b = b - 9223372036854775808) := if_neg hl
    go_enter Try.func48, Try.ntmps48
    go_wp2_with fail
    go_ret
    rw [HE.out]
    exact ⟨ret_u64 (andNot_top b hb hl), rfl⟩
end Go.Proofs.Ytimcmpcfnddioaa
