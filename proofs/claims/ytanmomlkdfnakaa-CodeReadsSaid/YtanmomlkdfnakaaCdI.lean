/-
  code.Int, Text, and the reference's Int, Text, Eight: their contracts. Condition: the number is an int; the text has at most 1000000000 bytes.
-/
import Derived.Test.YtanmomlkdfnakaaCdU
namespace Go.Proofs.Ytanmomlkdfnakaa
open Go.RowKit

theorem xor_zero_u64 (x : Nat) (hx : x < 18446744073709551616) : bits .xor .u64 (x : Int) 0 = (x : Int) := by
  show IntKind.u64.wrap ((BitVec.ofInt 64 (x : Int) ^^^ BitVec.ofInt 64 0).toNat : Int) = _
  rw [show (BitVec.ofInt 64 0) = 0#64 from rfl, BitVec.xor_zero, BitVec.toNat_ofInt, IntKind.wrap_u64]
  omega
theorem xor_ones_u64 (x : Nat) (hx : x < 18446744073709551616) : bits .xor .u64 (x : Int) 18446744073709551615 = ((18446744073709551615 - x : Nat) : Int) := by
  show IntKind.u64.wrap ((BitVec.ofInt 64 (x : Int) ^^^ BitVec.ofInt 64 18446744073709551615).toNat : Int) = _
  rw [show (BitVec.ofInt 64 18446744073709551615) = BitVec.allOnes 64 from by decide, BitVec.xor_allOnes, BitVec.toNat_not, BitVec.toNat_ofInt, IntKind.wrap_u64]
  omega
theorem zig_pos {n : Int} (h0 : 0 ≤ n) (h1 : n ≤ 9223372036854775807) : bits .xor .u64 (n * 2) (n / 9223372036854775808) = (Cd.zig n : Int) := by
  have h := xor_zero_u64 (n * 2).toNat (by omega)
  rw [show (((n * 2).toNat : Nat) : Int) = n * 2 from by omega] at h
  rw [show n / 9223372036854775808 = 0 from by omega, h]
  unfold Cd.zig
  rw [if_pos h0]
  omega
theorem zig_neg {n : Int} (h0 : n < 0) (h1 : -9223372036854775808 ≤ n) : bits .xor .u64 (IntKind.u64.wrap (IntKind.u64.wrap n * 2)) (IntKind.u64.wrap (n / 9223372036854775808)) = (Cd.zig n : Int) := by
  have h := xor_ones_u64 (2 * n + 18446744073709551616).toNat (by omega)
  rw [IntKind.wrap_u64, IntKind.wrap_u64, IntKind.wrap_u64]
  rw [show n / 9223372036854775808 % 18446744073709551616 = 18446744073709551615 from by omega, show n % 18446744073709551616 * 2 % 18446744073709551616 = (((2 * n + 18446744073709551616).toNat : Nat) : Int) from by omega, h]
  unfold Cd.zig
  rw [if_neg (by omega)]
  omega
theorem zig_lt {n : Int} (h0 : -9223372036854775808 ≤ n) (h1 : n ≤ 9223372036854775807) : Cd.zig n < 18446744073709551616 := by
  unfold Cd.zig; split <;> omega

set_option maxRecDepth 100000 in
theorem int_any (n : Int) (h0 : -9223372036854775808 ≤ n) (h1 : n ≤ 9223372036854775807) (w : World) : Calls Try.prog 15 #[.int .i64 n] w fun e w' => e = .returned (.string (bstr (Cd.enc (Cd.zig n)))) ∧ Below w.heap.size w w' := by
  have hz := zig_lt h0 h1
  by_cases hn : 0 ≤ n
  · have hx := zig_pos hn h1
    go_enter Try.func15, Try.ntmps15
    go_wp2_with fail
    refine (uint_any _ hz _).mono ?_; rintro e w1 ⟨rfl, hb1⟩
    go_wp2_with fail
    go_ret
    exact ⟨rfl, hb1⟩
  · have hn' : n < 0 := by omega
    have hx := zig_neg hn' h0
    go_enter Try.func15, Try.ntmps15
    go_wp2_with fail
    refine (uint_any _ hz _).mono ?_; rintro e w1 ⟨rfl, hb1⟩
    go_wp2_with fail
    go_ret
    exact ⟨rfl, hb1⟩
theorem zig_any (n : Int) (h0 : -9223372036854775808 ≤ n) (h1 : n ≤ 9223372036854775807) (w : World) : Calls Try.prog 41 #[.int .i64 n] w fun e w' => e = .returned (.int .u64 (Cd.zig n : Int)) ∧ w = w' := by
  by_cases hn : 0 ≤ n
  · go_enter Try.func41, Try.ntmps41
    go_wp2
    go_ret
    refine ⟨ret_eq ?_, rfl⟩
    unfold Cd.zig; rw [if_pos hn]; omega
  · have hn' : n < 0 := by omega
    go_enter Try.func41, Try.ntmps41
    go_wp2
    go_ret
    refine ⟨ret_eq ?_, rfl⟩
    unfold Cd.zig; rw [if_neg (by omega)]; omega
theorem uintR_exact (n : Nat) (hn : n < 18446744073709551616) (w : World) : Calls Try.prog 14 #[.int .u64 (n : Int)] w fun e w' => e = .returned (.string (bstr (Cd.enc n))) ∧ Below w.heap.size w w' :=
  uintR_any 9 n w (Cd.u64_bound hn) hn (Nat.le_refl _)
set_option maxRecDepth 100000 in
theorem intR_any (n : Int) (h0 : -9223372036854775808 ≤ n) (h1 : n ≤ 9223372036854775807) (w : World) : Calls Try.prog 16 #[.int .i64 n] w fun e w' => e = .returned (.string (bstr (Cd.enc (Cd.zig n)))) ∧ Below w.heap.size w w' := by
  have hz := zig_lt h0 h1
  go_enter Try.func16, Try.ntmps16
  go_wp2_with fail
  refine (zig_any n h0 h1 _).mono ?_; rintro e w1 ⟨rfl, rfl⟩
  go_wp2_with fail
  refine (uintR_exact _ hz _).mono ?_; rintro e w1 ⟨rfl, hb1⟩
  go_wp2_with fail
  go_ret
  exact ⟨rfl, hb1⟩
theorem text_bstr (s : ByteArray) : bstr (Cd.enc s.size) ++ s = bstr (Cd.text s) := by
  unfold Cd.text; rw [← bstr_append, bstr_of]
set_option maxRecDepth 100000 in
theorem text_any (s : ByteArray) (hs : s.size ≤ 1000000000) (w : World) : Calls Try.prog 17 #[.string s] w fun e w' => e = .returned (.string (bstr (Cd.text s))) ∧ Below w.heap.size w w' := by
  have hl : (bstr (Cd.enc s.size)).size ≤ 10 := (Cd.enc_length s.size).2
  go_enter Try.func17, Try.ntmps17
  go_wp2_with fail
  refine (uint_any s.size (by omega) _).mono ?_; rintro e w1 ⟨rfl, hb1⟩
  go_wp2_with fail
  go_ret
  exact ⟨ret_str (text_bstr s), hb1⟩
set_option maxRecDepth 100000 in
theorem textR_any (s : ByteArray) (hs : s.size ≤ 1000000000) (w : World) : Calls Try.prog 18 #[.string s] w fun e w' => e = .returned (.string (bstr (Cd.text s))) ∧ Below w.heap.size w w' := by
  have hl : (bstr (Cd.enc s.size)).size ≤ 10 := (Cd.enc_length s.size).2
  go_enter Try.func18, Try.ntmps18
  go_wp2_with fail
  refine (uintR_exact s.size (by omega) _).mono ?_; rintro e w1 ⟨rfl, hb1⟩
  go_wp2_with fail
  go_ret
  exact ⟨ret_str (text_bstr s), hb1⟩
end Go.Proofs.Ytanmomlkdfnakaa
