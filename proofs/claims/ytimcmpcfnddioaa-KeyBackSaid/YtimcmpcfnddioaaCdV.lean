/-
  code.Value and the reference's Value: their contracts. Condition: the bits are below 2^64, the number is an int, the text is no longer than an int.
-/
import Derived.Test.YtimcmpcfnddioaaVaR
import Derived.Test.YtimcmpcfnddioaaCd
namespace Go.Proofs.Ytimcmpcfnddioaa
open Go.RowKit

/-- a value in a box -/
def VBox (w : World) (g : Nat) (k n : Int) (b : Nat) (s : ByteArray) : Prop :=
  w.cell? ⟨g, 0, none⟩ = some (.int .i64 k) ∧ w.cell? ⟨g, 1, none⟩ = some (.int .i64 n) ∧ w.cell? ⟨g, 2, none⟩ = some (.int .u64 (b : Int)) ∧ w.cell? ⟨g, 3, none⟩ = some (.string s)
theorem VBox.keep {w w' : World} {g : Nat} {k n : Int} {b : Nat} {s : ByteArray} (h : VBox w g k n b s) (hb : Below w.heap.size w w') : VBox w' g k n b s := ⟨hkeep h.1 hb, hkeep h.2.1 hb, hkeep h.2.2.1 hb, hkeep h.2.2.2 hb⟩

theorem low_ref (k b : Nat) : Cd.low (k + 1) b = UInt8.ofNat (b / 256 ^ k) :: Cd.low k b := rfl
theorem pow_next (b k : Nat) : b / 256 ^ k / 256 = b / 256 ^ (k + 1) := by rw [Nat.pow_succ, Nat.div_div_eq_div_mul]
theorem byte_val (x : Nat) : Value.int .u8 ((x : Int) % 256) = byteV (UInt8.ofNat x) := by
  unfold byteV
  refine int_eq ?_
  rw [UInt8.toNat_ofNat']
  omega
theorem one_size (c : UInt8) : (bstr [c]).size = 1 := rfl
theorem low_size (k b : Nat) : (bstr (Cd.low k b)).size = k := by rw [bstr_size, Cd.low_length]

set_option maxRecDepth 100000 in
set_option maxHeartbeats 800000 in
theorem eightR_any (b : Nat) (hb : b < 18446744073709551616) (w : World) : Calls Try.prog 39 #[.int .u64 (b : Int)] w fun e w' => e = .returned (.string (bstr (Cd.eight b))) ∧ Below w.heap.size w w' := by
  have hb' : (b : Int) ≤ 18446744073709551615 := by omega
  clear hb
  go_enter Try.func39, Try.ntmps39
  go_wp2_with fail
  go_loopw [3, 4, 0] (fun s i c wr => ∃ (k x : Nat), k ≤ 8 ∧ i = .int .i64 (k : Int) ∧ c = .int .u64 (x : Int) ∧ Hid (x = b / 256 ^ k) ∧ x ≤ b ∧ s = .string (bstr (Cd.low k b)) ∧ Below w.heap.size w wr) (fun _ i _ _ => 8 - (intOf i).toNat)
  case atStart => exact ⟨0, b, by omega, rfl, rfl, by show _ = _; simp, Nat.le_refl _, rfl, Below.refl _ _⟩
  case round =>
    obtain ⟨k, x, hk, rfl, rfl, hx, hxb, rfl, hbel⟩ := hrel
    have h0 : (0 : Int) ≤ (x : Int) := by omega
    have h1 : (x : Int) ≤ 18446744073709551615 := by omega
    by_cases hlt : k < 8
    · have hst := fun W => run_string_one (P := Try.prog) W 50 9 5 _ _ (byte_val x) Try.underlying50 Try.underlying5 Try.underlying9
      have HL := hid (low_ref k b)
      have HP := hid (pow_next b k)
      have hz1 := one_size (UInt8.ofNat x)
      have hz2 := low_size k b
      have HX := hx
      generalize Cd.low k b = l at hz2 HL ⊢
      clear hx
      go_wp2_with fail
      go_roundw
      case rel => exact ⟨k + 1, x / 256, by omega, by go_num, int_eq (by omega), by show _ = _; rw [HX.out, HP.out], by omega, str_eq (by rw [HL.out, ← HX.out]; first | rfl | rw [bstr_append]; rfl), hbel.alloc hbel.size _⟩
      case measure => simp [intOf]; omega
    · obtain rfl : k = 8 := by omega
      clear hx
      go_wp2_with fail
      go_ret
      exact ⟨rfl, hbel⟩

end Go.Proofs.Ytimcmpcfnddioaa
