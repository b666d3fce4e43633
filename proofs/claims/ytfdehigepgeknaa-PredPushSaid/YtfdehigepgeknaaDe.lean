/-
  value's decimal, positive: their contracts; how digits are read. No condition.
-/
import Derived.Test.YtfdehigepgeknaaHx
namespace Go.Proofs.Ytfdehigepgeknaa
open Go.RowKit

namespace Vl
/-- a number in digits -/
def dec (n : Nat) : List UInt8 := if h : n < 10 then [UInt8.ofNat (48 + n)] else dec (n / 10) ++ [UInt8.ofNat (48 + n % 10)]
termination_by n
decreasing_by omega
theorem dec_one {n : Nat} (h : n < 10) : dec n = [UInt8.ofNat (48 + n)] := by rw [dec, dif_pos h]
theorem dec_more {n : Nat} (h : ¬ n < 10) : dec n = dec (n / 10) ++ [UInt8.ofNat (48 + n % 10)] := by rw [dec, dif_neg h]
theorem dec_length (k : Nat) : ∀ n, n < 10 ^ (k + 1) → (dec n).length ≤ k + 1 := by
  induction k with
  | zero => intro n h; rw [dec_one (by omega)]; exact Nat.le_refl _
  | succ k ih =>
    intro n h
    by_cases h1 : n < 10
    · rw [dec_one h1]; simp
    · rw [dec_more h1, List.length_append]
      have := ih (n / 10) (by rw [Nat.pow_succ] at h; omega)
      simp; omega
theorem dec_size {n : Nat} (h : n < 18446744073709551616) : (bstr (dec n)).size ≤ 20 := dec_length 19 n (Nat.lt_trans h (by decide))
/-- a whole number's text -/
def decI (n : Int) : List UInt8 := if n < 0 then 45 :: dec (-n).toNat else dec n.toNat
end Vl
set_option maxRecDepth 100000 in
set_option maxHeartbeats 1600000 in
theorem positive_any (n : Nat) (hn : n < 18446744073709551616) : ∀ w : World, Calls Try.prog 61 #[.int .u64 (n : Int)] w fun e w' => e = .returned (.string (bstr (Vl.dec n))) ∧ Below w.heap.size w w' := by
  induction n using Nat.strongRecOn with
  | ind n ih =>
    intro w
    by_cases h : n < 10
    · have HE := hid (Vl.dec_one h)
      have h' : (n : Int) < 10 := by omega
      have e1 : IntKind.u64.wrap (48 + (n : Int)) = ((48 + n : Nat) : Int) := by rw [IntKind.wrap_u64]; omega
      have e2 : Value.int .u8 (((48 + n : Nat) : Int) % 256) = byteV (UInt8.ofNat (48 + n)) := by
        unfold byteV
        rw [UInt8.toNat_ofNat']
        congr 1
      generalize (48 + n : Nat) = m at e1 e2 HE
      have E2 := hid e2
      clear e2
      have hst := run_string_one (P := Try.prog) w 88 9 5 (.int .u8 ((m : Int) % 256)) (UInt8.ofNat m) E2.out Try.underlying88 Try.underlying5 Try.underlying9
      clear ih
      go_enter Try.func61, Try.ntmps61
      go_wp2_with fail
      go_ret
      rw [HE.out]
      exact ⟨rfl, hba _ _⟩
    · have HE := hid (Vl.dec_more h)
      have h' : ¬ (n : Int) < 10 := by omega
      have hd1 : (n : Int) / 10 = ((n / 10 : Nat) : Int) := by omega
      have hd2 : (n : Int) % 10 = ((n % 10 : Nat) : Int) := by omega
      have c1 := hid (ih (n / 10) (by omega) (by omega))
      have c2 := hid (ih (n % 10) (by omega) (by omega))
      rw [Vl.dec_one (n := n % 10) (by omega)] at c2
      have z1 := Vl.dec_size (n := n / 10) (by omega)
      have z2 : ∀ c : UInt8, (bstr [c]).size = 1 := fun _ => rfl
      generalize n / 10 = a at *
      generalize n % 10 = b at *
      generalize UInt8.ofNat (48 + b) = d at *
      clear ih
      go_enter Try.func61, Try.ntmps61
      go_wp2_with fail
      refine (c1.out _).mono ?_; rintro e w1 ⟨rfl, b1⟩
      go_wp2_with fail
      refine (c2.out _).mono ?_; rintro e w2 ⟨rfl, b2⟩
      go_wp2_with fail
      go_ret
      rw [HE.out]
      exact ⟨rfl, hnext b1 b2⟩
set_option maxRecDepth 100000 in
set_option maxHeartbeats 1600000 in
theorem decimal_any (n : Int) (h0 : -9223372036854775808 ≤ n) (h1 : n ≤ 9223372036854775807) (w : World) : Calls Try.prog 52 #[.int .i64 n] w fun e w' => e = .returned (.string (bstr (Vl.decI n))) ∧ Below w.heap.size w w' := by
  by_cases h : n < 0
  · obtain ⟨m, rfl, hm⟩ : ∃ m : Nat, n = -(m : Int) ∧ m ≤ 9223372036854775808 := ⟨(-n).toNat, by omega, by omega⟩
    have HE : Hid (Vl.decI (-(m : Int)) = 45 :: Vl.dec m) := by
      show _ = _
      unfold Vl.decI
      rw [if_pos h, Int.neg_neg]; rfl
    have c := hid (fun W => positive_any m (by omega) W)
    have e1 : IntKind.u64.wrap (-(IntKind.u64.wrap (-(m : Int)))) = (m : Int) := by rw [IntKind.wrap_u64, IntKind.wrap_u64]; omega
    have z1 := Vl.dec_size (n := m) (by omega)
    go_enter Try.func52, Try.ntmps52
    go_wp2_with fail
    refine (c.out _).mono ?_; rintro e w1 ⟨rfl, b1⟩
    have hj : (⟨#[45]⟩ : ByteArray) ++ bstr (Vl.dec m) = bstr (45 :: Vl.dec m) := bstr_append [45] _
    go_wp2_with fail
    go_ret
    rw [HE.out]
    exact ⟨rfl, b1⟩
  · obtain ⟨m, rfl⟩ : ∃ m : Nat, n = (m : Int) := ⟨n.toNat, by omega⟩
    have HE : Hid (Vl.decI (m : Int) = Vl.dec m) := by
      show _ = _
      unfold Vl.decI
      rw [if_neg h]; rfl
    have c := hid (fun W => positive_any m (by omega) W)
    have e1 : IntKind.u64.wrap (m : Int) = (m : Int) := by rw [IntKind.wrap_u64]; omega
    go_enter Try.func52, Try.ntmps52
    go_wp2_with fail
    refine (c.out _).mono ?_; rintro e w1 ⟨rfl, b1⟩
    go_wp2_with fail
    go_ret
    rw [HE.out]
    exact ⟨rfl, b1⟩
end Go.Proofs.Ytfdehigepgeknaa
