/-
  value's digit texts: hex: its contract. No condition.
-/
import Derived.Test.YtfdehigepgeknaaVk
namespace Go.Proofs.Ytfdehigepgeknaa
open Go.RowKit

namespace Vl
/-- a digit of base 16 -/
def hexd (k : Nat) : UInt8 := if k < 10 then UInt8.ofNat (48 + k) else UInt8.ofNat (87 + k)
/-- the last digits of a number -/
def hexL : Nat → Nat → List UInt8
  | 0, _ => []
  | k + 1, n => hexL k (n / 16) ++ [hexd (n % 16)]
theorem hexL_length (k : Nat) : ∀ n, (hexL k n).length = k := by
  induction k with
  | zero => intro n; rfl
  | succ k ih => intro n; show (hexL k (n / 16) ++ [_]).length = _; rw [List.length_append, ih]; rfl
theorem hexL_front (k : Nat) : ∀ n, hexL (k + 1) n = hexd (n / 16 ^ k % 16) :: hexL k n := by
  induction k with
  | zero => intro n; show [] ++ [hexd (n % 16)] = [hexd (n / 1 % 16)]; rw [Nat.div_one]; rfl
  | succ k ih =>
    intro n
    show hexL (k + 1) (n / 16) ++ [hexd (n % 16)] = hexd (n / 16 ^ (k + 1) % 16) :: (hexL k (n / 16) ++ [hexd (n % 16)])
    rw [ih, Nat.div_div_eq_div_mul, Nat.pow_succ, Nat.mul_comm 16]; rfl
/-- bytes, of which the last k are told -/
def hexAt (m n k : Nat) : List UInt8 := List.replicate (m - k) 0 ++ hexL k n
theorem set_last (j : Nat) (L : List UInt8) (x : UInt8) : (List.replicate (j + 1) 0 ++ L).set j x = List.replicate j 0 ++ x :: L := by
  induction j with
  | zero => rfl
  | succ j ih =>
    rw [List.replicate_succ, List.cons_append, List.set_cons_succ, ih, List.replicate_succ]; rfl
theorem hexAt_set (m n k j : Nat) (h : j + 1 + k = m) : (hexAt m n k).set j (hexd (n / 16 ^ k % 16)) = hexAt m n (k + 1) := by
  unfold hexAt
  rw [show m - k = j + 1 by omega, show m - (k + 1) = j by omega, set_last, hexL_front]
theorem hexAt_get (m n k j : Nat) (h : j + 1 + k = m) : (((hexAt m n k).map byteV).toArray)[j]? = some (.int .u8 0) := by
  unfold hexAt
  rw [show m - k = j + 1 by omega]
  have hz : byteV 0 = .int .u8 0 := rfl
  rw [List.getElem?_toArray, List.map_append, List.map_replicate, hz, List.getElem?_append_left (by simp), List.getElem?_replicate, if_pos (by omega)]
theorem hexAt_full (m n : Nat) : hexAt m n m = hexL m n := by unfold hexAt; rw [Nat.sub_self]; rfl
theorem hexAt_zero (m n : Nat) : ((hexAt m n 0).map byteV).toArray = Array.replicate m (.int .u8 0) := by
  unfold hexAt hexL
  have hz : byteV 0 = .int .u8 0 := rfl
  simp [hz]
theorem hex_digit (d : Nat) (hd : d < 16) : ∀ h : d < (⟨#[48, 49, 50, 51, 52, 53, 54, 55, 56, 57, 97, 98, 99, 100, 101, 102]⟩ : ByteArray).size, (⟨#[48, 49, 50, 51, 52, 53, 54, 55, 56, 57, 97, 98, 99, 100, 101, 102]⟩ : ByteArray)[d]'h = hexd d := by
  intro h
  have : d = 0 ∨ d = 1 ∨ d = 2 ∨ d = 3 ∨ d = 4 ∨ d = 5 ∨ d = 6 ∨ d = 7 ∨ d = 8 ∨ d = 9 ∨ d = 10 ∨ d = 11 ∨ d = 12 ∨ d = 13 ∨ d = 14 ∨ d = 15 := by omega
  rcases this with rfl | rfl | rfl | rfl | rfl | rfl | rfl | rfl | rfl | rfl | rfl | rfl | rfl | rfl | rfl | rfl <;> rfl
end Vl
set_option maxRecDepth 100000 in
set_option maxHeartbeats 1600000 in
theorem hex_any (n0 m : Nat) (hn : n0 < 18446744073709551616) (hm : m ≤ 16) (w : World) : Calls Try.prog 53 #[.int .u64 (n0 : Int), .int .i64 (m : Int)] w fun e w' => e = .returned (.string (bstr (Vl.hexL m n0))) ∧ Below w.heap.size w w' := by
  obtain ⟨i0, hi, hz0, hz1, hz2⟩ := info_parts Try.infoByte
  have hmk : ∀ u : World, (Instr.makeSlice 88 (.int .i64 (m : Int)) (.int .i64 (m : Int))).run Try.prog u =
      .ok (.slice (some ⟨u.heap.size, 0, none⟩) m m) (u.alloc (.cells ((Vl.hexAt m n0 0).map byteV).toArray 5)) := fun u => by
    have h := run_make (P := Try.prog) u 88 5 i0 (.int .u8 0) Try.underlying88 hi hz0 .i64 .i64 m m (by omega) (Int.le_refl _) (by rw [hz2]; omega) (by omega)
    have hrep : madeCells #[.int .u8 0] m = Array.replicate m (.int .u8 0) := by
      unfold madeCells
      apply Array.ext
      · simp
      · intro i h1 h2
        simp [Nat.mod_one]
    rw [Vl.hexAt_zero, ← hrep]
    simpa [hz1, Value.cells] using h
  go_enter Try.func53, Try.ntmps53
  go_wp2_with fail
  clear hmk
  go_loopw [6, 0] (fun i n wr => ∃ (k j : Nat) (x : Int), j + k = m ∧ x = (j : Int) - 1 ∧ i = .int .i64 x ∧ n = .int .u64 ((n0 / 16 ^ k : Nat) : Int) ∧ wr.heap[w.heap.size]? = some (.cells ((Vl.hexAt m n0 k).map byteV).toArray 5 (0, 0)) ∧ Below w.heap.size w wr) (fun i _ _ => (intOf i + 1).toNat)
  case atStart => exact ⟨0, m, (m : Int) - 1, rfl, rfl, by go_num, by simp, heap_alloc_new _ _, (Below.refl _ _).alloc (Nat.le_refl _) _⟩
  case round =>
    obtain ⟨k, j, x, hjk, hx, rfl, rfl, hh, hbel⟩ := hrel
    have HX := hid hh
    clear hh
    cases j with
    | zero =>
      obtain rfl : x = -1 := by omega
      obtain rfl : k = m := by omega
      clear hx
      have hcx := run_string_block (P := Try.prog) 88 9 5 (Vl.hexL k n0) _ (0, 0) (by rw [← Vl.hexAt_full]) Try.underlying88 Try.underlying5 Try.underlying9 w.heap.size k k (Vl.hexL_length k n0)
      have hx0 := HX.out
      go_wp2_with fail
      go_ret
      exact ⟨rfl, hbel⟩
    | succ j =>
      obtain rfl : x = (j : Int) := by omega
      clear hx
      have hcx := cell_of_row wr w.heap.size j _ _ _ HX.out
      rw [Vl.hexAt_get m n0 k j hjk] at hcx
      have hfx := frozen_of_row wr w.heap.size j _ _ HX.out
      have HS := hid (Vl.hexAt_set m n0 k j hjk)
      have HQ : Hid (n0 / 16 ^ k / 16 = n0 / 16 ^ (k + 1)) := by show _ = _; rw [Nat.div_div_eq_div_mul, Nat.pow_succ]
      have hql : n0 / 16 ^ k ≤ n0 := Nat.div_le_self _ _
      generalize n0 / 16 ^ k = q at HS HQ hql
      have hd := Nat.mod_lt q (show 16 > 0 by decide)
      have hdg := Vl.hex_digit (q % 16) hd
      have hr1 : Int.tmod (q : Int) 16 = ((q % 16 : Nat) : Int) := rfl
      have hr2 : Int.tdiv (q : Int) 16 = ((q / 16 : Nat) : Int) := rfl
      generalize q % 16 = d at hdg hd hr1 HS
      have hd0 : (d : Int) < 16 := by omega
      go_wp2_with fail
      refine ⟨⟨k + 1, j, (j : Int) - 1, by omega, rfl, rfl, ?_, ?_, hbel.setCell (Nat.le_refl _) _⟩, by simp [intOf]⟩
      · rw [← HQ.out]; rfl
      · have := heap_setCell_same wr w.heap.size j _ _ (byteV (Vl.hexd d)) HX.out
        rw [← HS.out]
        simpa [byteV] using this
end Go.Proofs.Ytfdehigepgeknaa
