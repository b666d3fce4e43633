/-
  key's number: its contract. No condition.
-/
import Derived.Test.YtimcmpcfnddioaaKy
import Derived.Laws.MakeOwn
namespace Go.Proofs.Ytimcmpcfnddioaa
open Go.RowKit

/-- eight bytes, of which the first k are told -/
def numAt (b k : Nat) : Array Value := ((List.range 8).map fun i => if i < k then byteV (UInt8.ofNat (b / 256 ^ (7 - i))) else .int .u8 0).toArray
theorem numAt_zero (b : Nat) : numAt b 0 = madeCells #[.int .u8 0] 8 := by
  unfold numAt madeCells
  apply Array.ext
  · simp
  · intro i h1 h2
    simp [Nat.mod_one]
theorem numAt_get (b k : Nat) (h : k < 8) : (numAt b k)[k]? = some (.int .u8 0) := by
  unfold numAt
  simp [h]
theorem numAt_set (b k : Nat) (h : k < 8) : (numAt b k).setIfInBounds k (byteV (UInt8.ofNat (b / 256 ^ (7 - k)))) = numAt b (k + 1) := by
  obtain rfl | rfl | rfl | rfl | rfl | rfl | rfl | rfl : k = 0 ∨ k = 1 ∨ k = 2 ∨ k = 3 ∨ k = 4 ∨ k = 5 ∨ k = 6 ∨ k = 7 := by omega
  all_goals rfl
theorem numAt_full (b : Nat) : numAt b 8 = ((Cd.eight b).map byteV).toArray := rfl
theorem num_byte (b k : Nat) : (b : Int) / 2 ^ (8 * (7 - k)) % 256 = ((UInt8.ofNat (b / 256 ^ (7 - k))).toNat : Int) := by
  rw [UInt8.toNat_ofNat', show (256 : Nat) ^ (7 - k) = 2 ^ (8 * (7 - k)) by rw [Nat.pow_mul], Int.natCast_emod, Int.natCast_ediv, Int.natCast_pow]
  rfl
theorem Try.infoByte : (Try.prog.info? 5).map (fun i => (i.zero, i.size, i.bytes)) = some (some (.int .u8 0), 1, 1) := by kernel_rfl
set_option maxRecDepth 100000 in
set_option maxHeartbeats 1600000 in
theorem number_any (b : Nat) (hb : b < 18446744073709551616) (w : World) : Calls Try.prog 36 #[.int .u64 (b : Int)] w fun e w' => e = .returned (.string (bstr (Cd.eight b))) ∧ Below w.heap.size w w' := by
  obtain ⟨i0, hi, hz0, hz1, hz2⟩ := info_parts Try.infoByte
  have hmk : ∀ u : World, (Instr.makeSlice 50 (.int .i64 8) (.int .i64 8)).run Try.prog u =
      .ok (.slice (some ⟨u.heap.size, 0, none⟩) 8 8) (u.alloc (.cells (numAt b 0) 5)) := fun u => by
    have h := run_make (P := Try.prog) u 50 5 i0 (.int .u8 0) Try.underlying50 hi hz0 .i64 .i64 8 8 (by omega) (Int.le_refl _) (by rw [hz2]; omega) (by omega)
    rw [numAt_zero]
    simpa [hz1, Value.cells] using h
  have hb0 : (0 : Int) ≤ (b : Int) := by omega
  have hb1 : (b : Int) ≤ 18446744073709551615 := by omega
  go_enter Try.func36, Try.ntmps36
  go_wp2_with fail
  clear hmk
  go_loopw [8] (fun i wr => ∃ k : Nat, k ≤ 8 ∧ i = .int .i64 k ∧ wr.heap[w.heap.size]? = some (.cells (numAt b k) 5 (0, 0)) ∧ Below w.heap.size w wr) (fun i _ => 8 - (intOf i).toNat)
  case atStart => exact ⟨0, by omega, rfl, heap_alloc_new _ _, (Below.refl _ _).alloc (Nat.le_refl _) _⟩
  case round =>
    obtain ⟨k, hk, rfl, hx, hbel⟩ := hrel
    have HX := hid hx
    clear hx
    by_cases hlt : k < 8
    · have hcx := cell_of_row wr w.heap.size k _ _ _ HX.out
      rw [numAt_get b k hlt] at hcx
      have hfx := frozen_of_row wr w.heap.size k _ _ HX.out
      go_wp2_with fail
      refine ⟨⟨k + 1, by omega, by go_num, ?_, hbel.setCell (Nat.le_refl _) _⟩, by simp [intOf]; omega⟩
      rw [← numAt_set b k hlt, num_byte]
      exact heap_setCell_same wr w.heap.size k _ _ _ HX.out
    · obtain rfl : k = 8 := by omega
      have hcx := run_string_block (P := Try.prog) 50 9 5 (Cd.eight b) _ (0, 0) (numAt_full b) Try.underlying50 Try.underlying5 Try.underlying9 w.heap.size 8 8 (Cd.low_length 8 b)
      have hx0 := HX.out
      go_wp2_with fail
      go_ret
      exact ⟨rfl, hbel⟩
end Go.Proofs.Ytimcmpcfnddioaa
