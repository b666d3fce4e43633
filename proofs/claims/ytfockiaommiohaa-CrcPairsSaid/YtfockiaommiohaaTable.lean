/-
  crc.table: its 256 cells, by the bits' way. No condition.
-/
import Derived.Test.YtfockiaommiohaaRows
import Derived.Test.YtfockiaommiohaaPure
import Derived.Test.YtfockiaommiohaaBytes
import Derived.WalkKit
import Derived.WalkSpells
import Derived.WalkLawsBesides
import Derived.Handy
namespace Go.Proofs.Ytfockiaommiohaa
open Go.RowKit

def Z256 : Array Value := Array.replicate 256 (.int .u32 0)
/-- the table after k rounds -/
def T256 (k : Nat) : Array Value := (Array.range 256).map fun i => .int .u32 (if i < k then ((Crc.tab i).toNat : Int) else 0)
theorem T256_zero : T256 0 = Z256 := by
  unfold T256 Z256
  apply Array.ext
  · simp
  · intro i _ _; simp
theorem T256_size (k : Nat) : (T256 k).size = 256 := by simp [T256]
theorem T256_get (k i : Nat) (h : i < 256) : (T256 k)[i]? = some (.int .u32 (if i < k then ((Crc.tab i).toNat : Int) else 0)) := by
  unfold T256
  rw [Array.getElem?_map, Array.getElem?_range, if_pos h]; rfl
theorem T256_set (k : Nat) : (T256 k).setIfInBounds k (.int .u32 ((Crc.tab k).toNat : Int)) = T256 (k + 1) := by
  apply Array.ext
  · simp [T256]
  · intro i h1 h2
    have hi : i < 256 := by simpa [T256] using h2
    have e1 := T256_get (k + 1) i hi
    rw [Array.getElem?_eq_getElem h2] at e1
    have e2 := T256_get k i hi
    rw [Array.getElem?_eq_getElem (by simpa [T256] using hi)] at e2
    simp only [Option.some.injEq] at e1 e2
    rw [e1, Array.getElem_setIfInBounds (by simpa [T256] using hi)]
    by_cases h : k = i
    · subst h; simp
    · rw [if_neg h, e2]
      by_cases h3 : i < k
      · rw [if_pos h3, if_pos (by omega)]
      · rw [if_neg h3, if_neg (by omega)]

theorem Try.zero37 (w : World) : (zeroValue 37).run Try.prog w = .ok (.agg Z256) w := by kernel_rfl

theorem and_one (x : BitVec 32) (b : Bool) (h : x.getLsbD 0 = b) : bits .and .u32 (x.toNat : Int) 1 = (b.toNat : Int) := by
  have h1 := u32_and_nat x.toNat 1 x.isLt (by decide)
  rw [nat_mask1] at h1
  rw [show (1 : Int) = ((1 : Nat) : Int) from rfl, h1]
  have h2 : x.getLsbD 0 = decide (x.toNat % 2 = 1) := by
    unfold BitVec.getLsbD
    rw [Nat.testBit_zero]
  rw [h2] at h
  subst h
  by_cases e : x.toNat % 2 = 1
  · simp [e]
  · simp [e]; omega
theorem shr_one (x : BitVec 32) : ((x >>> 1).toNat : Int) = (x.toNat : Int) / 2 := by
  simp [BitVec.toNat_ushiftRight, Nat.shiftRight_eq_div_pow]
theorem odd_step (x : BitVec 32) (h : x.getLsbD 0 = true) : bits .xor .u32 ((x.toNat : Int) / 2) 3988292384 = ((Crc.step x).toNat : Int) := by
  rw [Crc.step_odd h, BitVec.toNat_xor, ← shr_one, show (3988292384 : Int) = ((Crc.poly.toNat : Nat) : Int) from rfl]
  exact u32_xor_nat _ _ (x >>> 1).isLt (by decide)
theorem even_step (x : BitVec 32) (h : x.getLsbD 0 = false) : (x.toNat : Int) / 2 = ((Crc.step x).toNat : Int) := by
  rw [Crc.step_even h, shr_one]

theorem odd_of (x : BitVec 32) (h : 0 < bits .and .u32 (x.toNat : Int) 1) : bits .xor .u32 ((x.toNat : Int) / 2) 3988292384 = ((Crc.step x).toNat : Int) := by
  cases hb : x.getLsbD 0
  · rw [and_one x _ hb] at h; simp at h
  · exact odd_step x hb
theorem even_of (x : BitVec 32) (h : bits .and .u32 (x.toNat : Int) 1 ≤ 0) : (x.toNat : Int) / 2 = ((Crc.step x).toNat : Int) := by
  cases hb : x.getLsbD 0
  · exact even_step x hb
  · rw [and_one x _ hb] at h; simp at h

theorem Try.size37 : (Try.prog.info? 37).map (·.size) = some (T256 256).size := by rw [T256_size]; kernel_rfl
theorem T256_one : ((T256 256).all fun x => x.oneCell') = true := by
  rw [Array.all_eq_true]
  intro i h
  have h' : i < 256 := by rw [T256_size] at h; exact h
  have e := T256_get 256 i h'
  rw [Array.getElem?_eq_getElem h] at e
  simp only [Option.some.injEq] at e
  rw [e]; rfl
set_option maxRecDepth 100000 in
set_option maxHeartbeats 400000 in
theorem table_any (w : World) :
    Calls Try.prog 18 #[] w fun e w' => e = .returned (.agg (T256 256)) ∧ Below w.heap.size w w' := by
  have hz := Try.zero37
  go_enter Try.func18, Try.ntmps18
  go_wp2
  rw [← T256_zero]
  go_loopw [5] (fun i wr => ∃ k : Nat, k ≤ 256 ∧ i = .int .i64 k ∧ wr = (w.alloc (.cells (T256 0) 37)).alloc (.cells (T256 k) 37)) (fun i _ => 256 - (intOf i).toNat)
  case atStart => exact ⟨0, by omega, rfl, rfl⟩
  case round =>
    obtain ⟨k, hk, rfl, rfl⟩ := hrel
    by_cases hlt : k < 256
    · have hT := T256_get k k hlt
      have hTs := T256_size k
      have HT := hid (T256_set k)
      go_wp2
      go_loop [10, 3] (fun i n => ∃ j : Nat, j ≤ 8 ∧ i = .int .i64 j ∧ n = .int .u32 ((Crc.steps j (BitVec.ofNat 32 k)).toNat : Int)) (fun i _ => 8 - (intOf i).toNat)
      case atStart => exact ⟨0, by omega, rfl, by simp [Crc.steps]; omega⟩
      case round =>
        obtain ⟨j, hj, rfl, rfl⟩ := hrel
        by_cases hlj : j < 8
        · have hxb := (Crc.steps j (BitVec.ofNat 32 k)).isLt
          go_wp2
          · have h0 : 0 < bits .and .u32 ((Crc.steps j (BitVec.ofNat 32 k)).toNat : Int) 1 := by assumption
            go_round
            case rel => exact ⟨j + 1, by omega, by go_num, int_eq (odd_of _ h0)⟩
            case measure => simp [intOf]; omega
          · have h0 : bits .and .u32 ((Crc.steps j (BitVec.ofNat 32 k)).toNat : Int) 1 ≤ 0 := by assumption
            go_round
            case rel => exact ⟨j + 1, by omega, by go_num, int_eq (even_of _ h0)⟩
            case measure => simp [intOf]; omega
        · have hj8 : j = 8 := by omega
          subst hj8
          go_wp2
          go_roundw
          case rel => exact ⟨k + 1, by omega, by go_num, by rw [← HT.out]; rfl⟩
          case measure => simp [intOf]; omega
    · have hk8 : k = 256 := by omega
      subst hk8
      have hsz := hid Try.size37
      have hone := hid T256_one
      go_wp2_with (first
        | (refine wpList_load_row rfl 37 _ rfl (w.heap.size + 1) rfl 37 (T256 256) (0, 0) _ (heap_alloc2_new _ _ _) Try.underlying37 rfl hsz.out ?_)
        | (refine wpList_store_row rfl 37 _ _ rfl w.heap.size (T256 256) rfl rfl 37 (T256 0) (heap_alloc2_old _ _ _) hsz.out (by rw [T256_size, T256_size]) hone.out ?_))
      refine bodyPost_ret (results_cell_row rfl _ _ w.heap.size 37 (T256 256) (0, 0) _ rfl ?_ Try.underlying37 rfl hsz.out) rfl ⟨rfl, ?_⟩
      · exact setRow_heap _ _ _ _ _ _ (heap_alloc2_old _ _ _)
      · exact ((Below.refl _ _).alloc (Nat.le_refl _) _).alloc (by simp) _ |>.trans (below_row (Nat.le_refl _) _)
end Go.Proofs.Ytfockiaommiohaa
