/-
  CrcMixes answers true, whatever the two texts: the walk. No condition but that the texts' lengths are ints.
-/
import Derived.Test.YtfockiaommiohaaKnown
import Derived.Deep.RegionWith
import Derived.BigRegion
import Derived.Deep.DeepMust
namespace Go.Proofs.Ytfockiaommiohaa
open Go.RowKit

/-- the first k bytes laid over one another, behind them 0, n in all -/
def mixAt (a b : ByteArray) (n k : Nat) : Array Value := ((List.range n).map fun i => if i < k then byteV (a.data.toList.getD i 0 ^^^ b.data.toList.getD i 0) else byteV 0).toArray
theorem mixAt_size (a b : ByteArray) (n k : Nat) : (mixAt a b n k).size = n := by simp [mixAt]
theorem mixAt_zero (a b : ByteArray) (n : Nat) : mixAt a b n 0 = madeCells #[.int .u8 0] n := by
  unfold mixAt madeCells
  apply Array.ext
  · simp
  · intro i h1 h2
    simp [byteV, Nat.mod_one]
theorem mixAt_get (a b : ByteArray) (n k i : Nat) (h : i < n) : (mixAt a b n k)[i]? = some (if i < k then byteV (a.data.toList.getD i 0 ^^^ b.data.toList.getD i 0) else byteV 0) := by
  simp [mixAt, h]
theorem mixAt_set (a b : ByteArray) (n k : Nat) : (mixAt a b n k).setIfInBounds k (byteV (a.data.toList.getD k 0 ^^^ b.data.toList.getD k 0)) = mixAt a b n (k + 1) := by
  apply Array.ext
  · simp [mixAt]
  · intro i h1 h2
    have hi : i < n := by simpa [mixAt] using h2
    have e1 := mixAt_get a b n (k + 1) i hi
    rw [Array.getElem?_eq_getElem h2] at e1
    have e2 := mixAt_get a b n k i hi
    rw [Array.getElem?_eq_getElem (by simpa [mixAt] using hi)] at e2
    simp only [Option.some.injEq] at e1 e2
    rw [e1, Array.getElem_setIfInBounds (by simpa [mixAt] using hi)]
    by_cases h : k = i
    · subst h; simp
    · rw [if_neg h, e2]
      by_cases h3 : i < k
      · rw [if_pos h3, if_pos (by omega)]
      · rw [if_neg h3, if_neg (by omega)]

def mixL (a b : ByteArray) (n : Nat) : List UInt8 := (List.range n).map fun i => a.data.toList.getD i 0 ^^^ b.data.toList.getD i 0
def zeroL (n : Nat) : List UInt8 := (List.range n).map fun _ => 0
theorem mixL_length (a b : ByteArray) (n : Nat) : (mixL a b n).length = n := by simp [mixL]
theorem zeroL_length (n : Nat) : (zeroL n).length = n := by simp [zeroL]
theorem mixAt_full (a b : ByteArray) (n : Nat) : mixAt a b n n = ((mixL a b n).map byteV).toArray := by
  unfold mixAt mixL
  rw [List.map_map]
  congr 1
  apply List.map_congr_left
  intro i hi
  rw [if_pos (by simpa using hi)]; rfl
theorem mixAt_none (a b : ByteArray) (n : Nat) : mixAt a b n 0 = ((zeroL n).map byteV).toArray := by
  unfold mixAt zeroL
  rw [List.map_map]
  congr 1
theorem mix_val (a b : ByteArray) (k : Nat) (ha : k < a.size) (hb : k < b.size) : Value.int .u8 (bits .xor .u8 (a[k].toNat : Int) (b[k].toNat : Int)) = byteV (a.data.toList.getD k 0 ^^^ b.data.toList.getD k 0) := by
  unfold byteV
  refine int_eq ?_
  rw [u8_xor_nat _ _ a[k].toNat_lt b[k].toNat_lt, UInt8.toNat_xor]
  congr 2
  · rw [List.getD_eq_getElem?_getD, List.getElem?_eq_getElem (by simpa using ha)]; rfl
  · rw [List.getD_eq_getElem?_getD, List.getElem?_eq_getElem (by simpa using hb)]; rfl
theorem mix_sum (a b : ByteArray) (n : Nat) (ha : n ≤ a.size) (hb : n ≤ b.size) : Crc.sumOf (mixL a b n) = Crc.sumOf (a.data.toList.take n) ^^^ Crc.sumOf (b.data.toList.take n) ^^^ Crc.sumOf (zeroL n) := by
  have h := Crc.sum_mix ((List.range n).map fun i => (a.data.toList.getD i 0, b.data.toList.getD i 0))
  simp only [List.map_map, Function.comp_def] at h
  have hp : ∀ (s : ByteArray), n ≤ s.size → (List.range n).map (fun i => s.data.toList.getD i 0) = s.data.toList.take n := by
    intro s hs
    apply List.ext_getElem?
    intro i
    rw [List.getElem?_map, List.getElem?_take]
    by_cases hi : i < n
    · rw [List.getElem?_range hi, if_pos hi, List.getElem?_eq_getElem (by simp; omega)]
      simp only [Option.map_some]
      rw [List.getD_eq_getElem?_getD, List.getElem?_eq_getElem (by simp; omega)]; rfl
    · rw [if_neg hi, List.getElem?_eq_none (by simpa using hi)]; rfl
  rw [hp a ha, hp b hb] at h
  exact h

set_option maxHeartbeats 1600000 in
theorem crcMixes_walk (a b : ByteArray) (ha : a.size ≤ maxLen) (hb : b.size ≤ maxLen) (w : World) :
    Calls Try.prog 7 #[.string a, .string b] w fun e w' => e = .returned (.bool true) ∧ Below w.heap.size w w' := by
  unfold maxLen at ha hb
  obtain ⟨i0, hi, hz0, hz1, hz2⟩ := info_parts Try.info5
  obtain ⟨n, hn, hna, hnb, hn1⟩ : ∃ n : Nat, min (min (a.size : Int) (b.size : Int)) 1000 = n ∧ n ≤ a.size ∧ n ≤ b.size ∧ n ≤ 1000 := ⟨min (min a.size b.size) 1000, by omega, by omega, by omega, by omega⟩
  have hmk : ∀ u : World, (Instr.makeSlice 32 (.int .i64 (n : Int)) (.int .i64 (n : Int))).run Try.prog u =
      .ok (.slice (some ⟨u.heap.size, 0, none⟩) n n) (u.alloc (.cells (mixAt a b n 0) 5)) := fun u => by
    have h := run_make (P := Try.prog) u 32 5 i0 (.int .u8 0) Try.underlying32 hi hz0 .i64 .i64 (n : Int) (n : Int) (by omega) (Int.le_refl _) (by rw [hz2]; omega) (by omega)
    rw [mixAt_zero]
    simpa [hz1, Value.cells] using h
  have hmin : ∀ u, (Builtin.min_ #[3, 3, 3] 3 #[.int .i64 (a.size : Int), .int .i64 (b.size : Int), .int .i64 1000]).run Try.prog u = .ok (.int .i64 (n : Int)) u := fun u => by
    rw [run_min_int3]
    have e : (if (1000 : Int) < (if (b.size : Int) < (a.size : Int) then (b.size : Int) else (a.size : Int)) then (1000 : Int) else (if (b.size : Int) < (a.size : Int) then (b.size : Int) else (a.size : Int))) = (n : Int) := by
      split <;> split at * <;> omega
    rw [e]
  go_enter Try.func7, Try.ntmps7
  go_wp2_with fail
  clear hmk hmin
  go_loopw [8] (fun i wr => ∃ k : Nat, k ≤ n ∧ i = .int .i64 k ∧ wr.heap[w.heap.size]? = some (.cells (mixAt a b n k) 5 (0, 0)) ∧ wr.heap[w.heap.size + 1]? = some (.cells (mixAt a b n 0) 5 (0, 0)) ∧ Below w.heap.size w wr) (fun i _ => n - (intOf i).toNat)
  case atStart => exact ⟨0, by omega, rfl, heap_alloc2_old _ _ _, heap_alloc2_new _ _ _, ((Below.refl _ _).alloc (Nat.le_refl _) _).alloc (by simp) _⟩
  case round =>
    obtain ⟨k, hk, rfl, hx, hz, hbel⟩ := hrel
    have HX := hid hx
    have HZ := hid hz
    clear hx hz
    by_cases hlt : k < n
    · have hka : k < a.size := by omega
      have hkb : k < b.size := by omega
      have hcx := cell_of_row wr w.heap.size k _ _ _ HX.out
      rw [mixAt_get a b n k k hlt] at hcx
      have hfx := frozen_of_row wr w.heap.size k _ _ HX.out
      go_wp2_with fail
      go_region
      go_wp2
      go_roundw
      case rel =>
        refine ⟨k + 1, by omega, by go_num, ?_, ?_, ?_⟩
        · rw [← mixAt_set]
          have e := mix_val a b k hka hkb
          rw [← e]
          exact heap_setCell_same wr w.heap.size k _ _ _ HX.out
        · exact (heap_setCell_other wr ⟨w.heap.size, k, none⟩ (w.heap.size + 1) _ (by simp)).trans HZ.out
        · exact hbel.drew.setCell (Nat.le_refl _) _
      case measure => simp [intOf]; omega
    · have hkn : k = n := by omega
      subst hkn
      clear hk hlt
      have hcx := run_string_block (P := Try.prog) 32 9 5 (mixL a b k) _ (0, 0) (mixAt_full a b k) Try.underlying32 Try.underlying5 Try.underlying9 w.heap.size k k (mixL_length a b k)
      have hcz := run_string_block (P := Try.prog) 32 9 5 (zeroL k) _ (0, 0) (mixAt_none a b k) Try.underlying32 Try.underlying5 Try.underlying9 (w.heap.size + 1) k k (zeroL_length k)
      have hx0 := HX.out
      have hz0 := HZ.out
      have hmix := mix_sum a b k hna hnb
      obtain ⟨p, q, r, c1, c2, c3, c4⟩ : ∃ p q r : BitVec 32, Hid (∀ W, Calls Try.prog 12 #[.string (bstr (mixL a b k))] W fun e w' => e = .returned (.int .u32 ((p ^^^ q ^^^ r).toNat : Int)) ∧ Below W.heap.size W w') ∧
          Hid (∀ W, Calls Try.prog 12 #[.string (a.extract 0 k)] W fun e w' => e = .returned (.int .u32 (p.toNat : Int)) ∧ Below W.heap.size W w') ∧
          Hid (∀ W, Calls Try.prog 12 #[.string (b.extract 0 k)] W fun e w' => e = .returned (.int .u32 (q.toNat : Int)) ∧ Below W.heap.size W w') ∧
          Hid (∀ W, Calls Try.prog 12 #[.string (bstr (zeroL k))] W fun e w' => e = .returned (.int .u32 (r.toNat : Int)) ∧ Below W.heap.size W w') := by
        refine ⟨Crc.sumOf (a.data.toList.take k), Crc.sumOf (b.data.toList.take k), Crc.sumOf (zeroL k), fun W => ?_, fun W => ?_, fun W => ?_, fun W => ?_⟩
        · have := of_any (bstr (mixL a b k)) W (by rw [bstr_size, mixL_length]; omega)
          rwa [bstr_toList, hmix] at this
        · have := of_any (a.extract 0 k) W (by simp; omega)
          rwa [extract_take] at this
        · have := of_any (b.extract 0 k) W (by simp; omega)
          rwa [extract_take] at this
        · have := of_any (bstr (zeroL k)) W (by rw [bstr_size, zeroL_length]; omega)
          rwa [bstr_toList] at this
      clear hmix
      generalize bstr (mixL a b k) = X at *
      generalize bstr (zeroL k) = Z at *
      have hpq : bits .xor .u32 (p.toNat : Int) (q.toNat : Int) = ((p ^^^ q).toNat : Int) := by rw [BitVec.toNat_xor]; exact u32_xor_nat _ _ p.isLt q.isLt
      have hpqr : bits .xor .u32 ((p ^^^ q).toNat : Int) (r.toNat : Int) = ((p ^^^ q ^^^ r).toNat : Int) := by rw [BitVec.toNat_xor]; exact u32_xor_nat _ _ (p ^^^ q).isLt r.isLt
      generalize p ^^^ q ^^^ r = pqr at *
      generalize p ^^^ q = pq at *
      have hB0 := hbel.drew
      have tx := hcx wr.drew hx0
      have tz := hcz wr.drew hz0
      have HCZ := hid hcz
      clear hcx hcz hx0
      have hz0' : Hid (wr.drew.heap[w.heap.size + 1]? = some (.cells (mixAt a b k 0) 5 (0, 0))) := hz0
      clear hz0
      go_wp2_with fail
      go_region_with (first
        | (go_at_call_of 12 X; refine (c1.out _).mono ?_; rintro e w1 ⟨rfl, hb1⟩; have hz1 := hid (keepBlock hz0'.out hb1); have tz1 := HCZ.out w1 hz1.out; have hB1 := bnext hB0 hb1)
        | (go_at_call_of 12 (ByteArray.extract a 0 k); refine (c2.out _).mono ?_; rintro e w2 ⟨rfl, hb2⟩; have hz2 := hid (keepBlock hz1.out hb2); have tz2 := HCZ.out w2 hz2.out; have hB2 := bnext hB1 hb2)
        | (go_at_call_of 12 (ByteArray.extract b 0 k); refine (c3.out _).mono ?_; rintro e w3 ⟨rfl, hb3⟩; have hz3 := hid (keepBlock hz2.out hb3); have tz3 := HCZ.out w3 hz3.out; have hB3 := bnext hB2 hb3)
        | (go_at_call_of 12 Z; refine (c4.out _).mono ?_; rintro e w4 ⟨rfl, hb4⟩; have hB4 := bnext hB3 hb4)
        | (go_at_call 9; refine (after hB4 (known_any _)).mono ?_; rintro e w5 ⟨rfl, hB5⟩))
      all_goals
        go_wp2
        go_ret
        exact ⟨rfl, hB5⟩
end Go.Proofs.Ytfockiaommiohaa
