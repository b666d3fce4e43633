/-
  CrcBack answers true, whatever the text, the place and the byte: the walk. No condition but that the text's length is an int.
-/
import Derived.Test.YtfockiaommiohaaParts
namespace Go.Proofs.Ytfockiaommiohaa
open Go.RowKit

theorem u8_of {n : Int} (h : (Lit.int .u8 n).wf = true) : ∃ c : UInt8, n = (c.toNat : Int) := by
  have hx : 0 ≤ n ∧ n ≤ 255 := by simpa [Lit.wf, IntKind.min, IntKind.max, IntKind.signed, IntKind.bits] using h
  refine ⟨UInt8.ofNat n.toNat, ?_⟩
  rw [UInt8.toNat_ofNat']
  omega
theorem xor_ne (a b : UInt8) (h : b ≠ 0) : a ^^^ b ≠ a := by
  intro e
  apply h
  have : a ^^^ (a ^^^ b) = a ^^^ a := by rw [e]
  simpa [← UInt8.xor_assoc] using this
theorem byte_xor (a b : UInt8) : bits .xor .u8 (a.toNat : Int) (b.toNat : Int) = ((a ^^^ b).toNat : Int) := by
  rw [UInt8.toNat_xor]; exact u8_xor_nat _ _ a.toNat_lt b.toNat_lt

theorem take_bent_any (s T : ByteArray) (hT : T.data.toList = Crc.put s.data.toList) (hs : s.size ≤ 2000) (k : Nat) (hk : k < T.size) (c : UInt8) (hc : c ≠ T[k]) (w : World) :
    Calls Try.prog 10 #[.string (T.extract 0 k ++ bstr [c] ++ T.extract (k + 1) T.size)] w fun e w' => (∃ x, e = .returned (.tuple #[.string x, .bool false])) ∧ Below w.heap.size w w' := by
  have hl : s.data.toList.length = s.size := by simp
  have hTs : T.size = s.size + 4 := by
    have := congrArg List.length hT
    rw [Crc.put_length, hl] at this
    simpa using this
  have hlist : (T.extract 0 k ++ bstr [c] ++ T.extract (k + 1) T.size).data.toList = (Crc.put s.data.toList).take k ++ [c] ++ (Crc.put s.data.toList).drop (k + 1) := by
    rw [ByteArray.data_append, Array.toList_append, ByteArray.data_append, Array.toList_append, extract_take, extract_drop, hT, bstr_toList]
  have hget : T[k] = (Crc.put s.data.toList)[k]'(by rw [Crc.put_length, hl]; omega) := by
    have e1 : T[k] = T.data.toList[k]'(by simpa using hk) := rfl
    rw [e1]
    exact getElem_congr_coll hT
  have hsnd : (Crc.take (T.extract 0 k ++ bstr [c] ++ T.extract (k + 1) T.size).data.toList).2 = false := by
    rw [hlist]
    exact Crc.take_bent s.data.toList k (by rw [hl]; omega) c (by rw [← hget]; exact hc)
  refine (take_any (T.extract 0 k ++ bstr [c] ++ T.extract (k + 1) T.size) w (by rw [ByteArray.size_append, ByteArray.size_append, bstr_size]; simp; omega)).mono fun e w' ⟨h1, h2⟩ => ⟨⟨bstr (Crc.take (T.extract 0 k ++ bstr [c] ++ T.extract (k + 1) T.size).data.toList).1, ?_⟩, h2⟩
  rw [h1, hsnd]

set_option maxHeartbeats 1600000 in
theorem crcBack_walk (s : ByteArray) (n m : Int) (hs : s.size ≤ maxLen) (hn : (Lit.int .u16 n).wf = true) (hm : (Lit.int .u8 m).wf = true) (w : World) :
    Calls Try.prog 5 #[.string s, .int .u16 n, .int .u8 m] w fun e w' => e = .returned (.bool true) ∧ Below w.heap.size w w' := by
  obtain ⟨n0, n1⟩ := u16_of hn
  obtain ⟨b, rfl⟩ := u8_of hm
  unfold maxLen at hs
  by_cases h : s.size ≤ 2000
  · obtain ⟨T, hT, c1, c2, HTL⟩ : ∃ T : ByteArray, T.size = s.size + 4 ∧ Hid (∀ W, Calls Try.prog 16 #[.string s] W fun e w' => e = .returned (.string T) ∧ Below W.heap.size W w') ∧
        Hid (∀ W, Calls Try.prog 10 #[.string T] W fun e w' => e = .returned (.tuple #[.string s, .bool true]) ∧ Below W.heap.size W w') ∧ Hid (T.data.toList = Crc.put s.data.toList) := by
      have hT : (bstr (Crc.put s.data.toList)).size = s.size + 4 := by rw [bstr_size, Crc.put_length]; simp
      refine ⟨bstr (Crc.put s.data.toList), hT, fun W => put_any s W (by omega), fun W => ?_, rfl⟩
      have := take_any (bstr (Crc.put s.data.toList)) W (by omega)
      rwa [bstr_toList, Crc.take_put, bstr_of] at this
    have hne : ((T.size : Int) != (s.size : Int) + 4) = false := by rw [bne_eq_false_iff_eq]; omega
    have hT4 : 4 ≤ T.size := by omega
    have hTm : T.size ≤ 2004 := by omega
    clear hT
    by_cases hb : b = 0
    · subst hb
      go_enter Try.func5, Try.ntmps5
      go_wp2_with fail
      refine (c1.out _).mono ?_; rintro e w1 ⟨rfl, hB1⟩
      go_wp2_with fail
      refine (after hB1 (c2.out _)).mono ?_; rintro e w2 ⟨rfl, hB2⟩
      go_wp2_with fail
      refine (after hB2 (known_any _)).mono ?_; rintro e w3 ⟨rfl, hB3⟩
      go_wp2
      go_ret
      exact ⟨rfl, hB3⟩
    · obtain ⟨k, hk, hkT⟩ : ∃ k : Nat, n % (T.size : Int) = k ∧ k < T.size := ⟨(n % (T.size : Int)).toNat, by have := Int.emod_nonneg n (show (T.size : Int) ≠ 0 by omega); omega, by have := Int.emod_lt_of_pos n (show 0 < (T.size : Int) by omega); omega⟩
      have hb0 : ((b.toNat : Int) == 0) = false := by
        rw [beq_eq_false_iff_ne]; intro e; exact hb (UInt8.toNat_inj.1 (by simpa using e))
      go_enter Try.func5, Try.ntmps5
      go_wp2_with fail
      refine (c1.out _).mono ?_; rintro e w1 ⟨rfl, hB1⟩
      go_wp2_with fail
      refine (after hB1 (c2.out _)).mono ?_; rintro e w2 ⟨rfl, hB2⟩
      obtain ⟨c, hx, hbent⟩ : ∃ c : UInt8, bits .xor .u8 (T[k].toNat : Int) (b.toNat : Int) = (c.toNat : Int) ∧ Hid (∀ W, Calls Try.prog 10 #[.string (T.extract 0 k ++ bstr [c] ++ T.extract (k + 1) T.size)] W fun e w' => (∃ x, e = .returned (.tuple #[.string x, .bool false])) ∧ Below W.heap.size W w') :=
        ⟨T[k] ^^^ b, byte_xor _ _, fun W => take_bent_any s T HTL.out h k hkT _ (xor_ne _ _ hb) W⟩
      have hsc := run_string_cell (P := Try.prog) 32 9 5 c Try.underlying32 Try.underlying5 Try.underlying9
      have h1c : (bstr [c]).size = 1 := rfl
      go_wp2_with fail
      have hk0 : k ≤ T.size := by omega
      have hk1 : k + 1 ≤ T.size := by omega
      have hk2 : (k : Int) + 1 ≤ (T.size : Int) := by omega
      have hk3 : (k : Int) < (T.size : Int) := by omega
      have hw1 : IntKind.i64.wrap ((k : Int) + 1) = (k : Int) + 1 := IntWalk.i64_in _ (by omega)
      have hw2 : (0 : Int) ≤ (k : Int) + 1 := by omega
      have hw3 : ((k : Int) + 1).toNat = k + 1 := by omega
      go_region_with (first | (go_at_call 10; refine (hbent.out _).mono ?_; rintro e w3 ⟨⟨x, rfl⟩, hB3⟩; have hB4 := (hB2.alloc hB2.size (.cells #[.int .u8 (c.toNat : Int)] 5)).drew.trans (hB3.mono (by have := hB2.size; simp; omega))))
      clear hw1 hw2 hw3 hx hsc h1c
      go_wp2_with fail
      refine (after hB4 (known_any _)).mono ?_; rintro e w5 ⟨rfl, hB5⟩
      go_wp2
      go_ret
      exact ⟨rfl, hB5⟩
  · have hs2 : (2000 : Int) < s.size := by omega
    go_enter Try.func5, Try.ntmps5
    go_wp2_with fail
    refine (known_any _).mono ?_; rintro e w9 ⟨rfl, hb9⟩
    go_wp2
    go_ret
    exact ⟨rfl, hb9⟩
end Go.Proofs.Ytfockiaommiohaa
