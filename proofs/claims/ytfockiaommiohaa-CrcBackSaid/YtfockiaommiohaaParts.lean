/-
  CrcParts answers true, whatever the text and the place: the walk. No condition but that the text's length is an int.
-/
import Derived.Test.YtfockiaommiohaaKnown
import Derived.Deep.RegionWith
import Derived.BigRegion
namespace Go.Proofs.Ytfockiaommiohaa
open Go.RowKit

theorem u16_of {n : Int} (h : (Lit.int .u16 n).wf = true) : 0 ≤ n ∧ n ≤ 65535 := by
  simpa [Lit.wf, IntKind.min, IntKind.max, IntKind.signed, IntKind.bits] using h

theorem parts_eq (l : List UInt8) (m : Nat) : Crc.more (Crc.sumOf (l.take m)) (l.drop m) = Crc.sumOf l := by
  unfold Crc.sumOf Crc.more Crc.run
  rw [BitVec.not_not, ← List.foldl_append, List.take_append_drop]

set_option maxHeartbeats 800000 in
theorem crcParts_walk (s : ByteArray) (n : Int) (hs : s.size ≤ maxLen) (hn : (Lit.int .u16 n).wf = true) (w : World) :
    Calls Try.prog 4 #[.string s, .int .u16 n] w fun e w' => e = .returned (.bool true) ∧ Below w.heap.size w w' := by
  obtain ⟨h0, h1⟩ := u16_of hn
  unfold maxLen at hs
  by_cases h : s.size ≤ 2000
  · obtain ⟨m, hm, hms⟩ : ∃ m : Nat, n % ((s.size : Int) + 1) = m ∧ m ≤ s.size := ⟨(n % ((s.size : Int) + 1)).toNat, by have := Int.emod_nonneg n (show ((s.size : Int) + 1) ≠ 0 by omega); omega, by have := Int.emod_lt_of_pos n (show 0 < ((s.size : Int) + 1) by omega); omega⟩
    go_enter Try.func4, Try.ntmps4
    go_wp2_with fail
    have hB := (Below.refl w.heap.size w).drew
    obtain ⟨a, b, c1, c2, c3, c4⟩ : ∃ a b : BitVec 32, Hid (∀ W, Calls Try.prog 12 #[.string (s.extract 0 m)] W fun e w' => e = .returned (.int .u32 (a.toNat : Int)) ∧ Below W.heap.size W w') ∧
        Hid (∀ W, Calls Try.prog 14 #[.int .u32 (a.toNat : Int), .string (s.extract m s.size)] W fun e w' => e = .returned (.int .u32 (b.toNat : Int)) ∧ Below W.heap.size W w') ∧
        Hid (∀ W, Calls Try.prog 12 #[.string s] W fun e w' => e = .returned (.int .u32 (b.toNat : Int)) ∧ Below W.heap.size W w') ∧
        Hid (∀ W, Calls Try.prog 14 #[.int .u32 0, .string s] W fun e w' => e = .returned (.int .u32 (b.toNat : Int)) ∧ Below W.heap.size W w') := by
      refine ⟨Crc.sumOf (s.data.toList.take m), Crc.sumOf s.data.toList, fun W => ?_, fun W => ?_, fun W => of_any s W hs, fun W => more_any 0#32 s W hs⟩
      · have := of_any (s.extract 0 m) W (by simp; omega)
        rwa [extract_take] at this
      · have := more_any (Crc.sumOf (s.data.toList.take m)) (s.extract m s.size) W (by simp; omega)
        rwa [extract_drop, parts_eq] at this
    go_region_with (first
      | (go_at_call_of 12 (ByteArray.extract s 0 m); refine (after hB (c1.out _)).mono ?_; rintro e w1 ⟨rfl, hB1⟩)
      | (go_at_call_of 14 (ByteArray.extract s m s.size); refine (after hB1 (c2.out _)).mono ?_; rintro e w2 ⟨rfl, hB2⟩)
      | (go_at_call 12; refine (after hB2 (c3.out _)).mono ?_; rintro e w3 ⟨rfl, hB3⟩; clear hB2)
      | (go_at_call 14; refine (after hB3 (c4.out _)).mono ?_; rintro e w4 ⟨rfl, hB4⟩)
      | (go_at_call 12; refine (after hB4 (c3.out _)).mono ?_; rintro e w5 ⟨rfl, hB5⟩)
      | (go_at_call 9; refine (after hB5 (known_any _)).mono ?_; rintro e w6 ⟨rfl, hB6⟩))
    go_wp2
    go_ret
    exact ⟨rfl, hB6⟩
  · have hs2 : (2000 : Int) < s.size := by omega
    go_enter Try.func4, Try.ntmps4
    go_wp2_with fail
    refine (known_any _).mono ?_; rintro e w9 ⟨rfl, hb9⟩
    go_wp2
    go_ret
    exact ⟨rfl, hb9⟩
end Go.Proofs.Ytfockiaommiohaa
