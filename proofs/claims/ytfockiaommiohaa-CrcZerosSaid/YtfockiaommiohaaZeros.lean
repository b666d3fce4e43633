/-
  CrcZeros answers true, whatever the text: the walk. No condition but that the text's length is an int.
-/
import Derived.Test.YtfockiaommiohaaKnown
namespace Go.Proofs.Ytfockiaommiohaa
open Go.RowKit

set_option maxHeartbeats 800000 in
theorem crcZeros_walk (s : ByteArray) (hs : s.size ≤ maxLen) (w : World) :
    Calls Try.prog 6 #[.string s] w fun e w' => e = .returned (.bool true) ∧ Below w.heap.size w w' := by
  unfold maxLen at hs
  by_cases h : s.size ≤ 2000
  · have hl : s.data.toList.length = s.size := by simp
    rcases Crc.take_cases s.data.toList with ⟨ht, _⟩ | ⟨ht, h4, hp⟩
    · have c1 : Hid (∀ W, Calls Try.prog 10 #[.string s] W fun e w' => e = .returned (.tuple #[.string ⟨#[]⟩, .bool false]) ∧ Below W.heap.size W w') := fun W => by
        have := take_any s W (by omega)
        rwa [ht] at this
      clear ht
      go_enter Try.func6, Try.ntmps6
      go_wp2_with fail
      refine (c1.out _).mono ?_; rintro e w1 ⟨rfl, hb1⟩
      go_wp2_with fail
      all_goals
        refine (after hb1 (known_any _)).mono ?_; rintro e w2 ⟨rfl, hb2⟩
        go_wp2
        go_ret
        exact ⟨rfl, hb2⟩
    · have c1 : Hid (∀ W, Calls Try.prog 10 #[.string s] W fun e w' => e = .returned (.tuple #[.string (s.extract 0 (s.size - 4)), .bool true]) ∧ Below W.heap.size W w') := fun W => by
        have := take_any s W (by omega)
        rwa [ht, hl, ← extract_bstr] at this
      have c2 : Hid (∀ W, Calls Try.prog 16 #[.string (s.extract 0 (s.size - 4))] W fun e w' => e = .returned (.string s) ∧ Below W.heap.size W w') := fun W => by
        have := put_any (s.extract 0 (s.size - 4)) W (by simp; omega)
        rwa [extract_take, ← hl, hp, bstr_of] at this
      rw [hl] at h4
      clear ht hp
      go_enter Try.func6, Try.ntmps6
      go_wp2_with fail
      refine (c1.out _).mono ?_; rintro e w1 ⟨rfl, hb1⟩
      go_wp2_with fail
      refine (after hb1 (c2.out _)).mono ?_; rintro e w2 ⟨rfl, hb2⟩
      go_wp2_with fail
      refine (after hb2 (known_any _)).mono ?_; rintro e w3 ⟨rfl, hb3⟩
      go_wp2
      go_ret
      exact ⟨rfl, hb3⟩
  · have hs2 : (2000 : Int) < s.size := by omega
    go_enter Try.func6, Try.ntmps6
    go_wp2_with fail
    refine (known_any _).mono ?_; rintro e w9 ⟨rfl, hb9⟩
    go_wp2
    go_ret
    exact ⟨rfl, hb9⟩
end Go.Proofs.Ytfockiaommiohaa
