/-
  KeyNext answers true at any two texts. No condition.
-/
import Derived.Test.YtimcmpcfnddioaaKyLt
import Derived.Test.YtimcmpcfnddioaaKyPf
namespace Go.Proofs.Ytimcmpcfnddioaa
open Go.RowKit

set_option maxRecDepth 100000 in
set_option maxHeartbeats 3200000 in
theorem keyNext_walk (s t : ByteArray) (w : World) (hs : s.size ≤ maxLen) (ht : t.size ≤ maxLen) :
    Calls Try.prog 8 #[.string s, .string t] w fun e w' => e = .returned (.bool true) ∧ Below w.heap.size w w' := by
  unfold maxLen at hs ht
  by_cases h1 : s.size ≤ 300
  · by_cases h2 : t.size ≤ 300
    · have h1' : ¬ (300 : Int) < (s.size : Int) := by omega
      have h2' : ¬ (300 : Int) < (t.size : Int) := by omega
      have hns : (s ++ ⟨#[0]⟩).size = s.size + 1 := by rw [ByteArray.size_append]; rfl
      have c1 := hid (fun W => next_any s (by omega) W)
      have c2 := hid (fun W => bytesR_any s (s ++ ⟨#[0]⟩) (by unfold maxLen; omega) (by unfold maxLen; omega) W)
      have c3 := hid (fun W => bytesR_any s t (by unfold maxLen; omega) (by unfold maxLen; omega) W)
      have c4 := hid (fun W => bytesR_any (s ++ ⟨#[0]⟩) t (by unfold maxLen; omega) (by unfold maxLen; omega) W)
      have hb := Ky.strs_between s t
      rw [Ky.strs_next] at c2
      generalize Ky.strs s t = q at hb c3
      generalize Ky.strs (s ++ ⟨#[0]⟩) t = p at hb c4
      generalize s ++ ⟨#[0]⟩ = n at c1 c2 c4
      clear hns hs ht
      by_cases hq : 0 ≤ q
      · clear hb c4
        go_enter Try.func8, Try.ntmps8
        go_wp2_with fail
        refine (c1.out _).mono ?_; rintro e w1 ⟨rfl, rfl⟩
        go_wp2_with fail
        refine (c2.out _).mono ?_; rintro e w2 ⟨rfl, b2⟩
        go_wp2_with fail
        refine (c3.out _).mono ?_; rintro e w3 ⟨rfl, b3⟩
        go_wp2_with fail
        refine (known_any _).mono ?_; rintro e w4 ⟨rfl, b4⟩
        go_wp2
        go_ret
        exact ⟨rfl, hnext (hnext b2 b3) b4⟩
      · have hp : p ≤ 0 := hb.resolve_left hq
        clear hb
        go_enter Try.func8, Try.ntmps8
        go_wp2_with fail
        refine (c1.out _).mono ?_; rintro e w1 ⟨rfl, rfl⟩
        go_wp2_with fail
        refine (c2.out _).mono ?_; rintro e w2 ⟨rfl, b2⟩
        go_wp2_with fail
        refine (c3.out _).mono ?_; rintro e w3 ⟨rfl, b3⟩
        go_wp2_with fail
        refine (c4.out _).mono ?_; rintro e w4 ⟨rfl, b4⟩
        go_wp2_with fail
        refine (known_any _).mono ?_; rintro e w5 ⟨rfl, b5⟩
        go_wp2
        go_ret
        exact ⟨rfl, hnext (hnext (hnext b2 b3) b4) b5⟩
    · have h1' : ¬ (300 : Int) < (s.size : Int) := by omega
      have h2' : (300 : Int) < (t.size : Int) := by omega
      go_enter Try.func8, Try.ntmps8
      go_wp2_with fail
      refine (known_any _).mono ?_; rintro e w3 ⟨rfl, b3⟩
      go_wp2
      go_ret
      exact ⟨rfl, b3⟩
  · have h1' : (300 : Int) < (s.size : Int) := by omega
    go_enter Try.func8, Try.ntmps8
    go_wp2_with fail
    refine (known_any _).mono ?_; rintro e w3 ⟨rfl, b3⟩
    go_wp2
    go_ret
    exact ⟨rfl, b3⟩
end Go.Proofs.Ytimcmpcfnddioaa
