/-
  KeyReads answers true at any bytes. No condition.
-/
import Derived.Test.YtimcmpcfnddioaaKyLt
import Derived.Test.YtimcmpcfnddioaaKyPf
namespace Go.Proofs.Ytimcmpcfnddioaa
open Go.RowKit

set_option maxRecDepth 100000 in
set_option maxHeartbeats 3200000 in
theorem keyReads_walk (s : ByteArray) (w : World) (hs : s.size ≤ maxLen) :
    Calls Try.prog 4 #[.string s] w fun e w' => e = .returned (.bool true) ∧ Below w.heap.size w w' := by
  unfold maxLen at hs
  by_cases h1 : s.size ≤ 500
  · have h1' : ¬ (500 : Int) < (s.size : Int) := by omega
    have c1 := hid (fun W => parse_any s (by omega) W)
    have c2 := hid (fun W => parseR_any s (by omega) W)
    have he := Ky.parse_eq (s := s.data.toList) (by simp; omega)
    rw [← he] at c2
    cases hp : Ky.parse s.data.toList with
    | none =>
      rw [hp] at c1 c2
      have d1 := hid (fun W => (c1.out W).mono fun e w' h => ParseP.no h)
      have d2 := hid (fun W => (c2.out W).mono fun e w' h => ParseP.no h)
      clear c1 c2 he hp hs
      have c3 := hid (fun W => rows_any (.slice none 0 0) (.slice none 0 0) [] [] W (VsAt.own (World.ownsRow_nil W 0 _ _)) (VsAt.own (World.ownsRow_nil W 0 _ _)) (by decide) (by decide))
      rw [decide_eq_true (rfl : ([] : List Cd.V) = [])] at c3
      go_enter Try.func4, Try.ntmps4
      go_wp2_with fail
      refine (d1.out _).mono ?_; rintro e w1 ⟨rfl, b1⟩
      go_wp2_with fail
      refine (d2.out _).mono ?_; rintro e w2 ⟨rfl, b2⟩
      go_wp2_with fail
      refine (c3.out _).mono ?_; rintro e w3 ⟨rfl, b3⟩
      go_wp2_with fail
      refine (known_any _).mono ?_; rintro e w4 ⟨rfl, b4⟩
      go_wp2
      go_ret
      exact ⟨rfl, hnext (hnext (hnext b1 b2) b3) b4⟩
    | some l =>
      rw [hp] at c1 c2
      have d1 := hid (fun W => (c1.out W).mono fun e w' h => ParseP.yes h)
      have d2 := hid (fun W => (c2.out W).mono fun e w' h => ParseP.yes h)
      have hl := (Ky.right_inv (Ky.parse_back hp).1).2
      clear c1 c2 he hp hs
      have c3 := hid (fun v1 v2 W h1 h2 => rows_any v1 v2 l l W h1 h2 (by omega) (by omega))
      rw [decide_eq_true (rfl : l = l)] at c3
      go_enter Try.func4, Try.ntmps4
      go_wp2_with fail
      refine (d1.out _).mono ?_; rintro e w1 ⟨a1, p1, rfl, b1, v1⟩
      have V1 := hid v1
      clear v1
      go_wp2_with fail
      refine (d2.out _).mono ?_; rintro e w2 ⟨a2, p2, rfl, b2, v2⟩
      have V2 := hid v2
      have V12 := hid (V1.out.below b2)
      clear v2
      go_wp2_with fail
      refine (c3.out _ _ _ V12.out V2.out).mono ?_; rintro e w3 ⟨rfl, b3⟩
      go_wp2_with fail
      refine (known_any _).mono ?_; rintro e w4 ⟨rfl, b4⟩
      go_wp2
      go_ret
      exact ⟨rfl, hnext (hnext (hnext b1 b2) b3) b4⟩
  · have h1' : (500 : Int) < (s.size : Int) := by omega
    go_enter Try.func4, Try.ntmps4
    go_wp2_with fail
    refine (known_any _).mono ?_; rintro e w3 ⟨rfl, b3⟩
    go_wp2
    go_ret
    exact ⟨rfl, b3⟩
end Go.Proofs.Ytimcmpcfnddioaa
