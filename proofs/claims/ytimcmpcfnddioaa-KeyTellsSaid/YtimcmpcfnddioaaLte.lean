/-
  KeyTells answers true at any two rows. No condition.
-/
import Derived.Test.YtimcmpcfnddioaaKyLt
import Derived.Test.YtimcmpcfnddioaaKyPf
namespace Go.Proofs.Ytimcmpcfnddioaa
open Go.RowKit

set_option maxRecDepth 100000 in
set_option maxHeartbeats 6400000 in
theorem keyTells_walk (va : Value) (la : List Cd.V) (vb : Value) (lb : List Cd.V) (w : World) (ha : la.length ≤ maxLen ∧ VsAt w va la ∧ ∀ x ∈ la, Vok x) (hb : lb.length ≤ maxLen ∧ VsAt w vb lb ∧ ∀ x ∈ lb, Vok x) :
    Calls Try.prog 3 #[va, vb] w fun e w' => e = .returned (.bool true) ∧ Below w.heap.size w w' := by
  obtain ⟨na, xa, ka⟩ := ha
  have VA := hid xa
  have gla := hid (fun W (h : VsAt W va la) => light_any va la W h na)
  obtain ⟨nb, xb, kb⟩ := hb
  have VB := hid xb
  have glb := hid (fun W (h : VsAt W vb lb) => light_any vb lb W h nb)
  have cofa := hid (fun W (h : VsAt W va la) => of_any va la W h ka na)
  cases hla : Ky.light la with
  | false =>
    rw [hla] at gla
    go_enter Try.func3, Try.ntmps3
    go_wp2_with fail
    refine (gla.out _ VA.out).mono ?_; rintro e w1 ⟨rfl, rfl⟩
    go_wp2_with fail
    refine (known_any _).mono ?_; rintro e w2 ⟨rfl, b2⟩
    go_wp2
    go_ret
    exact ⟨rfl, b2⟩
  | true =>
    rw [hla] at gla
    cases hlb : Ky.light lb with
    | false =>
      rw [hlb] at glb
      go_enter Try.func3, Try.ntmps3
      go_wp2_with fail
      refine (gla.out _ VA.out).mono ?_; rintro e w1 ⟨rfl, rfl⟩
      go_wp2_with fail
      refine (glb.out _ VB.out).mono ?_; rintro e w2 ⟨rfl, rfl⟩
      go_wp2_with fail
      refine (known_any _).mono ?_; rintro e w3 ⟨rfl, b3⟩
      go_wp2
      go_ret
      exact ⟨rfl, b3⟩
    | true =>
      rw [hlb] at glb
      have ofra := hid (fun W (h : VsAt W va la) => ofR_any va la W h ka na)
      have cco := hid (fun W (h : VsAt W va la) (h' : VsAt W vb lb) => comp_any va vb la lb W h h' ka kb na nb)
      have ccr := hid (fun W (h : VsAt W va la) (h' : VsAt W vb lb) => compR_any va vb la lb W h h' ka kb na nb)
      have cpr := hid (fun W (h : VsAt W va la) (h' : VsAt W vb lb) => prefix_any va vb la lb W h h' ka na nb)
      have crr := hid (fun W (h : VsAt W va la) (h' : VsAt W vb lb) => prefixR_any va vb la lb W h h' ka na nb)
      rw [← Ky.comp_eq la lb (fun x hx => (ka x hx).2.1) (fun x hx => (kb x hx).2.1)] at ccr
      have cnx := hid (fun W => next_any (bstr (Ky.of la)) (by have := Ky.of_length la; show (Ky.of la).length ≤ _; omega) W)
      have hz : (bstr (Ky.of la)).size ≤ 1000000 := by have := Ky.of_length la; show (Ky.of la).length ≤ _; omega
      generalize Ky.comp Ky.cmp la lb = q at cco ccr
      generalize Ky.pre la lb = p at cpr crr
      generalize bstr (Ky.of la) = S at *
      clear hla hlb ka kb na nb xa xb
      go_enter Try.func3, Try.ntmps3
      go_wp2_with fail
      refine (gla.out _ VA.out).mono ?_; rintro e w1 ⟨rfl, rfl⟩
      go_wp2_with fail
      refine (glb.out _ VB.out).mono ?_; rintro e w2 ⟨rfl, rfl⟩
      go_wp2_with fail
      refine (cofa.out _ VA.out).mono ?_; rintro e w3 ⟨rfl, b3⟩
      have VA_3 := hid (VA.out.below b3)
      have VB_3 := hid (VB.out.below b3)
      have L3 := hid b3
      clear b3
      go_wp2_with fail
      refine (ofra.out _ VA_3.out).mono ?_; rintro e w4 ⟨rfl, b4⟩
      have VA_4 := hid (VA_3.out.below b4)
      have VB_4 := hid (VB_3.out.below b4)
      have L4 := hid (hnext L3.out b4)
      clear b4
      go_wp2_with fail
      refine (cco.out _ VA_4.out VB_4.out).mono ?_; rintro e w5 ⟨rfl, b5⟩
      have VA_5 := hid (VA_4.out.below b5)
      have VB_5 := hid (VB_4.out.below b5)
      have L5 := hid (hnext L4.out b5)
      clear b5
      go_wp2_with fail
      refine (ccr.out _ VA_5.out VB_5.out).mono ?_; rintro e w6 ⟨rfl, b6⟩
      have VA_6 := hid (VA_5.out.below b6)
      have VB_6 := hid (VB_5.out.below b6)
      have L6 := hid (hnext L5.out b6)
      clear b6
      go_wp2_with fail
      refine (cpr.out _ VA_6.out VB_6.out).mono ?_; rintro e w7 ⟨rfl, b7⟩
      have VA_7 := hid (VA_6.out.below b7)
      have VB_7 := hid (VB_6.out.below b7)
      have L7 := hid (hnext L6.out b7)
      clear b7
      go_wp2_with fail
      refine (crr.out _ VA_7.out VB_7.out).mono ?_; rintro e w8 ⟨rfl, b8⟩
      have VA_8 := hid (VA_7.out.below b8)
      have VB_8 := hid (VB_7.out.below b8)
      have L8 := hid (hnext L7.out b8)
      clear b8
      go_wp2_with fail
      refine (cofa.out _ VA_8.out).mono ?_; rintro e w9 ⟨rfl, b9⟩
      have VA_9 := hid (VA_8.out.below b9)
      have VB_9 := hid (VB_8.out.below b9)
      have L9 := hid (hnext L8.out b9)
      clear b9
      go_wp2_with fail
      refine (cnx.out _).mono ?_; rintro e w10 ⟨rfl, rfl⟩
      go_wp2_with fail
      refine (cofa.out _ VA_9.out).mono ?_; rintro e w11 ⟨rfl, b11⟩
      have VA_11 := hid (VA_9.out.below b11)
      have VB_11 := hid (VB_9.out.below b11)
      have L11 := hid (hnext L9.out b11)
      clear b11
      go_wp2_with fail
      refine (known_any _).mono ?_; rintro e w12 ⟨rfl, b12⟩
      go_wp2
      go_ret
      exact ⟨rfl, hnext L11.out b12⟩
end Go.Proofs.Ytimcmpcfnddioaa
