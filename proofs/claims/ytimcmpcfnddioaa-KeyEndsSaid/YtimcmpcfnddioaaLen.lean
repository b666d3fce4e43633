/-
  KeyEnds answers true at any two rows. No condition.
-/
import Derived.Test.YtimcmpcfnddioaaKyLt
import Derived.Test.YtimcmpcfnddioaaKyPf
namespace Go.Proofs.Ytimcmpcfnddioaa
open Go.RowKit

set_option maxRecDepth 100000 in
set_option maxHeartbeats 6400000 in
theorem keyEnds_walk (va : Value) (la : List Cd.V) (vb : Value) (lb : List Cd.V) (w : World) (ha : la.length ≤ maxLen ∧ VsAt w va la ∧ ∀ x ∈ la, Vok x) (hb : lb.length ≤ maxLen ∧ VsAt w vb lb ∧ ∀ x ∈ lb, Vok x) :
    Calls Try.prog 9 #[va, vb] w fun e w' => e = .returned (.bool true) ∧ Below w.heap.size w w' := by
  obtain ⟨na, xa, ka⟩ := ha
  have VA := hid xa
  have gla := hid (fun W (h : VsAt W va la) => light_any va la W h na)
  obtain ⟨nb, xb, kb⟩ := hb
  have VB := hid xb
  have glb := hid (fun W (h : VsAt W vb lb) => light_any vb lb W h nb)
  have gra := hid (fun W (h : VsAt W va la) => krightR_any va la W h (Vok.rok ka) (fun x hx => (ka x hx).2.1) na)
  have grb := hid (fun W (h : VsAt W vb lb) => krightR_any vb lb W h (Vok.rok kb) (fun x hx => (kb x hx).2.1) nb)
  have cofa := hid (fun W (h : VsAt W va la) => of_any va la W h ka na)
  have cofb := hid (fun W (h : VsAt W vb lb) => of_any vb lb W h kb nb)
  cases hla : Ky.light la with
  | false =>
    rw [hla] at gla
    go_enter Try.func9, Try.ntmps9
    go_wp2_with fail
    refine (gla.out _ VA.out).mono ?_; rintro e w1 ⟨rfl, rfl⟩
    go_wp2_with fail
    refine (known_any _).mono ?_; rintro e w2 ⟨rfl, b2⟩
    go_wp2
    go_ret
    exact ⟨rfl, b2⟩
  | true =>
    rw [hla] at gla
    cases hlb : Ky.light lb with
    | false =>
      rw [hlb] at glb
      go_enter Try.func9, Try.ntmps9
      go_wp2_with fail
      refine (gla.out _ VA.out).mono ?_; rintro e w1 ⟨rfl, rfl⟩
      go_wp2_with fail
      refine (glb.out _ VB.out).mono ?_; rintro e w2 ⟨rfl, rfl⟩
      go_wp2_with fail
      refine (known_any _).mono ?_; rintro e w3 ⟨rfl, b3⟩
      go_wp2
      go_ret
      exact ⟨rfl, b3⟩
    | true =>
      rw [hlb] at glb
      cases hra : Ky.right la with
      | false =>
        rw [hra] at gra
        go_enter Try.func9, Try.ntmps9
        go_wp2_with fail
        refine (gla.out _ VA.out).mono ?_; rintro e w1 ⟨rfl, rfl⟩
        go_wp2_with fail
        refine (glb.out _ VB.out).mono ?_; rintro e w2 ⟨rfl, rfl⟩
        go_wp2_with fail
        refine (gra.out _ VA.out).mono ?_; rintro e w3 ⟨rfl, b3⟩
        have VA_3 := hid (VA.out.below b3)
        have VB_3 := hid (VB.out.below b3)
        have L3 := hid b3
        clear b3
        go_wp2_with fail
        refine (known_any _).mono ?_; rintro e w4 ⟨rfl, b4⟩
        go_wp2
        go_ret
        exact ⟨rfl, hnext L3.out b4⟩
      | true =>
        rw [hra] at gra
        cases hrb : Ky.right lb with
        | false =>
          rw [hrb] at grb
          go_enter Try.func9, Try.ntmps9
          go_wp2_with fail
          refine (gla.out _ VA.out).mono ?_; rintro e w1 ⟨rfl, rfl⟩
          go_wp2_with fail
          refine (glb.out _ VB.out).mono ?_; rintro e w2 ⟨rfl, rfl⟩
          go_wp2_with fail
          refine (gra.out _ VA.out).mono ?_; rintro e w3 ⟨rfl, b3⟩
          have VA_3 := hid (VA.out.below b3)
          have VB_3 := hid (VB.out.below b3)
          have L3 := hid b3
          clear b3
          go_wp2_with fail
          refine (grb.out _ VB_3.out).mono ?_; rintro e w4 ⟨rfl, b4⟩
          have VA_4 := hid (VA_3.out.below b4)
          have VB_4 := hid (VB_3.out.below b4)
          have L4 := hid (hnext L3.out b4)
          clear b4
          go_wp2_with fail
          refine (known_any _).mono ?_; rintro e w5 ⟨rfl, b5⟩
          go_wp2
          go_ret
          exact ⟨rfl, hnext L4.out b5⟩
        | true =>
          rw [hrb] at grb
          have he := hid (fun h => Ky.of_ends hra ka hrb kb h)
          have z0 : 1 ≤ (Ky.of la).length := by rw [Ky.of_right hra]; simp
          have hs : (bstr (Ky.of la)).size = (Ky.of la).length := rfl
          have ht : (bstr (Ky.of lb)).size = (Ky.of lb).length := rfl
          have z0' : (1 : Int) ≤ ((Ky.of la).length : Int) := by omega
          clear hla hlb hra hrb ka kb na nb xa xb
          generalize Ky.of la = S at *
          generalize Ky.of lb = T at *
          by_cases h1 : S.length ≤ T.length
          · have h1' : decide ((T.length : Int) < (S.length : Int)) = false := decide_eq_false (by omega)
            have h1'' : (S.length : Int) ≤ (T.length : Int) := by omega
            have e5 : (bstr T).extract 0 S.length = bstr (T.take S.length) := extract_bstr (bstr T) S.length
            by_cases h2 : T.take S.length = S
            · have h3 := he.out h2
              have e6 : ((bstr S).toList == (bstr T).toList) = true := by rw [h3, beq_self_eq_true]
              rw [h2] at e5
              clear he h2 h3
              go_enter Try.func9, Try.ntmps9
              go_wp2_with fail
              refine (gla.out _ VA.out).mono ?_; rintro e w1 ⟨rfl, rfl⟩
              go_wp2_with fail
              refine (glb.out _ VB.out).mono ?_; rintro e w2 ⟨rfl, rfl⟩
              go_wp2_with fail
              refine (gra.out _ VA.out).mono ?_; rintro e w3 ⟨rfl, b3⟩
              have VA_3 := hid (VA.out.below b3)
              have VB_3 := hid (VB.out.below b3)
              have L3 := hid b3
              clear b3
              go_wp2_with fail
              refine (grb.out _ VB_3.out).mono ?_; rintro e w4 ⟨rfl, b4⟩
              have VA_4 := hid (VA_3.out.below b4)
              have VB_4 := hid (VB_3.out.below b4)
              have L4 := hid (hnext L3.out b4)
              clear b4
              go_wp2_with fail
              refine (cofa.out _ VA_4.out).mono ?_; rintro e w5 ⟨rfl, b5⟩
              have VA_5 := hid (VA_4.out.below b5)
              have VB_5 := hid (VB_4.out.below b5)
              have L5 := hid (hnext L4.out b5)
              clear b5
              go_wp2_with fail
              refine (cofb.out _ VB_5.out).mono ?_; rintro e w6 ⟨rfl, b6⟩
              have VA_6 := hid (VA_5.out.below b6)
              have VB_6 := hid (VB_5.out.below b6)
              have L6 := hid (hnext L5.out b6)
              clear b6
              go_wp2_with fail
              refine (known_any _).mono ?_; rintro e w7 ⟨rfl, b7⟩
              go_wp2
              go_ret
              exact ⟨rfl, hnext L6.out b7⟩
            · have e6 : (!(bstr (T.take S.length)).toList == (bstr S).toList) = true := by rw [ByteArray.toList_eq (bstr S), bstr_toList, str_ne]; simpa using h2
              generalize T.take S.length = Q at e5 e6
              clear he h2
              go_enter Try.func9, Try.ntmps9
              go_wp2_with fail
              refine (gla.out _ VA.out).mono ?_; rintro e w1 ⟨rfl, rfl⟩
              go_wp2_with fail
              refine (glb.out _ VB.out).mono ?_; rintro e w2 ⟨rfl, rfl⟩
              go_wp2_with fail
              refine (gra.out _ VA.out).mono ?_; rintro e w3 ⟨rfl, b3⟩
              have VA_3 := hid (VA.out.below b3)
              have VB_3 := hid (VB.out.below b3)
              have L3 := hid b3
              clear b3
              go_wp2_with fail
              refine (grb.out _ VB_3.out).mono ?_; rintro e w4 ⟨rfl, b4⟩
              have VA_4 := hid (VA_3.out.below b4)
              have VB_4 := hid (VB_3.out.below b4)
              have L4 := hid (hnext L3.out b4)
              clear b4
              go_wp2_with fail
              refine (cofa.out _ VA_4.out).mono ?_; rintro e w5 ⟨rfl, b5⟩
              have VA_5 := hid (VA_4.out.below b5)
              have VB_5 := hid (VB_4.out.below b5)
              have L5 := hid (hnext L4.out b5)
              clear b5
              go_wp2_with fail
              refine (cofb.out _ VB_5.out).mono ?_; rintro e w6 ⟨rfl, b6⟩
              have VA_6 := hid (VA_5.out.below b6)
              have VB_6 := hid (VB_5.out.below b6)
              have L6 := hid (hnext L5.out b6)
              clear b6
              go_wp2_with fail
              refine (known_any _).mono ?_; rintro e w7 ⟨rfl, b7⟩
              go_wp2
              go_ret
              exact ⟨rfl, hnext L6.out b7⟩
          · have h1' : decide ((T.length : Int) < (S.length : Int)) = true := decide_eq_true (by omega)
            clear he
            go_enter Try.func9, Try.ntmps9
            go_wp2_with fail
            refine (gla.out _ VA.out).mono ?_; rintro e w1 ⟨rfl, rfl⟩
            go_wp2_with fail
            refine (glb.out _ VB.out).mono ?_; rintro e w2 ⟨rfl, rfl⟩
            go_wp2_with fail
            refine (gra.out _ VA.out).mono ?_; rintro e w3 ⟨rfl, b3⟩
            have VA_3 := hid (VA.out.below b3)
            have VB_3 := hid (VB.out.below b3)
            have L3 := hid b3
            clear b3
            go_wp2_with fail
            refine (grb.out _ VB_3.out).mono ?_; rintro e w4 ⟨rfl, b4⟩
            have VA_4 := hid (VA_3.out.below b4)
            have VB_4 := hid (VB_3.out.below b4)
            have L4 := hid (hnext L3.out b4)
            clear b4
            go_wp2_with fail
            refine (cofa.out _ VA_4.out).mono ?_; rintro e w5 ⟨rfl, b5⟩
            have VA_5 := hid (VA_4.out.below b5)
            have VB_5 := hid (VB_4.out.below b5)
            have L5 := hid (hnext L4.out b5)
            clear b5
            go_wp2_with fail
            refine (cofb.out _ VB_5.out).mono ?_; rintro e w6 ⟨rfl, b6⟩
            have VA_6 := hid (VA_5.out.below b6)
            have VB_6 := hid (VB_5.out.below b6)
            have L6 := hid (hnext L5.out b6)
            clear b6
            go_wp2_with fail
            refine (known_any _).mono ?_; rintro e w7 ⟨rfl, b7⟩
            go_wp2
            go_ret
            exact ⟨rfl, hnext L6.out b7⟩
end Go.Proofs.Ytimcmpcfnddioaa
