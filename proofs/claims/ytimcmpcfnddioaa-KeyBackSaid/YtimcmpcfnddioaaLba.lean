/-
  KeyBack answers true at any row and text. No condition.
-/
import Derived.Test.YtimcmpcfnddioaaKyLt
import Derived.Test.YtimcmpcfnddioaaKyPf
namespace Go.Proofs.Ytimcmpcfnddioaa
open Go.RowKit

set_option maxRecDepth 100000 in
set_option maxHeartbeats 6400000 in
theorem keyBack_walk (va : Value) (la : List Cd.V) (s : ByteArray) (w : World) (ha : la.length ≤ maxLen ∧ VsAt w va la ∧ ∀ x ∈ la, Vok x) (hs : s.size ≤ maxLen) :
    Calls Try.prog 6 #[va, .string s] w fun e w' => e = .returned (.bool true) ∧ Below w.heap.size w w' := by
  unfold maxLen at hs
  have HS0 := hs
  clear hs
  obtain ⟨na, xa, ka⟩ := ha
  have VA := hid xa
  have gla := hid (fun W (h : VsAt W va la) => light_any va la W h na)
  have gra := hid (fun W (h : VsAt W va la) => krightR_any va la W h (Vok.rok ka) (fun x hx => (ka x hx).2.1) na)
  have cofa := hid (fun W (h : VsAt W va la) => of_any va la W h ka na)
  cases hla : Ky.light la with
  | false =>
    rw [hla] at gla
    go_enter Try.func6, Try.ntmps6
    go_wp2_with fail
    refine (gla.out _ VA.out).mono ?_; rintro e w1 ⟨rfl, rfl⟩
    go_wp2_with fail
    refine (known_any _).mono ?_; rintro e w2 ⟨rfl, b2⟩
    go_wp2
    go_ret
    exact ⟨rfl, b2⟩
  | true =>
    rw [hla] at gla
    have l1 := (Ky.light_yes hla).1
    have hz : (Ky.of la).length ≤ 1000000 := by have := Ky.of_length la; omega
    have cp1 := fun W => parse_any (bstr (Ky.of la)) hz W
    rw [bstr_toList] at cp1
    have cro := hid (fun W (v : Value) (h : VsAt W va la) (h' : VsAt W v la) => rows_any va v la la W h h' (by omega) (by omega))
    rw [decide_eq_true (rfl : la = la)] at cro
    by_cases hs : s.size ≤ 500
    · have hs' : ¬ (500 : Int) < (s.size : Int) := by omega
      have cp2 := fun W => parse_any s (by omega) W
      cases hra : Ky.right la with
      | true =>
        rw [hra] at gra
        rw [Ky.parse_of hra ka] at cp1
        have cq1 := hid (fun W => (cp1 W).mono fun e w' h => ParseP.yes h)
        clear cp1
        cases hps : Ky.parse s.data.toList with
        | none =>
          rw [hps] at cp2
          have cq2 := hid (fun W => (cp2 W).mono fun e w' h => ParseP.no h)
          clear cp2 hps hla hra hz l1 ka na xa
          go_enter Try.func6, Try.ntmps6
          go_wp2_with fail
          refine (gla.out _ VA.out).mono ?_; rintro e w1 ⟨rfl, rfl⟩
          go_wp2_with fail
          refine (cofa.out _ VA.out).mono ?_; rintro e w2 ⟨rfl, b2⟩
          have VA_2 := hid (VA.out.below b2)
          have L2 := hid b2
          clear b2
          go_wp2_with fail
          refine (cq1.out _).mono ?_; rintro e w3 ⟨a3, p3, rfl, b3, v3⟩
          have VA_3 := hid (VA_2.out.below b3)
          have VB := hid v3
          clear v3
          have L3 := hid (hnext L2.out b3)
          clear b3
          go_wp2_with fail
          refine (cq2.out _).mono ?_; rintro e w4 ⟨rfl, b4⟩
          have VA_4 := hid (VA_3.out.below b4)
          have VB_4 := hid (VB.out.below b4)
          have L4 := hid (hnext L3.out b4)
          clear b4
          go_wp2_with fail
          refine (gra.out _ VA_4.out).mono ?_; rintro e w5 ⟨rfl, b5⟩
          have VA_5 := hid (VA_4.out.below b5)
          have VB_5 := hid (VB_4.out.below b5)
          have L5 := hid (hnext L4.out b5)
          clear b5
          go_wp2_with fail
          refine (cro.out _ _ VA_5.out VB_5.out).mono ?_; rintro e w6 ⟨rfl, b6⟩
          have VA_6 := hid (VA_5.out.below b6)
          have VB_6 := hid (VB_5.out.below b6)
          have L6 := hid (hnext L5.out b6)
          clear b6
          go_wp2_with fail
          refine (known_any _).mono ?_; rintro e w7 ⟨rfl, b7⟩
          go_wp2
          go_ret
          exact ⟨rfl, hnext L6.out b7⟩
        | some lc =>
          rw [hps] at cp2
          have cq2 := hid (fun W => (cp2 W).mono fun e w' h => ParseP.yes h)
          obtain ⟨hrc, kc, hcs⟩ := Ky.parse_back hps
          have lc8 := (Ky.right_inv hrc).2
          have cofc := hid (fun W (v : Value) (h : VsAt W v lc) => of_any v lc W h kc (by unfold maxLen; omega))
          rw [hcs, bstr_of] at cofc
          clear cp2 hps hla hra hz l1 ka na xa hrc kc hcs
          go_enter Try.func6, Try.ntmps6
          go_wp2_with fail
          refine (gla.out _ VA.out).mono ?_; rintro e w1 ⟨rfl, rfl⟩
          go_wp2_with fail
          refine (cofa.out _ VA.out).mono ?_; rintro e w2 ⟨rfl, b2⟩
          have VA_2 := hid (VA.out.below b2)
          have L2 := hid b2
          clear b2
          go_wp2_with fail
          refine (cq1.out _).mono ?_; rintro e w3 ⟨a3, p3, rfl, b3, v3⟩
          have VA_3 := hid (VA_2.out.below b3)
          have VB := hid v3
          clear v3
          have L3 := hid (hnext L2.out b3)
          clear b3
          go_wp2_with fail
          refine (cq2.out _).mono ?_; rintro e w4 ⟨a4, p4, rfl, b4, v4⟩
          have VA_4 := hid (VA_3.out.below b4)
          have VB_4 := hid (VB.out.below b4)
          have VC := hid v4
          clear v4
          have L4 := hid (hnext L3.out b4)
          clear b4
          go_wp2_with fail
          refine (gra.out _ VA_4.out).mono ?_; rintro e w5 ⟨rfl, b5⟩
          have VA_5 := hid (VA_4.out.below b5)
          have VB_5 := hid (VB_4.out.below b5)
          have VC_5 := hid (VC.out.below b5)
          have L5 := hid (hnext L4.out b5)
          clear b5
          go_wp2_with fail
          refine (cro.out _ _ VA_5.out VB_5.out).mono ?_; rintro e w6 ⟨rfl, b6⟩
          have VA_6 := hid (VA_5.out.below b6)
          have VB_6 := hid (VB_5.out.below b6)
          have VC_6 := hid (VC_5.out.below b6)
          have L6 := hid (hnext L5.out b6)
          clear b6
          go_wp2_with fail
          refine (cofc.out _ _ VC_6.out).mono ?_; rintro e w7 ⟨rfl, b7⟩
          have VA_7 := hid (VA_6.out.below b7)
          have VB_7 := hid (VB_6.out.below b7)
          have VC_7 := hid (VC_6.out.below b7)
          have L7 := hid (hnext L6.out b7)
          clear b7
          go_wp2_with fail
          refine (known_any _).mono ?_; rintro e w8 ⟨rfl, b8⟩
          go_wp2
          go_ret
          exact ⟨rfl, hnext L7.out b8⟩
      | false =>
        rw [hra] at gra
        rw [show Ky.of la = [] by unfold Ky.of; rw [hra]; rfl, show Ky.parse [] = none by decide +kernel] at cp1
        rw [show Ky.of la = [] by unfold Ky.of; rw [hra]; rfl] at cofa
        have cq1 := hid (fun W => (cp1 W).mono fun e w' h => ParseP.no h)
        clear cp1
        cases hps : Ky.parse s.data.toList with
        | none =>
          rw [hps] at cp2
          have cq2 := hid (fun W => (cp2 W).mono fun e w' h => ParseP.no h)
          clear cp2 hps hla hra hz l1 ka na xa
          go_enter Try.func6, Try.ntmps6
          go_wp2_with fail
          refine (gla.out _ VA.out).mono ?_; rintro e w1 ⟨rfl, rfl⟩
          go_wp2_with fail
          refine (cofa.out _ VA.out).mono ?_; rintro e w2 ⟨rfl, b2⟩
          have VA_2 := hid (VA.out.below b2)
          have L2 := hid b2
          clear b2
          go_wp2_with fail
          refine (cq1.out _).mono ?_; rintro e w3 ⟨rfl, b3⟩
          have VA_3 := hid (VA_2.out.below b3)
          have L3 := hid (hnext L2.out b3)
          clear b3
          go_wp2_with fail
          refine (cq2.out _).mono ?_; rintro e w4 ⟨rfl, b4⟩
          have VA_4 := hid (VA_3.out.below b4)
          have L4 := hid (hnext L3.out b4)
          clear b4
          go_wp2_with fail
          refine (gra.out _ VA_4.out).mono ?_; rintro e w5 ⟨rfl, b5⟩
          have VA_5 := hid (VA_4.out.below b5)
          have L5 := hid (hnext L4.out b5)
          clear b5
          go_wp2_with fail
          refine (known_any _).mono ?_; rintro e w6 ⟨rfl, b6⟩
          go_wp2
          go_ret
          exact ⟨rfl, hnext L5.out b6⟩
        | some lc =>
          rw [hps] at cp2
          have cq2 := hid (fun W => (cp2 W).mono fun e w' h => ParseP.yes h)
          obtain ⟨hrc, kc, hcs⟩ := Ky.parse_back hps
          have lc8 := (Ky.right_inv hrc).2
          have cofc := hid (fun W (v : Value) (h : VsAt W v lc) => of_any v lc W h kc (by unfold maxLen; omega))
          rw [hcs, bstr_of] at cofc
          clear cp2 hps hla hra hz l1 ka na xa hrc kc hcs
          go_enter Try.func6, Try.ntmps6
          go_wp2_with fail
          refine (gla.out _ VA.out).mono ?_; rintro e w1 ⟨rfl, rfl⟩
          go_wp2_with fail
          refine (cofa.out _ VA.out).mono ?_; rintro e w2 ⟨rfl, b2⟩
          have VA_2 := hid (VA.out.below b2)
          have L2 := hid b2
          clear b2
          go_wp2_with fail
          refine (cq1.out _).mono ?_; rintro e w3 ⟨rfl, b3⟩
          have VA_3 := hid (VA_2.out.below b3)
          have L3 := hid (hnext L2.out b3)
          clear b3
          go_wp2_with fail
          refine (cq2.out _).mono ?_; rintro e w4 ⟨a4, p4, rfl, b4, v4⟩
          have VA_4 := hid (VA_3.out.below b4)
          have VC := hid v4
          clear v4
          have L4 := hid (hnext L3.out b4)
          clear b4
          go_wp2_with fail
          refine (gra.out _ VA_4.out).mono ?_; rintro e w5 ⟨rfl, b5⟩
          have VA_5 := hid (VA_4.out.below b5)
          have VC_5 := hid (VC.out.below b5)
          have L5 := hid (hnext L4.out b5)
          clear b5
          go_wp2_with fail
          refine (cofc.out _ _ VC_5.out).mono ?_; rintro e w6 ⟨rfl, b6⟩
          have VA_6 := hid (VA_5.out.below b6)
          have VC_6 := hid (VC_5.out.below b6)
          have L6 := hid (hnext L5.out b6)
          clear b6
          go_wp2_with fail
          refine (known_any _).mono ?_; rintro e w7 ⟨rfl, b7⟩
          go_wp2
          go_ret
          exact ⟨rfl, hnext L6.out b7⟩
    · have hs' : (500 : Int) < (s.size : Int) := by omega
      go_enter Try.func6, Try.ntmps6
      go_wp2_with fail
      refine (gla.out _ VA.out).mono ?_; rintro e w1 ⟨rfl, rfl⟩
      go_wp2_with fail
      refine (known_any _).mono ?_; rintro e w2 ⟨rfl, b2⟩
      go_wp2
      go_ret
      exact ⟨rfl, b2⟩
end Go.Proofs.Ytimcmpcfnddioaa
