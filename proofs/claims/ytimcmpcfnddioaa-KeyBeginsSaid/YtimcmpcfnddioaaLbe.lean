/-
  KeyBegins answers true at any three rows. No condition.
-/
import Derived.Test.YtimcmpcfnddioaaRs
import Derived.Test.YtimcmpcfnddioaaKyPf
namespace Go.Proofs.Ytimcmpcfnddioaa
open Go.RowKit

set_option maxRecDepth 100000 in
set_option maxHeartbeats 6400000 in
theorem keyBegins_walk (va : Value) (la : List Cd.V) (vb : Value) (lb : List Cd.V) (vc : Value) (lc : List Cd.V) (w : World) (ha : RsAt w va la ∧ ∀ x ∈ la, Vok x) (hb : RsAt w vb lb ∧ ∀ x ∈ lb, Vok x) (hc : RsAt w vc lc ∧ ∀ x ∈ lc, Vok x) :
    Calls Try.prog 7 #[va, vb, vc] w fun e w' => e = .returned (.bool true) ∧ Below w.heap.size w w' := by
  obtain ⟨xa, ka⟩ := ha
  have na := xa.len
  have RA := hid xa
  have VA := hid xa.1
  have gla := hid (fun W (h : VsAt W va la) => light_any va la W h na)
  have gra := hid (fun W (h : VsAt W va la) => krightR_any va la W h (Vok.rok ka) (fun x hx => (ka x hx).2.1) na)
  obtain ⟨xb, kb⟩ := hb
  have nb := xb.len
  have RB := hid xb
  have VB := hid xb.1
  have glb := hid (fun W (h : VsAt W vb lb) => light_any vb lb W h nb)
  have grb := hid (fun W (h : VsAt W vb lb) => krightR_any vb lb W h (Vok.rok kb) (fun x hx => (kb x hx).2.1) nb)
  obtain ⟨xc, kc⟩ := hc
  have nc := xc.len
  have RC := hid xc
  have VC := hid xc.1
  have glc := hid (fun W (h : VsAt W vc lc) => light_any vc lc W h nc)
  have grc := hid (fun W (h : VsAt W vc lc) => krightR_any vc lc W h (Vok.rok kc) (fun x hx => (kc x hx).2.1) nc)
  obtain ⟨adra, capa, ea, ea1, ea2, ea3⟩ := id xa.2
  obtain ⟨adrb, capb, eb, eb1, eb2, eb3⟩ := id xb.2
  subst ea eb
  cases hla : Ky.light la with
  | false =>
    rw [hla] at gla
    go_enter Try.func7, Try.ntmps7
    go_wp2_with fail
    refine (gla.out _ VA.out).mono ?_; rintro e w1 ⟨rfl, rfl⟩
    go_wp2_with fail
    refine (known_any _).mono ?_; rintro e w2 ⟨rfl, b2⟩
    go_wp2
    go_ret
    exact ⟨rfl, b2⟩
  | true =>
    rw [hla] at gla
    cases hlb : Ky.light lb with
    | false =>
      rw [hlb] at glb
      go_enter Try.func7, Try.ntmps7
      go_wp2_with fail
      refine (gla.out _ VA.out).mono ?_; rintro e w1 ⟨rfl, rfl⟩
      go_wp2_with fail
      refine (glb.out _ VB.out).mono ?_; rintro e w2 ⟨rfl, rfl⟩
      go_wp2_with fail
      refine (known_any _).mono ?_; rintro e w3 ⟨rfl, b3⟩
      go_wp2
      go_ret
      exact ⟨rfl, b3⟩
    | true =>
      rw [hlb] at glb
      cases hlc : Ky.light lc with
      | false =>
        rw [hlc] at glc
        go_enter Try.func7, Try.ntmps7
        go_wp2_with fail
        refine (gla.out _ VA.out).mono ?_; rintro e w1 ⟨rfl, rfl⟩
        go_wp2_with fail
        refine (glb.out _ VB.out).mono ?_; rintro e w2 ⟨rfl, rfl⟩
        go_wp2_with fail
        refine (glc.out _ VC.out).mono ?_; rintro e w3 ⟨rfl, rfl⟩
        go_wp2_with fail
        refine (known_any _).mono ?_; rintro e w4 ⟨rfl, b4⟩
        go_wp2
        go_ret
        exact ⟨rfl, b4⟩
      | true =>
        rw [hlc] at glc
        have q1 : (la.length : Int) ≤ 20 := by have := (Ky.light_yes hla).1; omega
        have q2 : (lb.length : Int) ≤ 20 := by have := (Ky.light_yes hlb).1; omega
        have q3 : IntKind.i64.wrap ((la.length : Int) + (lb.length : Int)) = (la.length : Int) + (lb.length : Int) := by rw [IntKind.wrap_i64]; omega
        by_cases h8 : 8 < la.length + lb.length
        · have h8' : decide ((8 : Int) < (la.length : Int) + (lb.length : Int)) = true := decide_eq_true (by omega)
          go_enter Try.func7, Try.ntmps7
          go_wp2_with fail
          refine (gla.out _ VA.out).mono ?_; rintro e w1 ⟨rfl, rfl⟩
          go_wp2_with fail
          refine (glb.out _ VB.out).mono ?_; rintro e w2 ⟨rfl, rfl⟩
          go_wp2_with fail
          refine (glc.out _ VC.out).mono ?_; rintro e w3 ⟨rfl, rfl⟩
          go_wp2_with fail
          refine (known_any _).mono ?_; rintro e w4 ⟨rfl, b4⟩
          go_wp2
          go_ret
          exact ⟨rfl, b4⟩
        · have h8' : decide ((8 : Int) < (la.length : Int) + (lb.length : Int)) = false := decide_eq_false (by omega)
          cases hra : Ky.right la with
          | false =>
            rw [hra] at gra
            go_enter Try.func7, Try.ntmps7
            go_wp2_with fail
            refine (gla.out _ VA.out).mono ?_; rintro e w1 ⟨rfl, rfl⟩
            go_wp2_with fail
            refine (glb.out _ VB.out).mono ?_; rintro e w2 ⟨rfl, rfl⟩
            go_wp2_with fail
            refine (glc.out _ VC.out).mono ?_; rintro e w3 ⟨rfl, rfl⟩
            go_wp2_with fail
            refine (gra.out _ VA.out).mono ?_; rintro e w4 ⟨rfl, b4⟩
            have VA_4 := hid (VA.out.below b4)
            have VB_4 := hid (VB.out.below b4)
            have VC_4 := hid (VC.out.below b4)
            have RA_4 := hid (RA.out.below b4)
            have RB_4 := hid (RB.out.below b4)
            have L4 := hid b4
            clear b4
            go_wp2_with fail
            refine (known_any _).mono ?_; rintro e w5 ⟨rfl, b5⟩
            go_wp2
            go_ret
            exact ⟨rfl, hnext L4.out b5⟩
          | true =>
            rw [hra] at gra
            cases hrb : Ky.right lb with
            | false =>
              rw [hrb] at grb
              go_enter Try.func7, Try.ntmps7
              go_wp2_with fail
              refine (gla.out _ VA.out).mono ?_; rintro e w1 ⟨rfl, rfl⟩
              go_wp2_with fail
              refine (glb.out _ VB.out).mono ?_; rintro e w2 ⟨rfl, rfl⟩
              go_wp2_with fail
              refine (glc.out _ VC.out).mono ?_; rintro e w3 ⟨rfl, rfl⟩
              go_wp2_with fail
              refine (gra.out _ VA.out).mono ?_; rintro e w4 ⟨rfl, b4⟩
              have VA_4 := hid (VA.out.below b4)
              have VB_4 := hid (VB.out.below b4)
              have VC_4 := hid (VC.out.below b4)
              have RA_4 := hid (RA.out.below b4)
              have RB_4 := hid (RB.out.below b4)
              have L4 := hid b4
              clear b4
              go_wp2_with fail
              refine (grb.out _ VB_4.out).mono ?_; rintro e w5 ⟨rfl, b5⟩
              have VA_5 := hid (VA_4.out.below b5)
              have VB_5 := hid (VB_4.out.below b5)
              have VC_5 := hid (VC_4.out.below b5)
              have RA_5 := hid (RA_4.out.below b5)
              have RB_5 := hid (RB_4.out.below b5)
              have L5 := hid (hnext L4.out b5)
              clear b5
              go_wp2_with fail
              refine (known_any _).mono ?_; rintro e w6 ⟨rfl, b6⟩
              go_wp2
              go_ret
              exact ⟨rfl, hnext L5.out b6⟩
            | true =>
              rw [hrb] at grb
              cases hrc : Ky.right lc with
              | false =>
                rw [hrc] at grc
                go_enter Try.func7, Try.ntmps7
                go_wp2_with fail
                refine (gla.out _ VA.out).mono ?_; rintro e w1 ⟨rfl, rfl⟩
                go_wp2_with fail
                refine (glb.out _ VB.out).mono ?_; rintro e w2 ⟨rfl, rfl⟩
                go_wp2_with fail
                refine (glc.out _ VC.out).mono ?_; rintro e w3 ⟨rfl, rfl⟩
                go_wp2_with fail
                refine (gra.out _ VA.out).mono ?_; rintro e w4 ⟨rfl, b4⟩
                have VA_4 := hid (VA.out.below b4)
                have VB_4 := hid (VB.out.below b4)
                have VC_4 := hid (VC.out.below b4)
                have RA_4 := hid (RA.out.below b4)
                have RB_4 := hid (RB.out.below b4)
                have L4 := hid b4
                clear b4
                go_wp2_with fail
                refine (grb.out _ VB_4.out).mono ?_; rintro e w5 ⟨rfl, b5⟩
                have VA_5 := hid (VA_4.out.below b5)
                have VB_5 := hid (VB_4.out.below b5)
                have VC_5 := hid (VC_4.out.below b5)
                have RA_5 := hid (RA_4.out.below b5)
                have RB_5 := hid (RB_4.out.below b5)
                have L5 := hid (hnext L4.out b5)
                clear b5
                go_wp2_with fail
                refine (grc.out _ VC_5.out).mono ?_; rintro e w6 ⟨rfl, b6⟩
                have VA_6 := hid (VA_5.out.below b6)
                have VB_6 := hid (VB_5.out.below b6)
                have VC_6 := hid (VC_5.out.below b6)
                have RA_6 := hid (RA_5.out.below b6)
                have RB_6 := hid (RB_5.out.below b6)
                have L6 := hid (hnext L5.out b6)
                clear b6
                go_wp2_with fail
                refine (known_any _).mono ?_; rintro e w7 ⟨rfl, b7⟩
                go_wp2
                go_ret
                exact ⟨rfl, hnext L6.out b7⟩
              | true =>
                rw [hrc] at grc
                have hfa := Ky.fit_of hra ka
                have hfc := Ky.fit_of hrc kc
                have hrw := Ky.right_app hra hrb (by omega)
                have hpre := Ky.pre_app la lb hfa
                have hle := Ky.cmpL_app la lb hfa
                have hbt := Ky.pre_between la lb lc hfa hfc
                rw [← Ky.comp_right Ky.cmp hra hrw] at hle
                rw [← Ky.comp_right Ky.cmp hra hrc, ← Ky.comp_right Ky.cmp hrc hrw] at hbt
                have kw : ∀ x ∈ la ++ lb, Vok x := fun x hx => (List.mem_append.1 hx).elim (ka x) (kb x)
                have nw : (la ++ lb).length ≤ maxLen := by rw [List.length_append]; unfold maxLen; omega
                have hl1 : ([] : List Cd.V).length + la.length ≤ 1000000 := by simp; omega
                have hl2 : la.length + lb.length ≤ 1000000 := by omega
                have cpw := hid (fun W v (h : VsAt W (.slice adra la.length capa) la) (h' : VsAt W v (la ++ lb)) => prefix_any (.slice adra la.length capa) v la (la ++ lb) W h h' ka na nw)
                have ccw := hid (fun W v (h : VsAt W (.slice adra la.length capa) la) (h' : VsAt W v (la ++ lb)) => comp_any (.slice adra la.length capa) v la (la ++ lb) W h h' ka kw na nw)
                have cac := hid (fun W (h : VsAt W (.slice adra la.length capa) la) (h' : VsAt W vc lc) => comp_any (.slice adra la.length capa) vc la lc W h h' ka kc na nc)
                have ccv := hid (fun W v (h : VsAt W vc lc) (h' : VsAt W v (la ++ lb)) => comp_any vc v lc (la ++ lb) W h h' kc kw nc nw)
                have cpc := hid (fun W (h : VsAt W (.slice adra la.length capa) la) (h' : VsAt W vc lc) => prefix_any (.slice adra la.length capa) vc la lc W h h' ka na nc)
                rw [hpre] at cpw
                generalize Ky.comp Ky.cmp la (la ++ lb) = c1 at hle ccw
                generalize Ky.comp Ky.cmp la lc = c2 at hbt cac
                generalize Ky.comp Ky.cmp lc (la ++ lb) = c3 at hbt ccv
                generalize Ky.pre la lc = p at hbt cpc
                obtain ⟨X, hX⟩ : ∃ X, la ++ lb = X := ⟨_, rfl⟩
                rw [hX] at cpw ccw ccv
                have HX := hid hX
                clear hX
                have hle' : decide ((0 : Int) < c1) = false := decide_eq_false (by omega)
                have HN := hid (fun h1 h2 => hbt h1 h2)
                have EA3 := hid ea3
                have EB3 := hid eb3
                clear hfa hfc hrw hpre hle hbt kw nw hla hlb hlc hra hrb hrc ka kb kc xa xb xc ea1 ea2 ea3 eb1 eb2 eb3
                by_cases h2 : c2 ≤ 0
                · have h2' : decide (c2 ≤ 0) = true := decide_eq_true h2
                  by_cases h3 : c3 ≤ 0
                  · have h3' : decide (c3 ≤ 0) = true := decide_eq_true h3
                    obtain rfl : p = true := HN.out h2 h3
                    clear h2 h3
                    go_enter Try.func7, Try.ntmps7
                    go_wp2_with fail
                    refine (gla.out _ VA.out).mono ?_; rintro e w1 ⟨rfl, rfl⟩
                    go_wp2_with fail
                    refine (glb.out _ VB.out).mono ?_; rintro e w2 ⟨rfl, rfl⟩
                    go_wp2_with fail
                    refine (glc.out _ VC.out).mono ?_; rintro e w3 ⟨rfl, rfl⟩
                    go_wp2_with fail
                    refine (gra.out _ VA.out).mono ?_; rintro e w4 ⟨rfl, b4⟩
                    have VA_4 := hid (VA.out.below b4)
                    have VB_4 := hid (VB.out.below b4)
                    have VC_4 := hid (VC.out.below b4)
                    have RA_4 := hid (RA.out.below b4)
                    have RB_4 := hid (RB.out.below b4)
                    have L4 := hid b4
                    clear b4
                    go_wp2_with fail
                    refine (grb.out _ VB_4.out).mono ?_; rintro e w5 ⟨rfl, b5⟩
                    have VA_5 := hid (VA_4.out.below b5)
                    have VB_5 := hid (VB_4.out.below b5)
                    have VC_5 := hid (VC_4.out.below b5)
                    have RA_5 := hid (RA_4.out.below b5)
                    have RB_5 := hid (RB_4.out.below b5)
                    have L5 := hid (hnext L4.out b5)
                    clear b5
                    go_wp2_with fail
                    refine (grc.out _ VC_5.out).mono ?_; rintro e w6 ⟨rfl, b6⟩
                    have VA_6 := hid (VA_5.out.below b6)
                    have VB_6 := hid (VB_5.out.below b6)
                    have VC_6 := hid (VC_5.out.below b6)
                    have RA_6 := hid (RA_5.out.below b6)
                    have RB_6 := hid (RB_5.out.below b6)
                    have L6 := hid (hnext L5.out b6)
                    clear b6
                    have OE : Hid ((w6.alloc (.cells #[] 39)).ownsRow w6.heap.size 39 4 (.slice (some ⟨w6.heap.size, 0, none⟩) 0 0) ([] : List Cd.V).length (vcells [])) := BR.own (l := []) (heap_alloc_new w6 _) (Nat.le_refl _) (by decide)
                    have HE := hid (hba w6 (.cells #[] 39))
                    have RAE := hid (RA_6.out.below HE.out)
                    go_wp2_with (at_builtin; first | (refine append_row _ rfl _ _ rfl w6.heap.size _ [] rfl OE.out la _ rfl adra la.length capa (by first | rfl | (simp; done)) RAE.out.1 EA3.out hl1 HE.out.size ?_; intro v20 w20 own20 gr20; rw [List.nil_append] at own20; have O20 := hid own20; have B20 : Hid (Below w6.heap.size w6 w20) := hid (below_grown (Below.refl _ _) gr20); have RB20 := hid (RB_6.out.below B20.out); have HS20 := hid B20.out.size; clear own20 gr20) | (refine append_row _ rfl _ _ rfl w6.heap.size _ la rfl O20.out lb _ rfl adrb lb.length capb (by first | rfl | (simp; done)) RB20.out.1 EB3.out hl2 HS20.out ?_; intro v21 w21 own21 gr21; rw [HX.out] at own21; have VW21 := hid (VsAt.own own21); have B21 := hid (B20.out.grown gr21 HS20.out (fun q e => (O20.out.lt q e).1)); have VA21 := hid (VA_6.out.below B21.out); have VC21 := hid (VC_6.out.below B21.out); have L21 := hid (hnext L6.out B21.out); clear own21 gr21; obtain ⟨aw, pw, hw⟩ := VW21.out.len; subst hw))
                    refine (cpw.out _ _ VA21.out VW21.out).mono ?_; rintro e w22 ⟨rfl, b22⟩
                    have VA_22 := hid (VA21.out.below b22)
                    have VC_22 := hid (VC21.out.below b22)
                    have VW_22 := hid (VW21.out.below b22)
                    have L22 := hid (hnext L21.out b22)
                    clear b22
                    go_wp2_with fail
                    refine (ccw.out _ _ VA_22.out VW_22.out).mono ?_; rintro e w23 ⟨rfl, b23⟩
                    have VA_23 := hid (VA_22.out.below b23)
                    have VC_23 := hid (VC_22.out.below b23)
                    have VW_23 := hid (VW_22.out.below b23)
                    have L23 := hid (hnext L22.out b23)
                    clear b23
                    go_wp2_with fail
                    refine (cac.out _ VA_23.out VC_23.out).mono ?_; rintro e w24 ⟨rfl, b24⟩
                    have VA_24 := hid (VA_23.out.below b24)
                    have VC_24 := hid (VC_23.out.below b24)
                    have VW_24 := hid (VW_23.out.below b24)
                    have L24 := hid (hnext L23.out b24)
                    clear b24
                    go_wp2_with fail
                    refine (ccv.out _ _ VC_24.out VW_24.out).mono ?_; rintro e w25 ⟨rfl, b25⟩
                    have VA_25 := hid (VA_24.out.below b25)
                    have VC_25 := hid (VC_24.out.below b25)
                    have VW_25 := hid (VW_24.out.below b25)
                    have L25 := hid (hnext L24.out b25)
                    clear b25
                    go_wp2_with fail
                    refine (cpc.out _ VA_25.out VC_25.out).mono ?_; rintro e w26 ⟨rfl, b26⟩
                    have VA_26 := hid (VA_25.out.below b26)
                    have VC_26 := hid (VC_25.out.below b26)
                    have VW_26 := hid (VW_25.out.below b26)
                    have L26 := hid (hnext L25.out b26)
                    clear b26
                    go_wp2_with fail
                    refine (known_any _).mono ?_; rintro e w27 ⟨rfl, b27⟩
                    go_wp2
                    go_ret
                    exact ⟨rfl, hnext L26.out b27⟩
                  · have h3' : decide (c3 ≤ 0) = false := decide_eq_false h3
                    clear h2 h3
                    go_enter Try.func7, Try.ntmps7
                    go_wp2_with fail
                    refine (gla.out _ VA.out).mono ?_; rintro e w1 ⟨rfl, rfl⟩
                    go_wp2_with fail
                    refine (glb.out _ VB.out).mono ?_; rintro e w2 ⟨rfl, rfl⟩
                    go_wp2_with fail
                    refine (glc.out _ VC.out).mono ?_; rintro e w3 ⟨rfl, rfl⟩
                    go_wp2_with fail
                    refine (gra.out _ VA.out).mono ?_; rintro e w4 ⟨rfl, b4⟩
                    have VA_4 := hid (VA.out.below b4)
                    have VB_4 := hid (VB.out.below b4)
                    have VC_4 := hid (VC.out.below b4)
                    have RA_4 := hid (RA.out.below b4)
                    have RB_4 := hid (RB.out.below b4)
                    have L4 := hid b4
                    clear b4
                    go_wp2_with fail
                    refine (grb.out _ VB_4.out).mono ?_; rintro e w5 ⟨rfl, b5⟩
                    have VA_5 := hid (VA_4.out.below b5)
                    have VB_5 := hid (VB_4.out.below b5)
                    have VC_5 := hid (VC_4.out.below b5)
                    have RA_5 := hid (RA_4.out.below b5)
                    have RB_5 := hid (RB_4.out.below b5)
                    have L5 := hid (hnext L4.out b5)
                    clear b5
                    go_wp2_with fail
                    refine (grc.out _ VC_5.out).mono ?_; rintro e w6 ⟨rfl, b6⟩
                    have VA_6 := hid (VA_5.out.below b6)
                    have VB_6 := hid (VB_5.out.below b6)
                    have VC_6 := hid (VC_5.out.below b6)
                    have RA_6 := hid (RA_5.out.below b6)
                    have RB_6 := hid (RB_5.out.below b6)
                    have L6 := hid (hnext L5.out b6)
                    clear b6
                    have OE : Hid ((w6.alloc (.cells #[] 39)).ownsRow w6.heap.size 39 4 (.slice (some ⟨w6.heap.size, 0, none⟩) 0 0) ([] : List Cd.V).length (vcells [])) := BR.own (l := []) (heap_alloc_new w6 _) (Nat.le_refl _) (by decide)
                    have HE := hid (hba w6 (.cells #[] 39))
                    have RAE := hid (RA_6.out.below HE.out)
                    go_wp2_with (at_builtin; first | (refine append_row _ rfl _ _ rfl w6.heap.size _ [] rfl OE.out la _ rfl adra la.length capa (by first | rfl | (simp; done)) RAE.out.1 EA3.out hl1 HE.out.size ?_; intro v20 w20 own20 gr20; rw [List.nil_append] at own20; have O20 := hid own20; have B20 : Hid (Below w6.heap.size w6 w20) := hid (below_grown (Below.refl _ _) gr20); have RB20 := hid (RB_6.out.below B20.out); have HS20 := hid B20.out.size; clear own20 gr20) | (refine append_row _ rfl _ _ rfl w6.heap.size _ la rfl O20.out lb _ rfl adrb lb.length capb (by first | rfl | (simp; done)) RB20.out.1 EB3.out hl2 HS20.out ?_; intro v21 w21 own21 gr21; rw [HX.out] at own21; have VW21 := hid (VsAt.own own21); have B21 := hid (B20.out.grown gr21 HS20.out (fun q e => (O20.out.lt q e).1)); have VA21 := hid (VA_6.out.below B21.out); have VC21 := hid (VC_6.out.below B21.out); have L21 := hid (hnext L6.out B21.out); clear own21 gr21; obtain ⟨aw, pw, hw⟩ := VW21.out.len; subst hw))
                    refine (cpw.out _ _ VA21.out VW21.out).mono ?_; rintro e w22 ⟨rfl, b22⟩
                    have VA_22 := hid (VA21.out.below b22)
                    have VC_22 := hid (VC21.out.below b22)
                    have VW_22 := hid (VW21.out.below b22)
                    have L22 := hid (hnext L21.out b22)
                    clear b22
                    go_wp2_with fail
                    refine (ccw.out _ _ VA_22.out VW_22.out).mono ?_; rintro e w23 ⟨rfl, b23⟩
                    have VA_23 := hid (VA_22.out.below b23)
                    have VC_23 := hid (VC_22.out.below b23)
                    have VW_23 := hid (VW_22.out.below b23)
                    have L23 := hid (hnext L22.out b23)
                    clear b23
                    go_wp2_with fail
                    refine (cac.out _ VA_23.out VC_23.out).mono ?_; rintro e w24 ⟨rfl, b24⟩
                    have VA_24 := hid (VA_23.out.below b24)
                    have VC_24 := hid (VC_23.out.below b24)
                    have VW_24 := hid (VW_23.out.below b24)
                    have L24 := hid (hnext L23.out b24)
                    clear b24
                    go_wp2_with fail
                    refine (ccv.out _ _ VC_24.out VW_24.out).mono ?_; rintro e w25 ⟨rfl, b25⟩
                    have VA_25 := hid (VA_24.out.below b25)
                    have VC_25 := hid (VC_24.out.below b25)
                    have VW_25 := hid (VW_24.out.below b25)
                    have L25 := hid (hnext L24.out b25)
                    clear b25
                    go_wp2_with fail
                    refine (known_any _).mono ?_; rintro e w26 ⟨rfl, b26⟩
                    go_wp2
                    go_ret
                    exact ⟨rfl, hnext L25.out b26⟩
                · have h2' : decide (c2 ≤ 0) = false := decide_eq_false h2
                  clear h2
                  go_enter Try.func7, Try.ntmps7
                  go_wp2_with fail
                  refine (gla.out _ VA.out).mono ?_; rintro e w1 ⟨rfl, rfl⟩
                  go_wp2_with fail
                  refine (glb.out _ VB.out).mono ?_; rintro e w2 ⟨rfl, rfl⟩
                  go_wp2_with fail
                  refine (glc.out _ VC.out).mono ?_; rintro e w3 ⟨rfl, rfl⟩
                  go_wp2_with fail
                  refine (gra.out _ VA.out).mono ?_; rintro e w4 ⟨rfl, b4⟩
                  have VA_4 := hid (VA.out.below b4)
                  have VB_4 := hid (VB.out.below b4)
                  have VC_4 := hid (VC.out.below b4)
                  have RA_4 := hid (RA.out.below b4)
                  have RB_4 := hid (RB.out.below b4)
                  have L4 := hid b4
                  clear b4
                  go_wp2_with fail
                  refine (grb.out _ VB_4.out).mono ?_; rintro e w5 ⟨rfl, b5⟩
                  have VA_5 := hid (VA_4.out.below b5)
                  have VB_5 := hid (VB_4.out.below b5)
                  have VC_5 := hid (VC_4.out.below b5)
                  have RA_5 := hid (RA_4.out.below b5)
                  have RB_5 := hid (RB_4.out.below b5)
                  have L5 := hid (hnext L4.out b5)
                  clear b5
                  go_wp2_with fail
                  refine (grc.out _ VC_5.out).mono ?_; rintro e w6 ⟨rfl, b6⟩
                  have VA_6 := hid (VA_5.out.below b6)
                  have VB_6 := hid (VB_5.out.below b6)
                  have VC_6 := hid (VC_5.out.below b6)
                  have RA_6 := hid (RA_5.out.below b6)
                  have RB_6 := hid (RB_5.out.below b6)
                  have L6 := hid (hnext L5.out b6)
                  clear b6
                  have OE : Hid ((w6.alloc (.cells #[] 39)).ownsRow w6.heap.size 39 4 (.slice (some ⟨w6.heap.size, 0, none⟩) 0 0) ([] : List Cd.V).length (vcells [])) := BR.own (l := []) (heap_alloc_new w6 _) (Nat.le_refl _) (by decide)
                  have HE := hid (hba w6 (.cells #[] 39))
                  have RAE := hid (RA_6.out.below HE.out)
                  go_wp2_with (at_builtin; first | (refine append_row _ rfl _ _ rfl w6.heap.size _ [] rfl OE.out la _ rfl adra la.length capa (by first | rfl | (simp; done)) RAE.out.1 EA3.out hl1 HE.out.size ?_; intro v20 w20 own20 gr20; rw [List.nil_append] at own20; have O20 := hid own20; have B20 : Hid (Below w6.heap.size w6 w20) := hid (below_grown (Below.refl _ _) gr20); have RB20 := hid (RB_6.out.below B20.out); have HS20 := hid B20.out.size; clear own20 gr20) | (refine append_row _ rfl _ _ rfl w6.heap.size _ la rfl O20.out lb _ rfl adrb lb.length capb (by first | rfl | (simp; done)) RB20.out.1 EB3.out hl2 HS20.out ?_; intro v21 w21 own21 gr21; rw [HX.out] at own21; have VW21 := hid (VsAt.own own21); have B21 := hid (B20.out.grown gr21 HS20.out (fun q e => (O20.out.lt q e).1)); have VA21 := hid (VA_6.out.below B21.out); have VC21 := hid (VC_6.out.below B21.out); have L21 := hid (hnext L6.out B21.out); clear own21 gr21; obtain ⟨aw, pw, hw⟩ := VW21.out.len; subst hw))
                  refine (cpw.out _ _ VA21.out VW21.out).mono ?_; rintro e w22 ⟨rfl, b22⟩
                  have VA_22 := hid (VA21.out.below b22)
                  have VC_22 := hid (VC21.out.below b22)
                  have VW_22 := hid (VW21.out.below b22)
                  have L22 := hid (hnext L21.out b22)
                  clear b22
                  go_wp2_with fail
                  refine (ccw.out _ _ VA_22.out VW_22.out).mono ?_; rintro e w23 ⟨rfl, b23⟩
                  have VA_23 := hid (VA_22.out.below b23)
                  have VC_23 := hid (VC_22.out.below b23)
                  have VW_23 := hid (VW_22.out.below b23)
                  have L23 := hid (hnext L22.out b23)
                  clear b23
                  go_wp2_with fail
                  refine (cac.out _ VA_23.out VC_23.out).mono ?_; rintro e w24 ⟨rfl, b24⟩
                  have VA_24 := hid (VA_23.out.below b24)
                  have VC_24 := hid (VC_23.out.below b24)
                  have VW_24 := hid (VW_23.out.below b24)
                  have L24 := hid (hnext L23.out b24)
                  clear b24
                  go_wp2_with fail
                  refine (known_any _).mono ?_; rintro e w25 ⟨rfl, b25⟩
                  go_wp2
                  go_ret
                  exact ⟨rfl, hnext L24.out b25⟩
end Go.Proofs.Ytimcmpcfnddioaa
