/-
  PredTwice answers true at any condition and any row. No condition.
-/
import Derived.Test.YtfdehigepgeknaaBd
import Derived.Test.YtfdehigepgeknaaLi
import Derived.Test.YtfdehigepgeknaaPk
namespace Go.Proofs.Ytfdehigepgeknaa
open Go.RowKit Pd

set_option maxRecDepth 100000 in
set_option maxHeartbeats 6400000 in
theorem predTwice_walk (v1 : Value) (a : List N) (v2 : Value) (row : List Cd.V) (w : World) (ha : a.length ≤ maxLen ∧ NsAt w v1 a ∧ ∀ x ∈ a, Nok x) (hb : row.length ≤ maxLen ∧ VsAt w v2 row ∧ ∀ x ∈ row, Vok x) :
    Calls Try.prog 8 #[v1, v2] w fun e w' => e = .returned (.bool true) ∧ Below w.heap.size w w' := by
  obtain ⟨_, hva, hna⟩ := ha
  obtain ⟨_, hvr, hnr⟩ := hb
  have NA := hid hva
  have VR := hid hvr
  have KA := hid hna
  have KR := hid hnr
  have la := hid (light_any _ _ a row _ hva hvr)
  obtain ⟨adr, cap, rfl⟩ := hva.slc
  obtain ⟨radr, rcap, rfl⟩ := vs_at VR.out
  clear hva hvr hna hnr
  cases hla : lightB a row with
  | false =>
    have la' := la.out
    rw [hla] at la'
    replace la := hid la'
    clear la' hla
    go_enter Try.func8, Try.ntmps8
    go_wp2_with fail
    refine la.out.mono ?_; rintro e w1 ⟨rfl, rfl⟩
    go_wp2_with fail
    refine (known_any _).mono ?_; rintro e w9 ⟨rfl, b9⟩
    go_wp2
    go_ret
    exact ⟨rfl, b9⟩
  | true =>
    obtain ⟨ga, gr, gs, gt⟩ := light_of hla
    have la' := la.out
    rw [hla] at la'
    replace la := hid la'
    clear la' hla
    by_cases h0 : a.length = 0
    · have h0' : ((a.length : Int) == 0) = true := by rw [beq_iff_eq]; omega
      clear h0
      go_enter Try.func8, Try.ntmps8
      go_wp2_with fail
      refine la.out.mono ?_; rintro e w1 ⟨rfl, rfl⟩
      go_wp2_with fail
      refine (known_any _).mono ?_; rintro e w9 ⟨rfl, b9⟩
      go_wp2
      go_ret
      exact ⟨rfl, b9⟩
    have h0' : ((a.length : Int) == 0) = false := by rw [beq_eq_false_iff_ne]; omega
    by_cases h18 : 18 < a.length
    · have h18' : (18 : Int) < (a.length : Int) := by omega
      go_enter Try.func8, Try.ntmps8
      go_wp2_with fail
      refine la.out.mono ?_; rintro e w1 ⟨rfl, rfl⟩
      go_wp2_with fail
      refine (known_any _).mono ?_; rintro e w9 ⟨rfl, b9⟩
      go_wp2
      go_ret
      exact ⟨rfl, b9⟩
    have h18' : ¬ (18 : Int) < (a.length : Int) := by omega
    have ce := hid (end_any _ a 0 w NA.out (by omega) (by decide))
    by_cases he : endI a 0 = (a.length : Int)
    case neg =>
      have he' : (endI a 0 != (a.length : Int)) = true := by rw [bne_iff_ne]; exact he
      generalize endI a 0 = z at ce he'
      clear he
      go_enter Try.func8, Try.ntmps8
      go_wp2_with fail
      refine la.out.mono ?_; rintro e w1 ⟨rfl, rfl⟩
      go_wp2_with fail
      refine ce.out.mono ?_; rintro e w1 ⟨rfl, rfl⟩
      go_wp2_with fail
      refine (known_any _).mono ?_; rintro e w9 ⟨rfl, b9⟩
      go_wp2
      go_ret
      exact ⟨rfl, b9⟩
    have HE := hid he
    rw [he] at ce
    clear he
    by_cases hr0 : row.length = 0
    · have hr0' : ((row.length : Int) == 0) = true := by rw [beq_iff_eq]; omega
      clear hr0
      go_enter Try.func8, Try.ntmps8
      go_wp2_with fail
      refine la.out.mono ?_; rintro e w1 ⟨rfl, rfl⟩
      go_wp2_with fail
      refine ce.out.mono ?_; rintro e w1 ⟨rfl, rfl⟩
      go_wp2_with fail
      refine (known_any _).mono ?_; rintro e w9 ⟨rfl, b9⟩
      go_wp2
      go_ret
      exact ⟨rfl, b9⟩
    have hr0' : ((row.length : Int) == 0) = false := by rw [beq_eq_false_iff_ne]; omega
    have hl := twice_law (by omega) (by omega) HE.out (show 0 < row.length by omega)
    have A0 : 0 < a.length := by omega
    have A1 : a.length ≤ 18 := by omega
    have HL0 := hid A0
    have HL1 := hid A1
    have hsz : ∀ x ∈ a, x.v.s.size ≤ maxLen := fun x hx => by have := gs x hx; unfold maxLen; omega
    have hrz : ∀ x ∈ row, x.s.size ≤ maxLen := fun x hx => by have := gt x hx; unfold maxLen; omega
    have hsz2 : ∀ (x : N), x ∈ ([nd 9] ++ a ++ a) ∨ x ∈ ([nd 10] ++ a ++ a) ∨ x ∈ ([nd 9] ++ a ++ [nd 11] ++ a) ∨ x ∈ ([nd 10] ++ a ++ [nd 11] ++ a) → x.v.s.size ≤ maxLen := by
      intro x hx
      by_cases hm : x ∈ a
      · exact hsz x hm
      · have : x = nd 9 ∨ x = nd 10 ∨ x = nd 11 := by simp [hm] at hx; rcases hx with h | h | (h | h) | (h | h) <;> simp [h]
        rcases this with rfl | rfl | rfl <;> decide
    have CE0 := hid (eval_any _ _ a row w NA.out VR.out (by omega) hsz hrz)
    have CX := hid (fun v W (h : NsAt W v ([nd 9] ++ a ++ a)) (h2 : VsAt W (.slice radr row.length rcap) row) => eval_any v _ _ row W h h2 (by simp; omega) (fun x hx => hsz2 x (.inl hx)) hrz)
    have CY := hid (fun v W (h : NsAt W v ([nd 10] ++ a ++ a)) (h2 : VsAt W (.slice radr row.length rcap) row) => eval_any v _ _ row W h h2 (by simp; omega) (fun x hx => hsz2 x (.inr (.inl hx))) hrz)
    have CN := hid (fun v W (h : NsAt W v ([nd 9] ++ a ++ [nd 11] ++ a)) (h2 : VsAt W (.slice radr row.length rcap) row) => eval_any v _ _ row W h h2 (by simp; omega) (fun x hx => hsz2 x (.inr (.inr (.inl hx)))) hrz)
    have CW := hid (fun v W (h : NsAt W v ([nd 10] ++ a ++ [nd 11] ++ a)) (h2 : VsAt W (.slice radr row.length rcap) row) => eval_any v _ _ row W h h2 (by simp; omega) (fun x hx => hsz2 x (.inr (.inr (.inr hx)))) hrz)
    rw [hl.1] at CX
    rw [hl.2.1] at CY
    generalize evalI ([nd 9] ++ a ++ [nd 11] ++ a) row = z3 at CN hl
    generalize evalI ([nd 10] ++ a ++ [nd 11] ++ a) row = z4 at CW hl
    have q3 : (z3 != 1) = true := by rw [bne_iff_ne]; exact hl.2.2.1
    have q4 : (z4 != 0) = true := by rw [bne_iff_ne]; exact hl.2.2.2
    generalize evalI a row = z0 at CE0 CX CY
    clear hl gs gt ga gr hsz hrz hsz2 A0 A1 HE
    go_enter Try.func8, Try.ntmps8
    go_wp2_with fail
    refine la.out.mono ?_; rintro e w1 ⟨rfl, rfl⟩
    go_wp2_with fail
    refine ce.out.mono ?_; rintro e w1 ⟨rfl, rfl⟩
    go_wp2_with fail
    refine CE0.out.mono ?_; rintro e w1 ⟨rfl, b1⟩
    have L1 := hid b1
    have NA1 := hid (NA.out.below b1)
    have VR1 := hid (VR.out.below b1)
    clear b1
    go_wp2_with (at_builtin; first
      | (refine bld_nodes rfl _ _ rfl B10.out rfl NA8.out rfl HL0.out (by have := HL1.out; simp; omega) ?_; intro v11 w11 b11; have B11 := hid b11; clear b11)
      | (refine bld_node rfl _ _ rfl B9.out rfl (nd 11) rfl rfl rfl rfl rfl (by have := HL1.out; simp; omega) ?_; intro v10 w10 b10; have B10 := hid b10; clear b10)
      | (refine bld_nodes rfl _ _ rfl (Bld.mk1 w8 (nd 10) _ _ rfl rfl) rfl NA8.out rfl HL0.out (by have := HL1.out; simp; omega) ?_; intro v9 w9 b9; have B9 := hid b9; clear b9)
      | (refine bld_nodes rfl _ _ rfl B7.out rfl NA5.out rfl HL0.out (by have := HL1.out; simp; omega) ?_; intro v8 w8 b8; have B8 := hid b8; clear b8; have NA8 := hid (NA5.out.below B8.out.2))
      | (refine bld_node rfl _ _ rfl B6.out rfl (nd 11) rfl rfl rfl rfl rfl (by have := HL1.out; simp; omega) ?_; intro v7 w7 b7; have B7 := hid b7; clear b7)
      | (refine bld_nodes rfl _ _ rfl (Bld.mk1 w5 (nd 9) _ _ rfl rfl) rfl NA5.out rfl HL0.out (by have := HL1.out; simp; omega) ?_; intro v6 w6 b6; have B6 := hid b6; clear b6)
      | (refine bld_nodes rfl _ _ rfl B4.out rfl NA3.out rfl HL0.out (by have := HL1.out; simp; omega) ?_; intro v5 w5 b5; have B5 := hid b5; clear b5; have NA5 := hid (NA3.out.below B5.out.2))
      | (refine bld_nodes rfl _ _ rfl (Bld.mk1 w3 (nd 10) _ _ rfl rfl) rfl NA3.out rfl HL0.out (by have := HL1.out; simp; omega) ?_; intro v4 w4 b4; have B4 := hid b4; clear b4)
      | (refine bld_nodes rfl _ _ rfl B2.out rfl NA1.out rfl HL0.out (by have := HL1.out; simp; omega) ?_; intro v3 w3 b3; have B3 := hid b3; clear b3; have NA3 := hid (NA1.out.below B3.out.2))
      | (refine bld_nodes rfl _ _ rfl (Bld.mk1 w1 (nd 9) _ _ rfl rfl) rfl NA1.out rfl HL0.out (by have := HL1.out; simp; omega) ?_; intro v2 w2 b2; have B2 := hid b2; clear b2)
      )
    have D3 := hid (hnext (hnext B5.out.2 B8.out.2) B11.out.2)
    have NX := hid (B3.out.at.below D3.out)
    have NY := hid (B5.out.at.below (hnext B8.out.2 B11.out.2))
    have NN := hid (B8.out.at.below B11.out.2)
    have NW := hid B11.out.at
    have VX := hid (VR1.out.below (hnext B3.out.2 D3.out))
    have LX := hid (hnext L1.out (hnext B3.out.2 D3.out))
    refine (CX.out _ _ NX.out VX.out).mono ?_; rintro e w12 ⟨rfl, b⟩
    replace NY := hid (NY.out.below b)
    replace NN := hid (NN.out.below b)
    replace NW := hid (NW.out.below b)
    replace VX := hid (VX.out.below b)
    replace LX := hid (hnext LX.out b)
    clear b
    go_wp2_with fail
    refine (CY.out _ _ NY.out VX.out).mono ?_; rintro e w13 ⟨rfl, b⟩
    replace NN := hid (NN.out.below b)
    replace NW := hid (NW.out.below b)
    replace VX := hid (VX.out.below b)
    replace LX := hid (hnext LX.out b)
    clear b
    go_wp2_with fail
    refine (CN.out _ _ NN.out VX.out).mono ?_; rintro e w14 ⟨rfl, b⟩
    replace NW := hid (NW.out.below b)
    replace VX := hid (VX.out.below b)
    replace LX := hid (hnext LX.out b)
    clear b
    go_wp2_with fail
    refine (CW.out _ _ NW.out VX.out).mono ?_; rintro e w15 ⟨rfl, b⟩
    replace LX := hid (hnext LX.out b)
    clear b
    go_wp2_with fail
    refine (known_any _).mono ?_; rintro e w9 ⟨rfl, b9⟩
    go_wp2
    go_ret
    exact ⟨rfl, hnext LX.out b9⟩
end Go.Proofs.Ytfdehigepgeknaa
