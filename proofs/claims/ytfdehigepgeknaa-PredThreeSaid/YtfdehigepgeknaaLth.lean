/-
  PredThree answers true at any two conditions and any row. No condition.
-/
import Derived.Test.YtfdehigepgeknaaBd
import Derived.Test.YtfdehigepgeknaaLi
import Derived.Test.YtfdehigepgeknaaPk
namespace Go.Proofs.Ytfdehigepgeknaa
open Go.RowKit Pd

theorem three_ways {x : Int} (h : -1 ≤ x ∧ x ≤ 1) : x = -1 ∨ x = 0 ∨ x = 1 := by omega
set_option maxRecDepth 100000 in
set_option maxHeartbeats 12800000 in
theorem predThree_walk (v1 : Value) (a : List N) (v2 : Value) (b : List N) (v3 : Value) (row : List Cd.V) (w : World) (ha : a.length ≤ maxLen ∧ NsAt w v1 a ∧ ∀ x ∈ a, Nok x) (hb : b.length ≤ maxLen ∧ NsAt w v2 b ∧ ∀ x ∈ b, Nok x) (hr : row.length ≤ maxLen ∧ VsAt w v3 row ∧ ∀ x ∈ row, Vok x) :
    Calls Try.prog 5 #[v1, v2, v3] w fun e w' => e = .returned (.bool true) ∧ Below w.heap.size w w' := by
  obtain ⟨_, hva, hna⟩ := ha
  obtain ⟨_, hvb, hnb⟩ := hb
  obtain ⟨_, hvr, hnr⟩ := hr
  have NA := hid hva
  have NB := hid hvb
  have VR := hid hvr
  have la := hid (light_any _ _ a row _ hva hvr)
  have lb := hid (light_any _ _ b row _ hvb hvr)
  obtain ⟨adr, cap, rfl⟩ := hva.slc
  obtain ⟨badr, bcap, rfl⟩ := NB.out.slc
  obtain ⟨radr, rcap, rfl⟩ := vs_at VR.out
  clear hva hvb hvr hna hnb hnr
  cases hla : lightB a row with
  | false =>
    have h' := la.out
    rw [hla] at h'
    replace la := hid h'
    clear h' hla
    go_enter Try.func5, Try.ntmps5
    go_wp2_with fail
    refine la.out.mono ?_; rintro e w1 ⟨rfl, rfl⟩
    go_wp2_with fail
    refine (known_any _).mono ?_; rintro e w9 ⟨rfl, b9⟩
    go_wp2
    go_ret
    exact ⟨rfl, b9⟩
  | true =>
    have h' := la.out
    rw [hla] at h'
    replace la := hid h'
    clear h'
    obtain ⟨ga, gr, gs, gt⟩ := light_of hla
    clear hla
    cases hlb : lightB b row with
    | false =>
      have h' := lb.out
      rw [hlb] at h'
      replace lb := hid h'
      clear h' hlb
      go_enter Try.func5, Try.ntmps5
      go_wp2_with fail
      refine la.out.mono ?_; rintro e w1 ⟨rfl, rfl⟩
      go_wp2_with fail
      refine lb.out.mono ?_; rintro e w1 ⟨rfl, rfl⟩
      go_wp2_with fail
      refine (known_any _).mono ?_; rintro e w9 ⟨rfl, b9⟩
      go_wp2
      go_ret
      exact ⟨rfl, b9⟩
    | true =>
      have h' := lb.out
      rw [hlb] at h'
      replace lb := hid h'
      clear h'
      obtain ⟨gb, _, gs2, _⟩ := light_of hlb
      clear hlb
      by_cases h0 : a.length = 0
      · have h0' : ((a.length : Int) == 0) = true := by rw [beq_iff_eq]; omega
        clear h0
        go_enter Try.func5, Try.ntmps5
        go_wp2_with fail
        refine la.out.mono ?_; rintro e w1 ⟨rfl, rfl⟩
        go_wp2_with fail
        refine lb.out.mono ?_; rintro e w1 ⟨rfl, rfl⟩
        go_wp2_with fail
        refine (known_any _).mono ?_; rintro e w9 ⟨rfl, b9⟩
        go_wp2
        go_ret
        exact ⟨rfl, b9⟩
      have h0' : ((a.length : Int) == 0) = false := by rw [beq_eq_false_iff_ne]; omega
      by_cases h1 : b.length = 0
      · have h1' : ((b.length : Int) == 0) = true := by rw [beq_iff_eq]; omega
        clear h1
        go_enter Try.func5, Try.ntmps5
        go_wp2_with fail
        refine la.out.mono ?_; rintro e w1 ⟨rfl, rfl⟩
        go_wp2_with fail
        refine lb.out.mono ?_; rintro e w1 ⟨rfl, rfl⟩
        go_wp2_with fail
        refine (known_any _).mono ?_; rintro e w9 ⟨rfl, b9⟩
        go_wp2
        go_ret
        exact ⟨rfl, b9⟩
      have h1' : ((b.length : Int) == 0) = false := by rw [beq_eq_false_iff_ne]; omega
      have hS : IntKind.i64.wrap ((a.length : Int) + (b.length : Int)) = (a.length : Int) + (b.length : Int) := by rw [IntKind.wrap_i64]; omega
      by_cases h2 : 36 < a.length + b.length
      · have h2' : (36 : Int) < (a.length : Int) + (b.length : Int) := by omega
        clear h2
        go_enter Try.func5, Try.ntmps5
        go_wp2_with fail
        refine la.out.mono ?_; rintro e w1 ⟨rfl, rfl⟩
        go_wp2_with fail
        refine lb.out.mono ?_; rintro e w1 ⟨rfl, rfl⟩
        go_wp2_with fail
        refine (known_any _).mono ?_; rintro e w9 ⟨rfl, b9⟩
        go_wp2
        go_ret
        exact ⟨rfl, b9⟩
      have h2' : ¬ (36 : Int) < (a.length : Int) + (b.length : Int) := by omega
      have cea := hid (end_any _ a 0 w NA.out (by omega) (by decide))
      by_cases he : endI a 0 = (a.length : Int)
      case neg =>
        have he' : (endI a 0 != (a.length : Int)) = true := by rw [bne_iff_ne]; exact he
        generalize endI a 0 = z at cea he'
        clear he
        go_enter Try.func5, Try.ntmps5
        go_wp2_with fail
        refine la.out.mono ?_; rintro e w1 ⟨rfl, rfl⟩
        go_wp2_with fail
        refine lb.out.mono ?_; rintro e w1 ⟨rfl, rfl⟩
        go_wp2_with fail
        refine cea.out.mono ?_; rintro e w1 ⟨rfl, rfl⟩
        go_wp2_with fail
        refine (known_any _).mono ?_; rintro e w9 ⟨rfl, b9⟩
        go_wp2
        go_ret
        exact ⟨rfl, b9⟩
      have HE := hid he
      rw [he] at cea
      clear he
      have ceb := hid (end_any _ b 0 w NB.out (by omega) (by decide))
      by_cases hf : endI b 0 = (b.length : Int)
      case neg =>
        have hf' : (endI b 0 != (b.length : Int)) = true := by rw [bne_iff_ne]; exact hf
        generalize endI b 0 = z at ceb hf'
        clear hf
        go_enter Try.func5, Try.ntmps5
        go_wp2_with fail
        refine la.out.mono ?_; rintro e w1 ⟨rfl, rfl⟩
        go_wp2_with fail
        refine lb.out.mono ?_; rintro e w1 ⟨rfl, rfl⟩
        go_wp2_with fail
        refine cea.out.mono ?_; rintro e w1 ⟨rfl, rfl⟩
        go_wp2_with fail
        refine ceb.out.mono ?_; rintro e w1 ⟨rfl, rfl⟩
        go_wp2_with fail
        refine (known_any _).mono ?_; rintro e w9 ⟨rfl, b9⟩
        go_wp2
        go_ret
        exact ⟨rfl, b9⟩
      have HF := hid hf
      rw [hf] at ceb
      clear hf
      by_cases hr0 : row.length = 0
      · have hr0' : ((row.length : Int) == 0) = true := by rw [beq_iff_eq]; omega
        clear hr0
        go_enter Try.func5, Try.ntmps5
        go_wp2_with fail
        refine la.out.mono ?_; rintro e w1 ⟨rfl, rfl⟩
        go_wp2_with fail
        refine lb.out.mono ?_; rintro e w1 ⟨rfl, rfl⟩
        go_wp2_with fail
        refine cea.out.mono ?_; rintro e w1 ⟨rfl, rfl⟩
        go_wp2_with fail
        refine ceb.out.mono ?_; rintro e w1 ⟨rfl, rfl⟩
        go_wp2_with fail
        refine (known_any _).mono ?_; rintro e w9 ⟨rfl, b9⟩
        go_wp2
        go_ret
        exact ⟨rfl, b9⟩
      have hr0' : ((row.length : Int) == 0) = false := by rw [beq_eq_false_iff_ne]; omega
      have HL0 := hid (show 0 < a.length by omega)
      have HLB := hid (show 0 < b.length by omega)
      have HR0 := hid (show 0 < row.length by omega)
      have HL1 := hid (show a.length + b.length ≤ 36 by omega)
      have hsz : ∀ x ∈ a, x.v.s.size ≤ maxLen := fun x hx => by have := gs x hx; unfold maxLen; omega
      have hsb : ∀ x ∈ b, x.v.s.size ≤ maxLen := fun x hx => by have := gs2 x hx; unfold maxLen; omega
      have hrz : ∀ x ∈ row, x.s.size ≤ maxLen := fun x hx => by have := gt x hx; unfold maxLen; omega
      have hsz2 : ∀ (x : N), x ∈ ([nd 9] ++ a ++ b) ∨ x ∈ ([nd 10] ++ a ++ b) ∨ x ∈ ([nd 11, nd 9, nd 11] ++ a ++ [nd 11] ++ b) ∨ x ∈ ([nd 11, nd 11] ++ a) → x.v.s.size ≤ maxLen := by
        intro x hx
        by_cases hm : x ∈ a
        · exact hsz x hm
        · by_cases hm2 : x ∈ b
          · exact hsb x hm2
          · have : x = nd 9 ∨ x = nd 10 ∨ x = nd 11 := by
              simp [hm, hm2] at hx
              rcases hx with h | h | h | h
              · exact .inl h
              · exact .inr (.inl h)
              · rcases h with h | h | h <;> simp [h]
              · simp [h]
            rcases this with rfl | rfl | rfl <;> decide
      have CA := hid (eval_any _ _ a row w NA.out VR.out (by omega) hsz hrz)
      have CB := hid (fun W (h : NsAt W (.slice badr b.length bcap) b) (h2 : VsAt W (.slice radr row.length rcap) row) => eval_any _ _ b row W h h2 (by omega) hsb hrz)
      have CX := hid (fun v W (h : NsAt W v ([nd 9] ++ a ++ b)) (h2 : VsAt W (.slice radr row.length rcap) row) => eval_any v _ _ row W h h2 (by simp; omega) (fun x hx => hsz2 x (.inl hx)) hrz)
      have CY := hid (fun v W (h : NsAt W v ([nd 10] ++ a ++ b)) (h2 : VsAt W (.slice radr row.length rcap) row) => eval_any v _ _ row W h h2 (by simp; omega) (fun x hx => hsz2 x (.inr (.inl hx))) hrz)
      have CN := hid (fun v W (h : NsAt W v ([nd 11, nd 9, nd 11] ++ a ++ [nd 11] ++ b)) (h2 : VsAt W (.slice radr row.length rcap) row) => eval_any v _ _ row W h h2 (by simp; omega) (fun x hx => hsz2 x (.inr (.inr (.inl hx)))) hrz)
      have CW := hid (fun v W (h : NsAt W v ([nd 11, nd 11] ++ a)) (h2 : VsAt W (.slice radr row.length rcap) row) => eval_any v _ _ row W h h2 (by simp; omega) (fun x hx => hsz2 x (.inr (.inr (.inr hx)))) hrz)
      have hab36 := HL1.out
      clear gs gt ga gr gs2 gb hsz hsb hrz hsz2 h0 h1 h2 hr0
      go_enter Try.func5, Try.ntmps5
      go_wp2_with fail
      refine la.out.mono ?_; rintro e w1 ⟨rfl, rfl⟩
      go_wp2_with fail
      refine lb.out.mono ?_; rintro e w1 ⟨rfl, rfl⟩
      go_wp2_with fail
      refine cea.out.mono ?_; rintro e w1 ⟨rfl, rfl⟩
      go_wp2_with fail
      refine ceb.out.mono ?_; rintro e w1 ⟨rfl, rfl⟩
      go_wp2_with fail
      refine CA.out.mono ?_; rintro e w1 ⟨rfl, b1⟩
      have L1 := hid b1
      have NA1 := hid (NA.out.below b1)
      have NB1 := hid (NB.out.below b1)
      have VR1 := hid (VR.out.below b1)
      clear b1
      go_wp2_with fail
      refine (CB.out _ NB1.out VR1.out).mono ?_; rintro e w2 ⟨rfl, b2⟩
      have L2 := hid (hnext L1.out b2)
      have NA2 := hid (NA1.out.below b2)
      have NB2 := hid (NB1.out.below b2)
      have VR2 := hid (VR1.out.below b2)
      clear b2 L1 NA1 NB1 VR1 NA NB VR la lb cea ceb CA CB
      go_wp2_with fail
      go_loopw [9] (fun i wr => ∃ k : Nat, k ≤ a.length + b.length ∧ i = .int .i64 (k : Int) ∧ Hid (∀ j (hj : j < a.length), j < k → 0 ≤ a[j].col ∧ a[j].col < (row.length : Int)) ∧ Hid (∀ j (hj : j < b.length), a.length + j < k → 0 ≤ b[j].col ∧ b[j].col < (row.length : Int)) ∧ wr = w2) (fun i _ => a.length + b.length - (intOf i).toNat)
      case atStart => exact ⟨0, by omega, rfl, hid (fun j _ hj => absurd hj (Nat.not_lt_zero j)), hid (fun j _ hj => absurd hj (Nat.not_lt_zero _)), rfl⟩
      case round =>
        obtain ⟨k, hk, rfl, hA, hB, rfl⟩ := hrel
        have hk0 : (0 : Int) ≤ (k : Int) := by omega
        by_cases hkl : k < a.length + b.length
        · by_cases hka : k < a.length
          · obtain ⟨adr', cap', e', hc⟩ := NA2.out
            cases e'
            obtain ⟨g, off, rfl, _, q1, _, _, _, _⟩ := hc k hka
            clear hc
            have HNX := hid (fun (h0 : 0 ≤ a[k].col) (h1 : a[k].col < (row.length : Int)) => (⟨h0, h1⟩ : 0 ≤ a[k].col ∧ a[k].col < (row.length : Int)))
            have HNY : Hid (∀ P : Int → Prop, P a[k].col → ∀ j (hj : j < a.length), j = k → P a[j].col) := fun P h j hj e => by subst e; exact h
            generalize a[k].col = col at q1 HNX HNY
            have hka' : (k : Int) < (a.length : Int) := by omega
            have hkb' : (k : Int) < (a.length : Int) + (b.length : Int) := by omega
            by_cases c0 : col < 0
            · have c0' : col < 0 := c0
              clear HNX
              go_wp2_with fail
              refine (known_any _).mono ?_; rintro e w9 ⟨rfl, b9⟩
              go_wp2
              go_ret
              exact ⟨rfl, hnext L2.out b9⟩
            have c0' : ¬ col < 0 := c0
            by_cases c1 : (row.length : Int) ≤ col
            · clear HNX c0
              go_wp2_with fail
              refine (known_any _).mono ?_; rintro e w9 ⟨rfl, b9⟩
              go_wp2
              go_ret
              exact ⟨rfl, hnext L2.out b9⟩
            have HC := hid (HNX.out (by omega) (by omega))
            clear HNX c0
            go_wp2_with fail
            go_roundw
            case rel => exact ⟨k + 1, by omega, by first | rfl | go_num, hid (fun j hj hjk => if e : j < k then hA.out j hj e else HNY.out (fun c => 0 ≤ c ∧ c < (row.length : Int)) HC.out j hj (by omega)), hid (fun j hj hjk => hB.out j hj (by omega)), by first | rfl | trivial⟩
            case measure => simp [intOf]; omega
          · obtain ⟨m, rfl⟩ : ∃ m, k = a.length + m := ⟨k - a.length, by omega⟩
            have hm : m < b.length := by omega
            obtain ⟨adr', cap', e', hc⟩ := NB2.out
            cases e'
            obtain ⟨g, off, rfl, _, q1, _, _, _, _⟩ := hc m hm
            clear hc
            have HNX := hid (fun (h0 : 0 ≤ b[m].col) (h1 : b[m].col < (row.length : Int)) => (⟨h0, h1⟩ : 0 ≤ b[m].col ∧ b[m].col < (row.length : Int)))
            have HNY : Hid (∀ P : Int → Prop, P b[m].col → ∀ j (hj : j < b.length), j = m → P b[j].col) := fun P h j hj e => by subst e; exact h
            generalize b[m].col = col at q1 HNX HNY
            obtain ⟨K, hK⟩ : ∃ K : Int, ((a.length + m : Nat) : Int) = K := ⟨_, rfl⟩
            have hka' : ¬ K < (a.length : Int) := by omega
            have hkb' : K < (a.length : Int) + (b.length : Int) := by omega
            have hw : IntKind.i64.wrap (K - (a.length : Int)) = (m : Int) := by rw [IntKind.wrap_i64]; omega
            have hm0 : (0 : Int) ≤ (m : Int) := by omega
            have hm1 : (m : Int) < (b.length : Int) := by omega
            have hK1 : IntKind.i64.wrap (K + 1) = ((a.length + m + 1 : Nat) : Int) := by rw [IntKind.wrap_i64]; omega
            rw [hK] at hk0 ⊢
            by_cases c0 : col < 0
            · have c0' : col < 0 := c0
              clear HNX
              go_wp2_with fail
              refine (known_any _).mono ?_; rintro e w9 ⟨rfl, b9⟩
              go_wp2
              go_ret
              exact ⟨rfl, hnext L2.out b9⟩
            have c0' : ¬ col < 0 := c0
            by_cases c1 : (row.length : Int) ≤ col
            · clear HNX c0
              go_wp2_with fail
              refine (known_any _).mono ?_; rintro e w9 ⟨rfl, b9⟩
              go_wp2
              go_ret
              exact ⟨rfl, hnext L2.out b9⟩
            have HC := hid (HNX.out (by omega) (by omega))
            clear HNX c0
            go_wp2_with fail
            go_roundw
            case rel => exact ⟨a.length + m + 1, by omega, by first | rfl | go_num | (congr 1; done), hid (fun j hj hjk => hA.out j hj (by omega)), hid (fun j hj hjk => if e : a.length + j < a.length + m then hB.out j hj e else HNY.out (fun c => 0 ≤ c ∧ c < (row.length : Int)) HC.out j hj (by omega)), by first | rfl | trivial⟩
            case measure => rw [← hK]; simp [intOf]; omega
        · obtain rfl : k = a.length + b.length := by omega
          have ca : colsOk a row.length = true := colsOk_yes (fun j hj => hA.out j hj (by omega))
          have cb : colsOk b row.length = true := colsOk_yes (fun j hj => hB.out j hj (by omega))
          have hl := three_law HL0.out HLB.out HL1.out HE.out HF.out HR0.out ca cb
          obtain ⟨K, hK⟩ : ∃ K : Int, ((a.length + b.length : Nat) : Int) = K := ⟨_, rfl⟩
          have hkb' : ¬ K < (a.length : Int) + (b.length : Int) := by omega
          rw [hK] at hk0 ⊢
          obtain ⟨l1, l2, l3, l4, l5, l6⟩ := hl
          rw [l3] at CX
          rw [l4] at CY
          rw [l5] at CN
          rw [l6] at CW
          generalize evalI a row = x at *
          generalize evalI b row = y at *
          generalize hp : andI x y = p at *
          generalize hq : orI x y = q at *
          have HP := hid hp
          have HQ := hid hq
          have HX := hid l1
          have HY := hid l2
          clear ca cb l1 l2 l3 l4 l5 l6 hA hB HE HF hk hp hq
          go_wp2_with (at_builtin; first
            | (refine bld_nodes rfl _ _ rfl (Bld.mkL w9 [nd 11, nd 11] _ _ _ rfl rfl rfl (by decide)) rfl NA9.out rfl HL0.out (by have := HL1.out; simp; omega) ?_; intro v10 w10 b10; have B10 := hid b10; clear b10)
            | (refine bld_nodes rfl _ _ rfl B8.out rfl NB7.out rfl HLB.out (by have := HL1.out; simp; omega) ?_; intro v9 w9 b9; have B9 := hid b9; clear b9; have NA9 := hid (NA7.out.below B9.out.2))
            | (refine bld_nodes rfl _ _ rfl (Bld.mk1 w7 (nd 10) _ _ rfl rfl) rfl NA7.out rfl HL0.out (by have := HL1.out; simp; omega) ?_; intro v8 w8 b8; have B8 := hid b8; clear b8)
            | (refine bld_nodes rfl _ _ rfl B6.out rfl NB4.out rfl HLB.out (by have := HL1.out; simp; omega) ?_; intro v7 w7 b7; have B7 := hid b7; clear b7; have NA7 := hid (NA4.out.below B7.out.2); have NB7 := hid (NB4.out.below B7.out.2))
            | (refine bld_node rfl _ _ rfl B5.out rfl (nd 11) rfl rfl rfl rfl rfl (by have := HL1.out; simp; omega) ?_; intro v6 w6 b6; have B6 := hid b6; clear b6)
            | (refine bld_nodes rfl _ _ rfl (Bld.mkL w4 [nd 11, nd 9, nd 11] _ _ _ rfl rfl rfl (by decide)) rfl NA4.out rfl HL0.out (by have := HL1.out; simp; omega) ?_; intro v5 w5 b5; have B5 := hid b5; clear b5)
            | (refine bld_nodes rfl _ _ rfl B3.out rfl NB2.out rfl HLB.out (by have := HL1.out; simp; omega) ?_; intro v4 w4 b4; have B4 := hid b4; clear b4; have NA4 := hid (NA2.out.below B4.out.2); have NB4 := hid (NB2.out.below B4.out.2))
            | (refine bld_nodes rfl _ _ rfl (Bld.mk1 wr (nd 9) _ _ rfl rfl) rfl NA2.out rfl HL0.out (by have := HL1.out; simp; omega) ?_; intro v3 w3 b3; have B3 := hid b3; clear b3; have NB3 := hid (NB2.out.below B3.out.2))
            )
          have D7 := hid (hnext B9.out.2 B10.out.2)
          have D4 := hid (hnext B7.out.2 D7.out)
          have NX := hid (B4.out.at.below D4.out)
          have NN := hid (B7.out.at.below D7.out)
          have NY := hid (B9.out.at.below B10.out.2)
          have NW := hid B10.out.at
          have VX := hid (VR2.out.below (hnext B4.out.2 D4.out))
          have LX := hid (hnext L2.out (hnext B4.out.2 D4.out))
          clear D4 D7 B3 B4 B5 B6 B7 B8 B9 B10 NB3 NA4 NB4 NA7 NB7 NA9
          refine (CX.out _ _ NX.out VX.out).mono ?_; rintro e w12 ⟨rfl, b⟩
          replace NY := hid (NY.out.below b)
          replace NN := hid (NN.out.below b)
          replace NW := hid (NW.out.below b)
          replace VX := hid (VX.out.below b)
          replace LX := hid (hnext LX.out b)
          clear b
          go_wp2_with fail
          refine (CY.out _ _ NY.out VX.out).mono ?_; rintro e w13 ⟨rfl, b⟩
          replace NN := hid (NN.out.below b)
          replace NW := hid (NW.out.below b)
          replace VX := hid (VX.out.below b)
          replace LX := hid (hnext LX.out b)
          clear b
          have hx3 := three_ways HX.out
          have hy3 := three_ways HY.out
          clear HX HY
          rcases hx3 with rfl | rfl | rfl
          · rcases hy3 with rfl | rfl | rfl
            · obtain rfl : p = (-1) := HP.out.symm.trans (by decide)
              obtain rfl : q = (-1) := HQ.out.symm.trans (by decide)
              go_wp2_with fail
              refine (CN.out _ _ NN.out VX.out).mono ?_; rintro e w14 ⟨rfl, b⟩
              replace NW := hid (NW.out.below b)
              replace VX := hid (VX.out.below b)
              replace LX := hid (hnext LX.out b)
              clear b
              go_wp2_with fail
              refine (CW.out _ _ NW.out VX.out).mono ?_; rintro e w15 ⟨rfl, b⟩
              replace LX := hid (hnext LX.out b)
              clear b
              go_wp2_with fail
              refine (known_any _).mono ?_; rintro e w9 ⟨rfl, b9⟩
              go_wp2
              go_ret
              exact ⟨rfl, hnext LX.out b9⟩
            · obtain rfl : p = 0 := HP.out.symm.trans (by decide)
              obtain rfl : q = (-1) := HQ.out.symm.trans (by decide)
              go_wp2_with fail
              refine (CN.out _ _ NN.out VX.out).mono ?_; rintro e w14 ⟨rfl, b⟩
              replace NW := hid (NW.out.below b)
              replace VX := hid (VX.out.below b)
              replace LX := hid (hnext LX.out b)
              clear b
              go_wp2_with fail
              refine (CW.out _ _ NW.out VX.out).mono ?_; rintro e w15 ⟨rfl, b⟩
              replace LX := hid (hnext LX.out b)
              clear b
              go_wp2_with fail
              refine (known_any _).mono ?_; rintro e w9 ⟨rfl, b9⟩
              go_wp2
              go_ret
              exact ⟨rfl, hnext LX.out b9⟩
            · obtain rfl : p = (-1) := HP.out.symm.trans (by decide)
              obtain rfl : q = 1 := HQ.out.symm.trans (by decide)
              go_wp2_with fail
              refine (CN.out _ _ NN.out VX.out).mono ?_; rintro e w14 ⟨rfl, b⟩
              replace NW := hid (NW.out.below b)
              replace VX := hid (VX.out.below b)
              replace LX := hid (hnext LX.out b)
              clear b
              go_wp2_with fail
              refine (CW.out _ _ NW.out VX.out).mono ?_; rintro e w15 ⟨rfl, b⟩
              replace LX := hid (hnext LX.out b)
              clear b
              go_wp2_with fail
              refine (known_any _).mono ?_; rintro e w9 ⟨rfl, b9⟩
              go_wp2
              go_ret
              exact ⟨rfl, hnext LX.out b9⟩
          · rcases hy3 with rfl | rfl | rfl
            · obtain rfl : p = 0 := HP.out.symm.trans (by decide)
              obtain rfl : q = (-1) := HQ.out.symm.trans (by decide)
              go_wp2_with fail
              refine (CN.out _ _ NN.out VX.out).mono ?_; rintro e w14 ⟨rfl, b⟩
              replace NW := hid (NW.out.below b)
              replace VX := hid (VX.out.below b)
              replace LX := hid (hnext LX.out b)
              clear b
              go_wp2_with fail
              refine (CW.out _ _ NW.out VX.out).mono ?_; rintro e w15 ⟨rfl, b⟩
              replace LX := hid (hnext LX.out b)
              clear b
              go_wp2_with fail
              refine (known_any _).mono ?_; rintro e w9 ⟨rfl, b9⟩
              go_wp2
              go_ret
              exact ⟨rfl, hnext LX.out b9⟩
            · obtain rfl : p = 0 := HP.out.symm.trans (by decide)
              obtain rfl : q = 0 := HQ.out.symm.trans (by decide)
              go_wp2_with fail
              refine (CN.out _ _ NN.out VX.out).mono ?_; rintro e w14 ⟨rfl, b⟩
              replace NW := hid (NW.out.below b)
              replace VX := hid (VX.out.below b)
              replace LX := hid (hnext LX.out b)
              clear b
              go_wp2_with fail
              refine (CW.out _ _ NW.out VX.out).mono ?_; rintro e w15 ⟨rfl, b⟩
              replace LX := hid (hnext LX.out b)
              clear b
              go_wp2_with fail
              refine (known_any _).mono ?_; rintro e w9 ⟨rfl, b9⟩
              go_wp2
              go_ret
              exact ⟨rfl, hnext LX.out b9⟩
            · obtain rfl : p = 0 := HP.out.symm.trans (by decide)
              obtain rfl : q = 1 := HQ.out.symm.trans (by decide)
              go_wp2_with fail
              refine (CN.out _ _ NN.out VX.out).mono ?_; rintro e w14 ⟨rfl, b⟩
              replace NW := hid (NW.out.below b)
              replace VX := hid (VX.out.below b)
              replace LX := hid (hnext LX.out b)
              clear b
              go_wp2_with fail
              refine (CW.out _ _ NW.out VX.out).mono ?_; rintro e w15 ⟨rfl, b⟩
              replace LX := hid (hnext LX.out b)
              clear b
              go_wp2_with fail
              refine (known_any _).mono ?_; rintro e w9 ⟨rfl, b9⟩
              go_wp2
              go_ret
              exact ⟨rfl, hnext LX.out b9⟩
          · rcases hy3 with rfl | rfl | rfl
            · obtain rfl : p = (-1) := HP.out.symm.trans (by decide)
              obtain rfl : q = 1 := HQ.out.symm.trans (by decide)
              go_wp2_with fail
              refine (CN.out _ _ NN.out VX.out).mono ?_; rintro e w14 ⟨rfl, b⟩
              replace NW := hid (NW.out.below b)
              replace VX := hid (VX.out.below b)
              replace LX := hid (hnext LX.out b)
              clear b
              go_wp2_with fail
              refine (CW.out _ _ NW.out VX.out).mono ?_; rintro e w15 ⟨rfl, b⟩
              replace LX := hid (hnext LX.out b)
              clear b
              go_wp2_with fail
              refine (known_any _).mono ?_; rintro e w9 ⟨rfl, b9⟩
              go_wp2
              go_ret
              exact ⟨rfl, hnext LX.out b9⟩
            · obtain rfl : p = 0 := HP.out.symm.trans (by decide)
              obtain rfl : q = 1 := HQ.out.symm.trans (by decide)
              go_wp2_with fail
              refine (CN.out _ _ NN.out VX.out).mono ?_; rintro e w14 ⟨rfl, b⟩
              replace NW := hid (NW.out.below b)
              replace VX := hid (VX.out.below b)
              replace LX := hid (hnext LX.out b)
              clear b
              go_wp2_with fail
              refine (CW.out _ _ NW.out VX.out).mono ?_; rintro e w15 ⟨rfl, b⟩
              replace LX := hid (hnext LX.out b)
              clear b
              go_wp2_with fail
              refine (known_any _).mono ?_; rintro e w9 ⟨rfl, b9⟩
              go_wp2
              go_ret
              exact ⟨rfl, hnext LX.out b9⟩
            · obtain rfl : p = 1 := HP.out.symm.trans (by decide)
              obtain rfl : q = 1 := HQ.out.symm.trans (by decide)
              go_wp2_with fail
              refine (CN.out _ _ NN.out VX.out).mono ?_; rintro e w14 ⟨rfl, b⟩
              replace NW := hid (NW.out.below b)
              replace VX := hid (VX.out.below b)
              replace LX := hid (hnext LX.out b)
              clear b
              go_wp2_with fail
              refine (CW.out _ _ NW.out VX.out).mono ?_; rintro e w15 ⟨rfl, b⟩
              replace LX := hid (hnext LX.out b)
              clear b
              go_wp2_with fail
              refine (known_any _).mono ?_; rintro e w9 ⟨rfl, b9⟩
              go_wp2
              go_ret
              exact ⟨rfl, hnext LX.out b9⟩
end Go.Proofs.Ytfdehigepgeknaa
