/-
  Same of schema, and the reference's: their contracts. Condition: the texts have at most 2^63 - 1 bytes.
-/
import Derived.Test.YtmgafcblbbbanaaScM
namespace Go.Proofs.Ytmgafcblbbbanaa
open Go.RowKit

/-- two schemas are alike -/
def Sc.same (a b : Sc.S) : Bool := decide (a.name = b.name) && (decide (a.keys = b.keys) && decide (a.cols = b.cols))
theorem ctake_eq {l r : List Sc.C} (h : l.length = r.length) (k : Nat) (hk : k < l.length) (h0 : l.take k = r.take k) : l.take (k + 1) = r.take (k + 1) ↔ l[k] = r[k]'(by omega) := by
  rw [List.take_succ_eq_append_getElem hk, List.take_succ_eq_append_getElem (by omega), h0, List.append_cancel_left_eq]
  simp
theorem ctake_ne {l r : List Sc.C} (h : l.length = r.length) (k : Nat) (hk : k < l.length) (h0 : l[k] ≠ r[k]'(by omega)) : l ≠ r := by
  rintro rfl; exact h0 rfl
set_option maxRecDepth 100000 in
set_option maxHeartbeats 3200000 in
theorem same_any (a b : Sc.S) (va vb : Value) (w : World) (h1 : CsAt w va a.cols) (h2 : CsAt w vb b.cols) :
    Calls Try.prog 17 #[sv a va, sv b vb] w fun e w' => e = .returned (.bool (Sc.same a b)) ∧ Below w.heap.size w w' := by
  obtain ⟨adr, cap, rfl, hc1, hc2, hc⟩ := h1
  obtain ⟨adr2, cap2, rfl, hd1, hd2, hd⟩ := h2
  have HC := hid hc
  have HD := hid hd
  unfold maxLen at hc2 hd2
  clear hc hd
  obtain ⟨an, ac, ak⟩ := a
  obtain ⟨bn, bc, bk⟩ := b
  simp only at hc1 hd1 HC HD
  unfold sv
  have hb2 : Below w.heap.size w ((w.alloc (.cells #[.string an, .slice adr ac.length cap, .int .i64 ak] 24)).alloc (.cells #[.string bn, .slice adr2 bc.length cap2, .int .i64 bk] 24)) := hnext (hba w _) (hba _ _)
  by_cases hn : an = bn
  · subst hn
    by_cases hk : ak = bk
    · subst hk
      by_cases hl : ac.length = bc.length
      · have HL := hid hl
        have e3 : (((ac.length : Int)) != (bc.length : Int)) = false := by rw [bne_eq_false_iff_eq]; omega
        have hlt0 : ∀ k, k < ac.length → (k : Int) < (bc.length : Int) := by intro k hk; omega
        have HLT := hid hlt0
        clear hl hlt0
        have A0 : Hid (((w.alloc (.cells #[.string an, .slice adr ac.length cap, .int .i64 ak] 24)).alloc (.cells #[.string an, .slice adr2 bc.length cap2, .int .i64 ak] 24)).cell? ⟨w.heap.size, 1, none⟩ = some (.slice adr ac.length cap)) := by show _ = _; simp
        have A1 : Hid (((w.alloc (.cells #[.string an, .slice adr ac.length cap, .int .i64 ak] 24)).alloc (.cells #[.string an, .slice adr2 bc.length cap2, .int .i64 ak] 24)).cell? ⟨w.heap.size + 1, 1, none⟩ = some (.slice adr2 bc.length cap2)) := by show _ = _; simp
        go_enter Try.func17, Try.ntmps17
        go_wp2_with fail
        go_loopw [30] (fun i wr => ∃ k : Nat, k ≤ ac.length ∧ i = .int .i64 (k : Int) ∧ Hid (ac.take k = bc.take k) ∧ Below ((w.alloc (.cells #[.string an, .slice adr ac.length cap, .int .i64 ak] 24)).alloc (.cells #[.string an, .slice adr2 bc.length cap2, .int .i64 ak] 24)).heap.size ((w.alloc (.cells #[.string an, .slice adr ac.length cap, .int .i64 ak] 24)).alloc (.cells #[.string an, .slice adr2 bc.length cap2, .int .i64 ak] 24)) wr) (fun i _ => ac.length - (intOf i).toNat)
        case atStart => exact ⟨0, by omega, rfl, rfl, Below.refl _ _⟩
        case round =>
          obtain ⟨k, hk, rfl, htk, hbel⟩ := hrel
          obtain ⟨w4, rfl⟩ : ∃ w4 : World, w4 = wr := ⟨_, rfl⟩
          by_cases hlk : k < ac.length
          · obtain ⟨g, off, rfl, q0, q1, q2⟩ := HC.out k hlk
            obtain ⟨g2, off2, rfl, p0, p1, p2⟩ := HD.out k (by have := HL.out; omega)
            have HNX := hid (ctake_eq HL.out k hlk htk.out)
            have HX := hid (ctake_ne HL.out k hlk)
            have hq := c_neq ac[k] (bc[k]'(by have := HL.out; omega)) _ rfl
            generalize ac[k] = x at q0 q1 q2 HNX HX hq
            generalize bc[k]'(by have := HL.out; omega) = y at p0 p1 p2 HNX HX hq
            have hk2 := HLT.out k hlk
            replace q0 := hkeep (hkeep (hkeep q0 (hba w _)) (hba _ _)) hbel
            replace q1 := hkeep (hkeep (hkeep q1 (hba w _)) (hba _ _)) hbel
            replace q2 := hkeep (hkeep (hkeep q2 (hba w _)) (hba _ _)) hbel
            replace p0 := hkeep (hkeep (hkeep p0 (hba w _)) (hba _ _)) hbel
            replace p1 := hkeep (hkeep (hkeep p1 (hba w _)) (hba _ _)) hbel
            replace p2 := hkeep (hkeep (hkeep p2 (hba w _)) (hba _ _)) hbel
            have z0 := hkeep A0.out hbel
            have z1 := hkeep A1.out hbel
            have hlk' : (k : Int) < ac.length := by omega
            have hk0 : (0 : Int) ≤ (k : Int) := by omega
            unfold cv at hq
            by_cases hxy : x = y
            · have HT := hid (HNX.out.2 hxy)
              rw [decide_eq_true hxy] at hq
              clear hxy
              go_wp2_with fail
              go_quiet (fail)
              go_wp2_with fail
              go_roundw
              case rel => exact ⟨k + 1, by omega, by go_num, HT, hdrewN hbel _⟩
              case measure => simp [intOf]; omega
            · have HNE := hid (HX.out hxy)
              have HE : Hid (Sc.same ⟨an, ac, ak⟩ ⟨an, bc, ak⟩ = false) := by show _ = _; unfold Sc.same; rw [decide_eq_false (show ¬ ac = bc from HNE.out), Bool.and_false, Bool.and_false]
              rw [decide_eq_false hxy] at hq
              clear hxy
              go_wp2_with fail
              go_quiet (fail)
              go_wp2_with fail
              go_ret
              rw [HE.out]
              exact ⟨rfl, hnext hb2 (hdrewN hbel _)⟩
          · obtain rfl : k = ac.length := by omega
            have z0 := hkeep A0.out hbel
            have z1 := hkeep A1.out hbel
            have HE : Hid (Sc.same ⟨an, ac, ak⟩ ⟨an, bc, ak⟩ = true) := by
              show _ = _
              unfold Sc.same
              have hcc : ac = bc := by have h := htk.out; rw [List.take_length, HL.out, List.take_length] at h; exact h
              rw [decide_eq_true rfl, decide_eq_true rfl, decide_eq_true hcc]; rfl
            go_wp2_with fail
            go_ret
            rw [HE.out]
            exact ⟨rfl, hnext hb2 hbel⟩
      · have e3 : (((ac.length : Int)) != (bc.length : Int)) = true := by rw [bne_iff_ne]; omega
        have HE : Hid (Sc.same ⟨an, ac, ak⟩ ⟨an, bc, ak⟩ = false) := by
          show _ = _
          unfold Sc.same
          rw [decide_eq_false (show ¬ ac = bc from fun e => hl (by rw [e])), Bool.and_false, Bool.and_false]
        clear hl
        go_enter Try.func17, Try.ntmps17
        go_wp2_with fail
        go_ret
        rw [HE.out]
        exact ⟨rfl, hb2⟩
    · have e2 : (ak == bk) = false := beq_eq_false_iff_ne.2 hk
      have HE : Hid (Sc.same ⟨an, ac, ak⟩ ⟨an, bc, bk⟩ = false) := by
        show _ = _
        unfold Sc.same
        rw [decide_eq_false (show ¬ ak = bk from hk), Bool.false_and, Bool.and_false]
      clear hk
      go_enter Try.func17, Try.ntmps17
      go_wp2_with fail
      go_ret
      rw [HE.out]
      exact ⟨rfl, hb2⟩
  · have e1 : (an.toList == bn.toList) = false := by rw [bytes_beq]; exact decide_eq_false hn
    have HE : Hid (Sc.same ⟨an, ac, ak⟩ ⟨bn, bc, bk⟩ = false) := by
      show _ = _
      unfold Sc.same
      rw [decide_eq_false (show ¬ an = bn from hn), Bool.false_and]
    clear hn
    go_enter Try.func17, Try.ntmps17
    go_wp2_with fail
    go_ret
    rw [HE.out]
    exact ⟨rfl, hb2⟩
set_option maxRecDepth 100000 in
set_option maxHeartbeats 3200000 in
theorem sameR_any (a b : Sc.S) (va vb : Value) (w : World) (h1 : CsAt w va a.cols) (h2 : CsAt w vb b.cols) :
    Calls Try.prog 18 #[sv a va, sv b vb] w fun e w' => e = .returned (.bool (Sc.same a b)) ∧ Below w.heap.size w w' := by
  obtain ⟨adr, cap, rfl, hc1, hc2, hc⟩ := h1
  obtain ⟨adr2, cap2, rfl, hd1, hd2, hd⟩ := h2
  have HC := hid hc
  have HD := hid hd
  unfold maxLen at hc2 hd2
  clear hc hd
  obtain ⟨an, ac, ak⟩ := a
  obtain ⟨bn, bc, bk⟩ := b
  simp only at hc1 hd1 HC HD
  unfold sv
  have hb2 : Below w.heap.size w ((w.alloc (.cells #[.string an, .slice adr ac.length cap, .int .i64 ak] 24)).alloc (.cells #[.string bn, .slice adr2 bc.length cap2, .int .i64 bk] 24)) := hnext (hba w _) (hba _ _)
  by_cases hn : an = bn
  · subst hn
    by_cases hk : ak = bk
    · subst hk
      by_cases hl : ac.length = bc.length
      · have HL := hid hl
        have e3 : (((ac.length : Int)) != (bc.length : Int)) = false := by rw [bne_eq_false_iff_eq]; omega
        have hlt0 : ∀ k, k < ac.length → (k : Int) < (bc.length : Int) := by intro k hk; omega
        have HLT := hid hlt0
        clear hl hlt0
        have A0 : Hid (((w.alloc (.cells #[.string an, .slice adr ac.length cap, .int .i64 ak] 24)).alloc (.cells #[.string an, .slice adr2 bc.length cap2, .int .i64 ak] 24)).cell? ⟨w.heap.size, 1, none⟩ = some (.slice adr ac.length cap)) := by show _ = _; simp
        have A1 : Hid (((w.alloc (.cells #[.string an, .slice adr ac.length cap, .int .i64 ak] 24)).alloc (.cells #[.string an, .slice adr2 bc.length cap2, .int .i64 ak] 24)).cell? ⟨w.heap.size + 1, 1, none⟩ = some (.slice adr2 bc.length cap2)) := by show _ = _; simp
        go_enter Try.func18, Try.ntmps18
        go_wp2_with fail
        go_loopw [5] (fun i wr => ∃ k : Nat, k ≤ ac.length ∧ i = .int .i64 (k : Int) ∧ Hid (ac.take k = bc.take k) ∧ Below ((w.alloc (.cells #[.string an, .slice adr ac.length cap, .int .i64 ak] 24)).alloc (.cells #[.string an, .slice adr2 bc.length cap2, .int .i64 ak] 24)).heap.size ((w.alloc (.cells #[.string an, .slice adr ac.length cap, .int .i64 ak] 24)).alloc (.cells #[.string an, .slice adr2 bc.length cap2, .int .i64 ak] 24)) wr) (fun i _ => ac.length - (intOf i).toNat)
        case atStart => exact ⟨0, by omega, rfl, rfl, Below.refl _ _⟩
        case round =>
          obtain ⟨k, hk, rfl, htk, hbel⟩ := hrel
          obtain ⟨w4, rfl⟩ : ∃ w4 : World, w4 = wr := ⟨_, rfl⟩
          by_cases hlk : k < ac.length
          · obtain ⟨g, off, rfl, q0, q1, q2⟩ := HC.out k hlk
            obtain ⟨g2, off2, rfl, p0, p1, p2⟩ := HD.out k (by have := HL.out; omega)
            have HNX := hid (ctake_eq HL.out k hlk htk.out)
            have HX := hid (ctake_ne HL.out k hlk)
            have hq := c_neq ac[k] (bc[k]'(by have := HL.out; omega)) _ rfl
            generalize ac[k] = x at q0 q1 q2 HNX HX hq
            generalize bc[k]'(by have := HL.out; omega) = y at p0 p1 p2 HNX HX hq
            have hk2 := HLT.out k hlk
            replace q0 := hkeep (hkeep (hkeep q0 (hba w _)) (hba _ _)) hbel
            replace q1 := hkeep (hkeep (hkeep q1 (hba w _)) (hba _ _)) hbel
            replace q2 := hkeep (hkeep (hkeep q2 (hba w _)) (hba _ _)) hbel
            replace p0 := hkeep (hkeep (hkeep p0 (hba w _)) (hba _ _)) hbel
            replace p1 := hkeep (hkeep (hkeep p1 (hba w _)) (hba _ _)) hbel
            replace p2 := hkeep (hkeep (hkeep p2 (hba w _)) (hba _ _)) hbel
            have z0 := hkeep A0.out hbel
            have z1 := hkeep A1.out hbel
            have hlk' : (k : Int) < ac.length := by omega
            have hk0 : (0 : Int) ≤ (k : Int) := by omega
            unfold cv at hq
            by_cases hxy : x = y
            · have HT := hid (HNX.out.2 hxy)
              rw [decide_eq_true hxy] at hq
              clear hxy
              go_wp2_with fail
              go_quiet (fail)
              go_wp2_with fail
              go_roundw
              case rel => exact ⟨k + 1, by omega, by go_num, HT, hdrewN hbel _⟩
              case measure => simp [intOf]; omega
            · have HNE := hid (HX.out hxy)
              have HE : Hid (Sc.same ⟨an, ac, ak⟩ ⟨an, bc, ak⟩ = false) := by show _ = _; unfold Sc.same; rw [decide_eq_false (show ¬ ac = bc from HNE.out), Bool.and_false, Bool.and_false]
              rw [decide_eq_false hxy] at hq
              clear hxy
              go_wp2_with fail
              go_quiet (fail)
              go_wp2_with fail
              go_ret
              rw [HE.out]
              exact ⟨rfl, hnext hb2 (hdrewN hbel _)⟩
          · obtain rfl : k = ac.length := by omega
            have z0 := hkeep A0.out hbel
            have z1 := hkeep A1.out hbel
            have HE : Hid (Sc.same ⟨an, ac, ak⟩ ⟨an, bc, ak⟩ = true) := by
              show _ = _
              unfold Sc.same
              have hcc : ac = bc := by have h := htk.out; rw [List.take_length, HL.out, List.take_length] at h; exact h
              rw [decide_eq_true rfl, decide_eq_true rfl, decide_eq_true hcc]; rfl
            go_wp2_with fail
            go_ret
            rw [HE.out]
            exact ⟨rfl, hnext hb2 hbel⟩
      · have e3 : (((ac.length : Int)) != (bc.length : Int)) = true := by rw [bne_iff_ne]; omega
        have HE : Hid (Sc.same ⟨an, ac, ak⟩ ⟨an, bc, ak⟩ = false) := by
          show _ = _
          unfold Sc.same
          rw [decide_eq_false (show ¬ ac = bc from fun e => hl (by rw [e])), Bool.and_false, Bool.and_false]
        clear hl
        go_enter Try.func18, Try.ntmps18
        go_wp2_with fail
        go_ret
        rw [HE.out]
        exact ⟨rfl, hb2⟩
    · have e2 : (ak == bk) = false := beq_eq_false_iff_ne.2 hk
      have HE : Hid (Sc.same ⟨an, ac, ak⟩ ⟨an, bc, bk⟩ = false) := by
        show _ = _
        unfold Sc.same
        rw [decide_eq_false (show ¬ ak = bk from hk), Bool.false_and, Bool.and_false]
      clear hk
      go_enter Try.func18, Try.ntmps18
      go_wp2_with fail
      go_ret
      rw [HE.out]
      exact ⟨rfl, hb2⟩
  · have e1 : (an.toList == bn.toList) = false := by rw [bytes_beq]; exact decide_eq_false hn
    have HE : Hid (Sc.same ⟨an, ac, ak⟩ ⟨bn, bc, bk⟩ = false) := by
      show _ = _
      unfold Sc.same
      rw [decide_eq_false (show ¬ an = bn from hn), Bool.false_and]
    clear hn
    go_enter Try.func18, Try.ntmps18
    go_wp2_with fail
    go_ret
    rw [HE.out]
    exact ⟨rfl, hb2⟩
end Go.Proofs.Ytmgafcblbbbanaa
