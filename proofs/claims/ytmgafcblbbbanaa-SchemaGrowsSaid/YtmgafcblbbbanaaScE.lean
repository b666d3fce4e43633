/-
  Extends of schema, and the reference's: their contracts. Condition: the texts have at most 2^63 - 1 bytes.
-/
import Derived.Test.YtmgafcblbbbanaaScQ
namespace Go.Proofs.Ytmgafcblbbbanaa
open Go.RowKit

/-- none of the columns behind asks for a value -/
def Sc.loose (n : Nat) (l : List Sc.C) : Bool := (l.drop n).all fun c => !c.need
/-- b has a's columns, and more -/
def Sc.extends (a b : Sc.S) : Bool := Sc.right a && (Sc.right b && (decide (a.cols.length ≤ b.cols.length) && (Sc.loose a.cols.length b.cols && Sc.same a ⟨b.name, b.cols.take a.cols.length, b.keys⟩)))
theorem Sc.loose_no {n k : Nat} {l : List Sc.C} (h : n + k < l.length) (h0 : (l[n + k]).need = true) : Sc.loose n l = false := by
  unfold Sc.loose
  rw [List.all_eq_false]
  refine ⟨l[n + k], ?_, by simp [h0]⟩
  rw [List.mem_drop_iff_getElem]
  exact ⟨k, by omega, by congr 1⟩
/-- none of the first k columns behind asks for a value -/
def Sc.looseTo (n : Nat) (l : List Sc.C) (k : Nat) : Bool := ((l.drop n).take k).all fun c => !c.need
theorem Sc.looseTo_zero (n : Nat) (l : List Sc.C) : Sc.looseTo n l 0 = true := by unfold Sc.looseTo; simp
theorem Sc.looseTo_next {n k : Nat} {l : List Sc.C} (h : n + k < l.length) (h1 : Sc.looseTo n l k = true) (h0 : (l[n + k]).need = false) : Sc.looseTo n l (k + 1) = true := by
  unfold Sc.looseTo at *
  rw [List.take_succ_eq_append_getElem (by rw [List.length_drop]; omega), List.all_append, h1]
  simp [h0]
theorem Sc.looseTo_all {n : Nat} {l : List Sc.C} (h : Sc.looseTo n l (l.length - n) = true) : Sc.loose n l = true := by
  unfold Sc.looseTo at h
  rw [List.take_of_length_le (by rw [List.length_drop]; exact Nat.le_refl _)] at h
  exact h
/-- how far the reference has come -/
def Sc.ExtTo (ac bc : List Sc.C) (k : Nat) : Prop := (k ≤ ac.length ∧ ac.take k = bc.take k) ∨ (ac.length ≤ k ∧ ac = bc.take ac.length ∧ Sc.looseTo ac.length bc (k - ac.length) = true)
theorem Sc.ExtTo.in_ {ac bc : List Sc.C} {k : Nat} (h : Sc.ExtTo ac bc k) (hk : k < ac.length) (hle : ac.length ≤ bc.length) (he : ac[k] = bc[k]'(by omega)) : Sc.ExtTo ac bc (k + 1) := by
  rcases h with ⟨_, h⟩ | ⟨h, _⟩
  · refine .inl ⟨hk, ?_⟩
    rw [List.take_succ_eq_append_getElem hk, List.take_succ_eq_append_getElem (by omega), h, he]
  · omega
theorem Sc.ExtTo.out {ac bc : List Sc.C} {k : Nat} (h : Sc.ExtTo ac bc k) (hk : ac.length ≤ k) : ac = bc.take ac.length ∧ Sc.looseTo ac.length bc (k - ac.length) = true := by
  rcases h with ⟨h1, h⟩ | ⟨_, h1, h2⟩
  · obtain rfl : k = ac.length := by omega
    rw [List.take_length] at h
    exact ⟨h, by rw [Nat.sub_self]; exact Sc.looseTo_zero _ _⟩
  · exact ⟨h1, h2⟩
theorem Sc.ExtTo.next {ac bc : List Sc.C} {k : Nat} (h : Sc.ExtTo ac bc k) (hk : ac.length ≤ k) (hb : k < bc.length) (h0 : bc[k].need = false) : Sc.ExtTo ac bc (k + 1) := by
  obtain ⟨h1, h2⟩ := h.out hk
  refine .inr ⟨by omega, h1, ?_⟩
  rw [show k + 1 - ac.length = (k - ac.length) + 1 by omega]
  have e : ac.length + (k - ac.length) = k := by omega
  exact Sc.looseTo_next (by omega) h2 (by simp only [e]; exact h0)
theorem Sc.take_ne {ac bc : List Sc.C} {k : Nat} (hk : k < ac.length) (hle : ac.length ≤ bc.length) (he : ac[k] ≠ bc[k]'(by omega)) : ac ≠ bc.take ac.length := by
  intro h
  apply he
  have h1 : (bc.take ac.length)[k]'(by rw [List.length_take]; omega) = bc[k]'(by omega) := List.getElem_take ..
  rw [← h1]
  congr 1
theorem CsAt.take {w : World} {adr : Option Addr} {cap : Nat} {l : List Sc.C} (h : CsAt w (.slice adr l.length cap) l) (n : Nat) (hn : n ≤ l.length) : CsAt w (.slice adr n cap) (l.take n) := by
  obtain ⟨adr', cap', e, h1, h2, hc⟩ := h
  cases e
  have hl : (l.take n).length = n := by rw [List.length_take]; omega
  refine ⟨adr, cap, by rw [hl], by omega, h2, fun k hk => ?_⟩
  have hk' : k < l.length := by omega
  have hg : (l.take n)[k] = l[k] := List.getElem_take ..
  rw [hg]
  exact hc k hk'
set_option maxRecDepth 100000 in
set_option maxHeartbeats 12800000 in
theorem extends_any (a b : Sc.S) (va vb : Value) (w : World) (h1 : CsAt w va a.cols) (h2 : CsAt w vb b.cols) (hza : Sok a) (hzb : Sok b) :
    Calls Try.prog 15 #[sv a va, sv b vb] w fun e w' => e = .returned (.bool (Sc.extends a b)) ∧ Below w.heap.size w w' := by
  have hRa := hid (fun W h => right_sc a va W h hza)
  have hRb := hid (fun W h => right_sc b vb W h hzb)
  have HCA := hid h1
  have HCB := hid h2
  have HX : Hid (Sc.extends a b = (Sc.right a && (Sc.right b && (decide (a.cols.length ≤ b.cols.length) && (Sc.loose a.cols.length b.cols && Sc.same a ⟨b.name, b.cols.take a.cols.length, b.keys⟩))))) := rfl
  have HRL : Hid (Sc.right b = true → 1 ≤ b.cols.length ∧ b.cols.length ≤ 16) := fun h => by
    unfold Sc.right at h
    simp only [Bool.and_eq_true, decide_eq_true_eq] at h
    omega
  obtain ⟨adr, cap, rfl, hc1, hc2, hc⟩ := h1
  obtain ⟨adr2, cap2, rfl, hd1, hd2, hd⟩ := h2
  have HC := hid hc
  have HD := hid hd
  unfold maxLen at hc2 hd2
  clear hc hd hza hzb
  obtain ⟨an, ac, ak⟩ := a
  obtain ⟨bn, bc, bk⟩ := b
  simp only at hc1 hd1 HC HD HCA HCB HRL
  unfold sv at hRa hRb ⊢
  simp only at hRa hRb HX ⊢
  have hb2 : Below w.heap.size w ((w.alloc (.cells #[.string an, .slice adr ac.length cap, .int .i64 ak] 24)).alloc (.cells #[.string bn, .slice adr2 bc.length cap2, .int .i64 bk] 24)) := hnext (hba w _) (hba _ _)
  have hA0 := (BS.new w an (.slice adr ac.length cap) ak).keep (hba _ (.cells #[.string bn, .slice adr2 bc.length cap2, .int .i64 bk] 24))
  have hB0 := BS.new (w.alloc (.cells #[.string an, .slice adr ac.length cap, .int .i64 ak] 24)) bn (.slice adr2 bc.length cap2) bk
  have hs1 : (w.alloc (.cells #[.string an, .slice adr ac.length cap, .int .i64 ak] 24)).heap.size = w.heap.size + 1 := by simp
  rw [hs1] at hB0
  have HB2 := hid hb2
  have HA0 := hid hA0
  have HB0 := hid hB0
  clear hb2 hA0 hB0 hs1
  cases hra : Sc.right ⟨an, ac, ak⟩
  · rw [hra] at hRa
    have HE : Hid (Sc.extends ⟨an, ac, ak⟩ ⟨bn, bc, bk⟩ = false) := by show _ = _; rw [HX.out, hra]; rfl
    clear hra HX
    go_enter Try.func15, Try.ntmps15
    go_wp2_with fail
    refine (hRa.out _ (HCA.out.below HB2.out)).mono ?_; rintro e w1 ⟨rfl, hb1⟩
    have hA1 := HA0.out.keep hb1
    have hB1 := HB0.out.keep hb1
    have HL1 := hid (hnext HB2.out hb1)
    clear hb1 HA0 HB0 HB2
    obtain ⟨a0, a1, a2, al⟩ := hA1.cells
    obtain ⟨b0, b1, b2, bl⟩ := hB1.cells
    go_wp2_with fail
    go_ret
    rw [HE.out]
    exact ⟨rfl, HL1.out⟩
  rw [hra] at hRa HX
  clear hra
  cases hrb : Sc.right ⟨bn, bc, bk⟩
  · rw [hrb] at hRb
    have HE : Hid (Sc.extends ⟨an, ac, ak⟩ ⟨bn, bc, bk⟩ = false) := by show _ = _; rw [HX.out, hrb]; rfl
    clear hrb HX
    go_enter Try.func15, Try.ntmps15
    go_wp2_with fail
    refine (hRa.out _ (HCA.out.below HB2.out)).mono ?_; rintro e w1 ⟨rfl, hb1⟩
    have hA1 := HA0.out.keep hb1
    have hB1 := HB0.out.keep hb1
    have HL1 := hid (hnext HB2.out hb1)
    clear hb1 HA0 HB0 HB2
    obtain ⟨a0, a1, a2, al⟩ := hA1.cells
    obtain ⟨b0, b1, b2, bl⟩ := hB1.cells
    go_wp2_with fail
    refine (hRb.out _ (HCB.out.below HL1.out)).mono ?_; rintro e w2 ⟨rfl, hb2⟩
    have hA2 := hA1.keep hb2
    have hB2 := hB1.keep hb2
    have HL2 := hid (hnext HL1.out hb2)
    clear hb2 hA1 hB1 a0 a1 a2 b0 b1 b2 al bl HL1
    obtain ⟨a0, a1, a2, al⟩ := hA2.cells
    obtain ⟨b0, b1, b2, bl⟩ := hB2.cells
    go_wp2_with fail
    go_ret
    rw [HE.out]
    exact ⟨rfl, HL2.out⟩
  have HLB := hid (HRL.out hrb)
  rw [hrb] at hRb HX
  clear hrb
  by_cases hlen : bc.length < ac.length
  · have hlen' : decide (bc.length < ac.length) = true := decide_eq_true hlen
    have HE : Hid (Sc.extends ⟨an, ac, ak⟩ ⟨bn, bc, bk⟩ = false) := by show _ = _; rw [HX.out, decide_eq_false (show ¬ ac.length ≤ bc.length by omega)]; rfl
    clear hlen HX
    go_enter Try.func15, Try.ntmps15
    go_wp2_with fail
    refine (hRa.out _ (HCA.out.below HB2.out)).mono ?_; rintro e w1 ⟨rfl, hb1⟩
    have hA1 := HA0.out.keep hb1
    have hB1 := HB0.out.keep hb1
    have HL1 := hid (hnext HB2.out hb1)
    clear hb1 HA0 HB0 HB2
    obtain ⟨a0, a1, a2, al⟩ := hA1.cells
    obtain ⟨b0, b1, b2, bl⟩ := hB1.cells
    go_wp2_with fail
    refine (hRb.out _ (HCB.out.below HL1.out)).mono ?_; rintro e w2 ⟨rfl, hb2⟩
    have hA2 := hA1.keep hb2
    have hB2 := hB1.keep hb2
    have HL2 := hid (hnext HL1.out hb2)
    clear hb2 hA1 hB1 a0 a1 a2 b0 b1 b2 al bl HL1
    obtain ⟨a0, a1, a2, al⟩ := hA2.cells
    obtain ⟨b0, b1, b2, bl⟩ := hB2.cells
    go_wp2_with fail
    go_ret
    rw [HE.out]
    exact ⟨rfl, HL2.out⟩
  have hle : ac.length ≤ bc.length := by omega
  have HLE := hid hle
  have hlen' : decide (bc.length < ac.length) = false := decide_eq_false hlen
  have HX2 : Hid (Sc.extends ⟨an, ac, ak⟩ ⟨bn, bc, bk⟩ = (Sc.loose ac.length bc && Sc.same ⟨an, ac, ak⟩ ⟨bn, bc.take ac.length, bk⟩)) := by show _ = _; rw [HX.out, decide_eq_true hle]; rfl
  have hg0 := HD.out 0 (by have := HLB.out; omega)
  obtain ⟨g2, off2, rfl, _⟩ := hg0
  have hcz : ac.length ≤ cap2 := by omega
  have hcz' : (ac.length : Int) ≤ (cap2 : Int) := by omega
  have hbz' : (ac.length : Int) ≤ (bc.length : Int) := by omega
  have hdz' : (bc.length : Int) ≤ (cap2 : Int) := by omega
  have HS := hid (fun W h1 h2 => same_any ⟨an, ac, ak⟩ ⟨bn, bc.take ac.length, bk⟩ (.slice adr ac.length cap) (.slice (some ⟨g2, off2, none⟩) ac.length cap2) W h1 h2)
  unfold sv at HS
  simp only at HS
  have HTK := hid (HCB.out.take ac.length hle)
  by_cases hcq : cap2 = ac.length
  · have hbq : bc.length = ac.length := by omega
    have HBQ := hid hbq
    subst hcq
    have hcn : bc.length - ac.length = 0 := by omega
    have HCN := hid hcn
    clear hlen hle HX hbq hcn
    go_enter Try.func15, Try.ntmps15
    go_wp2_with fail
    refine (hRa.out _ (HCA.out.below HB2.out)).mono ?_; rintro e w1 ⟨rfl, hb1⟩
    have hA1 := HA0.out.keep hb1
    have hB1 := HB0.out.keep hb1
    have HL1 := hid (hnext HB2.out hb1)
    clear hb1 HA0 HB0 HB2
    obtain ⟨a0, a1, a2, al⟩ := hA1.cells
    obtain ⟨b0, b1, b2, bl⟩ := hB1.cells
    go_wp2_with fail
    refine (hRb.out _ (HCB.out.below HL1.out)).mono ?_; rintro e w2 ⟨rfl, hb2⟩
    have hA2 := hA1.keep hb2
    have hB2 := hB1.keep hb2
    have HL2 := hid (hnext HL1.out hb2)
    clear hb2 hA1 hB1 a0 a1 a2 b0 b1 b2 al bl HL1
    obtain ⟨a0, a1, a2, al⟩ := hA2.cells
    obtain ⟨b0, b1, b2, bl⟩ := hB2.cells
    go_wp2_with fail
    clear a0 a1 a2 b0 b1 b2 bl
    go_loopw [31] (fun q wr => ∃ k : Nat, k ≤ bc.length - ac.length ∧ q = .int .i64 (k : Int) ∧ Hid (Sc.looseTo ac.length bc k = true) ∧ BS wr w.heap.size an (.slice adr ac.length cap) ak ∧ BS wr (w.heap.size + 1) bn (.slice (some ⟨g2, off2, none⟩) bc.length ac.length) bk ∧ Hid (Below w.heap.size w wr)) (fun q _ => bc.length - ac.length - (intOf q).toNat)
    case atStart => exact ⟨0, by omega, rfl, Sc.looseTo_zero _ _, hA2, hB2, HL2⟩
    case round =>
      obtain ⟨k, hk, rfl, hlo, hA, hB, hL⟩ := hrel
      clear hA2 hB2 HL2
      obtain ⟨w4, rfl⟩ : ∃ w4 : World, w4 = wr := ⟨_, rfl⟩
      have hk0 : (0 : Int) ≤ (k : Int) := by omega
      by_cases hlk : k < bc.length - ac.length
      · exact absurd hlk (by have := HCN.out; omega)
      · obtain rfl : k = bc.length - ac.length := by omega
        have HE : Hid (Sc.extends ⟨an, ac, ak⟩ ⟨bn, bc, bk⟩ = Sc.same ⟨an, ac, ak⟩ ⟨bn, bc.take ac.length, bk⟩) := by show _ = _; rw [HX2.out, Sc.looseTo_all hlo.out, Bool.true_and]
        have hlk' : decide (bc.length - ac.length < bc.length - ac.length) = false := decide_eq_false hlk
        obtain ⟨a0, a1, a2, al⟩ := hA.cells
        obtain ⟨b0, b1, b2, bl⟩ := hB.cells
        have f1 := frozen_of_row w4 (w.heap.size + 1) 1 _ _ hB
        have hL6 : Below w.heap.size w (w4.setCell ⟨w.heap.size + 1, 1, none⟩ (.slice (some ⟨g2, off2, none⟩) ac.length ac.length)) := hL.out.setCell (p := ⟨w.heap.size + 1, 1, none⟩) (Nat.le_succ _) _
        have HL6 := hid hL6
        clear hL6 hlk hA hB
        go_wp2_with fail
        refine (HS.out _ (HCA.out.below HL6.out) (HTK.out.below HL6.out)).mono ?_; rintro e w7 ⟨rfl, hb7⟩
        go_wp2_with fail
        go_ret
        rw [HE.out]
        exact ⟨rfl, hnext HL6.out hb7⟩
  · have HBQ := hid trivial
    have hcq' : (cap2 = ac.length) = False := eq_false hcq
    clear hlen hle HX hcq
    go_enter Try.func15, Try.ntmps15
    go_wp2_with fail
    refine (hRa.out _ (HCA.out.below HB2.out)).mono ?_; rintro e w1 ⟨rfl, hb1⟩
    have hA1 := HA0.out.keep hb1
    have hB1 := HB0.out.keep hb1
    have HL1 := hid (hnext HB2.out hb1)
    clear hb1 HA0 HB0 HB2
    obtain ⟨a0, a1, a2, al⟩ := hA1.cells
    obtain ⟨b0, b1, b2, bl⟩ := hB1.cells
    go_wp2_with fail
    refine (hRb.out _ (HCB.out.below HL1.out)).mono ?_; rintro e w2 ⟨rfl, hb2⟩
    have hA2 := hA1.keep hb2
    have hB2 := hB1.keep hb2
    have HL2 := hid (hnext HL1.out hb2)
    clear hb2 hA1 hB1 a0 a1 a2 b0 b1 b2 al bl HL1
    obtain ⟨a0, a1, a2, al⟩ := hA2.cells
    obtain ⟨b0, b1, b2, bl⟩ := hB2.cells
    go_wp2_with fail
    clear a0 a1 a2 b0 b1 b2 bl
    go_loopw [31] (fun q wr => ∃ k : Nat, k ≤ bc.length - ac.length ∧ q = .int .i64 (k : Int) ∧ Hid (Sc.looseTo ac.length bc k = true) ∧ BS wr w.heap.size an (.slice adr ac.length cap) ak ∧ BS wr (w.heap.size + 1) bn (.slice (some ⟨g2, off2, none⟩) bc.length cap2) bk ∧ Hid (Below w.heap.size w wr)) (fun q _ => bc.length - ac.length - (intOf q).toNat)
    case atStart => exact ⟨0, by omega, rfl, Sc.looseTo_zero _ _, hA2, hB2, HL2⟩
    case round =>
      obtain ⟨k, hk, rfl, hlo, hA, hB, hL⟩ := hrel
      clear hA2 hB2 HL2
      obtain ⟨w4, rfl⟩ : ∃ w4 : World, w4 = wr := ⟨_, rfl⟩
      have hk0 : (0 : Int) ≤ (k : Int) := by omega
      by_cases hlk : k < bc.length - ac.length
      · have hnk : ac.length + k < bc.length := by omega
        obtain ⟨g3, off3, hgg, q0, q1, q2⟩ := HD.out (ac.length + k) hnk
        cases hgg
        rw [Nat.add_mul, ← Nat.add_assoc] at q0 q1 q2
        replace q0 := hkeep q0 hL.out
        replace q1 := hkeep q1 hL.out
        replace q2 := hkeep q2 hL.out
        have HN := hid (fun h => Sc.looseTo_next hnk hlo.out h)
        have HF := hid (fun h => Sc.loose_no hnk h)
        generalize bc[ac.length + k] = c at q0 q1 q2 HN HF
        have hlk' : decide (k < bc.length - ac.length) = true := decide_eq_true hlk
        have hba4 := hba w4 (.cells #[.string c.name, .int .i64 c.kind, .bool c.need] 49)
        have hA5 := hA.keep hba4
        have hB5 := hB.keep hba4
        have HL5 := hid (hnext hL.out hba4)
        obtain ⟨cn, ck, cd⟩ := c
        simp only at q0 q1 q2 HN HF hba4 hA5 hB5 HL5
        cases cd
        · have HT := hid (HN.out rfl)
          clear hba4 hA hB hL HN HF hnk
          go_wp2_with fail
          go_roundw
          case rel => exact ⟨k + 1, hlk, by go_num, HT, hA5, hB5, HL5⟩
          case measure => simp [intOf]; omega
        · have HE : Hid (Sc.extends ⟨an, ac, ak⟩ ⟨bn, bc, bk⟩ = false) := by show _ = _; rw [HX2.out, HF.out rfl]; rfl
          clear hba4 hA hB hL HN HF hnk
          go_wp2_with fail
          go_ret
          rw [HE.out]
          exact ⟨rfl, HL5.out⟩
      · obtain rfl : k = bc.length - ac.length := by omega
        have HE : Hid (Sc.extends ⟨an, ac, ak⟩ ⟨bn, bc, bk⟩ = Sc.same ⟨an, ac, ak⟩ ⟨bn, bc.take ac.length, bk⟩) := by show _ = _; rw [HX2.out, Sc.looseTo_all hlo.out, Bool.true_and]
        have hlk' : decide (bc.length - ac.length < bc.length - ac.length) = false := decide_eq_false hlk
        obtain ⟨a0, a1, a2, al⟩ := hA.cells
        obtain ⟨b0, b1, b2, bl⟩ := hB.cells
        have f1 := frozen_of_row w4 (w.heap.size + 1) 1 _ _ hB
        have hL6 : Below w.heap.size w (w4.setCell ⟨w.heap.size + 1, 1, none⟩ (.slice (some ⟨g2, off2, none⟩) ac.length cap2)) := hL.out.setCell (p := ⟨w.heap.size + 1, 1, none⟩) (Nat.le_succ _) _
        have HL6 := hid hL6
        clear hL6 hlk hA hB
        go_wp2_with fail
        refine (HS.out _ (HCA.out.below HL6.out) (HTK.out.below HL6.out)).mono ?_; rintro e w7 ⟨rfl, hb7⟩
        go_wp2_with fail
        go_ret
        rw [HE.out]
        exact ⟨rfl, hnext HL6.out hb7⟩
set_option maxRecDepth 100000 in
set_option maxHeartbeats 12800000 in
theorem extendsR_any (a b : Sc.S) (va vb : Value) (w : World) (h1 : CsAt w va a.cols) (h2 : CsAt w vb b.cols) (hza : Sok a) (hzb : Sok b) :
    Calls Try.prog 16 #[sv a va, sv b vb] w fun e w' => e = .returned (.bool (Sc.extends a b)) ∧ Below w.heap.size w w' := by
  have hRa := hid (fun W h => rightR_sc a va W h hza)
  have hRb := hid (fun W h => rightR_sc b vb W h hzb)
  have HCA := hid h1
  have HCB := hid h2
  have HX : Hid (Sc.extends a b = (Sc.right a && (Sc.right b && (decide (a.cols.length ≤ b.cols.length) && (Sc.loose a.cols.length b.cols && Sc.same a ⟨b.name, b.cols.take a.cols.length, b.keys⟩))))) := rfl
  have HRL : Hid (Sc.right b = true → 1 ≤ b.cols.length ∧ b.cols.length ≤ 16) := fun h => by
    unfold Sc.right at h
    simp only [Bool.and_eq_true, decide_eq_true_eq] at h
    omega
  obtain ⟨adr, cap, rfl, hc1, hc2, hc⟩ := h1
  obtain ⟨adr2, cap2, rfl, hd1, hd2, hd⟩ := h2
  have HC := hid hc
  have HD := hid hd
  unfold maxLen at hc2 hd2
  clear hc hd hza hzb
  obtain ⟨an, ac, ak⟩ := a
  obtain ⟨bn, bc, bk⟩ := b
  simp only at hc1 hd1 HC HD HCA HCB HRL
  unfold sv at hRa hRb ⊢
  simp only at hRa hRb HX ⊢
  have hb2 : Below w.heap.size w ((w.alloc (.cells #[.string an, .slice adr ac.length cap, .int .i64 ak] 24)).alloc (.cells #[.string bn, .slice adr2 bc.length cap2, .int .i64 bk] 24)) := hnext (hba w _) (hba _ _)
  have hA0 := (BS.new w an (.slice adr ac.length cap) ak).keep (hba _ (.cells #[.string bn, .slice adr2 bc.length cap2, .int .i64 bk] 24))
  have hB0 := BS.new (w.alloc (.cells #[.string an, .slice adr ac.length cap, .int .i64 ak] 24)) bn (.slice adr2 bc.length cap2) bk
  have hs1 : (w.alloc (.cells #[.string an, .slice adr ac.length cap, .int .i64 ak] 24)).heap.size = w.heap.size + 1 := by simp
  rw [hs1] at hB0
  have HB2 := hid hb2
  have HA0 := hid hA0
  have HB0 := hid hB0
  clear hb2 hA0 hB0 hs1
  cases hra : Sc.right ⟨an, ac, ak⟩
  · rw [hra] at hRa
    have HE : Hid (Sc.extends ⟨an, ac, ak⟩ ⟨bn, bc, bk⟩ = false) := by show _ = _; rw [HX.out, hra]; rfl
    clear hra HX
    go_enter Try.func16, Try.ntmps16
    go_wp2_with fail
    refine (hRa.out _ (HCA.out.below HB2.out)).mono ?_; rintro e w1 ⟨rfl, hb1⟩
    have hA1 := HA0.out.keep hb1
    have hB1 := HB0.out.keep hb1
    have HL1 := hid (hnext HB2.out hb1)
    clear hb1 HA0 HB0 HB2
    obtain ⟨a0, a1, a2, al⟩ := hA1.cells
    obtain ⟨b0, b1, b2, bl⟩ := hB1.cells
    go_wp2_with fail
    go_ret
    rw [HE.out]
    exact ⟨rfl, HL1.out⟩
  rw [hra] at hRa HX
  clear hra
  cases hrb : Sc.right ⟨bn, bc, bk⟩
  · rw [hrb] at hRb
    have HE : Hid (Sc.extends ⟨an, ac, ak⟩ ⟨bn, bc, bk⟩ = false) := by show _ = _; rw [HX.out, hrb]; rfl
    clear hrb HX
    go_enter Try.func16, Try.ntmps16
    go_wp2_with fail
    refine (hRa.out _ (HCA.out.below HB2.out)).mono ?_; rintro e w1 ⟨rfl, hb1⟩
    have hA1 := HA0.out.keep hb1
    have hB1 := HB0.out.keep hb1
    have HL1 := hid (hnext HB2.out hb1)
    clear hb1 HA0 HB0 HB2
    obtain ⟨a0, a1, a2, al⟩ := hA1.cells
    obtain ⟨b0, b1, b2, bl⟩ := hB1.cells
    go_wp2_with fail
    refine (hRb.out _ (HCB.out.below HL1.out)).mono ?_; rintro e w2 ⟨rfl, hb2⟩
    have hA2 := hA1.keep hb2
    have hB2 := hB1.keep hb2
    have HL2 := hid (hnext HL1.out hb2)
    clear hb2 hA1 hB1 a0 a1 a2 b0 b1 b2 al bl HL1
    obtain ⟨a0, a1, a2, al⟩ := hA2.cells
    obtain ⟨b0, b1, b2, bl⟩ := hB2.cells
    go_wp2_with fail
    go_ret
    rw [HE.out]
    exact ⟨rfl, HL2.out⟩
  have HLB := hid (HRL.out hrb)
  rw [hrb] at hRb HX
  clear hrb
  by_cases hn : an = bn
  · subst hn
    by_cases hkk : ak = bk
    · subst hkk
      by_cases hlen : bc.length < ac.length
      · have hlen' : decide (bc.length < ac.length) = true := decide_eq_true hlen
        have HE : Hid (Sc.extends ⟨an, ac, ak⟩ ⟨an, bc, ak⟩ = false) := by show _ = _; rw [HX.out, decide_eq_false (show ¬ ac.length ≤ bc.length by omega)]; rfl
        clear hlen HX
        go_enter Try.func16, Try.ntmps16
        go_wp2_with fail
        refine (hRa.out _ (HCA.out.below HB2.out)).mono ?_; rintro e w1 ⟨rfl, hb1⟩
        have hA1 := HA0.out.keep hb1
        have hB1 := HB0.out.keep hb1
        have HL1 := hid (hnext HB2.out hb1)
        clear hb1 HA0 HB0 HB2
        obtain ⟨a0, a1, a2, al⟩ := hA1.cells
        obtain ⟨b0, b1, b2, bl⟩ := hB1.cells
        go_wp2_with fail
        refine (hRb.out _ (HCB.out.below HL1.out)).mono ?_; rintro e w2 ⟨rfl, hb2⟩
        have hA2 := hA1.keep hb2
        have hB2 := hB1.keep hb2
        have HL2 := hid (hnext HL1.out hb2)
        clear hb2 hA1 hB1 a0 a1 a2 b0 b1 b2 al bl HL1
        obtain ⟨a0, a1, a2, al⟩ := hA2.cells
        obtain ⟨b0, b1, b2, bl⟩ := hB2.cells
        go_wp2_with fail
        go_ret
        rw [HE.out]
        exact ⟨rfl, HL2.out⟩
      have hle : ac.length ≤ bc.length := by omega
      have HLE := hid hle
      have hlen' : decide (bc.length < ac.length) = false := decide_eq_false hlen
      have HX2 : Hid (Sc.extends ⟨an, ac, ak⟩ ⟨an, bc, ak⟩ = (Sc.loose ac.length bc && decide (ac = bc.take ac.length))) := by show _ = _; rw [HX.out, decide_eq_true hle]; unfold Sc.same; simp
      clear hlen hle HX
      go_enter Try.func16, Try.ntmps16
      go_wp2_with fail
      refine (hRa.out _ (HCA.out.below HB2.out)).mono ?_; rintro e w1 ⟨rfl, hb1⟩
      have hA1 := HA0.out.keep hb1
      have hB1 := HB0.out.keep hb1
      have HL1 := hid (hnext HB2.out hb1)
      clear hb1 HA0 HB0 HB2
      obtain ⟨a0, a1, a2, al⟩ := hA1.cells
      obtain ⟨b0, b1, b2, bl⟩ := hB1.cells
      go_wp2_with fail
      refine (hRb.out _ (HCB.out.below HL1.out)).mono ?_; rintro e w2 ⟨rfl, hb2⟩
      have hA2 := hA1.keep hb2
      have hB2 := hB1.keep hb2
      have HL2 := hid (hnext HL1.out hb2)
      clear hb2 hA1 hB1 a0 a1 a2 b0 b1 b2 al bl HL1
      obtain ⟨a0, a1, a2, al⟩ := hA2.cells
      obtain ⟨b0, b1, b2, bl⟩ := hB2.cells
      go_wp2_with fail
      clear a0 a1 a2 b0 b1 b2 bl
      go_loopw [5] (fun q wr => ∃ k : Nat, k ≤ bc.length ∧ q = .int .i64 (k : Int) ∧ Hid (Sc.ExtTo ac bc k) ∧ BS wr w.heap.size an (.slice adr ac.length cap) ak ∧ BS wr (w.heap.size + 1) an (.slice adr2 bc.length cap2) ak ∧ Hid (Below w.heap.size w wr)) (fun q _ => bc.length - (intOf q).toNat)
      case atStart => exact ⟨0, by omega, rfl, .inl ⟨by omega, by simp⟩, hA2, hB2, HL2⟩
      case round =>
        obtain ⟨k, hk, rfl, hex, hA, hB, hL⟩ := hrel
        clear hA2 hB2 HL2
        obtain ⟨w4, rfl⟩ : ∃ w4 : World, w4 = wr := ⟨_, rfl⟩
        have hk0 : (0 : Int) ≤ (k : Int) := by omega
        obtain ⟨a0, a1, a2, al⟩ := hA.cells
        obtain ⟨b0, b1, b2, bl⟩ := hB.cells
        by_cases hlk : k < bc.length
        · have hlk' : (k : Int) < (bc.length : Int) := by omega
          obtain ⟨g3, off3, rfl, q0, q1, q2⟩ := HD.out k hlk
          replace q0 := hkeep q0 hL.out
          replace q1 := hkeep q1 hL.out
          replace q2 := hkeep q2 hL.out
          by_cases hka : k < ac.length
          · obtain ⟨g4, off4, rfl, p0, p1, p2⟩ := HC.out k hka
            replace p0 := hkeep p0 hL.out
            replace p1 := hkeep p1 hL.out
            replace p2 := hkeep p2 hL.out
            have hka' : decide (k < ac.length) = true := decide_eq_true hka
            have hka2 : decide (ac.length ≤ k) = false := decide_eq_false (by omega)
            have hka3 : (k : Int) < (ac.length : Int) := by omega
            have HIN := hid (hex.out.in_ hka HLE.out)
            have HNE := hid (fun h => Sc.take_ne hka HLE.out h)
            have hq := c_neq ac[k] bc[k] _ rfl
            generalize ac[k] = x at p0 p1 p2 HIN HNE hq
            generalize bc[k] = y at q0 q1 q2 HIN HNE hq
            unfold cv at hq
            by_cases hxy : x = y
            · have HT := hid (HIN.out hxy)
              rw [decide_eq_true hxy] at hq
              clear hxy HIN HNE
              go_wp2_with fail
              go_quiet (fail)
              go_wp2_with fail
              go_roundw
              case rel => exact ⟨k + 1, by omega, by go_num, HT, hA, hB, hdrewN hL.out _⟩
              case measure => simp [intOf]; omega
            · have HE : Hid (Sc.extends ⟨an, ac, ak⟩ ⟨an, bc, ak⟩ = false) := by show _ = _; rw [HX2.out, decide_eq_false (HNE.out hxy), Bool.and_false]
              rw [decide_eq_false hxy] at hq
              clear hxy HIN HNE
              go_wp2_with fail
              go_quiet (fail)
              go_wp2_with fail
              go_ret
              rw [HE.out]
              exact ⟨rfl, hdrewN hL.out _⟩
          · have hka' : decide (k < ac.length) = false := decide_eq_false hka
            have hka2 : decide (ac.length ≤ k) = true := decide_eq_true (by omega)
            have hka4 : ac.length ≤ k := by omega
            have HN := hid (hex.out.next hka4 hlk)
            have HLO : Hid ((bc[k]).need = true → Sc.loose ac.length bc = false) := fun h => Sc.loose_no (n := ac.length) (k := k - ac.length) (by omega) (by simp only [show ac.length + (k - ac.length) = k by omega]; exact h)
            generalize bc[k] = y at q0 q1 q2 HN HLO
            obtain ⟨yn, yk, yd⟩ := y
            simp only at q0 q1 q2 HN HLO
            cases yd
            · have HT := hid (HN.out rfl)
              clear hka HN HLO hka4
              go_wp2_with fail
              go_quiet (fail)
              go_wp2_with fail
              go_roundw
              case rel => exact ⟨k + 1, by omega, by go_num, HT, hA, hB, hdrewN hL.out _⟩
              case measure => simp [intOf]; omega
            · have HE : Hid (Sc.extends ⟨an, ac, ak⟩ ⟨an, bc, ak⟩ = false) := by show _ = _; rw [HX2.out, HLO.out rfl, Bool.false_and]
              clear hka HN HLO hka4
              go_wp2_with fail
              go_quiet (fail)
              go_wp2_with fail
              go_ret
              rw [HE.out]
              exact ⟨rfl, hdrewN hL.out _⟩
        · obtain rfl : k = bc.length := by omega
          obtain ⟨f1, f2⟩ := hex.out.out HLE.out
          have HE : Hid (Sc.extends ⟨an, ac, ak⟩ ⟨an, bc, ak⟩ = true) := by show _ = _; rw [HX2.out, Sc.looseTo_all f2, decide_eq_true f1]; rfl
          clear f1 f2
          go_wp2_with fail
          go_ret
          rw [HE.out]
          exact ⟨rfl, hL.out⟩
    · have e2 : (ak == bk) = false := beq_eq_false_iff_ne.2 hkk
      have e2b : (ak != bk) = true := by rw [bne_iff_ne]; exact hkk
      have HE : Hid (Sc.extends ⟨an, ac, ak⟩ ⟨an, bc, bk⟩ = false) := by show _ = _; rw [HX.out]; unfold Sc.same; simp [hkk]
      clear hkk HX
      go_enter Try.func16, Try.ntmps16
      go_wp2_with fail
      refine (hRa.out _ (HCA.out.below HB2.out)).mono ?_; rintro e w1 ⟨rfl, hb1⟩
      have hA1 := HA0.out.keep hb1
      have hB1 := HB0.out.keep hb1
      have HL1 := hid (hnext HB2.out hb1)
      clear hb1 HA0 HB0 HB2
      obtain ⟨a0, a1, a2, al⟩ := hA1.cells
      obtain ⟨b0, b1, b2, bl⟩ := hB1.cells
      go_wp2_with fail
      refine (hRb.out _ (HCB.out.below HL1.out)).mono ?_; rintro e w2 ⟨rfl, hb2⟩
      have hA2 := hA1.keep hb2
      have hB2 := hB1.keep hb2
      have HL2 := hid (hnext HL1.out hb2)
      clear hb2 hA1 hB1 a0 a1 a2 b0 b1 b2 al bl HL1
      obtain ⟨a0, a1, a2, al⟩ := hA2.cells
      obtain ⟨b0, b1, b2, bl⟩ := hB2.cells
      go_wp2_with fail
      go_ret
      rw [HE.out]
      exact ⟨rfl, HL2.out⟩
  · have e1 : (an.toList == bn.toList) = false := by rw [bytes_beq]; exact decide_eq_false hn
    have HE : Hid (Sc.extends ⟨an, ac, ak⟩ ⟨bn, bc, bk⟩ = false) := by show _ = _; rw [HX.out]; unfold Sc.same; simp [hn]
    clear hn HX
    go_enter Try.func16, Try.ntmps16
    go_wp2_with fail
    refine (hRa.out _ (HCA.out.below HB2.out)).mono ?_; rintro e w1 ⟨rfl, hb1⟩
    have hA1 := HA0.out.keep hb1
    have hB1 := HB0.out.keep hb1
    have HL1 := hid (hnext HB2.out hb1)
    clear hb1 HA0 HB0 HB2
    obtain ⟨a0, a1, a2, al⟩ := hA1.cells
    obtain ⟨b0, b1, b2, bl⟩ := hB1.cells
    go_wp2_with fail
    refine (hRb.out _ (HCB.out.below HL1.out)).mono ?_; rintro e w2 ⟨rfl, hb2⟩
    have hA2 := hA1.keep hb2
    have hB2 := hB1.keep hb2
    have HL2 := hid (hnext HL1.out hb2)
    clear hb2 hA1 hB1 a0 a1 a2 b0 b1 b2 al bl HL1
    obtain ⟨a0, a1, a2, al⟩ := hA2.cells
    obtain ⟨b0, b1, b2, bl⟩ := hB2.cells
    go_wp2_with fail
    go_ret
    rw [HE.out]
    exact ⟨rfl, HL2.out⟩
end Go.Proofs.Ytmgafcblbbbanaa
