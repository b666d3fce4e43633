/-
  ValueOdd answers true at any two values. No condition.
-/
import Derived.Test.YtgdegoacjobpdaaLv
namespace Go.Proofs.Ytgdegoacjobpdaa
open Go.RowKit

set_option maxRecDepth 100000 in
set_option maxHeartbeats 12800000 in
theorem valueOdd_walk (vk vn : Int) (vb : Nat) (vs : ByteArray) (uk un : Int) (ub : Nat) (us : ByteArray) (w : World) (hv : (-9223372036854775808 ≤ vn ∧ vn ≤ 9223372036854775807) ∧ vb < 18446744073709551616 ∧ vs.size ≤ maxLen) (hu : (-9223372036854775808 ≤ un ∧ un ≤ 9223372036854775807) ∧ ub < 18446744073709551616 ∧ us.size ≤ maxLen) :
    Calls Try.prog 9 #[(.agg #[.int .i64 vk, .int .i64 vn, .int .u64 (vb : Int), .string vs]), (.agg #[.int .i64 uk, .int .i64 un, .int .u64 (ub : Int), .string us])] w fun e w' => e = .returned (.bool true) ∧ Below w.heap.size w w' := by
  obtain ⟨⟨v0, v1⟩, v2, v3⟩ := hv
  unfold maxLen at v3
  obtain ⟨⟨u0, u1⟩, u2, u3⟩ := hu
  unfold maxLen at u3
  obtain ⟨LZ, VZ, UZ⟩ := boxes2 w vk vn vb vs uk un ub us
  have HL := hid LZ
  by_cases z1 : vs.size ≤ 500
  · have z1' : ¬ (500 : Int) < (vs.size : Int) := by omega
    by_cases z2 : us.size ≤ 500
    · have z2' : ¬ (500 : Int) < (us.size : Int) := by omega
      clear LZ VZ UZ HL
      have q9 : (FloatKind.f64.format.order 0 0 == some .eq) = true := (Va.order_self 0).trans (by decide +kernel)
      have e9 : (bstr []).toList.isEmpty = true := by rw [ByteArray.toList_eq]; rfl
      by_cases hk : vk = 0 ∨ vk = 3 ∨ vk = 1 ∨ (vk ≠ 0 ∧ vk ≠ 3 ∧ vk ≠ 1)
      · rcases hk with rfl | rfl | rfl | hk
        · have ho : Va.right 0 1 vb vs = false := odd_no (by omega)
          have c1 := hid (fun W => right_any 0 1 vb vs (by unfold maxLen; omega) W)
          have c2 := hid (fun W => show_any 0 1 vb vs (by unfold maxLen; omega) (by omega) (by omega) (by omega) W)
          have c3 := hid (fun W => compare_any ⟨0, 1, vb, vs⟩ ⟨uk, un, ub, us⟩ (by show vs.size ≤ _; unfold maxLen; omega) (by show us.size ≤ _; unfold maxLen; omega) W)
          have c4 := hid (fun W => compare_any ⟨uk, un, ub, us⟩ ⟨0, 1, vb, vs⟩ (by show us.size ≤ _; unfold maxLen; omega) (by show vs.size ≤ _; unfold maxLen; omega) W)
          have c5 := hid (fun W => same_any ⟨0, 1, vb, vs⟩ ⟨0, 1, vb, vs⟩ (by show vs.size ≤ _; unfold maxLen; omega) W)
          have c6 := hid (fun W => truth_any 0 1 vb vs (by unfold maxLen; omega) W)
          have c7 := hid (fun W => asfloat_odd 0 1 vb vs (by unfold maxLen; omega) ho W)
          rw [ho] at c1
          rw [Vl.txt_odd ho] at c2
          rw [cmp_odd1 (x := ⟨0, 1, vb, vs⟩) ho] at c3
          rw [cmp_odd2 (y := ⟨0, 1, vb, vs⟩) ho] at c4
          rw [show Cd.V.right ⟨0, 1, vb, vs⟩ = false from ho, Bool.and_false] at c5
          rw [show Vl.tru 0 1 vb vs = -1 from if_neg (fun h => by rw [ho] at h; exact absurd h.2 (by decide))] at c6
          unfold vv at c1 c2 c3 c4 c5 c6 c7
          obtain ⟨L0, _, U0, O0⟩ := boxes3 w 0 vn vb vs uk un ub us 0 1 vb vs
          have L := hid L0
          have U := hid U0
          have O := hid O0
          clear L0 U0 O0 ho
          go_enter Try.func9, Try.ntmps9
          go_wp2_with fail
          refine (c1.out _).mono ?_; rintro e w1 ⟨rfl, b1⟩
          have O1 := hid (O.out.keep b1)
          have U1 := hid (U.out.keep b1)
          have L1 := hid (hnext L.out b1)
          clear b1
          obtain ⟨Oc0_1, Oc1_1, Oc2_1, Oc3_1, Of0_1, Of1_1, Of2_1, Of3_1, Ol_1⟩ := O1.out.cells
          obtain ⟨Uc0_1, Uc1_1, Uc2_1, Uc3_1, Uf0_1, Uf1_1, Uf2_1, Uf3_1, Ul_1⟩ := U1.out.cells
          go_wp2_with fail
          refine (c2.out _).mono ?_; rintro e w2 ⟨rfl, b2⟩
          clear Oc0_1 Oc1_1 Oc2_1 Oc3_1 Of0_1 Of1_1 Of2_1 Of3_1 Ol_1 Uc0_1 Uc1_1 Uc2_1 Uc3_1 Uf0_1 Uf1_1 Uf2_1 Uf3_1 Ul_1
          have O2 := hid (O1.out.keep b2)
          have U2 := hid (U1.out.keep b2)
          have L2 := hid (hnext L1.out b2)
          clear b2
          obtain ⟨Oc0_2, Oc1_2, Oc2_2, Oc3_2, Of0_2, Of1_2, Of2_2, Of3_2, Ol_2⟩ := O2.out.cells
          obtain ⟨Uc0_2, Uc1_2, Uc2_2, Uc3_2, Uf0_2, Uf1_2, Uf2_2, Uf3_2, Ul_2⟩ := U2.out.cells
          go_wp2_with fail
          refine (c3.out _).mono ?_; rintro e w3 ⟨rfl, b3⟩
          clear Oc0_2 Oc1_2 Oc2_2 Oc3_2 Of0_2 Of1_2 Of2_2 Of3_2 Ol_2 Uc0_2 Uc1_2 Uc2_2 Uc3_2 Uf0_2 Uf1_2 Uf2_2 Uf3_2 Ul_2
          have O3 := hid (O2.out.keep b3)
          have U3 := hid (U2.out.keep b3)
          have L3 := hid (hnext L2.out b3)
          clear b3
          obtain ⟨Oc0_3, Oc1_3, Oc2_3, Oc3_3, Of0_3, Of1_3, Of2_3, Of3_3, Ol_3⟩ := O3.out.cells
          obtain ⟨Uc0_3, Uc1_3, Uc2_3, Uc3_3, Uf0_3, Uf1_3, Uf2_3, Uf3_3, Ul_3⟩ := U3.out.cells
          go_wp2_with fail
          refine (c4.out _).mono ?_; rintro e w4 ⟨rfl, b4⟩
          clear Oc0_3 Oc1_3 Oc2_3 Oc3_3 Of0_3 Of1_3 Of2_3 Of3_3 Ol_3 Uc0_3 Uc1_3 Uc2_3 Uc3_3 Uf0_3 Uf1_3 Uf2_3 Uf3_3 Ul_3
          have O4 := hid (O3.out.keep b4)
          have U4 := hid (U3.out.keep b4)
          have L4 := hid (hnext L3.out b4)
          clear b4
          obtain ⟨Oc0_4, Oc1_4, Oc2_4, Oc3_4, Of0_4, Of1_4, Of2_4, Of3_4, Ol_4⟩ := O4.out.cells
          obtain ⟨Uc0_4, Uc1_4, Uc2_4, Uc3_4, Uf0_4, Uf1_4, Uf2_4, Uf3_4, Ul_4⟩ := U4.out.cells
          go_wp2_with fail
          refine (c5.out _).mono ?_; rintro e w5 ⟨rfl, b5⟩
          clear Oc0_4 Oc1_4 Oc2_4 Oc3_4 Of0_4 Of1_4 Of2_4 Of3_4 Ol_4 Uc0_4 Uc1_4 Uc2_4 Uc3_4 Uf0_4 Uf1_4 Uf2_4 Uf3_4 Ul_4
          have O5 := hid (O4.out.keep b5)
          have U5 := hid (U4.out.keep b5)
          have L5 := hid (hnext L4.out b5)
          clear b5
          obtain ⟨Oc0_5, Oc1_5, Oc2_5, Oc3_5, Of0_5, Of1_5, Of2_5, Of3_5, Ol_5⟩ := O5.out.cells
          obtain ⟨Uc0_5, Uc1_5, Uc2_5, Uc3_5, Uf0_5, Uf1_5, Uf2_5, Uf3_5, Ul_5⟩ := U5.out.cells
          go_wp2_with fail
          refine (c6.out _).mono ?_; rintro e w6 ⟨rfl, b6⟩
          clear Oc0_5 Oc1_5 Oc2_5 Oc3_5 Of0_5 Of1_5 Of2_5 Of3_5 Ol_5 Uc0_5 Uc1_5 Uc2_5 Uc3_5 Uf0_5 Uf1_5 Uf2_5 Uf3_5 Ul_5
          have O6 := hid (O5.out.keep b6)
          have U6 := hid (U5.out.keep b6)
          have L6 := hid (hnext L5.out b6)
          clear b6
          obtain ⟨Oc0_6, Oc1_6, Oc2_6, Oc3_6, Of0_6, Of1_6, Of2_6, Of3_6, Ol_6⟩ := O6.out.cells
          obtain ⟨Uc0_6, Uc1_6, Uc2_6, Uc3_6, Uf0_6, Uf1_6, Uf2_6, Uf3_6, Ul_6⟩ := U6.out.cells
          go_wp2_with fail
          refine (c7.out _).mono ?_; rintro e w7 ⟨rfl, b7⟩
          clear Oc0_6 Oc1_6 Oc2_6 Oc3_6 Of0_6 Of1_6 Of2_6 Of3_6 Ol_6 Uc0_6 Uc1_6 Uc2_6 Uc3_6 Uf0_6 Uf1_6 Uf2_6 Uf3_6 Ul_6
          have O7 := hid (O6.out.keep b7)
          have U7 := hid (U6.out.keep b7)
          have L7 := hid (hnext L6.out b7)
          clear b7
          obtain ⟨Oc0_7, Oc1_7, Oc2_7, Oc3_7, Of0_7, Of1_7, Of2_7, Of3_7, Ol_7⟩ := O7.out.cells
          obtain ⟨Uc0_7, Uc1_7, Uc2_7, Uc3_7, Uf0_7, Uf1_7, Uf2_7, Uf3_7, Ul_7⟩ := U7.out.cells
          go_wp2_with fail
          refine (known_any _).mono ?_; rintro e w8 ⟨rfl, b8⟩
          go_wp2
          go_ret
          exact ⟨rfl, hnext L7.out b8⟩
        · have ho : Va.right 3 1 vb vs = false := odd_no (by omega)
          have c1 := hid (fun W => right_any 3 1 vb vs (by unfold maxLen; omega) W)
          have c2 := hid (fun W => show_any 3 1 vb vs (by unfold maxLen; omega) (by omega) (by omega) (by omega) W)
          have c3 := hid (fun W => compare_any ⟨3, 1, vb, vs⟩ ⟨uk, un, ub, us⟩ (by show vs.size ≤ _; unfold maxLen; omega) (by show us.size ≤ _; unfold maxLen; omega) W)
          have c4 := hid (fun W => compare_any ⟨uk, un, ub, us⟩ ⟨3, 1, vb, vs⟩ (by show us.size ≤ _; unfold maxLen; omega) (by show vs.size ≤ _; unfold maxLen; omega) W)
          have c5 := hid (fun W => same_any ⟨3, 1, vb, vs⟩ ⟨3, 1, vb, vs⟩ (by show vs.size ≤ _; unfold maxLen; omega) W)
          have c6 := hid (fun W => truth_any 3 1 vb vs (by unfold maxLen; omega) W)
          have c7 := hid (fun W => asfloat_odd 3 1 vb vs (by unfold maxLen; omega) ho W)
          rw [ho] at c1
          rw [Vl.txt_odd ho] at c2
          rw [cmp_odd1 (x := ⟨3, 1, vb, vs⟩) ho] at c3
          rw [cmp_odd2 (y := ⟨3, 1, vb, vs⟩) ho] at c4
          rw [show Cd.V.right ⟨3, 1, vb, vs⟩ = false from ho, Bool.and_false] at c5
          rw [show Vl.tru 3 1 vb vs = -1 from if_neg (fun h => by rw [ho] at h; exact absurd h.2 (by decide))] at c6
          unfold vv at c1 c2 c3 c4 c5 c6 c7
          obtain ⟨L0, _, U0, O0⟩ := boxes3 w 3 vn vb vs uk un ub us 3 1 vb vs
          have L := hid L0
          have U := hid U0
          have O := hid O0
          clear L0 U0 O0 ho
          go_enter Try.func9, Try.ntmps9
          go_wp2_with fail
          refine (c1.out _).mono ?_; rintro e w1 ⟨rfl, b1⟩
          have O1 := hid (O.out.keep b1)
          have U1 := hid (U.out.keep b1)
          have L1 := hid (hnext L.out b1)
          clear b1
          obtain ⟨Oc0_1, Oc1_1, Oc2_1, Oc3_1, Of0_1, Of1_1, Of2_1, Of3_1, Ol_1⟩ := O1.out.cells
          obtain ⟨Uc0_1, Uc1_1, Uc2_1, Uc3_1, Uf0_1, Uf1_1, Uf2_1, Uf3_1, Ul_1⟩ := U1.out.cells
          go_wp2_with fail
          refine (c2.out _).mono ?_; rintro e w2 ⟨rfl, b2⟩
          clear Oc0_1 Oc1_1 Oc2_1 Oc3_1 Of0_1 Of1_1 Of2_1 Of3_1 Ol_1 Uc0_1 Uc1_1 Uc2_1 Uc3_1 Uf0_1 Uf1_1 Uf2_1 Uf3_1 Ul_1
          have O2 := hid (O1.out.keep b2)
          have U2 := hid (U1.out.keep b2)
          have L2 := hid (hnext L1.out b2)
          clear b2
          obtain ⟨Oc0_2, Oc1_2, Oc2_2, Oc3_2, Of0_2, Of1_2, Of2_2, Of3_2, Ol_2⟩ := O2.out.cells
          obtain ⟨Uc0_2, Uc1_2, Uc2_2, Uc3_2, Uf0_2, Uf1_2, Uf2_2, Uf3_2, Ul_2⟩ := U2.out.cells
          go_wp2_with fail
          refine (c3.out _).mono ?_; rintro e w3 ⟨rfl, b3⟩
          clear Oc0_2 Oc1_2 Oc2_2 Oc3_2 Of0_2 Of1_2 Of2_2 Of3_2 Ol_2 Uc0_2 Uc1_2 Uc2_2 Uc3_2 Uf0_2 Uf1_2 Uf2_2 Uf3_2 Ul_2
          have O3 := hid (O2.out.keep b3)
          have U3 := hid (U2.out.keep b3)
          have L3 := hid (hnext L2.out b3)
          clear b3
          obtain ⟨Oc0_3, Oc1_3, Oc2_3, Oc3_3, Of0_3, Of1_3, Of2_3, Of3_3, Ol_3⟩ := O3.out.cells
          obtain ⟨Uc0_3, Uc1_3, Uc2_3, Uc3_3, Uf0_3, Uf1_3, Uf2_3, Uf3_3, Ul_3⟩ := U3.out.cells
          go_wp2_with fail
          refine (c4.out _).mono ?_; rintro e w4 ⟨rfl, b4⟩
          clear Oc0_3 Oc1_3 Oc2_3 Oc3_3 Of0_3 Of1_3 Of2_3 Of3_3 Ol_3 Uc0_3 Uc1_3 Uc2_3 Uc3_3 Uf0_3 Uf1_3 Uf2_3 Uf3_3 Ul_3
          have O4 := hid (O3.out.keep b4)
          have U4 := hid (U3.out.keep b4)
          have L4 := hid (hnext L3.out b4)
          clear b4
          obtain ⟨Oc0_4, Oc1_4, Oc2_4, Oc3_4, Of0_4, Of1_4, Of2_4, Of3_4, Ol_4⟩ := O4.out.cells
          obtain ⟨Uc0_4, Uc1_4, Uc2_4, Uc3_4, Uf0_4, Uf1_4, Uf2_4, Uf3_4, Ul_4⟩ := U4.out.cells
          go_wp2_with fail
          refine (c5.out _).mono ?_; rintro e w5 ⟨rfl, b5⟩
          clear Oc0_4 Oc1_4 Oc2_4 Oc3_4 Of0_4 Of1_4 Of2_4 Of3_4 Ol_4 Uc0_4 Uc1_4 Uc2_4 Uc3_4 Uf0_4 Uf1_4 Uf2_4 Uf3_4 Ul_4
          have O5 := hid (O4.out.keep b5)
          have U5 := hid (U4.out.keep b5)
          have L5 := hid (hnext L4.out b5)
          clear b5
          obtain ⟨Oc0_5, Oc1_5, Oc2_5, Oc3_5, Of0_5, Of1_5, Of2_5, Of3_5, Ol_5⟩ := O5.out.cells
          obtain ⟨Uc0_5, Uc1_5, Uc2_5, Uc3_5, Uf0_5, Uf1_5, Uf2_5, Uf3_5, Ul_5⟩ := U5.out.cells
          go_wp2_with fail
          refine (c6.out _).mono ?_; rintro e w6 ⟨rfl, b6⟩
          clear Oc0_5 Oc1_5 Oc2_5 Oc3_5 Of0_5 Of1_5 Of2_5 Of3_5 Ol_5 Uc0_5 Uc1_5 Uc2_5 Uc3_5 Uf0_5 Uf1_5 Uf2_5 Uf3_5 Ul_5
          have O6 := hid (O5.out.keep b6)
          have U6 := hid (U5.out.keep b6)
          have L6 := hid (hnext L5.out b6)
          clear b6
          obtain ⟨Oc0_6, Oc1_6, Oc2_6, Oc3_6, Of0_6, Of1_6, Of2_6, Of3_6, Ol_6⟩ := O6.out.cells
          obtain ⟨Uc0_6, Uc1_6, Uc2_6, Uc3_6, Uf0_6, Uf1_6, Uf2_6, Uf3_6, Ul_6⟩ := U6.out.cells
          go_wp2_with fail
          refine (c7.out _).mono ?_; rintro e w7 ⟨rfl, b7⟩
          clear Oc0_6 Oc1_6 Oc2_6 Oc3_6 Of0_6 Of1_6 Of2_6 Of3_6 Ol_6 Uc0_6 Uc1_6 Uc2_6 Uc3_6 Uf0_6 Uf1_6 Uf2_6 Uf3_6 Ul_6
          have O7 := hid (O6.out.keep b7)
          have U7 := hid (U6.out.keep b7)
          have L7 := hid (hnext L6.out b7)
          clear b7
          obtain ⟨Oc0_7, Oc1_7, Oc2_7, Oc3_7, Of0_7, Of1_7, Of2_7, Of3_7, Ol_7⟩ := O7.out.cells
          obtain ⟨Uc0_7, Uc1_7, Uc2_7, Uc3_7, Uf0_7, Uf1_7, Uf2_7, Uf3_7, Ul_7⟩ := U7.out.cells
          go_wp2_with fail
          refine (known_any _).mono ?_; rintro e w8 ⟨rfl, b8⟩
          go_wp2
          go_ret
          exact ⟨rfl, hnext L7.out b8⟩
        · have ho : Va.right 1 2 vb vs = false := odd_no (by omega)
          have c1 := hid (fun W => right_any 1 2 vb vs (by unfold maxLen; omega) W)
          have c2 := hid (fun W => show_any 1 2 vb vs (by unfold maxLen; omega) (by omega) (by omega) (by omega) W)
          have c3 := hid (fun W => compare_any ⟨1, 2, vb, vs⟩ ⟨uk, un, ub, us⟩ (by show vs.size ≤ _; unfold maxLen; omega) (by show us.size ≤ _; unfold maxLen; omega) W)
          have c4 := hid (fun W => compare_any ⟨uk, un, ub, us⟩ ⟨1, 2, vb, vs⟩ (by show us.size ≤ _; unfold maxLen; omega) (by show vs.size ≤ _; unfold maxLen; omega) W)
          have c5 := hid (fun W => same_any ⟨1, 2, vb, vs⟩ ⟨1, 2, vb, vs⟩ (by show vs.size ≤ _; unfold maxLen; omega) W)
          have c6 := hid (fun W => truth_any 1 2 vb vs (by unfold maxLen; omega) W)
          have c7 := hid (fun W => asfloat_odd 1 2 vb vs (by unfold maxLen; omega) ho W)
          rw [ho] at c1
          rw [Vl.txt_odd ho] at c2
          rw [cmp_odd1 (x := ⟨1, 2, vb, vs⟩) ho] at c3
          rw [cmp_odd2 (y := ⟨1, 2, vb, vs⟩) ho] at c4
          rw [show Cd.V.right ⟨1, 2, vb, vs⟩ = false from ho, Bool.and_false] at c5
          rw [show Vl.tru 1 2 vb vs = -1 from if_neg (fun h => by rw [ho] at h; exact absurd h.2 (by decide))] at c6
          unfold vv at c1 c2 c3 c4 c5 c6 c7
          obtain ⟨L0, _, U0, O0⟩ := boxes3 w 1 vn vb vs uk un ub us 1 2 vb vs
          have L := hid L0
          have U := hid U0
          have O := hid O0
          clear L0 U0 O0 ho
          go_enter Try.func9, Try.ntmps9
          go_wp2_with fail
          refine (c1.out _).mono ?_; rintro e w1 ⟨rfl, b1⟩
          have O1 := hid (O.out.keep b1)
          have U1 := hid (U.out.keep b1)
          have L1 := hid (hnext L.out b1)
          clear b1
          obtain ⟨Oc0_1, Oc1_1, Oc2_1, Oc3_1, Of0_1, Of1_1, Of2_1, Of3_1, Ol_1⟩ := O1.out.cells
          obtain ⟨Uc0_1, Uc1_1, Uc2_1, Uc3_1, Uf0_1, Uf1_1, Uf2_1, Uf3_1, Ul_1⟩ := U1.out.cells
          go_wp2_with fail
          refine (c2.out _).mono ?_; rintro e w2 ⟨rfl, b2⟩
          clear Oc0_1 Oc1_1 Oc2_1 Oc3_1 Of0_1 Of1_1 Of2_1 Of3_1 Ol_1 Uc0_1 Uc1_1 Uc2_1 Uc3_1 Uf0_1 Uf1_1 Uf2_1 Uf3_1 Ul_1
          have O2 := hid (O1.out.keep b2)
          have U2 := hid (U1.out.keep b2)
          have L2 := hid (hnext L1.out b2)
          clear b2
          obtain ⟨Oc0_2, Oc1_2, Oc2_2, Oc3_2, Of0_2, Of1_2, Of2_2, Of3_2, Ol_2⟩ := O2.out.cells
          obtain ⟨Uc0_2, Uc1_2, Uc2_2, Uc3_2, Uf0_2, Uf1_2, Uf2_2, Uf3_2, Ul_2⟩ := U2.out.cells
          go_wp2_with fail
          refine (c3.out _).mono ?_; rintro e w3 ⟨rfl, b3⟩
          clear Oc0_2 Oc1_2 Oc2_2 Oc3_2 Of0_2 Of1_2 Of2_2 Of3_2 Ol_2 Uc0_2 Uc1_2 Uc2_2 Uc3_2 Uf0_2 Uf1_2 Uf2_2 Uf3_2 Ul_2
          have O3 := hid (O2.out.keep b3)
          have U3 := hid (U2.out.keep b3)
          have L3 := hid (hnext L2.out b3)
          clear b3
          obtain ⟨Oc0_3, Oc1_3, Oc2_3, Oc3_3, Of0_3, Of1_3, Of2_3, Of3_3, Ol_3⟩ := O3.out.cells
          obtain ⟨Uc0_3, Uc1_3, Uc2_3, Uc3_3, Uf0_3, Uf1_3, Uf2_3, Uf3_3, Ul_3⟩ := U3.out.cells
          go_wp2_with fail
          refine (c4.out _).mono ?_; rintro e w4 ⟨rfl, b4⟩
          clear Oc0_3 Oc1_3 Oc2_3 Oc3_3 Of0_3 Of1_3 Of2_3 Of3_3 Ol_3 Uc0_3 Uc1_3 Uc2_3 Uc3_3 Uf0_3 Uf1_3 Uf2_3 Uf3_3 Ul_3
          have O4 := hid (O3.out.keep b4)
          have U4 := hid (U3.out.keep b4)
          have L4 := hid (hnext L3.out b4)
          clear b4
          obtain ⟨Oc0_4, Oc1_4, Oc2_4, Oc3_4, Of0_4, Of1_4, Of2_4, Of3_4, Ol_4⟩ := O4.out.cells
          obtain ⟨Uc0_4, Uc1_4, Uc2_4, Uc3_4, Uf0_4, Uf1_4, Uf2_4, Uf3_4, Ul_4⟩ := U4.out.cells
          go_wp2_with fail
          refine (c5.out _).mono ?_; rintro e w5 ⟨rfl, b5⟩
          clear Oc0_4 Oc1_4 Oc2_4 Oc3_4 Of0_4 Of1_4 Of2_4 Of3_4 Ol_4 Uc0_4 Uc1_4 Uc2_4 Uc3_4 Uf0_4 Uf1_4 Uf2_4 Uf3_4 Ul_4
          have O5 := hid (O4.out.keep b5)
          have U5 := hid (U4.out.keep b5)
          have L5 := hid (hnext L4.out b5)
          clear b5
          obtain ⟨Oc0_5, Oc1_5, Oc2_5, Oc3_5, Of0_5, Of1_5, Of2_5, Of3_5, Ol_5⟩ := O5.out.cells
          obtain ⟨Uc0_5, Uc1_5, Uc2_5, Uc3_5, Uf0_5, Uf1_5, Uf2_5, Uf3_5, Ul_5⟩ := U5.out.cells
          go_wp2_with fail
          refine (c6.out _).mono ?_; rintro e w6 ⟨rfl, b6⟩
          clear Oc0_5 Oc1_5 Oc2_5 Oc3_5 Of0_5 Of1_5 Of2_5 Of3_5 Ol_5 Uc0_5 Uc1_5 Uc2_5 Uc3_5 Uf0_5 Uf1_5 Uf2_5 Uf3_5 Ul_5
          have O6 := hid (O5.out.keep b6)
          have U6 := hid (U5.out.keep b6)
          have L6 := hid (hnext L5.out b6)
          clear b6
          obtain ⟨Oc0_6, Oc1_6, Oc2_6, Oc3_6, Of0_6, Of1_6, Of2_6, Of3_6, Ol_6⟩ := O6.out.cells
          obtain ⟨Uc0_6, Uc1_6, Uc2_6, Uc3_6, Uf0_6, Uf1_6, Uf2_6, Uf3_6, Ul_6⟩ := U6.out.cells
          go_wp2_with fail
          refine (c7.out _).mono ?_; rintro e w7 ⟨rfl, b7⟩
          clear Oc0_6 Oc1_6 Oc2_6 Oc3_6 Of0_6 Of1_6 Of2_6 Of3_6 Ol_6 Uc0_6 Uc1_6 Uc2_6 Uc3_6 Uf0_6 Uf1_6 Uf2_6 Uf3_6 Ul_6
          have O7 := hid (O6.out.keep b7)
          have U7 := hid (U6.out.keep b7)
          have L7 := hid (hnext L6.out b7)
          clear b7
          obtain ⟨Oc0_7, Oc1_7, Oc2_7, Oc3_7, Of0_7, Of1_7, Of2_7, Of3_7, Ol_7⟩ := O7.out.cells
          obtain ⟨Uc0_7, Uc1_7, Uc2_7, Uc3_7, Uf0_7, Uf1_7, Uf2_7, Uf3_7, Ul_7⟩ := U7.out.cells
          go_wp2_with fail
          refine (known_any _).mono ?_; rintro e w8 ⟨rfl, b8⟩
          go_wp2
          go_ret
          exact ⟨rfl, hnext L7.out b8⟩
        · obtain ⟨k0, k3, k1⟩ := hk
          have e0 : (vk == 0) = false := by rw [beq_eq_false_iff_ne]; exact k0
          have e3 : (vk == 3) = false := by rw [beq_eq_false_iff_ne]; exact k3
          have e1 : (vk == 1) = false := by rw [beq_eq_false_iff_ne]; exact k1
          have ho : Va.right vk vn 1 vs = false := odd_no (by omega)
          have c1 := hid (fun W => right_any vk vn 1 vs (by unfold maxLen; omega) W)
          have c2 := hid (fun W => show_any vk vn 1 vs (by unfold maxLen; omega) (by omega) (by omega) (by omega) W)
          have c3 := hid (fun W => compare_any ⟨vk, vn, 1, vs⟩ ⟨uk, un, ub, us⟩ (by show vs.size ≤ _; unfold maxLen; omega) (by show us.size ≤ _; unfold maxLen; omega) W)
          have c4 := hid (fun W => compare_any ⟨uk, un, ub, us⟩ ⟨vk, vn, 1, vs⟩ (by show us.size ≤ _; unfold maxLen; omega) (by show vs.size ≤ _; unfold maxLen; omega) W)
          have c5 := hid (fun W => same_any ⟨vk, vn, 1, vs⟩ ⟨vk, vn, 1, vs⟩ (by show vs.size ≤ _; unfold maxLen; omega) W)
          have c6 := hid (fun W => truth_any vk vn 1 vs (by unfold maxLen; omega) W)
          have c7 := hid (fun W => asfloat_odd vk vn 1 vs (by unfold maxLen; omega) ho W)
          rw [ho] at c1
          rw [Vl.txt_odd ho] at c2
          rw [cmp_odd1 (x := ⟨vk, vn, 1, vs⟩) ho] at c3
          rw [cmp_odd2 (y := ⟨vk, vn, 1, vs⟩) ho] at c4
          rw [show Cd.V.right ⟨vk, vn, 1, vs⟩ = false from ho, Bool.and_false] at c5
          rw [show Vl.tru vk vn 1 vs = -1 from if_neg (fun h => by rw [ho] at h; exact absurd h.2 (by decide))] at c6
          unfold vv at c1 c2 c3 c4 c5 c6 c7
          obtain ⟨L0, _, U0, O0⟩ := boxes3 w vk vn vb vs uk un ub us vk vn 1 vs
          have L := hid L0
          have U := hid U0
          have O := hid O0
          clear L0 U0 O0 ho
          go_enter Try.func9, Try.ntmps9
          go_wp2_with fail
          refine (c1.out _).mono ?_; rintro e w1 ⟨rfl, b1⟩
          have O1 := hid (O.out.keep b1)
          have U1 := hid (U.out.keep b1)
          have L1 := hid (hnext L.out b1)
          clear b1
          obtain ⟨Oc0_1, Oc1_1, Oc2_1, Oc3_1, Of0_1, Of1_1, Of2_1, Of3_1, Ol_1⟩ := O1.out.cells
          obtain ⟨Uc0_1, Uc1_1, Uc2_1, Uc3_1, Uf0_1, Uf1_1, Uf2_1, Uf3_1, Ul_1⟩ := U1.out.cells
          go_wp2_with fail
          refine (c2.out _).mono ?_; rintro e w2 ⟨rfl, b2⟩
          clear Oc0_1 Oc1_1 Oc2_1 Oc3_1 Of0_1 Of1_1 Of2_1 Of3_1 Ol_1 Uc0_1 Uc1_1 Uc2_1 Uc3_1 Uf0_1 Uf1_1 Uf2_1 Uf3_1 Ul_1
          have O2 := hid (O1.out.keep b2)
          have U2 := hid (U1.out.keep b2)
          have L2 := hid (hnext L1.out b2)
          clear b2
          obtain ⟨Oc0_2, Oc1_2, Oc2_2, Oc3_2, Of0_2, Of1_2, Of2_2, Of3_2, Ol_2⟩ := O2.out.cells
          obtain ⟨Uc0_2, Uc1_2, Uc2_2, Uc3_2, Uf0_2, Uf1_2, Uf2_2, Uf3_2, Ul_2⟩ := U2.out.cells
          go_wp2_with fail
          refine (c3.out _).mono ?_; rintro e w3 ⟨rfl, b3⟩
          clear Oc0_2 Oc1_2 Oc2_2 Oc3_2 Of0_2 Of1_2 Of2_2 Of3_2 Ol_2 Uc0_2 Uc1_2 Uc2_2 Uc3_2 Uf0_2 Uf1_2 Uf2_2 Uf3_2 Ul_2
          have O3 := hid (O2.out.keep b3)
          have U3 := hid (U2.out.keep b3)
          have L3 := hid (hnext L2.out b3)
          clear b3
          obtain ⟨Oc0_3, Oc1_3, Oc2_3, Oc3_3, Of0_3, Of1_3, Of2_3, Of3_3, Ol_3⟩ := O3.out.cells
          obtain ⟨Uc0_3, Uc1_3, Uc2_3, Uc3_3, Uf0_3, Uf1_3, Uf2_3, Uf3_3, Ul_3⟩ := U3.out.cells
          go_wp2_with fail
          refine (c4.out _).mono ?_; rintro e w4 ⟨rfl, b4⟩
          clear Oc0_3 Oc1_3 Oc2_3 Oc3_3 Of0_3 Of1_3 Of2_3 Of3_3 Ol_3 Uc0_3 Uc1_3 Uc2_3 Uc3_3 Uf0_3 Uf1_3 Uf2_3 Uf3_3 Ul_3
          have O4 := hid (O3.out.keep b4)
          have U4 := hid (U3.out.keep b4)
          have L4 := hid (hnext L3.out b4)
          clear b4
          obtain ⟨Oc0_4, Oc1_4, Oc2_4, Oc3_4, Of0_4, Of1_4, Of2_4, Of3_4, Ol_4⟩ := O4.out.cells
          obtain ⟨Uc0_4, Uc1_4, Uc2_4, Uc3_4, Uf0_4, Uf1_4, Uf2_4, Uf3_4, Ul_4⟩ := U4.out.cells
          go_wp2_with fail
          refine (c5.out _).mono ?_; rintro e w5 ⟨rfl, b5⟩
          clear Oc0_4 Oc1_4 Oc2_4 Oc3_4 Of0_4 Of1_4 Of2_4 Of3_4 Ol_4 Uc0_4 Uc1_4 Uc2_4 Uc3_4 Uf0_4 Uf1_4 Uf2_4 Uf3_4 Ul_4
          have O5 := hid (O4.out.keep b5)
          have U5 := hid (U4.out.keep b5)
          have L5 := hid (hnext L4.out b5)
          clear b5
          obtain ⟨Oc0_5, Oc1_5, Oc2_5, Oc3_5, Of0_5, Of1_5, Of2_5, Of3_5, Ol_5⟩ := O5.out.cells
          obtain ⟨Uc0_5, Uc1_5, Uc2_5, Uc3_5, Uf0_5, Uf1_5, Uf2_5, Uf3_5, Ul_5⟩ := U5.out.cells
          go_wp2_with fail
          refine (c6.out _).mono ?_; rintro e w6 ⟨rfl, b6⟩
          clear Oc0_5 Oc1_5 Oc2_5 Oc3_5 Of0_5 Of1_5 Of2_5 Of3_5 Ol_5 Uc0_5 Uc1_5 Uc2_5 Uc3_5 Uf0_5 Uf1_5 Uf2_5 Uf3_5 Ul_5
          have O6 := hid (O5.out.keep b6)
          have U6 := hid (U5.out.keep b6)
          have L6 := hid (hnext L5.out b6)
          clear b6
          obtain ⟨Oc0_6, Oc1_6, Oc2_6, Oc3_6, Of0_6, Of1_6, Of2_6, Of3_6, Ol_6⟩ := O6.out.cells
          obtain ⟨Uc0_6, Uc1_6, Uc2_6, Uc3_6, Uf0_6, Uf1_6, Uf2_6, Uf3_6, Ul_6⟩ := U6.out.cells
          go_wp2_with fail
          refine (c7.out _).mono ?_; rintro e w7 ⟨rfl, b7⟩
          clear Oc0_6 Oc1_6 Oc2_6 Oc3_6 Of0_6 Of1_6 Of2_6 Of3_6 Ol_6 Uc0_6 Uc1_6 Uc2_6 Uc3_6 Uf0_6 Uf1_6 Uf2_6 Uf3_6 Ul_6
          have O7 := hid (O6.out.keep b7)
          have U7 := hid (U6.out.keep b7)
          have L7 := hid (hnext L6.out b7)
          clear b7
          obtain ⟨Oc0_7, Oc1_7, Oc2_7, Oc3_7, Of0_7, Of1_7, Of2_7, Of3_7, Ol_7⟩ := O7.out.cells
          obtain ⟨Uc0_7, Uc1_7, Uc2_7, Uc3_7, Uf0_7, Uf1_7, Uf2_7, Uf3_7, Ul_7⟩ := U7.out.cells
          go_wp2_with fail
          refine (known_any _).mono ?_; rintro e w8 ⟨rfl, b8⟩
          go_wp2
          go_ret
          exact ⟨rfl, hnext L7.out b8⟩
      · exact absurd (by omega) hk
    · have z2' : (500 : Int) < (us.size : Int) := by omega
      clear LZ VZ UZ
      go_enter Try.func9, Try.ntmps9
      go_wp2_with fail
      refine (known_any _).mono ?_; rintro e w1 ⟨rfl, b1⟩
      go_wp2
      go_ret
      exact ⟨rfl, hnext HL.out b1⟩
  · have z1' : (500 : Int) < (vs.size : Int) := by omega
    clear LZ VZ UZ
    go_enter Try.func9, Try.ntmps9
    go_wp2_with fail
    refine (known_any _).mono ?_; rintro e w1 ⟨rfl, b1⟩
    go_wp2
    go_ret
    exact ⟨rfl, hnext HL.out b1⟩
end Go.Proofs.Ytgdegoacjobpdaa
