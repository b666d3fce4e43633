/-
  ValueOrders answers true at any three values. No condition.
-/
import Derived.Test.YtgdegoacjobpdaaVq
namespace Go.Proofs.Ytgdegoacjobpdaa
open Go.RowKit

set_option maxRecDepth 100000 in
set_option maxHeartbeats 12800000 in
theorem valueOrders_walk (uk un : Int) (ub : Nat) (us : ByteArray) (vk vn : Int) (vb : Nat) (vs : ByteArray) (mk mn : Int) (mb : Nat) (ms : ByteArray) (w : World) (hu : (-9223372036854775808 ≤ un ∧ un ≤ 9223372036854775807) ∧ ub < 18446744073709551616 ∧ us.size ≤ maxLen) (hv : (-9223372036854775808 ≤ vn ∧ vn ≤ 9223372036854775807) ∧ vb < 18446744073709551616 ∧ vs.size ≤ maxLen) (hm : (-9223372036854775808 ≤ mn ∧ mn ≤ 9223372036854775807) ∧ mb < 18446744073709551616 ∧ ms.size ≤ maxLen) :
    Calls Try.prog 5 #[(.agg #[.int .i64 uk, .int .i64 un, .int .u64 (ub : Int), .string us]), (.agg #[.int .i64 vk, .int .i64 vn, .int .u64 (vb : Int), .string vs]), (.agg #[.int .i64 mk, .int .i64 mn, .int .u64 (mb : Int), .string ms])] w fun e w' => e = .returned (.bool true) ∧ Below w.heap.size w w' := by
  obtain ⟨⟨u0, u1⟩, u2, u3⟩ := hu
  unfold maxLen at u3
  obtain ⟨⟨v0, v1⟩, v2, v3⟩ := hv
  unfold maxLen at v3
  obtain ⟨⟨m0, m1⟩, m2, m3⟩ := hm
  unfold maxLen at m3
  obtain ⟨LZ, AZ, BZ, CZ⟩ := boxes3 w uk un ub us vk vn vb vs mk mn mb ms
  have L := hid LZ
  have VA := hid AZ
  have VB := hid BZ
  have VC := hid CZ
  clear LZ AZ BZ CZ
  have ru := hid (fun W => rightR_any uk un ub us (by unfold maxLen; omega) u2 W)
  unfold vv at ru
  have rv := hid (fun W => rightR_any vk vn vb vs (by unfold maxLen; omega) v2 W)
  unfold vv at rv
  have rm := hid (fun W => rightR_any mk mn mb ms (by unfold maxLen; omega) m2 W)
  unfold vv at rm
  by_cases yu : 500 < us.size
  · have yu' : (500 : Int) < (us.size : Int) := by omega
    go_enter Try.func5, Try.ntmps5
    go_wp2_with fail
    refine (known_any _).mono ?_; rintro e w1 ⟨rfl, b1⟩
    go_wp2
    go_ret
    exact ⟨rfl, hnext L.out b1⟩
  · have yu' : ¬ (500 : Int) < (us.size : Int) := by omega
    by_cases yv : 500 < vs.size
    · have yv' : (500 : Int) < (vs.size : Int) := by omega
      go_enter Try.func5, Try.ntmps5
      go_wp2_with fail
      refine (known_any _).mono ?_; rintro e w1 ⟨rfl, b1⟩
      go_wp2
      go_ret
      exact ⟨rfl, hnext L.out b1⟩
    · have yv' : ¬ (500 : Int) < (vs.size : Int) := by omega
      by_cases ym : 500 < ms.size
      · have ym' : (500 : Int) < (ms.size : Int) := by omega
        go_enter Try.func5, Try.ntmps5
        go_wp2_with fail
        refine (known_any _).mono ?_; rintro e w1 ⟨rfl, b1⟩
        go_wp2
        go_ret
        exact ⟨rfl, hnext L.out b1⟩
      · have ym' : ¬ (500 : Int) < (ms.size : Int) := by omega
        cases hu : Va.right uk un ub us with
        | false =>
          rw [hu] at ru
          go_enter Try.func5, Try.ntmps5
          go_wp2_with fail
          refine (ru.out _).mono ?_; rintro e w1 ⟨rfl, b1⟩
          have A1 := hid (VA.out.keep b1)
          have B1 := hid (VB.out.keep b1)
          have C1 := hid (VC.out.keep b1)
          have L1 := hid (hnext L.out b1)
          clear b1
          obtain ⟨Ac0_1, Ac1_1, Ac2_1, Ac3_1, Af0_1, Af1_1, Af2_1, Af3_1, Al_1⟩ := A1.out.cells
          obtain ⟨Bc0_1, Bc1_1, Bc2_1, Bc3_1, Bf0_1, Bf1_1, Bf2_1, Bf3_1, Bl_1⟩ := B1.out.cells
          obtain ⟨Cc0_1, Cc1_1, Cc2_1, Cc3_1, Cf0_1, Cf1_1, Cf2_1, Cf3_1, Cl_1⟩ := C1.out.cells
          go_wp2_with fail
          refine (known_any _).mono ?_; rintro e w2 ⟨rfl, b2⟩
          go_wp2
          go_ret
          exact ⟨rfl, hnext L1.out b2⟩
        | true =>
          rw [hu] at ru
          cases hv : Va.right vk vn vb vs with
          | false =>
            rw [hv] at rv
            go_enter Try.func5, Try.ntmps5
            go_wp2_with fail
            refine (ru.out _).mono ?_; rintro e w1 ⟨rfl, b1⟩
            have A1 := hid (VA.out.keep b1)
            have B1 := hid (VB.out.keep b1)
            have C1 := hid (VC.out.keep b1)
            have L1 := hid (hnext L.out b1)
            clear b1
            obtain ⟨Ac0_1, Ac1_1, Ac2_1, Ac3_1, Af0_1, Af1_1, Af2_1, Af3_1, Al_1⟩ := A1.out.cells
            obtain ⟨Bc0_1, Bc1_1, Bc2_1, Bc3_1, Bf0_1, Bf1_1, Bf2_1, Bf3_1, Bl_1⟩ := B1.out.cells
            obtain ⟨Cc0_1, Cc1_1, Cc2_1, Cc3_1, Cf0_1, Cf1_1, Cf2_1, Cf3_1, Cl_1⟩ := C1.out.cells
            go_wp2_with fail
            refine (rv.out _).mono ?_; rintro e w2 ⟨rfl, b2⟩
            clear Ac0_1 Ac1_1 Ac2_1 Ac3_1 Af0_1 Af1_1 Af2_1 Af3_1 Al_1 Bc0_1 Bc1_1 Bc2_1 Bc3_1 Bf0_1 Bf1_1 Bf2_1 Bf3_1 Bl_1 Cc0_1 Cc1_1 Cc2_1 Cc3_1 Cf0_1 Cf1_1 Cf2_1 Cf3_1 Cl_1
            have A2 := hid (A1.out.keep b2)
            have B2 := hid (B1.out.keep b2)
            have C2 := hid (C1.out.keep b2)
            have L2 := hid (hnext L1.out b2)
            clear b2
            obtain ⟨Ac0_2, Ac1_2, Ac2_2, Ac3_2, Af0_2, Af1_2, Af2_2, Af3_2, Al_2⟩ := A2.out.cells
            obtain ⟨Bc0_2, Bc1_2, Bc2_2, Bc3_2, Bf0_2, Bf1_2, Bf2_2, Bf3_2, Bl_2⟩ := B2.out.cells
            obtain ⟨Cc0_2, Cc1_2, Cc2_2, Cc3_2, Cf0_2, Cf1_2, Cf2_2, Cf3_2, Cl_2⟩ := C2.out.cells
            go_wp2_with fail
            refine (known_any _).mono ?_; rintro e w3 ⟨rfl, b3⟩
            go_wp2
            go_ret
            exact ⟨rfl, hnext L2.out b3⟩
          | true =>
            rw [hv] at rv
            cases hm : Va.right mk mn mb ms with
            | false =>
              rw [hm] at rm
              go_enter Try.func5, Try.ntmps5
              go_wp2_with fail
              refine (ru.out _).mono ?_; rintro e w1 ⟨rfl, b1⟩
              have A1 := hid (VA.out.keep b1)
              have B1 := hid (VB.out.keep b1)
              have C1 := hid (VC.out.keep b1)
              have L1 := hid (hnext L.out b1)
              clear b1
              obtain ⟨Ac0_1, Ac1_1, Ac2_1, Ac3_1, Af0_1, Af1_1, Af2_1, Af3_1, Al_1⟩ := A1.out.cells
              obtain ⟨Bc0_1, Bc1_1, Bc2_1, Bc3_1, Bf0_1, Bf1_1, Bf2_1, Bf3_1, Bl_1⟩ := B1.out.cells
              obtain ⟨Cc0_1, Cc1_1, Cc2_1, Cc3_1, Cf0_1, Cf1_1, Cf2_1, Cf3_1, Cl_1⟩ := C1.out.cells
              go_wp2_with fail
              refine (rv.out _).mono ?_; rintro e w2 ⟨rfl, b2⟩
              clear Ac0_1 Ac1_1 Ac2_1 Ac3_1 Af0_1 Af1_1 Af2_1 Af3_1 Al_1 Bc0_1 Bc1_1 Bc2_1 Bc3_1 Bf0_1 Bf1_1 Bf2_1 Bf3_1 Bl_1 Cc0_1 Cc1_1 Cc2_1 Cc3_1 Cf0_1 Cf1_1 Cf2_1 Cf3_1 Cl_1
              have A2 := hid (A1.out.keep b2)
              have B2 := hid (B1.out.keep b2)
              have C2 := hid (C1.out.keep b2)
              have L2 := hid (hnext L1.out b2)
              clear b2
              obtain ⟨Ac0_2, Ac1_2, Ac2_2, Ac3_2, Af0_2, Af1_2, Af2_2, Af3_2, Al_2⟩ := A2.out.cells
              obtain ⟨Bc0_2, Bc1_2, Bc2_2, Bc3_2, Bf0_2, Bf1_2, Bf2_2, Bf3_2, Bl_2⟩ := B2.out.cells
              obtain ⟨Cc0_2, Cc1_2, Cc2_2, Cc3_2, Cf0_2, Cf1_2, Cf2_2, Cf3_2, Cl_2⟩ := C2.out.cells
              go_wp2_with fail
              refine (rm.out _).mono ?_; rintro e w3 ⟨rfl, b3⟩
              clear Ac0_2 Ac1_2 Ac2_2 Ac3_2 Af0_2 Af1_2 Af2_2 Af3_2 Al_2 Bc0_2 Bc1_2 Bc2_2 Bc3_2 Bf0_2 Bf1_2 Bf2_2 Bf3_2 Bl_2 Cc0_2 Cc1_2 Cc2_2 Cc3_2 Cf0_2 Cf1_2 Cf2_2 Cf3_2 Cl_2
              have A3 := hid (A2.out.keep b3)
              have B3 := hid (B2.out.keep b3)
              have C3 := hid (C2.out.keep b3)
              have L3 := hid (hnext L2.out b3)
              clear b3
              obtain ⟨Ac0_3, Ac1_3, Ac2_3, Ac3_3, Af0_3, Af1_3, Af2_3, Af3_3, Al_3⟩ := A3.out.cells
              obtain ⟨Bc0_3, Bc1_3, Bc2_3, Bc3_3, Bf0_3, Bf1_3, Bf2_3, Bf3_3, Bl_3⟩ := B3.out.cells
              obtain ⟨Cc0_3, Cc1_3, Cc2_3, Cc3_3, Cf0_3, Cf1_3, Cf2_3, Cf3_3, Cl_3⟩ := C3.out.cells
              go_wp2_with fail
              refine (known_any _).mono ?_; rintro e w4 ⟨rfl, b4⟩
              go_wp2
              go_ret
              exact ⟨rfl, hnext L3.out b4⟩
            | true =>
              rw [hm] at rm
              have fu : Ky.Fit ⟨uk, un, ub, us⟩ := ⟨hu, ⟨u0, u1⟩, u2⟩
              have fv : Ky.Fit ⟨vk, vn, vb, vs⟩ := ⟨hv, ⟨v0, v1⟩, v2⟩
              have fm : Ky.Fit ⟨mk, mn, mb, ms⟩ := ⟨hm, ⟨m0, m1⟩, m2⟩
              have cab := hid (fun W => compare_any ⟨uk, un, ub, us⟩ ⟨vk, vn, vb, vs⟩ (by show us.size ≤ _; unfold maxLen; omega) (by show vs.size ≤ _; unfold maxLen; omega) W)
              unfold vv at cab
              have cbc := hid (fun W => compare_any ⟨vk, vn, vb, vs⟩ ⟨mk, mn, mb, ms⟩ (by show vs.size ≤ _; unfold maxLen; omega) (by show ms.size ≤ _; unfold maxLen; omega) W)
              unfold vv at cbc
              have cac := hid (fun W => compare_any ⟨uk, un, ub, us⟩ ⟨mk, mn, mb, ms⟩ (by show us.size ≤ _; unfold maxLen; omega) (by show ms.size ≤ _; unfold maxLen; omega) W)
              unfold vv at cac
              have cba := hid (fun W => compare_any ⟨vk, vn, vb, vs⟩ ⟨uk, un, ub, us⟩ (by show vs.size ≤ _; unfold maxLen; omega) (by show us.size ≤ _; unfold maxLen; omega) W)
              unfold vv at cba
              have sab := hid (fun W => same_any ⟨uk, un, ub, us⟩ ⟨vk, vn, vb, vs⟩ (by show us.size ≤ _; unfold maxLen; omega) W)
              unfold vv at sab
              have ht := Ky.cmp_tri fu fv
              have hn := Ky.cmp_neg fv fu
              have hsm := Ky.cmp_same fu fv
              have htr := Ky.cmp_trans fu fv fm
              rw [show Cd.V.right ⟨uk, un, ub, us⟩ = true from hu, Bool.and_true, ← hsm] at sab
              rw [hn] at cba
              generalize Ky.cmp ⟨uk, un, ub, us⟩ ⟨vk, vn, vb, vs⟩ = x at *
              generalize Ky.cmp ⟨vk, vn, vb, vs⟩ ⟨mk, mn, mb, ms⟩ = y at *
              generalize Ky.cmp ⟨uk, un, ub, us⟩ ⟨mk, mn, mb, ms⟩ = z at *
              have HT := hid htr
              clear htr hn hsm hu hv hm fu fv fm
              rcases ht with rfl | rfl | rfl
              · rw [show decide ((-1 : Int) = 0) = false by decide] at sab
                rw [show -(-1 : Int) = 1 by decide] at cba
                by_cases hy : 0 < y
                · have hy' : decide ((0 : Int) < y) = true := decide_eq_true hy
                  clear HT
                  go_enter Try.func5, Try.ntmps5
                  go_wp2_with fail
                  refine (ru.out _).mono ?_; rintro e w1 ⟨rfl, b1⟩
                  have A1 := hid (VA.out.keep b1)
                  have B1 := hid (VB.out.keep b1)
                  have C1 := hid (VC.out.keep b1)
                  have L1 := hid (hnext L.out b1)
                  clear b1
                  obtain ⟨Ac0_1, Ac1_1, Ac2_1, Ac3_1, Af0_1, Af1_1, Af2_1, Af3_1, Al_1⟩ := A1.out.cells
                  obtain ⟨Bc0_1, Bc1_1, Bc2_1, Bc3_1, Bf0_1, Bf1_1, Bf2_1, Bf3_1, Bl_1⟩ := B1.out.cells
                  obtain ⟨Cc0_1, Cc1_1, Cc2_1, Cc3_1, Cf0_1, Cf1_1, Cf2_1, Cf3_1, Cl_1⟩ := C1.out.cells
                  go_wp2_with fail
                  refine (rv.out _).mono ?_; rintro e w2 ⟨rfl, b2⟩
                  clear Ac0_1 Ac1_1 Ac2_1 Ac3_1 Af0_1 Af1_1 Af2_1 Af3_1 Al_1 Bc0_1 Bc1_1 Bc2_1 Bc3_1 Bf0_1 Bf1_1 Bf2_1 Bf3_1 Bl_1 Cc0_1 Cc1_1 Cc2_1 Cc3_1 Cf0_1 Cf1_1 Cf2_1 Cf3_1 Cl_1
                  have A2 := hid (A1.out.keep b2)
                  have B2 := hid (B1.out.keep b2)
                  have C2 := hid (C1.out.keep b2)
                  have L2 := hid (hnext L1.out b2)
                  clear b2
                  obtain ⟨Ac0_2, Ac1_2, Ac2_2, Ac3_2, Af0_2, Af1_2, Af2_2, Af3_2, Al_2⟩ := A2.out.cells
                  obtain ⟨Bc0_2, Bc1_2, Bc2_2, Bc3_2, Bf0_2, Bf1_2, Bf2_2, Bf3_2, Bl_2⟩ := B2.out.cells
                  obtain ⟨Cc0_2, Cc1_2, Cc2_2, Cc3_2, Cf0_2, Cf1_2, Cf2_2, Cf3_2, Cl_2⟩ := C2.out.cells
                  go_wp2_with fail
                  refine (rm.out _).mono ?_; rintro e w3 ⟨rfl, b3⟩
                  clear Ac0_2 Ac1_2 Ac2_2 Ac3_2 Af0_2 Af1_2 Af2_2 Af3_2 Al_2 Bc0_2 Bc1_2 Bc2_2 Bc3_2 Bf0_2 Bf1_2 Bf2_2 Bf3_2 Bl_2 Cc0_2 Cc1_2 Cc2_2 Cc3_2 Cf0_2 Cf1_2 Cf2_2 Cf3_2 Cl_2
                  have A3 := hid (A2.out.keep b3)
                  have B3 := hid (B2.out.keep b3)
                  have C3 := hid (C2.out.keep b3)
                  have L3 := hid (hnext L2.out b3)
                  clear b3
                  obtain ⟨Ac0_3, Ac1_3, Ac2_3, Ac3_3, Af0_3, Af1_3, Af2_3, Af3_3, Al_3⟩ := A3.out.cells
                  obtain ⟨Bc0_3, Bc1_3, Bc2_3, Bc3_3, Bf0_3, Bf1_3, Bf2_3, Bf3_3, Bl_3⟩ := B3.out.cells
                  obtain ⟨Cc0_3, Cc1_3, Cc2_3, Cc3_3, Cf0_3, Cf1_3, Cf2_3, Cf3_3, Cl_3⟩ := C3.out.cells
                  go_wp2_with fail
                  refine (cab.out _).mono ?_; rintro e w4 ⟨rfl, b4⟩
                  clear Ac0_3 Ac1_3 Ac2_3 Ac3_3 Af0_3 Af1_3 Af2_3 Af3_3 Al_3 Bc0_3 Bc1_3 Bc2_3 Bc3_3 Bf0_3 Bf1_3 Bf2_3 Bf3_3 Bl_3 Cc0_3 Cc1_3 Cc2_3 Cc3_3 Cf0_3 Cf1_3 Cf2_3 Cf3_3 Cl_3
                  have A4 := hid (A3.out.keep b4)
                  have B4 := hid (B3.out.keep b4)
                  have C4 := hid (C3.out.keep b4)
                  have L4 := hid (hnext L3.out b4)
                  clear b4
                  obtain ⟨Ac0_4, Ac1_4, Ac2_4, Ac3_4, Af0_4, Af1_4, Af2_4, Af3_4, Al_4⟩ := A4.out.cells
                  obtain ⟨Bc0_4, Bc1_4, Bc2_4, Bc3_4, Bf0_4, Bf1_4, Bf2_4, Bf3_4, Bl_4⟩ := B4.out.cells
                  obtain ⟨Cc0_4, Cc1_4, Cc2_4, Cc3_4, Cf0_4, Cf1_4, Cf2_4, Cf3_4, Cl_4⟩ := C4.out.cells
                  go_wp2_with fail
                  refine (cbc.out _).mono ?_; rintro e w5 ⟨rfl, b5⟩
                  clear Ac0_4 Ac1_4 Ac2_4 Ac3_4 Af0_4 Af1_4 Af2_4 Af3_4 Al_4 Bc0_4 Bc1_4 Bc2_4 Bc3_4 Bf0_4 Bf1_4 Bf2_4 Bf3_4 Bl_4 Cc0_4 Cc1_4 Cc2_4 Cc3_4 Cf0_4 Cf1_4 Cf2_4 Cf3_4 Cl_4
                  have A5 := hid (A4.out.keep b5)
                  have B5 := hid (B4.out.keep b5)
                  have C5 := hid (C4.out.keep b5)
                  have L5 := hid (hnext L4.out b5)
                  clear b5
                  obtain ⟨Ac0_5, Ac1_5, Ac2_5, Ac3_5, Af0_5, Af1_5, Af2_5, Af3_5, Al_5⟩ := A5.out.cells
                  obtain ⟨Bc0_5, Bc1_5, Bc2_5, Bc3_5, Bf0_5, Bf1_5, Bf2_5, Bf3_5, Bl_5⟩ := B5.out.cells
                  obtain ⟨Cc0_5, Cc1_5, Cc2_5, Cc3_5, Cf0_5, Cf1_5, Cf2_5, Cf3_5, Cl_5⟩ := C5.out.cells
                  go_wp2_with fail
                  refine (cac.out _).mono ?_; rintro e w6 ⟨rfl, b6⟩
                  clear Ac0_5 Ac1_5 Ac2_5 Ac3_5 Af0_5 Af1_5 Af2_5 Af3_5 Al_5 Bc0_5 Bc1_5 Bc2_5 Bc3_5 Bf0_5 Bf1_5 Bf2_5 Bf3_5 Bl_5 Cc0_5 Cc1_5 Cc2_5 Cc3_5 Cf0_5 Cf1_5 Cf2_5 Cf3_5 Cl_5
                  have A6 := hid (A5.out.keep b6)
                  have B6 := hid (B5.out.keep b6)
                  have C6 := hid (C5.out.keep b6)
                  have L6 := hid (hnext L5.out b6)
                  clear b6
                  obtain ⟨Ac0_6, Ac1_6, Ac2_6, Ac3_6, Af0_6, Af1_6, Af2_6, Af3_6, Al_6⟩ := A6.out.cells
                  obtain ⟨Bc0_6, Bc1_6, Bc2_6, Bc3_6, Bf0_6, Bf1_6, Bf2_6, Bf3_6, Bl_6⟩ := B6.out.cells
                  obtain ⟨Cc0_6, Cc1_6, Cc2_6, Cc3_6, Cf0_6, Cf1_6, Cf2_6, Cf3_6, Cl_6⟩ := C6.out.cells
                  go_wp2_with fail
                  refine (cba.out _).mono ?_; rintro e w7 ⟨rfl, b7⟩
                  clear Ac0_6 Ac1_6 Ac2_6 Ac3_6 Af0_6 Af1_6 Af2_6 Af3_6 Al_6 Bc0_6 Bc1_6 Bc2_6 Bc3_6 Bf0_6 Bf1_6 Bf2_6 Bf3_6 Bl_6 Cc0_6 Cc1_6 Cc2_6 Cc3_6 Cf0_6 Cf1_6 Cf2_6 Cf3_6 Cl_6
                  have A7 := hid (A6.out.keep b7)
                  have B7 := hid (B6.out.keep b7)
                  have C7 := hid (C6.out.keep b7)
                  have L7 := hid (hnext L6.out b7)
                  clear b7
                  obtain ⟨Ac0_7, Ac1_7, Ac2_7, Ac3_7, Af0_7, Af1_7, Af2_7, Af3_7, Al_7⟩ := A7.out.cells
                  obtain ⟨Bc0_7, Bc1_7, Bc2_7, Bc3_7, Bf0_7, Bf1_7, Bf2_7, Bf3_7, Bl_7⟩ := B7.out.cells
                  obtain ⟨Cc0_7, Cc1_7, Cc2_7, Cc3_7, Cf0_7, Cf1_7, Cf2_7, Cf3_7, Cl_7⟩ := C7.out.cells
                  go_wp2_with fail
                  refine (sab.out _).mono ?_; rintro e w8 ⟨rfl, b8⟩
                  clear Ac0_7 Ac1_7 Ac2_7 Ac3_7 Af0_7 Af1_7 Af2_7 Af3_7 Al_7 Bc0_7 Bc1_7 Bc2_7 Bc3_7 Bf0_7 Bf1_7 Bf2_7 Bf3_7 Bl_7 Cc0_7 Cc1_7 Cc2_7 Cc3_7 Cf0_7 Cf1_7 Cf2_7 Cf3_7 Cl_7
                  have A8 := hid (A7.out.keep b8)
                  have B8 := hid (B7.out.keep b8)
                  have C8 := hid (C7.out.keep b8)
                  have L8 := hid (hnext L7.out b8)
                  clear b8
                  obtain ⟨Ac0_8, Ac1_8, Ac2_8, Ac3_8, Af0_8, Af1_8, Af2_8, Af3_8, Al_8⟩ := A8.out.cells
                  obtain ⟨Bc0_8, Bc1_8, Bc2_8, Bc3_8, Bf0_8, Bf1_8, Bf2_8, Bf3_8, Bl_8⟩ := B8.out.cells
                  obtain ⟨Cc0_8, Cc1_8, Cc2_8, Cc3_8, Cf0_8, Cf1_8, Cf2_8, Cf3_8, Cl_8⟩ := C8.out.cells
                  go_wp2_with fail
                  refine (known_any _).mono ?_; rintro e w9 ⟨rfl, b9⟩
                  go_wp2
                  go_ret
                  exact ⟨rfl, hnext L8.out b9⟩
                · have hy' : decide ((0 : Int) < y) = false := decide_eq_false hy
                  have hz1 : decide (z ≤ 0) = true := decide_eq_true (HT.out (by decide) (by omega)).1
                  have hz2 : decide (z < 0) = true := decide_eq_true ((HT.out (by decide) (by omega)).2 (by decide))
                  clear HT
                  go_enter Try.func5, Try.ntmps5
                  go_wp2_with fail
                  refine (ru.out _).mono ?_; rintro e w1 ⟨rfl, b1⟩
                  have A1 := hid (VA.out.keep b1)
                  have B1 := hid (VB.out.keep b1)
                  have C1 := hid (VC.out.keep b1)
                  have L1 := hid (hnext L.out b1)
                  clear b1
                  obtain ⟨Ac0_1, Ac1_1, Ac2_1, Ac3_1, Af0_1, Af1_1, Af2_1, Af3_1, Al_1⟩ := A1.out.cells
                  obtain ⟨Bc0_1, Bc1_1, Bc2_1, Bc3_1, Bf0_1, Bf1_1, Bf2_1, Bf3_1, Bl_1⟩ := B1.out.cells
                  obtain ⟨Cc0_1, Cc1_1, Cc2_1, Cc3_1, Cf0_1, Cf1_1, Cf2_1, Cf3_1, Cl_1⟩ := C1.out.cells
                  go_wp2_with fail
                  refine (rv.out _).mono ?_; rintro e w2 ⟨rfl, b2⟩
                  clear Ac0_1 Ac1_1 Ac2_1 Ac3_1 Af0_1 Af1_1 Af2_1 Af3_1 Al_1 Bc0_1 Bc1_1 Bc2_1 Bc3_1 Bf0_1 Bf1_1 Bf2_1 Bf3_1 Bl_1 Cc0_1 Cc1_1 Cc2_1 Cc3_1 Cf0_1 Cf1_1 Cf2_1 Cf3_1 Cl_1
                  have A2 := hid (A1.out.keep b2)
                  have B2 := hid (B1.out.keep b2)
                  have C2 := hid (C1.out.keep b2)
                  have L2 := hid (hnext L1.out b2)
                  clear b2
                  obtain ⟨Ac0_2, Ac1_2, Ac2_2, Ac3_2, Af0_2, Af1_2, Af2_2, Af3_2, Al_2⟩ := A2.out.cells
                  obtain ⟨Bc0_2, Bc1_2, Bc2_2, Bc3_2, Bf0_2, Bf1_2, Bf2_2, Bf3_2, Bl_2⟩ := B2.out.cells
                  obtain ⟨Cc0_2, Cc1_2, Cc2_2, Cc3_2, Cf0_2, Cf1_2, Cf2_2, Cf3_2, Cl_2⟩ := C2.out.cells
                  go_wp2_with fail
                  refine (rm.out _).mono ?_; rintro e w3 ⟨rfl, b3⟩
                  clear Ac0_2 Ac1_2 Ac2_2 Ac3_2 Af0_2 Af1_2 Af2_2 Af3_2 Al_2 Bc0_2 Bc1_2 Bc2_2 Bc3_2 Bf0_2 Bf1_2 Bf2_2 Bf3_2 Bl_2 Cc0_2 Cc1_2 Cc2_2 Cc3_2 Cf0_2 Cf1_2 Cf2_2 Cf3_2 Cl_2
                  have A3 := hid (A2.out.keep b3)
                  have B3 := hid (B2.out.keep b3)
                  have C3 := hid (C2.out.keep b3)
                  have L3 := hid (hnext L2.out b3)
                  clear b3
                  obtain ⟨Ac0_3, Ac1_3, Ac2_3, Ac3_3, Af0_3, Af1_3, Af2_3, Af3_3, Al_3⟩ := A3.out.cells
                  obtain ⟨Bc0_3, Bc1_3, Bc2_3, Bc3_3, Bf0_3, Bf1_3, Bf2_3, Bf3_3, Bl_3⟩ := B3.out.cells
                  obtain ⟨Cc0_3, Cc1_3, Cc2_3, Cc3_3, Cf0_3, Cf1_3, Cf2_3, Cf3_3, Cl_3⟩ := C3.out.cells
                  go_wp2_with fail
                  refine (cab.out _).mono ?_; rintro e w4 ⟨rfl, b4⟩
                  clear Ac0_3 Ac1_3 Ac2_3 Ac3_3 Af0_3 Af1_3 Af2_3 Af3_3 Al_3 Bc0_3 Bc1_3 Bc2_3 Bc3_3 Bf0_3 Bf1_3 Bf2_3 Bf3_3 Bl_3 Cc0_3 Cc1_3 Cc2_3 Cc3_3 Cf0_3 Cf1_3 Cf2_3 Cf3_3 Cl_3
                  have A4 := hid (A3.out.keep b4)
                  have B4 := hid (B3.out.keep b4)
                  have C4 := hid (C3.out.keep b4)
                  have L4 := hid (hnext L3.out b4)
                  clear b4
                  obtain ⟨Ac0_4, Ac1_4, Ac2_4, Ac3_4, Af0_4, Af1_4, Af2_4, Af3_4, Al_4⟩ := A4.out.cells
                  obtain ⟨Bc0_4, Bc1_4, Bc2_4, Bc3_4, Bf0_4, Bf1_4, Bf2_4, Bf3_4, Bl_4⟩ := B4.out.cells
                  obtain ⟨Cc0_4, Cc1_4, Cc2_4, Cc3_4, Cf0_4, Cf1_4, Cf2_4, Cf3_4, Cl_4⟩ := C4.out.cells
                  go_wp2_with fail
                  refine (cbc.out _).mono ?_; rintro e w5 ⟨rfl, b5⟩
                  clear Ac0_4 Ac1_4 Ac2_4 Ac3_4 Af0_4 Af1_4 Af2_4 Af3_4 Al_4 Bc0_4 Bc1_4 Bc2_4 Bc3_4 Bf0_4 Bf1_4 Bf2_4 Bf3_4 Bl_4 Cc0_4 Cc1_4 Cc2_4 Cc3_4 Cf0_4 Cf1_4 Cf2_4 Cf3_4 Cl_4
                  have A5 := hid (A4.out.keep b5)
                  have B5 := hid (B4.out.keep b5)
                  have C5 := hid (C4.out.keep b5)
                  have L5 := hid (hnext L4.out b5)
                  clear b5
                  obtain ⟨Ac0_5, Ac1_5, Ac2_5, Ac3_5, Af0_5, Af1_5, Af2_5, Af3_5, Al_5⟩ := A5.out.cells
                  obtain ⟨Bc0_5, Bc1_5, Bc2_5, Bc3_5, Bf0_5, Bf1_5, Bf2_5, Bf3_5, Bl_5⟩ := B5.out.cells
                  obtain ⟨Cc0_5, Cc1_5, Cc2_5, Cc3_5, Cf0_5, Cf1_5, Cf2_5, Cf3_5, Cl_5⟩ := C5.out.cells
                  go_wp2_with fail
                  refine (cac.out _).mono ?_; rintro e w6 ⟨rfl, b6⟩
                  clear Ac0_5 Ac1_5 Ac2_5 Ac3_5 Af0_5 Af1_5 Af2_5 Af3_5 Al_5 Bc0_5 Bc1_5 Bc2_5 Bc3_5 Bf0_5 Bf1_5 Bf2_5 Bf3_5 Bl_5 Cc0_5 Cc1_5 Cc2_5 Cc3_5 Cf0_5 Cf1_5 Cf2_5 Cf3_5 Cl_5
                  have A6 := hid (A5.out.keep b6)
                  have B6 := hid (B5.out.keep b6)
                  have C6 := hid (C5.out.keep b6)
                  have L6 := hid (hnext L5.out b6)
                  clear b6
                  obtain ⟨Ac0_6, Ac1_6, Ac2_6, Ac3_6, Af0_6, Af1_6, Af2_6, Af3_6, Al_6⟩ := A6.out.cells
                  obtain ⟨Bc0_6, Bc1_6, Bc2_6, Bc3_6, Bf0_6, Bf1_6, Bf2_6, Bf3_6, Bl_6⟩ := B6.out.cells
                  obtain ⟨Cc0_6, Cc1_6, Cc2_6, Cc3_6, Cf0_6, Cf1_6, Cf2_6, Cf3_6, Cl_6⟩ := C6.out.cells
                  go_wp2_with fail
                  refine (cba.out _).mono ?_; rintro e w7 ⟨rfl, b7⟩
                  clear Ac0_6 Ac1_6 Ac2_6 Ac3_6 Af0_6 Af1_6 Af2_6 Af3_6 Al_6 Bc0_6 Bc1_6 Bc2_6 Bc3_6 Bf0_6 Bf1_6 Bf2_6 Bf3_6 Bl_6 Cc0_6 Cc1_6 Cc2_6 Cc3_6 Cf0_6 Cf1_6 Cf2_6 Cf3_6 Cl_6
                  have A7 := hid (A6.out.keep b7)
                  have B7 := hid (B6.out.keep b7)
                  have C7 := hid (C6.out.keep b7)
                  have L7 := hid (hnext L6.out b7)
                  clear b7
                  obtain ⟨Ac0_7, Ac1_7, Ac2_7, Ac3_7, Af0_7, Af1_7, Af2_7, Af3_7, Al_7⟩ := A7.out.cells
                  obtain ⟨Bc0_7, Bc1_7, Bc2_7, Bc3_7, Bf0_7, Bf1_7, Bf2_7, Bf3_7, Bl_7⟩ := B7.out.cells
                  obtain ⟨Cc0_7, Cc1_7, Cc2_7, Cc3_7, Cf0_7, Cf1_7, Cf2_7, Cf3_7, Cl_7⟩ := C7.out.cells
                  go_wp2_with fail
                  refine (sab.out _).mono ?_; rintro e w8 ⟨rfl, b8⟩
                  clear Ac0_7 Ac1_7 Ac2_7 Ac3_7 Af0_7 Af1_7 Af2_7 Af3_7 Al_7 Bc0_7 Bc1_7 Bc2_7 Bc3_7 Bf0_7 Bf1_7 Bf2_7 Bf3_7 Bl_7 Cc0_7 Cc1_7 Cc2_7 Cc3_7 Cf0_7 Cf1_7 Cf2_7 Cf3_7 Cl_7
                  have A8 := hid (A7.out.keep b8)
                  have B8 := hid (B7.out.keep b8)
                  have C8 := hid (C7.out.keep b8)
                  have L8 := hid (hnext L7.out b8)
                  clear b8
                  obtain ⟨Ac0_8, Ac1_8, Ac2_8, Ac3_8, Af0_8, Af1_8, Af2_8, Af3_8, Al_8⟩ := A8.out.cells
                  obtain ⟨Bc0_8, Bc1_8, Bc2_8, Bc3_8, Bf0_8, Bf1_8, Bf2_8, Bf3_8, Bl_8⟩ := B8.out.cells
                  obtain ⟨Cc0_8, Cc1_8, Cc2_8, Cc3_8, Cf0_8, Cf1_8, Cf2_8, Cf3_8, Cl_8⟩ := C8.out.cells
                  go_wp2_with fail
                  refine (known_any _).mono ?_; rintro e w9 ⟨rfl, b9⟩
                  go_wp2
                  go_ret
                  exact ⟨rfl, hnext L8.out b9⟩
              · rw [show decide ((0 : Int) = 0) = true by decide] at sab
                rw [show -(0 : Int) = 0 by decide] at cba
                by_cases hy : 0 < y
                · have hy' : decide ((0 : Int) < y) = true := decide_eq_true hy
                  clear HT
                  go_enter Try.func5, Try.ntmps5
                  go_wp2_with fail
                  refine (ru.out _).mono ?_; rintro e w1 ⟨rfl, b1⟩
                  have A1 := hid (VA.out.keep b1)
                  have B1 := hid (VB.out.keep b1)
                  have C1 := hid (VC.out.keep b1)
                  have L1 := hid (hnext L.out b1)
                  clear b1
                  obtain ⟨Ac0_1, Ac1_1, Ac2_1, Ac3_1, Af0_1, Af1_1, Af2_1, Af3_1, Al_1⟩ := A1.out.cells
                  obtain ⟨Bc0_1, Bc1_1, Bc2_1, Bc3_1, Bf0_1, Bf1_1, Bf2_1, Bf3_1, Bl_1⟩ := B1.out.cells
                  obtain ⟨Cc0_1, Cc1_1, Cc2_1, Cc3_1, Cf0_1, Cf1_1, Cf2_1, Cf3_1, Cl_1⟩ := C1.out.cells
                  go_wp2_with fail
                  refine (rv.out _).mono ?_; rintro e w2 ⟨rfl, b2⟩
                  clear Ac0_1 Ac1_1 Ac2_1 Ac3_1 Af0_1 Af1_1 Af2_1 Af3_1 Al_1 Bc0_1 Bc1_1 Bc2_1 Bc3_1 Bf0_1 Bf1_1 Bf2_1 Bf3_1 Bl_1 Cc0_1 Cc1_1 Cc2_1 Cc3_1 Cf0_1 Cf1_1 Cf2_1 Cf3_1 Cl_1
                  have A2 := hid (A1.out.keep b2)
                  have B2 := hid (B1.out.keep b2)
                  have C2 := hid (C1.out.keep b2)
                  have L2 := hid (hnext L1.out b2)
                  clear b2
                  obtain ⟨Ac0_2, Ac1_2, Ac2_2, Ac3_2, Af0_2, Af1_2, Af2_2, Af3_2, Al_2⟩ := A2.out.cells
                  obtain ⟨Bc0_2, Bc1_2, Bc2_2, Bc3_2, Bf0_2, Bf1_2, Bf2_2, Bf3_2, Bl_2⟩ := B2.out.cells
                  obtain ⟨Cc0_2, Cc1_2, Cc2_2, Cc3_2, Cf0_2, Cf1_2, Cf2_2, Cf3_2, Cl_2⟩ := C2.out.cells
                  go_wp2_with fail
                  refine (rm.out _).mono ?_; rintro e w3 ⟨rfl, b3⟩
                  clear Ac0_2 Ac1_2 Ac2_2 Ac3_2 Af0_2 Af1_2 Af2_2 Af3_2 Al_2 Bc0_2 Bc1_2 Bc2_2 Bc3_2 Bf0_2 Bf1_2 Bf2_2 Bf3_2 Bl_2 Cc0_2 Cc1_2 Cc2_2 Cc3_2 Cf0_2 Cf1_2 Cf2_2 Cf3_2 Cl_2
                  have A3 := hid (A2.out.keep b3)
                  have B3 := hid (B2.out.keep b3)
                  have C3 := hid (C2.out.keep b3)
                  have L3 := hid (hnext L2.out b3)
                  clear b3
                  obtain ⟨Ac0_3, Ac1_3, Ac2_3, Ac3_3, Af0_3, Af1_3, Af2_3, Af3_3, Al_3⟩ := A3.out.cells
                  obtain ⟨Bc0_3, Bc1_3, Bc2_3, Bc3_3, Bf0_3, Bf1_3, Bf2_3, Bf3_3, Bl_3⟩ := B3.out.cells
                  obtain ⟨Cc0_3, Cc1_3, Cc2_3, Cc3_3, Cf0_3, Cf1_3, Cf2_3, Cf3_3, Cl_3⟩ := C3.out.cells
                  go_wp2_with fail
                  refine (cab.out _).mono ?_; rintro e w4 ⟨rfl, b4⟩
                  clear Ac0_3 Ac1_3 Ac2_3 Ac3_3 Af0_3 Af1_3 Af2_3 Af3_3 Al_3 Bc0_3 Bc1_3 Bc2_3 Bc3_3 Bf0_3 Bf1_3 Bf2_3 Bf3_3 Bl_3 Cc0_3 Cc1_3 Cc2_3 Cc3_3 Cf0_3 Cf1_3 Cf2_3 Cf3_3 Cl_3
                  have A4 := hid (A3.out.keep b4)
                  have B4 := hid (B3.out.keep b4)
                  have C4 := hid (C3.out.keep b4)
                  have L4 := hid (hnext L3.out b4)
                  clear b4
                  obtain ⟨Ac0_4, Ac1_4, Ac2_4, Ac3_4, Af0_4, Af1_4, Af2_4, Af3_4, Al_4⟩ := A4.out.cells
                  obtain ⟨Bc0_4, Bc1_4, Bc2_4, Bc3_4, Bf0_4, Bf1_4, Bf2_4, Bf3_4, Bl_4⟩ := B4.out.cells
                  obtain ⟨Cc0_4, Cc1_4, Cc2_4, Cc3_4, Cf0_4, Cf1_4, Cf2_4, Cf3_4, Cl_4⟩ := C4.out.cells
                  go_wp2_with fail
                  refine (cbc.out _).mono ?_; rintro e w5 ⟨rfl, b5⟩
                  clear Ac0_4 Ac1_4 Ac2_4 Ac3_4 Af0_4 Af1_4 Af2_4 Af3_4 Al_4 Bc0_4 Bc1_4 Bc2_4 Bc3_4 Bf0_4 Bf1_4 Bf2_4 Bf3_4 Bl_4 Cc0_4 Cc1_4 Cc2_4 Cc3_4 Cf0_4 Cf1_4 Cf2_4 Cf3_4 Cl_4
                  have A5 := hid (A4.out.keep b5)
                  have B5 := hid (B4.out.keep b5)
                  have C5 := hid (C4.out.keep b5)
                  have L5 := hid (hnext L4.out b5)
                  clear b5
                  obtain ⟨Ac0_5, Ac1_5, Ac2_5, Ac3_5, Af0_5, Af1_5, Af2_5, Af3_5, Al_5⟩ := A5.out.cells
                  obtain ⟨Bc0_5, Bc1_5, Bc2_5, Bc3_5, Bf0_5, Bf1_5, Bf2_5, Bf3_5, Bl_5⟩ := B5.out.cells
                  obtain ⟨Cc0_5, Cc1_5, Cc2_5, Cc3_5, Cf0_5, Cf1_5, Cf2_5, Cf3_5, Cl_5⟩ := C5.out.cells
                  go_wp2_with fail
                  refine (cac.out _).mono ?_; rintro e w6 ⟨rfl, b6⟩
                  clear Ac0_5 Ac1_5 Ac2_5 Ac3_5 Af0_5 Af1_5 Af2_5 Af3_5 Al_5 Bc0_5 Bc1_5 Bc2_5 Bc3_5 Bf0_5 Bf1_5 Bf2_5 Bf3_5 Bl_5 Cc0_5 Cc1_5 Cc2_5 Cc3_5 Cf0_5 Cf1_5 Cf2_5 Cf3_5 Cl_5
                  have A6 := hid (A5.out.keep b6)
                  have B6 := hid (B5.out.keep b6)
                  have C6 := hid (C5.out.keep b6)
                  have L6 := hid (hnext L5.out b6)
                  clear b6
                  obtain ⟨Ac0_6, Ac1_6, Ac2_6, Ac3_6, Af0_6, Af1_6, Af2_6, Af3_6, Al_6⟩ := A6.out.cells
                  obtain ⟨Bc0_6, Bc1_6, Bc2_6, Bc3_6, Bf0_6, Bf1_6, Bf2_6, Bf3_6, Bl_6⟩ := B6.out.cells
                  obtain ⟨Cc0_6, Cc1_6, Cc2_6, Cc3_6, Cf0_6, Cf1_6, Cf2_6, Cf3_6, Cl_6⟩ := C6.out.cells
                  go_wp2_with fail
                  refine (cba.out _).mono ?_; rintro e w7 ⟨rfl, b7⟩
                  clear Ac0_6 Ac1_6 Ac2_6 Ac3_6 Af0_6 Af1_6 Af2_6 Af3_6 Al_6 Bc0_6 Bc1_6 Bc2_6 Bc3_6 Bf0_6 Bf1_6 Bf2_6 Bf3_6 Bl_6 Cc0_6 Cc1_6 Cc2_6 Cc3_6 Cf0_6 Cf1_6 Cf2_6 Cf3_6 Cl_6
                  have A7 := hid (A6.out.keep b7)
                  have B7 := hid (B6.out.keep b7)
                  have C7 := hid (C6.out.keep b7)
                  have L7 := hid (hnext L6.out b7)
                  clear b7
                  obtain ⟨Ac0_7, Ac1_7, Ac2_7, Ac3_7, Af0_7, Af1_7, Af2_7, Af3_7, Al_7⟩ := A7.out.cells
                  obtain ⟨Bc0_7, Bc1_7, Bc2_7, Bc3_7, Bf0_7, Bf1_7, Bf2_7, Bf3_7, Bl_7⟩ := B7.out.cells
                  obtain ⟨Cc0_7, Cc1_7, Cc2_7, Cc3_7, Cf0_7, Cf1_7, Cf2_7, Cf3_7, Cl_7⟩ := C7.out.cells
                  go_wp2_with fail
                  refine (sab.out _).mono ?_; rintro e w8 ⟨rfl, b8⟩
                  clear Ac0_7 Ac1_7 Ac2_7 Ac3_7 Af0_7 Af1_7 Af2_7 Af3_7 Al_7 Bc0_7 Bc1_7 Bc2_7 Bc3_7 Bf0_7 Bf1_7 Bf2_7 Bf3_7 Bl_7 Cc0_7 Cc1_7 Cc2_7 Cc3_7 Cf0_7 Cf1_7 Cf2_7 Cf3_7 Cl_7
                  have A8 := hid (A7.out.keep b8)
                  have B8 := hid (B7.out.keep b8)
                  have C8 := hid (C7.out.keep b8)
                  have L8 := hid (hnext L7.out b8)
                  clear b8
                  obtain ⟨Ac0_8, Ac1_8, Ac2_8, Ac3_8, Af0_8, Af1_8, Af2_8, Af3_8, Al_8⟩ := A8.out.cells
                  obtain ⟨Bc0_8, Bc1_8, Bc2_8, Bc3_8, Bf0_8, Bf1_8, Bf2_8, Bf3_8, Bl_8⟩ := B8.out.cells
                  obtain ⟨Cc0_8, Cc1_8, Cc2_8, Cc3_8, Cf0_8, Cf1_8, Cf2_8, Cf3_8, Cl_8⟩ := C8.out.cells
                  go_wp2_with fail
                  refine (known_any _).mono ?_; rintro e w9 ⟨rfl, b9⟩
                  go_wp2
                  go_ret
                  exact ⟨rfl, hnext L8.out b9⟩
                · have hy' : decide ((0 : Int) < y) = false := decide_eq_false hy
                  have hz1 : decide (z ≤ 0) = true := decide_eq_true (HT.out (by decide) (by omega)).1
                  clear HT
                  go_enter Try.func5, Try.ntmps5
                  go_wp2_with fail
                  refine (ru.out _).mono ?_; rintro e w1 ⟨rfl, b1⟩
                  have A1 := hid (VA.out.keep b1)
                  have B1 := hid (VB.out.keep b1)
                  have C1 := hid (VC.out.keep b1)
                  have L1 := hid (hnext L.out b1)
                  clear b1
                  obtain ⟨Ac0_1, Ac1_1, Ac2_1, Ac3_1, Af0_1, Af1_1, Af2_1, Af3_1, Al_1⟩ := A1.out.cells
                  obtain ⟨Bc0_1, Bc1_1, Bc2_1, Bc3_1, Bf0_1, Bf1_1, Bf2_1, Bf3_1, Bl_1⟩ := B1.out.cells
                  obtain ⟨Cc0_1, Cc1_1, Cc2_1, Cc3_1, Cf0_1, Cf1_1, Cf2_1, Cf3_1, Cl_1⟩ := C1.out.cells
                  go_wp2_with fail
                  refine (rv.out _).mono ?_; rintro e w2 ⟨rfl, b2⟩
                  clear Ac0_1 Ac1_1 Ac2_1 Ac3_1 Af0_1 Af1_1 Af2_1 Af3_1 Al_1 Bc0_1 Bc1_1 Bc2_1 Bc3_1 Bf0_1 Bf1_1 Bf2_1 Bf3_1 Bl_1 Cc0_1 Cc1_1 Cc2_1 Cc3_1 Cf0_1 Cf1_1 Cf2_1 Cf3_1 Cl_1
                  have A2 := hid (A1.out.keep b2)
                  have B2 := hid (B1.out.keep b2)
                  have C2 := hid (C1.out.keep b2)
                  have L2 := hid (hnext L1.out b2)
                  clear b2
                  obtain ⟨Ac0_2, Ac1_2, Ac2_2, Ac3_2, Af0_2, Af1_2, Af2_2, Af3_2, Al_2⟩ := A2.out.cells
                  obtain ⟨Bc0_2, Bc1_2, Bc2_2, Bc3_2, Bf0_2, Bf1_2, Bf2_2, Bf3_2, Bl_2⟩ := B2.out.cells
                  obtain ⟨Cc0_2, Cc1_2, Cc2_2, Cc3_2, Cf0_2, Cf1_2, Cf2_2, Cf3_2, Cl_2⟩ := C2.out.cells
                  go_wp2_with fail
                  refine (rm.out _).mono ?_; rintro e w3 ⟨rfl, b3⟩
                  clear Ac0_2 Ac1_2 Ac2_2 Ac3_2 Af0_2 Af1_2 Af2_2 Af3_2 Al_2 Bc0_2 Bc1_2 Bc2_2 Bc3_2 Bf0_2 Bf1_2 Bf2_2 Bf3_2 Bl_2 Cc0_2 Cc1_2 Cc2_2 Cc3_2 Cf0_2 Cf1_2 Cf2_2 Cf3_2 Cl_2
                  have A3 := hid (A2.out.keep b3)
                  have B3 := hid (B2.out.keep b3)
                  have C3 := hid (C2.out.keep b3)
                  have L3 := hid (hnext L2.out b3)
                  clear b3
                  obtain ⟨Ac0_3, Ac1_3, Ac2_3, Ac3_3, Af0_3, Af1_3, Af2_3, Af3_3, Al_3⟩ := A3.out.cells
                  obtain ⟨Bc0_3, Bc1_3, Bc2_3, Bc3_3, Bf0_3, Bf1_3, Bf2_3, Bf3_3, Bl_3⟩ := B3.out.cells
                  obtain ⟨Cc0_3, Cc1_3, Cc2_3, Cc3_3, Cf0_3, Cf1_3, Cf2_3, Cf3_3, Cl_3⟩ := C3.out.cells
                  go_wp2_with fail
                  refine (cab.out _).mono ?_; rintro e w4 ⟨rfl, b4⟩
                  clear Ac0_3 Ac1_3 Ac2_3 Ac3_3 Af0_3 Af1_3 Af2_3 Af3_3 Al_3 Bc0_3 Bc1_3 Bc2_3 Bc3_3 Bf0_3 Bf1_3 Bf2_3 Bf3_3 Bl_3 Cc0_3 Cc1_3 Cc2_3 Cc3_3 Cf0_3 Cf1_3 Cf2_3 Cf3_3 Cl_3
                  have A4 := hid (A3.out.keep b4)
                  have B4 := hid (B3.out.keep b4)
                  have C4 := hid (C3.out.keep b4)
                  have L4 := hid (hnext L3.out b4)
                  clear b4
                  obtain ⟨Ac0_4, Ac1_4, Ac2_4, Ac3_4, Af0_4, Af1_4, Af2_4, Af3_4, Al_4⟩ := A4.out.cells
                  obtain ⟨Bc0_4, Bc1_4, Bc2_4, Bc3_4, Bf0_4, Bf1_4, Bf2_4, Bf3_4, Bl_4⟩ := B4.out.cells
                  obtain ⟨Cc0_4, Cc1_4, Cc2_4, Cc3_4, Cf0_4, Cf1_4, Cf2_4, Cf3_4, Cl_4⟩ := C4.out.cells
                  go_wp2_with fail
                  refine (cbc.out _).mono ?_; rintro e w5 ⟨rfl, b5⟩
                  clear Ac0_4 Ac1_4 Ac2_4 Ac3_4 Af0_4 Af1_4 Af2_4 Af3_4 Al_4 Bc0_4 Bc1_4 Bc2_4 Bc3_4 Bf0_4 Bf1_4 Bf2_4 Bf3_4 Bl_4 Cc0_4 Cc1_4 Cc2_4 Cc3_4 Cf0_4 Cf1_4 Cf2_4 Cf3_4 Cl_4
                  have A5 := hid (A4.out.keep b5)
                  have B5 := hid (B4.out.keep b5)
                  have C5 := hid (C4.out.keep b5)
                  have L5 := hid (hnext L4.out b5)
                  clear b5
                  obtain ⟨Ac0_5, Ac1_5, Ac2_5, Ac3_5, Af0_5, Af1_5, Af2_5, Af3_5, Al_5⟩ := A5.out.cells
                  obtain ⟨Bc0_5, Bc1_5, Bc2_5, Bc3_5, Bf0_5, Bf1_5, Bf2_5, Bf3_5, Bl_5⟩ := B5.out.cells
                  obtain ⟨Cc0_5, Cc1_5, Cc2_5, Cc3_5, Cf0_5, Cf1_5, Cf2_5, Cf3_5, Cl_5⟩ := C5.out.cells
                  go_wp2_with fail
                  refine (cac.out _).mono ?_; rintro e w6 ⟨rfl, b6⟩
                  clear Ac0_5 Ac1_5 Ac2_5 Ac3_5 Af0_5 Af1_5 Af2_5 Af3_5 Al_5 Bc0_5 Bc1_5 Bc2_5 Bc3_5 Bf0_5 Bf1_5 Bf2_5 Bf3_5 Bl_5 Cc0_5 Cc1_5 Cc2_5 Cc3_5 Cf0_5 Cf1_5 Cf2_5 Cf3_5 Cl_5
                  have A6 := hid (A5.out.keep b6)
                  have B6 := hid (B5.out.keep b6)
                  have C6 := hid (C5.out.keep b6)
                  have L6 := hid (hnext L5.out b6)
                  clear b6
                  obtain ⟨Ac0_6, Ac1_6, Ac2_6, Ac3_6, Af0_6, Af1_6, Af2_6, Af3_6, Al_6⟩ := A6.out.cells
                  obtain ⟨Bc0_6, Bc1_6, Bc2_6, Bc3_6, Bf0_6, Bf1_6, Bf2_6, Bf3_6, Bl_6⟩ := B6.out.cells
                  obtain ⟨Cc0_6, Cc1_6, Cc2_6, Cc3_6, Cf0_6, Cf1_6, Cf2_6, Cf3_6, Cl_6⟩ := C6.out.cells
                  go_wp2_with fail
                  refine (cba.out _).mono ?_; rintro e w7 ⟨rfl, b7⟩
                  clear Ac0_6 Ac1_6 Ac2_6 Ac3_6 Af0_6 Af1_6 Af2_6 Af3_6 Al_6 Bc0_6 Bc1_6 Bc2_6 Bc3_6 Bf0_6 Bf1_6 Bf2_6 Bf3_6 Bl_6 Cc0_6 Cc1_6 Cc2_6 Cc3_6 Cf0_6 Cf1_6 Cf2_6 Cf3_6 Cl_6
                  have A7 := hid (A6.out.keep b7)
                  have B7 := hid (B6.out.keep b7)
                  have C7 := hid (C6.out.keep b7)
                  have L7 := hid (hnext L6.out b7)
                  clear b7
                  obtain ⟨Ac0_7, Ac1_7, Ac2_7, Ac3_7, Af0_7, Af1_7, Af2_7, Af3_7, Al_7⟩ := A7.out.cells
                  obtain ⟨Bc0_7, Bc1_7, Bc2_7, Bc3_7, Bf0_7, Bf1_7, Bf2_7, Bf3_7, Bl_7⟩ := B7.out.cells
                  obtain ⟨Cc0_7, Cc1_7, Cc2_7, Cc3_7, Cf0_7, Cf1_7, Cf2_7, Cf3_7, Cl_7⟩ := C7.out.cells
                  go_wp2_with fail
                  refine (sab.out _).mono ?_; rintro e w8 ⟨rfl, b8⟩
                  clear Ac0_7 Ac1_7 Ac2_7 Ac3_7 Af0_7 Af1_7 Af2_7 Af3_7 Al_7 Bc0_7 Bc1_7 Bc2_7 Bc3_7 Bf0_7 Bf1_7 Bf2_7 Bf3_7 Bl_7 Cc0_7 Cc1_7 Cc2_7 Cc3_7 Cf0_7 Cf1_7 Cf2_7 Cf3_7 Cl_7
                  have A8 := hid (A7.out.keep b8)
                  have B8 := hid (B7.out.keep b8)
                  have C8 := hid (C7.out.keep b8)
                  have L8 := hid (hnext L7.out b8)
                  clear b8
                  obtain ⟨Ac0_8, Ac1_8, Ac2_8, Ac3_8, Af0_8, Af1_8, Af2_8, Af3_8, Al_8⟩ := A8.out.cells
                  obtain ⟨Bc0_8, Bc1_8, Bc2_8, Bc3_8, Bf0_8, Bf1_8, Bf2_8, Bf3_8, Bl_8⟩ := B8.out.cells
                  obtain ⟨Cc0_8, Cc1_8, Cc2_8, Cc3_8, Cf0_8, Cf1_8, Cf2_8, Cf3_8, Cl_8⟩ := C8.out.cells
                  go_wp2_with fail
                  refine (known_any _).mono ?_; rintro e w9 ⟨rfl, b9⟩
                  go_wp2
                  go_ret
                  exact ⟨rfl, hnext L8.out b9⟩
              · rw [show decide ((1 : Int) = 0) = false by decide] at sab
                rw [show -(1 : Int) = -1 by decide] at cba
                clear HT
                go_enter Try.func5, Try.ntmps5
                go_wp2_with fail
                refine (ru.out _).mono ?_; rintro e w1 ⟨rfl, b1⟩
                have A1 := hid (VA.out.keep b1)
                have B1 := hid (VB.out.keep b1)
                have C1 := hid (VC.out.keep b1)
                have L1 := hid (hnext L.out b1)
                clear b1
                obtain ⟨Ac0_1, Ac1_1, Ac2_1, Ac3_1, Af0_1, Af1_1, Af2_1, Af3_1, Al_1⟩ := A1.out.cells
                obtain ⟨Bc0_1, Bc1_1, Bc2_1, Bc3_1, Bf0_1, Bf1_1, Bf2_1, Bf3_1, Bl_1⟩ := B1.out.cells
                obtain ⟨Cc0_1, Cc1_1, Cc2_1, Cc3_1, Cf0_1, Cf1_1, Cf2_1, Cf3_1, Cl_1⟩ := C1.out.cells
                go_wp2_with fail
                refine (rv.out _).mono ?_; rintro e w2 ⟨rfl, b2⟩
                clear Ac0_1 Ac1_1 Ac2_1 Ac3_1 Af0_1 Af1_1 Af2_1 Af3_1 Al_1 Bc0_1 Bc1_1 Bc2_1 Bc3_1 Bf0_1 Bf1_1 Bf2_1 Bf3_1 Bl_1 Cc0_1 Cc1_1 Cc2_1 Cc3_1 Cf0_1 Cf1_1 Cf2_1 Cf3_1 Cl_1
                have A2 := hid (A1.out.keep b2)
                have B2 := hid (B1.out.keep b2)
                have C2 := hid (C1.out.keep b2)
                have L2 := hid (hnext L1.out b2)
                clear b2
                obtain ⟨Ac0_2, Ac1_2, Ac2_2, Ac3_2, Af0_2, Af1_2, Af2_2, Af3_2, Al_2⟩ := A2.out.cells
                obtain ⟨Bc0_2, Bc1_2, Bc2_2, Bc3_2, Bf0_2, Bf1_2, Bf2_2, Bf3_2, Bl_2⟩ := B2.out.cells
                obtain ⟨Cc0_2, Cc1_2, Cc2_2, Cc3_2, Cf0_2, Cf1_2, Cf2_2, Cf3_2, Cl_2⟩ := C2.out.cells
                go_wp2_with fail
                refine (rm.out _).mono ?_; rintro e w3 ⟨rfl, b3⟩
                clear Ac0_2 Ac1_2 Ac2_2 Ac3_2 Af0_2 Af1_2 Af2_2 Af3_2 Al_2 Bc0_2 Bc1_2 Bc2_2 Bc3_2 Bf0_2 Bf1_2 Bf2_2 Bf3_2 Bl_2 Cc0_2 Cc1_2 Cc2_2 Cc3_2 Cf0_2 Cf1_2 Cf2_2 Cf3_2 Cl_2
                have A3 := hid (A2.out.keep b3)
                have B3 := hid (B2.out.keep b3)
                have C3 := hid (C2.out.keep b3)
                have L3 := hid (hnext L2.out b3)
                clear b3
                obtain ⟨Ac0_3, Ac1_3, Ac2_3, Ac3_3, Af0_3, Af1_3, Af2_3, Af3_3, Al_3⟩ := A3.out.cells
                obtain ⟨Bc0_3, Bc1_3, Bc2_3, Bc3_3, Bf0_3, Bf1_3, Bf2_3, Bf3_3, Bl_3⟩ := B3.out.cells
                obtain ⟨Cc0_3, Cc1_3, Cc2_3, Cc3_3, Cf0_3, Cf1_3, Cf2_3, Cf3_3, Cl_3⟩ := C3.out.cells
                go_wp2_with fail
                refine (cab.out _).mono ?_; rintro e w4 ⟨rfl, b4⟩
                clear Ac0_3 Ac1_3 Ac2_3 Ac3_3 Af0_3 Af1_3 Af2_3 Af3_3 Al_3 Bc0_3 Bc1_3 Bc2_3 Bc3_3 Bf0_3 Bf1_3 Bf2_3 Bf3_3 Bl_3 Cc0_3 Cc1_3 Cc2_3 Cc3_3 Cf0_3 Cf1_3 Cf2_3 Cf3_3 Cl_3
                have A4 := hid (A3.out.keep b4)
                have B4 := hid (B3.out.keep b4)
                have C4 := hid (C3.out.keep b4)
                have L4 := hid (hnext L3.out b4)
                clear b4
                obtain ⟨Ac0_4, Ac1_4, Ac2_4, Ac3_4, Af0_4, Af1_4, Af2_4, Af3_4, Al_4⟩ := A4.out.cells
                obtain ⟨Bc0_4, Bc1_4, Bc2_4, Bc3_4, Bf0_4, Bf1_4, Bf2_4, Bf3_4, Bl_4⟩ := B4.out.cells
                obtain ⟨Cc0_4, Cc1_4, Cc2_4, Cc3_4, Cf0_4, Cf1_4, Cf2_4, Cf3_4, Cl_4⟩ := C4.out.cells
                go_wp2_with fail
                refine (cbc.out _).mono ?_; rintro e w5 ⟨rfl, b5⟩
                clear Ac0_4 Ac1_4 Ac2_4 Ac3_4 Af0_4 Af1_4 Af2_4 Af3_4 Al_4 Bc0_4 Bc1_4 Bc2_4 Bc3_4 Bf0_4 Bf1_4 Bf2_4 Bf3_4 Bl_4 Cc0_4 Cc1_4 Cc2_4 Cc3_4 Cf0_4 Cf1_4 Cf2_4 Cf3_4 Cl_4
                have A5 := hid (A4.out.keep b5)
                have B5 := hid (B4.out.keep b5)
                have C5 := hid (C4.out.keep b5)
                have L5 := hid (hnext L4.out b5)
                clear b5
                obtain ⟨Ac0_5, Ac1_5, Ac2_5, Ac3_5, Af0_5, Af1_5, Af2_5, Af3_5, Al_5⟩ := A5.out.cells
                obtain ⟨Bc0_5, Bc1_5, Bc2_5, Bc3_5, Bf0_5, Bf1_5, Bf2_5, Bf3_5, Bl_5⟩ := B5.out.cells
                obtain ⟨Cc0_5, Cc1_5, Cc2_5, Cc3_5, Cf0_5, Cf1_5, Cf2_5, Cf3_5, Cl_5⟩ := C5.out.cells
                go_wp2_with fail
                refine (cac.out _).mono ?_; rintro e w6 ⟨rfl, b6⟩
                clear Ac0_5 Ac1_5 Ac2_5 Ac3_5 Af0_5 Af1_5 Af2_5 Af3_5 Al_5 Bc0_5 Bc1_5 Bc2_5 Bc3_5 Bf0_5 Bf1_5 Bf2_5 Bf3_5 Bl_5 Cc0_5 Cc1_5 Cc2_5 Cc3_5 Cf0_5 Cf1_5 Cf2_5 Cf3_5 Cl_5
                have A6 := hid (A5.out.keep b6)
                have B6 := hid (B5.out.keep b6)
                have C6 := hid (C5.out.keep b6)
                have L6 := hid (hnext L5.out b6)
                clear b6
                obtain ⟨Ac0_6, Ac1_6, Ac2_6, Ac3_6, Af0_6, Af1_6, Af2_6, Af3_6, Al_6⟩ := A6.out.cells
                obtain ⟨Bc0_6, Bc1_6, Bc2_6, Bc3_6, Bf0_6, Bf1_6, Bf2_6, Bf3_6, Bl_6⟩ := B6.out.cells
                obtain ⟨Cc0_6, Cc1_6, Cc2_6, Cc3_6, Cf0_6, Cf1_6, Cf2_6, Cf3_6, Cl_6⟩ := C6.out.cells
                go_wp2_with fail
                refine (cba.out _).mono ?_; rintro e w7 ⟨rfl, b7⟩
                clear Ac0_6 Ac1_6 Ac2_6 Ac3_6 Af0_6 Af1_6 Af2_6 Af3_6 Al_6 Bc0_6 Bc1_6 Bc2_6 Bc3_6 Bf0_6 Bf1_6 Bf2_6 Bf3_6 Bl_6 Cc0_6 Cc1_6 Cc2_6 Cc3_6 Cf0_6 Cf1_6 Cf2_6 Cf3_6 Cl_6
                have A7 := hid (A6.out.keep b7)
                have B7 := hid (B6.out.keep b7)
                have C7 := hid (C6.out.keep b7)
                have L7 := hid (hnext L6.out b7)
                clear b7
                obtain ⟨Ac0_7, Ac1_7, Ac2_7, Ac3_7, Af0_7, Af1_7, Af2_7, Af3_7, Al_7⟩ := A7.out.cells
                obtain ⟨Bc0_7, Bc1_7, Bc2_7, Bc3_7, Bf0_7, Bf1_7, Bf2_7, Bf3_7, Bl_7⟩ := B7.out.cells
                obtain ⟨Cc0_7, Cc1_7, Cc2_7, Cc3_7, Cf0_7, Cf1_7, Cf2_7, Cf3_7, Cl_7⟩ := C7.out.cells
                go_wp2_with fail
                refine (sab.out _).mono ?_; rintro e w8 ⟨rfl, b8⟩
                clear Ac0_7 Ac1_7 Ac2_7 Ac3_7 Af0_7 Af1_7 Af2_7 Af3_7 Al_7 Bc0_7 Bc1_7 Bc2_7 Bc3_7 Bf0_7 Bf1_7 Bf2_7 Bf3_7 Bl_7 Cc0_7 Cc1_7 Cc2_7 Cc3_7 Cf0_7 Cf1_7 Cf2_7 Cf3_7 Cl_7
                have A8 := hid (A7.out.keep b8)
                have B8 := hid (B7.out.keep b8)
                have C8 := hid (C7.out.keep b8)
                have L8 := hid (hnext L7.out b8)
                clear b8
                obtain ⟨Ac0_8, Ac1_8, Ac2_8, Ac3_8, Af0_8, Af1_8, Af2_8, Af3_8, Al_8⟩ := A8.out.cells
                obtain ⟨Bc0_8, Bc1_8, Bc2_8, Bc3_8, Bf0_8, Bf1_8, Bf2_8, Bf3_8, Bl_8⟩ := B8.out.cells
                obtain ⟨Cc0_8, Cc1_8, Cc2_8, Cc3_8, Cf0_8, Cf1_8, Cf2_8, Cf3_8, Cl_8⟩ := C8.out.cells
                go_wp2_with fail
                refine (known_any _).mono ?_; rintro e w9 ⟨rfl, b9⟩
                go_wp2
                go_ret
                exact ⟨rfl, hnext L8.out b9⟩
end Go.Proofs.Ytgdegoacjobpdaa
