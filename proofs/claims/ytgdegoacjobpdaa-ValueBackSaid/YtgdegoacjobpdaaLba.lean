/-
  ValueBack answers true at any value and text. No condition.
-/
import Derived.Test.YtgdegoacjobpdaaVq
namespace Go.Proofs.Ytgdegoacjobpdaa
open Go.RowKit

set_option maxRecDepth 100000 in
set_option maxHeartbeats 12800000 in
theorem valueBack_walk (vk vn : Int) (vb : Nat) (vs : ByteArray) (s : ByteArray) (w : World) (hv : (-9223372036854775808 ≤ vn ∧ vn ≤ 9223372036854775807) ∧ vb < 18446744073709551616 ∧ vs.size ≤ maxLen) (hs : s.size ≤ maxLen) :
    Calls Try.prog 6 #[(.agg #[.int .i64 vk, .int .i64 vn, .int .u64 (vb : Int), .string vs]), .string s] w fun e w' => e = .returned (.bool true) ∧ Below w.heap.size w w' := by
  obtain ⟨⟨v0, v1⟩, v2, v3⟩ := hv
  unfold maxLen at v3
  obtain ⟨l, rfl⟩ : ∃ l, s = bstr l := ⟨s.data.toList, (bstr_of s).symm⟩
  have hsl : (bstr l).size = l.length := rfl
  have L := hid (hba w (.cells #[.int .i64 vk, .int .i64 vn, .int .u64 (vb : Int), .string vs] 24))
  have VV := hid (BV.new w vk vn vb vs)
  have hs0 : l.length ≤ 9223372036854775807 := by unfold maxLen at hs; exact hs
  clear hs
  by_cases yv : 500 < vs.size
  · have yv' : (500 : Int) < (vs.size : Int) := by omega
    go_enter Try.func6, Try.ntmps6
    go_wp2_with fail
    refine (known_any _).mono ?_; rintro e w1 ⟨rfl, b1⟩
    go_wp2
    go_ret
    exact ⟨rfl, hnext L.out b1⟩
  · have yv' : ¬ (500 : Int) < (vs.size : Int) := by omega
    by_cases ys : 300 < l.length
    · have ys' : (300 : Int) < (l.length : Int) := by omega
      go_enter Try.func6, Try.ntmps6
      go_wp2_with fail
      refine (known_any _).mono ?_; rintro e w1 ⟨rfl, b1⟩
      go_wp2
      go_ret
      exact ⟨rfl, hnext L.out b1⟩
    · have ys' : ¬ (300 : Int) < (l.length : Int) := by omega
      have csh0 := fun W => show_any vk vn vb vs (by unfold maxLen; omega) v0 v1 v2 W
      have cr0 := fun W => right_any vk vn vb vs (by unfold maxLen; omega) W
      have cp2 := fun W => parse_any l (by omega) W
      have hf := Vl.rd_fits l (by omega)
      unfold vv at csh0 cr0
      cases hr : Va.right vk vn vb vs with
      | true =>
        have hp := Vl.parse_txt hr v0 v1 v2
        have hsz := Vl.txt_size (k := vk) (n := vn) (b := vb) (s := vs) v0 v1
        have cp0 := fun W => parse_any (Vl.txt vk vn vb vs) (by omega) W
        rw [hp] at cp0
        unfold parV vvV vv at cp0
        have qv : ∀ w, (binOp .eql 24 (.agg #[.int .i64 vk, .int .i64 vn, .int .u64 (vb : Int), .string vs]) (.agg #[.int .i64 vk, .int .i64 vn, .int .u64 (vb : Int), .string vs])).run Try.prog w = .ok (.bool true) w := fun w => va_eql vk vn vb vs vk vn vb vs true ((v_beq ⟨vk, vn, vb, vs⟩ ⟨vk, vn, vb, vs⟩).trans (decide_eq_true rfl)) w
        rw [hr] at cr0
        have csh := hid csh0
        have cp := hid cp0
        have cr := hid cr0
        clear csh0 cp0 cr0 hr
        cases hq : Vl.parse l with
        | none =>
          rw [hq] at cp2
          unfold parV Vl.V0 vvV vv at cp2
          have cq := hid cp2
          clear cp2 hq hf
          go_enter Try.func6, Try.ntmps6
          go_wp2_with fail
          refine (csh.out _).mono ?_; rintro e w1 ⟨rfl, b1⟩
          have V1 := hid (VV.out.keep b1)
          have L1 := hid (hnext L.out b1)
          clear b1
          obtain ⟨Vc0_1, Vc1_1, Vc2_1, Vc3_1, Vf0_1, Vf1_1, Vf2_1, Vf3_1, Vl_1⟩ := V1.out.cells
          go_wp2_with fail
          refine (cp.out _).mono ?_; rintro e w2 ⟨rfl, b2⟩
          clear Vc0_1 Vc1_1 Vc2_1 Vc3_1 Vf0_1 Vf1_1 Vf2_1 Vf3_1 Vl_1
          have V2 := hid (V1.out.keep b2)
          have L2 := hid (hnext L1.out b2)
          clear b2
          obtain ⟨Vc0_2, Vc1_2, Vc2_2, Vc3_2, Vf0_2, Vf1_2, Vf2_2, Vf3_2, Vl_2⟩ := V2.out.cells
          go_wp2_with fail
          clear Vc0_2 Vc1_2 Vc2_2 Vc3_2 Vf0_2 Vf1_2 Vf2_2 Vf3_2 Vl_2
          have hb := hba w2 (.cells #[.int .i64 vk, .int .i64 vn, .int .u64 (vb : Int), .string vs] 24)
          have N0 := BV.new w2 vk vn vb vs
          change BV (World.alloc w2 (.cells #[.int .i64 vk, .int .i64 vn, .int .u64 (vb : Int), .string vs] 24)) _ _ _ _ _ at N0
          have V2n := hid (V2.out.keep hb)
          have L2n := hid (hnext L2.out hb)
          obtain ⟨gA, hgA⟩ : ∃ g, w2.heap.size = g := ⟨_, rfl⟩
          rw [hgA] at N0 ⊢
          have A0 := hid N0
          clear hb hgA N0
          generalize World.alloc w2 (.cells #[.int .i64 vk, .int .i64 vn, .int .u64 (vb : Int), .string vs] 24) = w3 at *
          obtain ⟨Vc0_3, Vc1_3, Vc2_3, Vc3_3, Vf0_3, Vf1_3, Vf2_3, Vf3_3, Vl_3⟩ := V2n.out.cells
          obtain ⟨Ac0_3, Ac1_3, Ac2_3, Ac3_3, Af0_3, Af1_3, Af2_3, Af3_3, Al_3⟩ := A0.out.cells
          refine (cq.out _).mono ?_; rintro e w4 ⟨rfl, b4⟩
          clear Vc0_3 Vc1_3 Vc2_3 Vc3_3 Vf0_3 Vf1_3 Vf2_3 Vf3_3 Vl_3 Ac0_3 Ac1_3 Ac2_3 Ac3_3 Af0_3 Af1_3 Af2_3 Af3_3 Al_3
          have V4 := hid (V2n.out.keep b4)
          have A4 := hid (A0.out.keep b4)
          have L4 := hid (hnext L2n.out b4)
          clear b4
          obtain ⟨Vc0_4, Vc1_4, Vc2_4, Vc3_4, Vf0_4, Vf1_4, Vf2_4, Vf3_4, Vl_4⟩ := V4.out.cells
          obtain ⟨Ac0_4, Ac1_4, Ac2_4, Ac3_4, Af0_4, Af1_4, Af2_4, Af3_4, Al_4⟩ := A4.out.cells
          go_wp2_with fail
          clear Vc0_4 Vc1_4 Vc2_4 Vc3_4 Vf0_4 Vf1_4 Vf2_4 Vf3_4 Vl_4 Ac0_4 Ac1_4 Ac2_4 Ac3_4 Af0_4 Af1_4 Af2_4 Af3_4 Al_4
          have hb := hba w4 (.cells #[.int .i64 0, .int .i64 0, .int .u64 0, .string ⟨#[]⟩] 24)
          have N0 := BV.new w4 0 0 0 ⟨#[]⟩
          change BV (World.alloc w4 (.cells #[.int .i64 0, .int .i64 0, .int .u64 0, .string ⟨#[]⟩] 24)) _ _ _ _ _ at N0
          have V4n := hid (V4.out.keep hb)
          have A4n := hid (A4.out.keep hb)
          have L4n := hid (hnext L4.out hb)
          obtain ⟨gB, hgB⟩ : ∃ g, w4.heap.size = g := ⟨_, rfl⟩
          rw [hgB] at N0 ⊢
          have B0 := hid N0
          clear hb hgB N0
          generalize World.alloc w4 (.cells #[.int .i64 0, .int .i64 0, .int .u64 0, .string ⟨#[]⟩] 24) = w5 at *
          obtain ⟨Vc0_5, Vc1_5, Vc2_5, Vc3_5, Vf0_5, Vf1_5, Vf2_5, Vf3_5, Vl_5⟩ := V4n.out.cells
          obtain ⟨Ac0_5, Ac1_5, Ac2_5, Ac3_5, Af0_5, Af1_5, Af2_5, Af3_5, Al_5⟩ := A4n.out.cells
          obtain ⟨Bc0_5, Bc1_5, Bc2_5, Bc3_5, Bf0_5, Bf1_5, Bf2_5, Bf3_5, Bl_5⟩ := B0.out.cells
          refine (cr.out _).mono ?_; rintro e w6 ⟨rfl, b6⟩
          clear Vc0_5 Vc1_5 Vc2_5 Vc3_5 Vf0_5 Vf1_5 Vf2_5 Vf3_5 Vl_5 Ac0_5 Ac1_5 Ac2_5 Ac3_5 Af0_5 Af1_5 Af2_5 Af3_5 Al_5 Bc0_5 Bc1_5 Bc2_5 Bc3_5 Bf0_5 Bf1_5 Bf2_5 Bf3_5 Bl_5
          have V6 := hid (V4n.out.keep b6)
          have A6 := hid (A4n.out.keep b6)
          have B6 := hid (B0.out.keep b6)
          have L6 := hid (hnext L4n.out b6)
          clear b6
          obtain ⟨Vc0_6, Vc1_6, Vc2_6, Vc3_6, Vf0_6, Vf1_6, Vf2_6, Vf3_6, Vl_6⟩ := V6.out.cells
          obtain ⟨Ac0_6, Ac1_6, Ac2_6, Ac3_6, Af0_6, Af1_6, Af2_6, Af3_6, Al_6⟩ := A6.out.cells
          obtain ⟨Bc0_6, Bc1_6, Bc2_6, Bc3_6, Bf0_6, Bf1_6, Bf2_6, Bf3_6, Bl_6⟩ := B6.out.cells
          go_wp2_with fail
          refine (known_any _).mono ?_; rintro e w7 ⟨rfl, b7⟩
          go_wp2
          go_ret
          exact ⟨rfl, hnext L6.out b7⟩
        | some x =>
          rw [hq] at cp2
          obtain ⟨p1, p2, p3⟩ := Vl.parse_back hq
          rw [p3] at hf
          obtain ⟨bk, bn, bb, bs⟩ := x
          obtain ⟨⟨f1, f2⟩, f3, f4⟩ := hf
          replace f1 : -9223372036854775808 ≤ bn := f1
          replace f2 : bn ≤ 9223372036854775807 := f2
          replace f3 : bb < 18446744073709551616 := f3
          replace f4 : bs.size ≤ 1000000 := f4
          replace p1 : Vl.txt bk bn bb bs = l := p1
          replace p2 : Va.right bk bn bb bs = true := p2
          unfold parV vvV vv at cp2
          have cq := hid cp2
          have csb := hid (fun W => show_any bk bn bb bs (by unfold maxLen; omega) f1 f2 f3 W)
          have crb := hid (fun W => right_any bk bn bb bs (by unfold maxLen; omega) W)
          rw [p1] at csb
          rw [p2] at crb
          unfold vv at csb crb
          clear cp2 hq p1 p2 p3 f1 f2 f3 f4
          go_enter Try.func6, Try.ntmps6
          go_wp2_with fail
          refine (csh.out _).mono ?_; rintro e w1 ⟨rfl, b1⟩
          have V1 := hid (VV.out.keep b1)
          have L1 := hid (hnext L.out b1)
          clear b1
          obtain ⟨Vc0_1, Vc1_1, Vc2_1, Vc3_1, Vf0_1, Vf1_1, Vf2_1, Vf3_1, Vl_1⟩ := V1.out.cells
          go_wp2_with fail
          refine (cp.out _).mono ?_; rintro e w2 ⟨rfl, b2⟩
          clear Vc0_1 Vc1_1 Vc2_1 Vc3_1 Vf0_1 Vf1_1 Vf2_1 Vf3_1 Vl_1
          have V2 := hid (V1.out.keep b2)
          have L2 := hid (hnext L1.out b2)
          clear b2
          obtain ⟨Vc0_2, Vc1_2, Vc2_2, Vc3_2, Vf0_2, Vf1_2, Vf2_2, Vf3_2, Vl_2⟩ := V2.out.cells
          go_wp2_with fail
          clear Vc0_2 Vc1_2 Vc2_2 Vc3_2 Vf0_2 Vf1_2 Vf2_2 Vf3_2 Vl_2
          have hb := hba w2 (.cells #[.int .i64 vk, .int .i64 vn, .int .u64 (vb : Int), .string vs] 24)
          have N0 := BV.new w2 vk vn vb vs
          change BV (World.alloc w2 (.cells #[.int .i64 vk, .int .i64 vn, .int .u64 (vb : Int), .string vs] 24)) _ _ _ _ _ at N0
          have V2n := hid (V2.out.keep hb)
          have L2n := hid (hnext L2.out hb)
          obtain ⟨gA, hgA⟩ : ∃ g, w2.heap.size = g := ⟨_, rfl⟩
          rw [hgA] at N0 ⊢
          have A0 := hid N0
          clear hb hgA N0
          generalize World.alloc w2 (.cells #[.int .i64 vk, .int .i64 vn, .int .u64 (vb : Int), .string vs] 24) = w3 at *
          obtain ⟨Vc0_3, Vc1_3, Vc2_3, Vc3_3, Vf0_3, Vf1_3, Vf2_3, Vf3_3, Vl_3⟩ := V2n.out.cells
          obtain ⟨Ac0_3, Ac1_3, Ac2_3, Ac3_3, Af0_3, Af1_3, Af2_3, Af3_3, Al_3⟩ := A0.out.cells
          refine (cq.out _).mono ?_; rintro e w4 ⟨rfl, b4⟩
          clear Vc0_3 Vc1_3 Vc2_3 Vc3_3 Vf0_3 Vf1_3 Vf2_3 Vf3_3 Vl_3 Ac0_3 Ac1_3 Ac2_3 Ac3_3 Af0_3 Af1_3 Af2_3 Af3_3 Al_3
          have V4 := hid (V2n.out.keep b4)
          have A4 := hid (A0.out.keep b4)
          have L4 := hid (hnext L2n.out b4)
          clear b4
          obtain ⟨Vc0_4, Vc1_4, Vc2_4, Vc3_4, Vf0_4, Vf1_4, Vf2_4, Vf3_4, Vl_4⟩ := V4.out.cells
          obtain ⟨Ac0_4, Ac1_4, Ac2_4, Ac3_4, Af0_4, Af1_4, Af2_4, Af3_4, Al_4⟩ := A4.out.cells
          go_wp2_with fail
          clear Vc0_4 Vc1_4 Vc2_4 Vc3_4 Vf0_4 Vf1_4 Vf2_4 Vf3_4 Vl_4 Ac0_4 Ac1_4 Ac2_4 Ac3_4 Af0_4 Af1_4 Af2_4 Af3_4 Al_4
          have hb := hba w4 (.cells #[.int .i64 bk, .int .i64 bn, .int .u64 (bb : Int), .string bs] 24)
          have N0 := BV.new w4 bk bn bb bs
          change BV (World.alloc w4 (.cells #[.int .i64 bk, .int .i64 bn, .int .u64 (bb : Int), .string bs] 24)) _ _ _ _ _ at N0
          have V4n := hid (V4.out.keep hb)
          have A4n := hid (A4.out.keep hb)
          have L4n := hid (hnext L4.out hb)
          obtain ⟨gB, hgB⟩ : ∃ g, w4.heap.size = g := ⟨_, rfl⟩
          rw [hgB] at N0 ⊢
          have B0 := hid N0
          clear hb hgB N0
          generalize World.alloc w4 (.cells #[.int .i64 bk, .int .i64 bn, .int .u64 (bb : Int), .string bs] 24) = w5 at *
          obtain ⟨Vc0_5, Vc1_5, Vc2_5, Vc3_5, Vf0_5, Vf1_5, Vf2_5, Vf3_5, Vl_5⟩ := V4n.out.cells
          obtain ⟨Ac0_5, Ac1_5, Ac2_5, Ac3_5, Af0_5, Af1_5, Af2_5, Af3_5, Al_5⟩ := A4n.out.cells
          obtain ⟨Bc0_5, Bc1_5, Bc2_5, Bc3_5, Bf0_5, Bf1_5, Bf2_5, Bf3_5, Bl_5⟩ := B0.out.cells
          refine (cr.out _).mono ?_; rintro e w6 ⟨rfl, b6⟩
          clear Vc0_5 Vc1_5 Vc2_5 Vc3_5 Vf0_5 Vf1_5 Vf2_5 Vf3_5 Vl_5 Ac0_5 Ac1_5 Ac2_5 Ac3_5 Af0_5 Af1_5 Af2_5 Af3_5 Al_5 Bc0_5 Bc1_5 Bc2_5 Bc3_5 Bf0_5 Bf1_5 Bf2_5 Bf3_5 Bl_5
          have V6 := hid (V4n.out.keep b6)
          have A6 := hid (A4n.out.keep b6)
          have B6 := hid (B0.out.keep b6)
          have L6 := hid (hnext L4n.out b6)
          clear b6
          obtain ⟨Vc0_6, Vc1_6, Vc2_6, Vc3_6, Vf0_6, Vf1_6, Vf2_6, Vf3_6, Vl_6⟩ := V6.out.cells
          obtain ⟨Ac0_6, Ac1_6, Ac2_6, Ac3_6, Af0_6, Af1_6, Af2_6, Af3_6, Al_6⟩ := A6.out.cells
          obtain ⟨Bc0_6, Bc1_6, Bc2_6, Bc3_6, Bf0_6, Bf1_6, Bf2_6, Bf3_6, Bl_6⟩ := B6.out.cells
          go_wp2_with fail
          refine (csb.out _).mono ?_; rintro e w7 ⟨rfl, b7⟩
          clear Vc0_6 Vc1_6 Vc2_6 Vc3_6 Vf0_6 Vf1_6 Vf2_6 Vf3_6 Vl_6 Ac0_6 Ac1_6 Ac2_6 Ac3_6 Af0_6 Af1_6 Af2_6 Af3_6 Al_6 Bc0_6 Bc1_6 Bc2_6 Bc3_6 Bf0_6 Bf1_6 Bf2_6 Bf3_6 Bl_6
          have V7 := hid (V6.out.keep b7)
          have A7 := hid (A6.out.keep b7)
          have B7 := hid (B6.out.keep b7)
          have L7 := hid (hnext L6.out b7)
          clear b7
          obtain ⟨Vc0_7, Vc1_7, Vc2_7, Vc3_7, Vf0_7, Vf1_7, Vf2_7, Vf3_7, Vl_7⟩ := V7.out.cells
          obtain ⟨Ac0_7, Ac1_7, Ac2_7, Ac3_7, Af0_7, Af1_7, Af2_7, Af3_7, Al_7⟩ := A7.out.cells
          obtain ⟨Bc0_7, Bc1_7, Bc2_7, Bc3_7, Bf0_7, Bf1_7, Bf2_7, Bf3_7, Bl_7⟩ := B7.out.cells
          go_wp2_with fail
          refine (crb.out _).mono ?_; rintro e w8 ⟨rfl, b8⟩
          clear Vc0_7 Vc1_7 Vc2_7 Vc3_7 Vf0_7 Vf1_7 Vf2_7 Vf3_7 Vl_7 Ac0_7 Ac1_7 Ac2_7 Ac3_7 Af0_7 Af1_7 Af2_7 Af3_7 Al_7 Bc0_7 Bc1_7 Bc2_7 Bc3_7 Bf0_7 Bf1_7 Bf2_7 Bf3_7 Bl_7
          have V8 := hid (V7.out.keep b8)
          have A8 := hid (A7.out.keep b8)
          have B8 := hid (B7.out.keep b8)
          have L8 := hid (hnext L7.out b8)
          clear b8
          obtain ⟨Vc0_8, Vc1_8, Vc2_8, Vc3_8, Vf0_8, Vf1_8, Vf2_8, Vf3_8, Vl_8⟩ := V8.out.cells
          obtain ⟨Ac0_8, Ac1_8, Ac2_8, Ac3_8, Af0_8, Af1_8, Af2_8, Af3_8, Al_8⟩ := A8.out.cells
          obtain ⟨Bc0_8, Bc1_8, Bc2_8, Bc3_8, Bf0_8, Bf1_8, Bf2_8, Bf3_8, Bl_8⟩ := B8.out.cells
          go_wp2_with fail
          refine (known_any _).mono ?_; rintro e w9 ⟨rfl, b9⟩
          go_wp2
          go_ret
          exact ⟨rfl, hnext L8.out b9⟩
      | false =>
        have cp0 := fun W => parse_any [] (by decide) W
        rw [Vl.parse_none] at cp0
        unfold parV Vl.V0 vvV vv at cp0
        rw [Vl.txt_odd hr] at csh0
        rw [hr] at cr0
        have csh := hid csh0
        have cp := hid cp0
        have cr := hid cr0
        clear csh0 cp0 cr0 hr
        cases hq : Vl.parse l with
        | none =>
          rw [hq] at cp2
          unfold parV Vl.V0 vvV vv at cp2
          have cq := hid cp2
          clear cp2 hq hf
          go_enter Try.func6, Try.ntmps6
          go_wp2_with fail
          refine (csh.out _).mono ?_; rintro e w1 ⟨rfl, b1⟩
          have V1 := hid (VV.out.keep b1)
          have L1 := hid (hnext L.out b1)
          clear b1
          obtain ⟨Vc0_1, Vc1_1, Vc2_1, Vc3_1, Vf0_1, Vf1_1, Vf2_1, Vf3_1, Vl_1⟩ := V1.out.cells
          go_wp2_with fail
          refine (cp.out _).mono ?_; rintro e w2 ⟨rfl, b2⟩
          clear Vc0_1 Vc1_1 Vc2_1 Vc3_1 Vf0_1 Vf1_1 Vf2_1 Vf3_1 Vl_1
          have V2 := hid (V1.out.keep b2)
          have L2 := hid (hnext L1.out b2)
          clear b2
          obtain ⟨Vc0_2, Vc1_2, Vc2_2, Vc3_2, Vf0_2, Vf1_2, Vf2_2, Vf3_2, Vl_2⟩ := V2.out.cells
          go_wp2_with fail
          clear Vc0_2 Vc1_2 Vc2_2 Vc3_2 Vf0_2 Vf1_2 Vf2_2 Vf3_2 Vl_2
          have hb := hba w2 (.cells #[.int .i64 0, .int .i64 0, .int .u64 0, .string ⟨#[]⟩] 24)
          have N0 := BV.new w2 0 0 0 ⟨#[]⟩
          change BV (World.alloc w2 (.cells #[.int .i64 0, .int .i64 0, .int .u64 0, .string ⟨#[]⟩] 24)) _ _ _ _ _ at N0
          have V2n := hid (V2.out.keep hb)
          have L2n := hid (hnext L2.out hb)
          obtain ⟨gA, hgA⟩ : ∃ g, w2.heap.size = g := ⟨_, rfl⟩
          rw [hgA] at N0 ⊢
          have A0 := hid N0
          clear hb hgA N0
          generalize World.alloc w2 (.cells #[.int .i64 0, .int .i64 0, .int .u64 0, .string ⟨#[]⟩] 24) = w3 at *
          obtain ⟨Vc0_3, Vc1_3, Vc2_3, Vc3_3, Vf0_3, Vf1_3, Vf2_3, Vf3_3, Vl_3⟩ := V2n.out.cells
          obtain ⟨Ac0_3, Ac1_3, Ac2_3, Ac3_3, Af0_3, Af1_3, Af2_3, Af3_3, Al_3⟩ := A0.out.cells
          refine (cq.out _).mono ?_; rintro e w4 ⟨rfl, b4⟩
          clear Vc0_3 Vc1_3 Vc2_3 Vc3_3 Vf0_3 Vf1_3 Vf2_3 Vf3_3 Vl_3 Ac0_3 Ac1_3 Ac2_3 Ac3_3 Af0_3 Af1_3 Af2_3 Af3_3 Al_3
          have V4 := hid (V2n.out.keep b4)
          have A4 := hid (A0.out.keep b4)
          have L4 := hid (hnext L2n.out b4)
          clear b4
          obtain ⟨Vc0_4, Vc1_4, Vc2_4, Vc3_4, Vf0_4, Vf1_4, Vf2_4, Vf3_4, Vl_4⟩ := V4.out.cells
          obtain ⟨Ac0_4, Ac1_4, Ac2_4, Ac3_4, Af0_4, Af1_4, Af2_4, Af3_4, Al_4⟩ := A4.out.cells
          go_wp2_with fail
          clear Vc0_4 Vc1_4 Vc2_4 Vc3_4 Vf0_4 Vf1_4 Vf2_4 Vf3_4 Vl_4 Ac0_4 Ac1_4 Ac2_4 Ac3_4 Af0_4 Af1_4 Af2_4 Af3_4 Al_4
          have hb := hba w4 (.cells #[.int .i64 0, .int .i64 0, .int .u64 0, .string ⟨#[]⟩] 24)
          have N0 := BV.new w4 0 0 0 ⟨#[]⟩
          change BV (World.alloc w4 (.cells #[.int .i64 0, .int .i64 0, .int .u64 0, .string ⟨#[]⟩] 24)) _ _ _ _ _ at N0
          have V4n := hid (V4.out.keep hb)
          have A4n := hid (A4.out.keep hb)
          have L4n := hid (hnext L4.out hb)
          obtain ⟨gB, hgB⟩ : ∃ g, w4.heap.size = g := ⟨_, rfl⟩
          rw [hgB] at N0 ⊢
          have B0 := hid N0
          clear hb hgB N0
          generalize World.alloc w4 (.cells #[.int .i64 0, .int .i64 0, .int .u64 0, .string ⟨#[]⟩] 24) = w5 at *
          obtain ⟨Vc0_5, Vc1_5, Vc2_5, Vc3_5, Vf0_5, Vf1_5, Vf2_5, Vf3_5, Vl_5⟩ := V4n.out.cells
          obtain ⟨Ac0_5, Ac1_5, Ac2_5, Ac3_5, Af0_5, Af1_5, Af2_5, Af3_5, Al_5⟩ := A4n.out.cells
          obtain ⟨Bc0_5, Bc1_5, Bc2_5, Bc3_5, Bf0_5, Bf1_5, Bf2_5, Bf3_5, Bl_5⟩ := B0.out.cells
          refine (cr.out _).mono ?_; rintro e w6 ⟨rfl, b6⟩
          clear Vc0_5 Vc1_5 Vc2_5 Vc3_5 Vf0_5 Vf1_5 Vf2_5 Vf3_5 Vl_5 Ac0_5 Ac1_5 Ac2_5 Ac3_5 Af0_5 Af1_5 Af2_5 Af3_5 Al_5 Bc0_5 Bc1_5 Bc2_5 Bc3_5 Bf0_5 Bf1_5 Bf2_5 Bf3_5 Bl_5
          have V6 := hid (V4n.out.keep b6)
          have A6 := hid (A4n.out.keep b6)
          have B6 := hid (B0.out.keep b6)
          have L6 := hid (hnext L4n.out b6)
          clear b6
          obtain ⟨Vc0_6, Vc1_6, Vc2_6, Vc3_6, Vf0_6, Vf1_6, Vf2_6, Vf3_6, Vl_6⟩ := V6.out.cells
          obtain ⟨Ac0_6, Ac1_6, Ac2_6, Ac3_6, Af0_6, Af1_6, Af2_6, Af3_6, Al_6⟩ := A6.out.cells
          obtain ⟨Bc0_6, Bc1_6, Bc2_6, Bc3_6, Bf0_6, Bf1_6, Bf2_6, Bf3_6, Bl_6⟩ := B6.out.cells
          go_wp2_with fail
          refine (known_any _).mono ?_; rintro e w7 ⟨rfl, b7⟩
          go_wp2
          go_ret
          exact ⟨rfl, hnext L6.out b7⟩
        | some x =>
          rw [hq] at cp2
          obtain ⟨p1, p2, p3⟩ := Vl.parse_back hq
          rw [p3] at hf
          obtain ⟨bk, bn, bb, bs⟩ := x
          obtain ⟨⟨f1, f2⟩, f3, f4⟩ := hf
          replace f1 : -9223372036854775808 ≤ bn := f1
          replace f2 : bn ≤ 9223372036854775807 := f2
          replace f3 : bb < 18446744073709551616 := f3
          replace f4 : bs.size ≤ 1000000 := f4
          replace p1 : Vl.txt bk bn bb bs = l := p1
          replace p2 : Va.right bk bn bb bs = true := p2
          unfold parV vvV vv at cp2
          have cq := hid cp2
          have csb := hid (fun W => show_any bk bn bb bs (by unfold maxLen; omega) f1 f2 f3 W)
          have crb := hid (fun W => right_any bk bn bb bs (by unfold maxLen; omega) W)
          rw [p1] at csb
          rw [p2] at crb
          unfold vv at csb crb
          clear cp2 hq p1 p2 p3 f1 f2 f3 f4
          go_enter Try.func6, Try.ntmps6
          go_wp2_with fail
          refine (csh.out _).mono ?_; rintro e w1 ⟨rfl, b1⟩
          have V1 := hid (VV.out.keep b1)
          have L1 := hid (hnext L.out b1)
          clear b1
          obtain ⟨Vc0_1, Vc1_1, Vc2_1, Vc3_1, Vf0_1, Vf1_1, Vf2_1, Vf3_1, Vl_1⟩ := V1.out.cells
          go_wp2_with fail
          refine (cp.out _).mono ?_; rintro e w2 ⟨rfl, b2⟩
          clear Vc0_1 Vc1_1 Vc2_1 Vc3_1 Vf0_1 Vf1_1 Vf2_1 Vf3_1 Vl_1
          have V2 := hid (V1.out.keep b2)
          have L2 := hid (hnext L1.out b2)
          clear b2
          obtain ⟨Vc0_2, Vc1_2, Vc2_2, Vc3_2, Vf0_2, Vf1_2, Vf2_2, Vf3_2, Vl_2⟩ := V2.out.cells
          go_wp2_with fail
          clear Vc0_2 Vc1_2 Vc2_2 Vc3_2 Vf0_2 Vf1_2 Vf2_2 Vf3_2 Vl_2
          have hb := hba w2 (.cells #[.int .i64 0, .int .i64 0, .int .u64 0, .string ⟨#[]⟩] 24)
          have N0 := BV.new w2 0 0 0 ⟨#[]⟩
          change BV (World.alloc w2 (.cells #[.int .i64 0, .int .i64 0, .int .u64 0, .string ⟨#[]⟩] 24)) _ _ _ _ _ at N0
          have V2n := hid (V2.out.keep hb)
          have L2n := hid (hnext L2.out hb)
          obtain ⟨gA, hgA⟩ : ∃ g, w2.heap.size = g := ⟨_, rfl⟩
          rw [hgA] at N0 ⊢
          have A0 := hid N0
          clear hb hgA N0
          generalize World.alloc w2 (.cells #[.int .i64 0, .int .i64 0, .int .u64 0, .string ⟨#[]⟩] 24) = w3 at *
          obtain ⟨Vc0_3, Vc1_3, Vc2_3, Vc3_3, Vf0_3, Vf1_3, Vf2_3, Vf3_3, Vl_3⟩ := V2n.out.cells
          obtain ⟨Ac0_3, Ac1_3, Ac2_3, Ac3_3, Af0_3, Af1_3, Af2_3, Af3_3, Al_3⟩ := A0.out.cells
          refine (cq.out _).mono ?_; rintro e w4 ⟨rfl, b4⟩
          clear Vc0_3 Vc1_3 Vc2_3 Vc3_3 Vf0_3 Vf1_3 Vf2_3 Vf3_3 Vl_3 Ac0_3 Ac1_3 Ac2_3 Ac3_3 Af0_3 Af1_3 Af2_3 Af3_3 Al_3
          have V4 := hid (V2n.out.keep b4)
          have A4 := hid (A0.out.keep b4)
          have L4 := hid (hnext L2n.out b4)
          clear b4
          obtain ⟨Vc0_4, Vc1_4, Vc2_4, Vc3_4, Vf0_4, Vf1_4, Vf2_4, Vf3_4, Vl_4⟩ := V4.out.cells
          obtain ⟨Ac0_4, Ac1_4, Ac2_4, Ac3_4, Af0_4, Af1_4, Af2_4, Af3_4, Al_4⟩ := A4.out.cells
          go_wp2_with fail
          clear Vc0_4 Vc1_4 Vc2_4 Vc3_4 Vf0_4 Vf1_4 Vf2_4 Vf3_4 Vl_4 Ac0_4 Ac1_4 Ac2_4 Ac3_4 Af0_4 Af1_4 Af2_4 Af3_4 Al_4
          have hb := hba w4 (.cells #[.int .i64 bk, .int .i64 bn, .int .u64 (bb : Int), .string bs] 24)
          have N0 := BV.new w4 bk bn bb bs
          change BV (World.alloc w4 (.cells #[.int .i64 bk, .int .i64 bn, .int .u64 (bb : Int), .string bs] 24)) _ _ _ _ _ at N0
          have V4n := hid (V4.out.keep hb)
          have A4n := hid (A4.out.keep hb)
          have L4n := hid (hnext L4.out hb)
          obtain ⟨gB, hgB⟩ : ∃ g, w4.heap.size = g := ⟨_, rfl⟩
          rw [hgB] at N0 ⊢
          have B0 := hid N0
          clear hb hgB N0
          generalize World.alloc w4 (.cells #[.int .i64 bk, .int .i64 bn, .int .u64 (bb : Int), .string bs] 24) = w5 at *
          obtain ⟨Vc0_5, Vc1_5, Vc2_5, Vc3_5, Vf0_5, Vf1_5, Vf2_5, Vf3_5, Vl_5⟩ := V4n.out.cells
          obtain ⟨Ac0_5, Ac1_5, Ac2_5, Ac3_5, Af0_5, Af1_5, Af2_5, Af3_5, Al_5⟩ := A4n.out.cells
          obtain ⟨Bc0_5, Bc1_5, Bc2_5, Bc3_5, Bf0_5, Bf1_5, Bf2_5, Bf3_5, Bl_5⟩ := B0.out.cells
          refine (cr.out _).mono ?_; rintro e w6 ⟨rfl, b6⟩
          clear Vc0_5 Vc1_5 Vc2_5 Vc3_5 Vf0_5 Vf1_5 Vf2_5 Vf3_5 Vl_5 Ac0_5 Ac1_5 Ac2_5 Ac3_5 Af0_5 Af1_5 Af2_5 Af3_5 Al_5 Bc0_5 Bc1_5 Bc2_5 Bc3_5 Bf0_5 Bf1_5 Bf2_5 Bf3_5 Bl_5
          have V6 := hid (V4n.out.keep b6)
          have A6 := hid (A4n.out.keep b6)
          have B6 := hid (B0.out.keep b6)
          have L6 := hid (hnext L4n.out b6)
          clear b6
          obtain ⟨Vc0_6, Vc1_6, Vc2_6, Vc3_6, Vf0_6, Vf1_6, Vf2_6, Vf3_6, Vl_6⟩ := V6.out.cells
          obtain ⟨Ac0_6, Ac1_6, Ac2_6, Ac3_6, Af0_6, Af1_6, Af2_6, Af3_6, Al_6⟩ := A6.out.cells
          obtain ⟨Bc0_6, Bc1_6, Bc2_6, Bc3_6, Bf0_6, Bf1_6, Bf2_6, Bf3_6, Bl_6⟩ := B6.out.cells
          go_wp2_with fail
          refine (csb.out _).mono ?_; rintro e w7 ⟨rfl, b7⟩
          clear Vc0_6 Vc1_6 Vc2_6 Vc3_6 Vf0_6 Vf1_6 Vf2_6 Vf3_6 Vl_6 Ac0_6 Ac1_6 Ac2_6 Ac3_6 Af0_6 Af1_6 Af2_6 Af3_6 Al_6 Bc0_6 Bc1_6 Bc2_6 Bc3_6 Bf0_6 Bf1_6 Bf2_6 Bf3_6 Bl_6
          have V7 := hid (V6.out.keep b7)
          have A7 := hid (A6.out.keep b7)
          have B7 := hid (B6.out.keep b7)
          have L7 := hid (hnext L6.out b7)
          clear b7
          obtain ⟨Vc0_7, Vc1_7, Vc2_7, Vc3_7, Vf0_7, Vf1_7, Vf2_7, Vf3_7, Vl_7⟩ := V7.out.cells
          obtain ⟨Ac0_7, Ac1_7, Ac2_7, Ac3_7, Af0_7, Af1_7, Af2_7, Af3_7, Al_7⟩ := A7.out.cells
          obtain ⟨Bc0_7, Bc1_7, Bc2_7, Bc3_7, Bf0_7, Bf1_7, Bf2_7, Bf3_7, Bl_7⟩ := B7.out.cells
          go_wp2_with fail
          refine (crb.out _).mono ?_; rintro e w8 ⟨rfl, b8⟩
          clear Vc0_7 Vc1_7 Vc2_7 Vc3_7 Vf0_7 Vf1_7 Vf2_7 Vf3_7 Vl_7 Ac0_7 Ac1_7 Ac2_7 Ac3_7 Af0_7 Af1_7 Af2_7 Af3_7 Al_7 Bc0_7 Bc1_7 Bc2_7 Bc3_7 Bf0_7 Bf1_7 Bf2_7 Bf3_7 Bl_7
          have V8 := hid (V7.out.keep b8)
          have A8 := hid (A7.out.keep b8)
          have B8 := hid (B7.out.keep b8)
          have L8 := hid (hnext L7.out b8)
          clear b8
          obtain ⟨Vc0_8, Vc1_8, Vc2_8, Vc3_8, Vf0_8, Vf1_8, Vf2_8, Vf3_8, Vl_8⟩ := V8.out.cells
          obtain ⟨Ac0_8, Ac1_8, Ac2_8, Ac3_8, Af0_8, Af1_8, Af2_8, Af3_8, Al_8⟩ := A8.out.cells
          obtain ⟨Bc0_8, Bc1_8, Bc2_8, Bc3_8, Bf0_8, Bf1_8, Bf2_8, Bf3_8, Bl_8⟩ := B8.out.cells
          go_wp2_with fail
          refine (known_any _).mono ?_; rintro e w9 ⟨rfl, b9⟩
          go_wp2
          go_ret
          exact ⟨rfl, hnext L8.out b9⟩
end Go.Proofs.Ytgdegoacjobpdaa
