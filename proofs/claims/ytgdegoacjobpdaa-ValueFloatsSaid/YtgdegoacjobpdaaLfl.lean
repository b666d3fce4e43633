/-
  ValueFloats answers true at any two numbers' bits. No condition.
-/
import Derived.Test.YtgdegoacjobpdaaVq
namespace Go.Proofs.Ytgdegoacjobpdaa
open Go.RowKit

namespace Va
theorem canon_nan {x : Nat} (h : INF < x % SIGN) : canon x = NAN := if_pos h
theorem sg_canon {x : Nat} (h : ¬ INF < x % SIGN) : sg (canon x) = sg x ∧ ¬ INF < canon x % SIGN := by
  unfold canon
  rw [if_neg h]
  by_cases h2 : x % SIGN = 0
  · rw [if_pos h2]
    refine ⟨?_, by decide⟩
    unfold sg
    rw [h2]
    have hm : mag 0 = 0 := by decide +kernel
    rw [show (0 : Nat) % SIGN = 0 from rfl, hm]
    split <;> split <;> rfl
  · rw [if_neg h2]
    exact ⟨rfl, h⟩
theorem canon_right (x : Nat) (_hx : x < 18446744073709551616) : Va.right 3 0 (canon x) ⟨#[]⟩ = true := by
  have h : canon (canon x) = canon x := by
    by_cases h1 : INF < x % SIGN
    · rw [canon_nan h1]; decide +kernel
    · by_cases h2 : x % SIGN = 0
      · rw [show canon x = 0 from (if_neg h1).trans (if_pos h2)]; decide +kernel
      · have e : canon x = x := (if_neg h1).trans (if_neg h2)
        rw [e, e]
  unfold Va.right
  rw [show decide (canon (canon x) = canon x) = true from decide_eq_true h]; rfl
theorem canon_order (x y : Nat) :
    (((FloatKind.f64.format.order x x == some .eq) = false) ∧ ((FloatKind.f64.format.order (canon x) (canon x) == some .eq) = false) ∧ True ∧
      (((FloatKind.f64.format.order y y == some .eq) = true ∧ Ky.floats (canon x) (canon y) = 1) ∨ ((FloatKind.f64.format.order y y == some .eq) = false ∧ Ky.floats (canon x) (canon y) = 0))) ∨
    (((FloatKind.f64.format.order x x == some .eq) = true) ∧ ((FloatKind.f64.format.order (canon x) x == some .eq) = true) ∧ ((FloatKind.f64.format.order y y == some .eq) = false) ∧ True ∧ Ky.floats (canon x) (canon y) = -1) ∨
    (((FloatKind.f64.format.order x x == some .eq) = true) ∧ ((FloatKind.f64.format.order (canon x) x == some .eq) = true) ∧ ((FloatKind.f64.format.order y y == some .eq) = true) ∧
      (((FloatKind.f64.format.order x 0 == some .eq) = true ∧ canon x = 0) ∨ ((FloatKind.f64.format.order x 0 == some .eq) = false)) ∧
      ((FloatKind.f64.format.order x y = some .lt ∧ Ky.floats (canon x) (canon y) = -1) ∨ (FloatKind.f64.format.order x y = some .eq ∧ Ky.floats (canon x) (canon y) = 0) ∨ (FloatKind.f64.format.order x y = some .gt ∧ Ky.floats (canon x) (canon y) = 1))) := by
  have nn : Ky.nan NAN = 1 := by decide +kernel
  have n0 : ∀ {c : Nat}, ¬ INF < c % SIGN → Ky.nan (canon c) = 0 := fun h => if_neg (sg_canon h).2
  have hN : INF < NAN % SIGN := by decide +kernel
  have fl0 : ∀ c : Nat, Ky.fl NAN c = 0 := fun c => by
    unfold Ky.fl
    obtain ⟨s, t, e⟩ := read_nan (b := NAN) hN
    show (match (Ieee.double.read NAN).order (Ieee.double.read c) with | some .lt => -1 | some .gt => 1 | _ => 0) = (0 : Int)
    rw [e]; rfl
  by_cases hx : INF < x % SIGN
  · left
    refine ⟨?_, ?_, trivial, ?_⟩
    · rw [order_self]; exact decide_eq_false (fun h => h hx)
    · rw [canon_nan hx, order_self]; exact decide_eq_false (fun h => h hN)
    · by_cases hy : INF < y % SIGN
      · right
        refine ⟨by rw [order_self]; exact decide_eq_false (fun h => h hy), ?_⟩
        rw [canon_nan hx, canon_nan hy]
        unfold Ky.floats
        rw [nn, if_pos (by decide), fl0]
      · left
        refine ⟨by rw [order_self]; exact decide_eq_true hy, ?_⟩
        rw [canon_nan hx]
        unfold Ky.floats
        rw [nn, n0 hy, if_neg (by decide)]; rfl
  · obtain ⟨sx, gx⟩ := sg_canon hx
    have o1 : (FloatKind.f64.format.order x x == some .eq) = true := by rw [order_self]; exact decide_eq_true hx
    have o2 : (FloatKind.f64.format.order (canon x) x == some .eq) = true := by rw [order_sg gx hx, sx, Int.compare_eq_eq.2 rfl]; rfl
    right
    by_cases hy : INF < y % SIGN
    · left
      refine ⟨o1, o2, by rw [order_self]; exact decide_eq_false (fun h => h hy), trivial, ?_⟩
      rw [canon_nan hy]
      unfold Ky.floats
      rw [nn, n0 hx, if_neg (by decide)]; rfl
    · right
      obtain ⟨sy, gy⟩ := sg_canon hy
      refine ⟨o1, o2, by rw [order_self]; exact decide_eq_true hy, ?_, ?_⟩
      · by_cases h2 : x % SIGN = 0
        · exact .inl ⟨by rw [order_zero x hx]; exact decide_eq_true h2, (if_neg hx).trans (if_pos h2)⟩
        · exact .inr (by rw [order_zero x hx]; exact decide_eq_false h2)
      · unfold Ky.floats
        rw [n0 hx, n0 hy, if_pos (by decide), Ky.fl_sg gx gy, sx, sy, order_sg hx hy]
        rcases Int.lt_trichotomy (sg x) (sg y) with h | h | h
        · exact .inl ⟨by rw [Int.compare_eq_lt.2 h], Ky.ints_lt h⟩
        · exact .inr (.inl ⟨by rw [Int.compare_eq_eq.2 h], by rw [h, Ky.ints_self]⟩)
        · exact .inr (.inr ⟨by rw [Int.compare_eq_gt.2 h], Ky.ints_gt h⟩)
end Va
set_option maxRecDepth 100000 in
set_option maxHeartbeats 12800000 in
theorem valueFloats_nat (x y : Nat) (w : World) (hx : x < 18446744073709551616) (hy : y < 18446744073709551616) :
    Calls Try.prog 7 #[.int .u64 (x : Int), .int .u64 (y : Int)] w fun e w' => e = .returned (.bool true) ∧ Below w.heap.size w w' := by
  have L := hid (Below.refl w.heap.size w)
  have fx := fun W => run_frombits x W
  have fy := fun W => run_frombits y W
  have ca0 := fun W => offloat_any x W
  have cb0 := fun W => offloat_any y W
  have rx := Va.canon_right x hx
  have ry := Va.canon_right y hy
  have ra0 := fun W => right_any 3 0 (Va.canon x) ⟨#[]⟩ (by decide) W
  have rb0 := fun W => right_any 3 0 (Va.canon y) ⟨#[]⟩ (by decide) W
  have cc0 := fun W => compare_any ⟨3, 0, Va.canon x, ⟨#[]⟩⟩ ⟨3, 0, Va.canon y, ⟨#[]⟩⟩ (by show (0 : Nat) ≤ _; exact Nat.zero_le _) (by show (0 : Nat) ≤ _; exact Nat.zero_le _) W
  have cf0 := fun W => asfloat_any 0 (Va.canon x) ⟨#[]⟩ (by decide) rx W
  rw [rx] at ra0
  rw [ry] at rb0
  rw [Ky.cmp_right (x := ⟨3, 0, Va.canon x, ⟨#[]⟩⟩) (y := ⟨3, 0, Va.canon y, ⟨#[]⟩⟩) rx ry, if_pos rfl, if_pos rfl] at cc0
  unfold vv at ca0 cb0 ra0 rb0 cc0 cf0
  have hc := Va.canon_order x y
  clear rx ry
  generalize Va.canon x = X at *
  generalize Va.canon y = Y at *
  rcases hc with ⟨n1, n2, n3, hc⟩ | ⟨n1, n2, n3, n4, hc⟩ | ⟨n1, n2, n3, n4, hc⟩
  · have n1' : (FloatKind.f64.format.order x x != some .eq) = true := by unfold bne; rw [n1]; rfl
    have n2' : (FloatKind.f64.format.order X X != some .eq) = true := by unfold bne; rw [n2]; rfl
    rcases hc with ⟨h1, h2⟩ | ⟨h1, h2⟩
    · have h1' : (FloatKind.f64.format.order y y != some .eq) = false := by unfold bne; rw [h1]; rfl
      rw [h2] at cc0
      clear h2 n3
      have ca := hid ca0
      have cb := hid cb0
      have ra := hid ra0
      have rb := hid rb0
      have cc := hid cc0
      have cf := hid cf0
      clear ca0 cb0 ra0 rb0 cc0 cf0
      go_enter Try.func7, Try.ntmps7
      go_wp2_with fail
      refine (ca.out _).mono ?_; rintro e w1 ⟨rfl, b1⟩
      have L1 := hid (hnext L.out b1)
      clear b1
      go_wp2_with fail
      have hb := hba w1 (.cells #[.int .i64 3, .int .i64 0, .int .u64 (X : Int), .string ⟨#[]⟩] 24)
      have N0 := BV.new w1 3 0 X ⟨#[]⟩
      change BV (World.alloc w1 (.cells #[.int .i64 3, .int .i64 0, .int .u64 (X : Int), .string ⟨#[]⟩] 24)) _ _ _ _ _ at N0
      have L1n := hid (hnext L1.out hb)
      obtain ⟨gA, hgA⟩ : ∃ g, w1.heap.size = g := ⟨_, rfl⟩
      rw [hgA] at N0 ⊢
      have A0 := hid N0
      clear hb hgA N0
      generalize World.alloc w1 (.cells #[.int .i64 3, .int .i64 0, .int .u64 (X : Int), .string ⟨#[]⟩] 24) = w2 at *
      obtain ⟨Ac0_2, Ac1_2, Ac2_2, Ac3_2, Af0_2, Af1_2, Af2_2, Af3_2, Al_2⟩ := A0.out.cells
      refine (cb.out _).mono ?_; rintro e w3 ⟨rfl, b3⟩
      clear Ac0_2 Ac1_2 Ac2_2 Ac3_2 Af0_2 Af1_2 Af2_2 Af3_2 Al_2
      have A3 := hid (A0.out.keep b3)
      have L3 := hid (hnext L1n.out b3)
      clear b3
      obtain ⟨Ac0_3, Ac1_3, Ac2_3, Ac3_3, Af0_3, Af1_3, Af2_3, Af3_3, Al_3⟩ := A3.out.cells
      go_wp2_with fail
      clear Ac0_3 Ac1_3 Ac2_3 Ac3_3 Af0_3 Af1_3 Af2_3 Af3_3 Al_3
      have hb := hba w3 (.cells #[.int .i64 3, .int .i64 0, .int .u64 (Y : Int), .string ⟨#[]⟩] 24)
      have N0 := BV.new w3 3 0 Y ⟨#[]⟩
      change BV (World.alloc w3 (.cells #[.int .i64 3, .int .i64 0, .int .u64 (Y : Int), .string ⟨#[]⟩] 24)) _ _ _ _ _ at N0
      have A3n := hid (A3.out.keep hb)
      have L3n := hid (hnext L3.out hb)
      obtain ⟨gB, hgB⟩ : ∃ g, w3.heap.size = g := ⟨_, rfl⟩
      rw [hgB] at N0 ⊢
      have B0 := hid N0
      clear hb hgB N0
      generalize World.alloc w3 (.cells #[.int .i64 3, .int .i64 0, .int .u64 (Y : Int), .string ⟨#[]⟩] 24) = w4 at *
      obtain ⟨Ac0_4, Ac1_4, Ac2_4, Ac3_4, Af0_4, Af1_4, Af2_4, Af3_4, Al_4⟩ := A3n.out.cells
      obtain ⟨Bc0_4, Bc1_4, Bc2_4, Bc3_4, Bf0_4, Bf1_4, Bf2_4, Bf3_4, Bl_4⟩ := B0.out.cells
      refine (ra.out _).mono ?_; rintro e w5 ⟨rfl, b5⟩
      clear Ac0_4 Ac1_4 Ac2_4 Ac3_4 Af0_4 Af1_4 Af2_4 Af3_4 Al_4 Bc0_4 Bc1_4 Bc2_4 Bc3_4 Bf0_4 Bf1_4 Bf2_4 Bf3_4 Bl_4
      have A5 := hid (A3n.out.keep b5)
      have B5 := hid (B0.out.keep b5)
      have L5 := hid (hnext L3n.out b5)
      clear b5
      obtain ⟨Ac0_5, Ac1_5, Ac2_5, Ac3_5, Af0_5, Af1_5, Af2_5, Af3_5, Al_5⟩ := A5.out.cells
      obtain ⟨Bc0_5, Bc1_5, Bc2_5, Bc3_5, Bf0_5, Bf1_5, Bf2_5, Bf3_5, Bl_5⟩ := B5.out.cells
      go_wp2_with fail
      refine (rb.out _).mono ?_; rintro e w6 ⟨rfl, b6⟩
      clear Ac0_5 Ac1_5 Ac2_5 Ac3_5 Af0_5 Af1_5 Af2_5 Af3_5 Al_5 Bc0_5 Bc1_5 Bc2_5 Bc3_5 Bf0_5 Bf1_5 Bf2_5 Bf3_5 Bl_5
      have A6 := hid (A5.out.keep b6)
      have B6 := hid (B5.out.keep b6)
      have L6 := hid (hnext L5.out b6)
      clear b6
      obtain ⟨Ac0_6, Ac1_6, Ac2_6, Ac3_6, Af0_6, Af1_6, Af2_6, Af3_6, Al_6⟩ := A6.out.cells
      obtain ⟨Bc0_6, Bc1_6, Bc2_6, Bc3_6, Bf0_6, Bf1_6, Bf2_6, Bf3_6, Bl_6⟩ := B6.out.cells
      go_wp2_with fail
      refine (cc.out _).mono ?_; rintro e w7 ⟨rfl, b7⟩
      clear Ac0_6 Ac1_6 Ac2_6 Ac3_6 Af0_6 Af1_6 Af2_6 Af3_6 Al_6 Bc0_6 Bc1_6 Bc2_6 Bc3_6 Bf0_6 Bf1_6 Bf2_6 Bf3_6 Bl_6
      have A7 := hid (A6.out.keep b7)
      have B7 := hid (B6.out.keep b7)
      have L7 := hid (hnext L6.out b7)
      clear b7
      obtain ⟨Ac0_7, Ac1_7, Ac2_7, Ac3_7, Af0_7, Af1_7, Af2_7, Af3_7, Al_7⟩ := A7.out.cells
      obtain ⟨Bc0_7, Bc1_7, Bc2_7, Bc3_7, Bf0_7, Bf1_7, Bf2_7, Bf3_7, Bl_7⟩ := B7.out.cells
      go_wp2_with fail
      refine (cf.out _).mono ?_; rintro e w8 ⟨rfl, b8⟩
      clear Ac0_7 Ac1_7 Ac2_7 Ac3_7 Af0_7 Af1_7 Af2_7 Af3_7 Al_7 Bc0_7 Bc1_7 Bc2_7 Bc3_7 Bf0_7 Bf1_7 Bf2_7 Bf3_7 Bl_7
      have A8 := hid (A7.out.keep b8)
      have B8 := hid (B7.out.keep b8)
      have L8 := hid (hnext L7.out b8)
      clear b8
      obtain ⟨Ac0_8, Ac1_8, Ac2_8, Ac3_8, Af0_8, Af1_8, Af2_8, Af3_8, Al_8⟩ := A8.out.cells
      obtain ⟨Bc0_8, Bc1_8, Bc2_8, Bc3_8, Bf0_8, Bf1_8, Bf2_8, Bf3_8, Bl_8⟩ := B8.out.cells
      go_wp2_with fail
      refine (known_any _).mono ?_; rintro e w9 ⟨rfl, b9⟩
      go_wp2
      go_ret
      exact ⟨rfl, hnext L8.out b9⟩
    · have h1' : (FloatKind.f64.format.order y y != some .eq) = true := by unfold bne; rw [h1]; rfl
      rw [h2] at cc0
      clear h2 n3
      have ca := hid ca0
      have cb := hid cb0
      have ra := hid ra0
      have rb := hid rb0
      have cc := hid cc0
      have cf := hid cf0
      clear ca0 cb0 ra0 rb0 cc0 cf0
      go_enter Try.func7, Try.ntmps7
      go_wp2_with fail
      refine (ca.out _).mono ?_; rintro e w1 ⟨rfl, b1⟩
      have L1 := hid (hnext L.out b1)
      clear b1
      go_wp2_with fail
      have hb := hba w1 (.cells #[.int .i64 3, .int .i64 0, .int .u64 (X : Int), .string ⟨#[]⟩] 24)
      have N0 := BV.new w1 3 0 X ⟨#[]⟩
      change BV (World.alloc w1 (.cells #[.int .i64 3, .int .i64 0, .int .u64 (X : Int), .string ⟨#[]⟩] 24)) _ _ _ _ _ at N0
      have L1n := hid (hnext L1.out hb)
      obtain ⟨gA, hgA⟩ : ∃ g, w1.heap.size = g := ⟨_, rfl⟩
      rw [hgA] at N0 ⊢
      have A0 := hid N0
      clear hb hgA N0
      generalize World.alloc w1 (.cells #[.int .i64 3, .int .i64 0, .int .u64 (X : Int), .string ⟨#[]⟩] 24) = w2 at *
      obtain ⟨Ac0_2, Ac1_2, Ac2_2, Ac3_2, Af0_2, Af1_2, Af2_2, Af3_2, Al_2⟩ := A0.out.cells
      refine (cb.out _).mono ?_; rintro e w3 ⟨rfl, b3⟩
      clear Ac0_2 Ac1_2 Ac2_2 Ac3_2 Af0_2 Af1_2 Af2_2 Af3_2 Al_2
      have A3 := hid (A0.out.keep b3)
      have L3 := hid (hnext L1n.out b3)
      clear b3
      obtain ⟨Ac0_3, Ac1_3, Ac2_3, Ac3_3, Af0_3, Af1_3, Af2_3, Af3_3, Al_3⟩ := A3.out.cells
      go_wp2_with fail
      clear Ac0_3 Ac1_3 Ac2_3 Ac3_3 Af0_3 Af1_3 Af2_3 Af3_3 Al_3
      have hb := hba w3 (.cells #[.int .i64 3, .int .i64 0, .int .u64 (Y : Int), .string ⟨#[]⟩] 24)
      have N0 := BV.new w3 3 0 Y ⟨#[]⟩
      change BV (World.alloc w3 (.cells #[.int .i64 3, .int .i64 0, .int .u64 (Y : Int), .string ⟨#[]⟩] 24)) _ _ _ _ _ at N0
      have A3n := hid (A3.out.keep hb)
      have L3n := hid (hnext L3.out hb)
      obtain ⟨gB, hgB⟩ : ∃ g, w3.heap.size = g := ⟨_, rfl⟩
      rw [hgB] at N0 ⊢
      have B0 := hid N0
      clear hb hgB N0
      generalize World.alloc w3 (.cells #[.int .i64 3, .int .i64 0, .int .u64 (Y : Int), .string ⟨#[]⟩] 24) = w4 at *
      obtain ⟨Ac0_4, Ac1_4, Ac2_4, Ac3_4, Af0_4, Af1_4, Af2_4, Af3_4, Al_4⟩ := A3n.out.cells
      obtain ⟨Bc0_4, Bc1_4, Bc2_4, Bc3_4, Bf0_4, Bf1_4, Bf2_4, Bf3_4, Bl_4⟩ := B0.out.cells
      refine (ra.out _).mono ?_; rintro e w5 ⟨rfl, b5⟩
      clear Ac0_4 Ac1_4 Ac2_4 Ac3_4 Af0_4 Af1_4 Af2_4 Af3_4 Al_4 Bc0_4 Bc1_4 Bc2_4 Bc3_4 Bf0_4 Bf1_4 Bf2_4 Bf3_4 Bl_4
      have A5 := hid (A3n.out.keep b5)
      have B5 := hid (B0.out.keep b5)
      have L5 := hid (hnext L3n.out b5)
      clear b5
      obtain ⟨Ac0_5, Ac1_5, Ac2_5, Ac3_5, Af0_5, Af1_5, Af2_5, Af3_5, Al_5⟩ := A5.out.cells
      obtain ⟨Bc0_5, Bc1_5, Bc2_5, Bc3_5, Bf0_5, Bf1_5, Bf2_5, Bf3_5, Bl_5⟩ := B5.out.cells
      go_wp2_with fail
      refine (rb.out _).mono ?_; rintro e w6 ⟨rfl, b6⟩
      clear Ac0_5 Ac1_5 Ac2_5 Ac3_5 Af0_5 Af1_5 Af2_5 Af3_5 Al_5 Bc0_5 Bc1_5 Bc2_5 Bc3_5 Bf0_5 Bf1_5 Bf2_5 Bf3_5 Bl_5
      have A6 := hid (A5.out.keep b6)
      have B6 := hid (B5.out.keep b6)
      have L6 := hid (hnext L5.out b6)
      clear b6
      obtain ⟨Ac0_6, Ac1_6, Ac2_6, Ac3_6, Af0_6, Af1_6, Af2_6, Af3_6, Al_6⟩ := A6.out.cells
      obtain ⟨Bc0_6, Bc1_6, Bc2_6, Bc3_6, Bf0_6, Bf1_6, Bf2_6, Bf3_6, Bl_6⟩ := B6.out.cells
      go_wp2_with fail
      refine (cc.out _).mono ?_; rintro e w7 ⟨rfl, b7⟩
      clear Ac0_6 Ac1_6 Ac2_6 Ac3_6 Af0_6 Af1_6 Af2_6 Af3_6 Al_6 Bc0_6 Bc1_6 Bc2_6 Bc3_6 Bf0_6 Bf1_6 Bf2_6 Bf3_6 Bl_6
      have A7 := hid (A6.out.keep b7)
      have B7 := hid (B6.out.keep b7)
      have L7 := hid (hnext L6.out b7)
      clear b7
      obtain ⟨Ac0_7, Ac1_7, Ac2_7, Ac3_7, Af0_7, Af1_7, Af2_7, Af3_7, Al_7⟩ := A7.out.cells
      obtain ⟨Bc0_7, Bc1_7, Bc2_7, Bc3_7, Bf0_7, Bf1_7, Bf2_7, Bf3_7, Bl_7⟩ := B7.out.cells
      go_wp2_with fail
      refine (cf.out _).mono ?_; rintro e w8 ⟨rfl, b8⟩
      clear Ac0_7 Ac1_7 Ac2_7 Ac3_7 Af0_7 Af1_7 Af2_7 Af3_7 Al_7 Bc0_7 Bc1_7 Bc2_7 Bc3_7 Bf0_7 Bf1_7 Bf2_7 Bf3_7 Bl_7
      have A8 := hid (A7.out.keep b8)
      have B8 := hid (B7.out.keep b8)
      have L8 := hid (hnext L7.out b8)
      clear b8
      obtain ⟨Ac0_8, Ac1_8, Ac2_8, Ac3_8, Af0_8, Af1_8, Af2_8, Af3_8, Al_8⟩ := A8.out.cells
      obtain ⟨Bc0_8, Bc1_8, Bc2_8, Bc3_8, Bf0_8, Bf1_8, Bf2_8, Bf3_8, Bl_8⟩ := B8.out.cells
      go_wp2_with fail
      refine (known_any _).mono ?_; rintro e w9 ⟨rfl, b9⟩
      go_wp2
      go_ret
      exact ⟨rfl, hnext L8.out b9⟩
  · have n1' : (FloatKind.f64.format.order x x != some .eq) = false := by unfold bne; rw [n1]; rfl
    have n2' : (FloatKind.f64.format.order X x != some .eq) = false := by unfold bne; rw [n2]; rfl
    have n3' : (FloatKind.f64.format.order y y != some .eq) = true := by unfold bne; rw [n3]; rfl
    rw [hc] at cc0
    clear hc n4
    have ca := hid ca0
    have cb := hid cb0
    have ra := hid ra0
    have rb := hid rb0
    have cc := hid cc0
    have cf := hid cf0
    clear ca0 cb0 ra0 rb0 cc0 cf0
    go_enter Try.func7, Try.ntmps7
    go_wp2_with fail
    refine (ca.out _).mono ?_; rintro e w1 ⟨rfl, b1⟩
    have L1 := hid (hnext L.out b1)
    clear b1
    go_wp2_with fail
    have hb := hba w1 (.cells #[.int .i64 3, .int .i64 0, .int .u64 (X : Int), .string ⟨#[]⟩] 24)
    have N0 := BV.new w1 3 0 X ⟨#[]⟩
    change BV (World.alloc w1 (.cells #[.int .i64 3, .int .i64 0, .int .u64 (X : Int), .string ⟨#[]⟩] 24)) _ _ _ _ _ at N0
    have L1n := hid (hnext L1.out hb)
    obtain ⟨gA, hgA⟩ : ∃ g, w1.heap.size = g := ⟨_, rfl⟩
    rw [hgA] at N0 ⊢
    have A0 := hid N0
    clear hb hgA N0
    generalize World.alloc w1 (.cells #[.int .i64 3, .int .i64 0, .int .u64 (X : Int), .string ⟨#[]⟩] 24) = w2 at *
    obtain ⟨Ac0_2, Ac1_2, Ac2_2, Ac3_2, Af0_2, Af1_2, Af2_2, Af3_2, Al_2⟩ := A0.out.cells
    refine (cb.out _).mono ?_; rintro e w3 ⟨rfl, b3⟩
    clear Ac0_2 Ac1_2 Ac2_2 Ac3_2 Af0_2 Af1_2 Af2_2 Af3_2 Al_2
    have A3 := hid (A0.out.keep b3)
    have L3 := hid (hnext L1n.out b3)
    clear b3
    obtain ⟨Ac0_3, Ac1_3, Ac2_3, Ac3_3, Af0_3, Af1_3, Af2_3, Af3_3, Al_3⟩ := A3.out.cells
    go_wp2_with fail
    clear Ac0_3 Ac1_3 Ac2_3 Ac3_3 Af0_3 Af1_3 Af2_3 Af3_3 Al_3
    have hb := hba w3 (.cells #[.int .i64 3, .int .i64 0, .int .u64 (Y : Int), .string ⟨#[]⟩] 24)
    have N0 := BV.new w3 3 0 Y ⟨#[]⟩
    change BV (World.alloc w3 (.cells #[.int .i64 3, .int .i64 0, .int .u64 (Y : Int), .string ⟨#[]⟩] 24)) _ _ _ _ _ at N0
    have A3n := hid (A3.out.keep hb)
    have L3n := hid (hnext L3.out hb)
    obtain ⟨gB, hgB⟩ : ∃ g, w3.heap.size = g := ⟨_, rfl⟩
    rw [hgB] at N0 ⊢
    have B0 := hid N0
    clear hb hgB N0
    generalize World.alloc w3 (.cells #[.int .i64 3, .int .i64 0, .int .u64 (Y : Int), .string ⟨#[]⟩] 24) = w4 at *
    obtain ⟨Ac0_4, Ac1_4, Ac2_4, Ac3_4, Af0_4, Af1_4, Af2_4, Af3_4, Al_4⟩ := A3n.out.cells
    obtain ⟨Bc0_4, Bc1_4, Bc2_4, Bc3_4, Bf0_4, Bf1_4, Bf2_4, Bf3_4, Bl_4⟩ := B0.out.cells
    refine (ra.out _).mono ?_; rintro e w5 ⟨rfl, b5⟩
    clear Ac0_4 Ac1_4 Ac2_4 Ac3_4 Af0_4 Af1_4 Af2_4 Af3_4 Al_4 Bc0_4 Bc1_4 Bc2_4 Bc3_4 Bf0_4 Bf1_4 Bf2_4 Bf3_4 Bl_4
    have A5 := hid (A3n.out.keep b5)
    have B5 := hid (B0.out.keep b5)
    have L5 := hid (hnext L3n.out b5)
    clear b5
    obtain ⟨Ac0_5, Ac1_5, Ac2_5, Ac3_5, Af0_5, Af1_5, Af2_5, Af3_5, Al_5⟩ := A5.out.cells
    obtain ⟨Bc0_5, Bc1_5, Bc2_5, Bc3_5, Bf0_5, Bf1_5, Bf2_5, Bf3_5, Bl_5⟩ := B5.out.cells
    go_wp2_with fail
    refine (rb.out _).mono ?_; rintro e w6 ⟨rfl, b6⟩
    clear Ac0_5 Ac1_5 Ac2_5 Ac3_5 Af0_5 Af1_5 Af2_5 Af3_5 Al_5 Bc0_5 Bc1_5 Bc2_5 Bc3_5 Bf0_5 Bf1_5 Bf2_5 Bf3_5 Bl_5
    have A6 := hid (A5.out.keep b6)
    have B6 := hid (B5.out.keep b6)
    have L6 := hid (hnext L5.out b6)
    clear b6
    obtain ⟨Ac0_6, Ac1_6, Ac2_6, Ac3_6, Af0_6, Af1_6, Af2_6, Af3_6, Al_6⟩ := A6.out.cells
    obtain ⟨Bc0_6, Bc1_6, Bc2_6, Bc3_6, Bf0_6, Bf1_6, Bf2_6, Bf3_6, Bl_6⟩ := B6.out.cells
    go_wp2_with fail
    refine (cc.out _).mono ?_; rintro e w7 ⟨rfl, b7⟩
    clear Ac0_6 Ac1_6 Ac2_6 Ac3_6 Af0_6 Af1_6 Af2_6 Af3_6 Al_6 Bc0_6 Bc1_6 Bc2_6 Bc3_6 Bf0_6 Bf1_6 Bf2_6 Bf3_6 Bl_6
    have A7 := hid (A6.out.keep b7)
    have B7 := hid (B6.out.keep b7)
    have L7 := hid (hnext L6.out b7)
    clear b7
    obtain ⟨Ac0_7, Ac1_7, Ac2_7, Ac3_7, Af0_7, Af1_7, Af2_7, Af3_7, Al_7⟩ := A7.out.cells
    obtain ⟨Bc0_7, Bc1_7, Bc2_7, Bc3_7, Bf0_7, Bf1_7, Bf2_7, Bf3_7, Bl_7⟩ := B7.out.cells
    go_wp2_with fail
    refine (cf.out _).mono ?_; rintro e w8 ⟨rfl, b8⟩
    clear Ac0_7 Ac1_7 Ac2_7 Ac3_7 Af0_7 Af1_7 Af2_7 Af3_7 Al_7 Bc0_7 Bc1_7 Bc2_7 Bc3_7 Bf0_7 Bf1_7 Bf2_7 Bf3_7 Bl_7
    have A8 := hid (A7.out.keep b8)
    have B8 := hid (B7.out.keep b8)
    have L8 := hid (hnext L7.out b8)
    clear b8
    obtain ⟨Ac0_8, Ac1_8, Ac2_8, Ac3_8, Af0_8, Af1_8, Af2_8, Af3_8, Al_8⟩ := A8.out.cells
    obtain ⟨Bc0_8, Bc1_8, Bc2_8, Bc3_8, Bf0_8, Bf1_8, Bf2_8, Bf3_8, Bl_8⟩ := B8.out.cells
    go_wp2_with fail
    refine (known_any _).mono ?_; rintro e w9 ⟨rfl, b9⟩
    go_wp2
    go_ret
    exact ⟨rfl, hnext L8.out b9⟩
  · have n1' : (FloatKind.f64.format.order x x != some .eq) = false := by unfold bne; rw [n1]; rfl
    have n2' : (FloatKind.f64.format.order X x != some .eq) = false := by unfold bne; rw [n2]; rfl
    have n3' : (FloatKind.f64.format.order y y != some .eq) = false := by unfold bne; rw [n3]; rfl
    rcases n4 with ⟨z1, z2⟩ | z1
    · have z1' : (FloatKind.f64.format.order x 0 != some .eq) = false := by unfold bne; rw [z1]; rfl
      have z2' : ((X : Int) == 0) = true := by rw [z2]; rfl
      clear z2
      rcases hc with ⟨h1, h2⟩ | ⟨h1, h2⟩ | ⟨h1, h2⟩
      · rw [h2] at cc0
        clear h2
        have ca := hid ca0
        have cb := hid cb0
        have ra := hid ra0
        have rb := hid rb0
        have cc := hid cc0
        have cf := hid cf0
        clear ca0 cb0 ra0 rb0 cc0 cf0
        go_enter Try.func7, Try.ntmps7
        go_wp2_with fail
        refine (ca.out _).mono ?_; rintro e w1 ⟨rfl, b1⟩
        have L1 := hid (hnext L.out b1)
        clear b1
        go_wp2_with fail
        have hb := hba w1 (.cells #[.int .i64 3, .int .i64 0, .int .u64 (X : Int), .string ⟨#[]⟩] 24)
        have N0 := BV.new w1 3 0 X ⟨#[]⟩
        change BV (World.alloc w1 (.cells #[.int .i64 3, .int .i64 0, .int .u64 (X : Int), .string ⟨#[]⟩] 24)) _ _ _ _ _ at N0
        have L1n := hid (hnext L1.out hb)
        obtain ⟨gA, hgA⟩ : ∃ g, w1.heap.size = g := ⟨_, rfl⟩
        rw [hgA] at N0 ⊢
        have A0 := hid N0
        clear hb hgA N0
        generalize World.alloc w1 (.cells #[.int .i64 3, .int .i64 0, .int .u64 (X : Int), .string ⟨#[]⟩] 24) = w2 at *
        obtain ⟨Ac0_2, Ac1_2, Ac2_2, Ac3_2, Af0_2, Af1_2, Af2_2, Af3_2, Al_2⟩ := A0.out.cells
        refine (cb.out _).mono ?_; rintro e w3 ⟨rfl, b3⟩
        clear Ac0_2 Ac1_2 Ac2_2 Ac3_2 Af0_2 Af1_2 Af2_2 Af3_2 Al_2
        have A3 := hid (A0.out.keep b3)
        have L3 := hid (hnext L1n.out b3)
        clear b3
        obtain ⟨Ac0_3, Ac1_3, Ac2_3, Ac3_3, Af0_3, Af1_3, Af2_3, Af3_3, Al_3⟩ := A3.out.cells
        go_wp2_with fail
        clear Ac0_3 Ac1_3 Ac2_3 Ac3_3 Af0_3 Af1_3 Af2_3 Af3_3 Al_3
        have hb := hba w3 (.cells #[.int .i64 3, .int .i64 0, .int .u64 (Y : Int), .string ⟨#[]⟩] 24)
        have N0 := BV.new w3 3 0 Y ⟨#[]⟩
        change BV (World.alloc w3 (.cells #[.int .i64 3, .int .i64 0, .int .u64 (Y : Int), .string ⟨#[]⟩] 24)) _ _ _ _ _ at N0
        have A3n := hid (A3.out.keep hb)
        have L3n := hid (hnext L3.out hb)
        obtain ⟨gB, hgB⟩ : ∃ g, w3.heap.size = g := ⟨_, rfl⟩
        rw [hgB] at N0 ⊢
        have B0 := hid N0
        clear hb hgB N0
        generalize World.alloc w3 (.cells #[.int .i64 3, .int .i64 0, .int .u64 (Y : Int), .string ⟨#[]⟩] 24) = w4 at *
        obtain ⟨Ac0_4, Ac1_4, Ac2_4, Ac3_4, Af0_4, Af1_4, Af2_4, Af3_4, Al_4⟩ := A3n.out.cells
        obtain ⟨Bc0_4, Bc1_4, Bc2_4, Bc3_4, Bf0_4, Bf1_4, Bf2_4, Bf3_4, Bl_4⟩ := B0.out.cells
        refine (ra.out _).mono ?_; rintro e w5 ⟨rfl, b5⟩
        clear Ac0_4 Ac1_4 Ac2_4 Ac3_4 Af0_4 Af1_4 Af2_4 Af3_4 Al_4 Bc0_4 Bc1_4 Bc2_4 Bc3_4 Bf0_4 Bf1_4 Bf2_4 Bf3_4 Bl_4
        have A5 := hid (A3n.out.keep b5)
        have B5 := hid (B0.out.keep b5)
        have L5 := hid (hnext L3n.out b5)
        clear b5
        obtain ⟨Ac0_5, Ac1_5, Ac2_5, Ac3_5, Af0_5, Af1_5, Af2_5, Af3_5, Al_5⟩ := A5.out.cells
        obtain ⟨Bc0_5, Bc1_5, Bc2_5, Bc3_5, Bf0_5, Bf1_5, Bf2_5, Bf3_5, Bl_5⟩ := B5.out.cells
        go_wp2_with fail
        refine (rb.out _).mono ?_; rintro e w6 ⟨rfl, b6⟩
        clear Ac0_5 Ac1_5 Ac2_5 Ac3_5 Af0_5 Af1_5 Af2_5 Af3_5 Al_5 Bc0_5 Bc1_5 Bc2_5 Bc3_5 Bf0_5 Bf1_5 Bf2_5 Bf3_5 Bl_5
        have A6 := hid (A5.out.keep b6)
        have B6 := hid (B5.out.keep b6)
        have L6 := hid (hnext L5.out b6)
        clear b6
        obtain ⟨Ac0_6, Ac1_6, Ac2_6, Ac3_6, Af0_6, Af1_6, Af2_6, Af3_6, Al_6⟩ := A6.out.cells
        obtain ⟨Bc0_6, Bc1_6, Bc2_6, Bc3_6, Bf0_6, Bf1_6, Bf2_6, Bf3_6, Bl_6⟩ := B6.out.cells
        go_wp2_with fail
        refine (cc.out _).mono ?_; rintro e w7 ⟨rfl, b7⟩
        clear Ac0_6 Ac1_6 Ac2_6 Ac3_6 Af0_6 Af1_6 Af2_6 Af3_6 Al_6 Bc0_6 Bc1_6 Bc2_6 Bc3_6 Bf0_6 Bf1_6 Bf2_6 Bf3_6 Bl_6
        have A7 := hid (A6.out.keep b7)
        have B7 := hid (B6.out.keep b7)
        have L7 := hid (hnext L6.out b7)
        clear b7
        obtain ⟨Ac0_7, Ac1_7, Ac2_7, Ac3_7, Af0_7, Af1_7, Af2_7, Af3_7, Al_7⟩ := A7.out.cells
        obtain ⟨Bc0_7, Bc1_7, Bc2_7, Bc3_7, Bf0_7, Bf1_7, Bf2_7, Bf3_7, Bl_7⟩ := B7.out.cells
        go_wp2_with fail
        refine (cf.out _).mono ?_; rintro e w8 ⟨rfl, b8⟩
        clear Ac0_7 Ac1_7 Ac2_7 Ac3_7 Af0_7 Af1_7 Af2_7 Af3_7 Al_7 Bc0_7 Bc1_7 Bc2_7 Bc3_7 Bf0_7 Bf1_7 Bf2_7 Bf3_7 Bl_7
        have A8 := hid (A7.out.keep b8)
        have B8 := hid (B7.out.keep b8)
        have L8 := hid (hnext L7.out b8)
        clear b8
        obtain ⟨Ac0_8, Ac1_8, Ac2_8, Ac3_8, Af0_8, Af1_8, Af2_8, Af3_8, Al_8⟩ := A8.out.cells
        obtain ⟨Bc0_8, Bc1_8, Bc2_8, Bc3_8, Bf0_8, Bf1_8, Bf2_8, Bf3_8, Bl_8⟩ := B8.out.cells
        go_wp2_with fail
        refine (known_any _).mono ?_; rintro e w9 ⟨rfl, b9⟩
        go_wp2
        go_ret
        exact ⟨rfl, hnext L8.out b9⟩
      · rw [h2] at cc0
        clear h2
        have ca := hid ca0
        have cb := hid cb0
        have ra := hid ra0
        have rb := hid rb0
        have cc := hid cc0
        have cf := hid cf0
        clear ca0 cb0 ra0 rb0 cc0 cf0
        go_enter Try.func7, Try.ntmps7
        go_wp2_with fail
        refine (ca.out _).mono ?_; rintro e w1 ⟨rfl, b1⟩
        have L1 := hid (hnext L.out b1)
        clear b1
        go_wp2_with fail
        have hb := hba w1 (.cells #[.int .i64 3, .int .i64 0, .int .u64 (X : Int), .string ⟨#[]⟩] 24)
        have N0 := BV.new w1 3 0 X ⟨#[]⟩
        change BV (World.alloc w1 (.cells #[.int .i64 3, .int .i64 0, .int .u64 (X : Int), .string ⟨#[]⟩] 24)) _ _ _ _ _ at N0
        have L1n := hid (hnext L1.out hb)
        obtain ⟨gA, hgA⟩ : ∃ g, w1.heap.size = g := ⟨_, rfl⟩
        rw [hgA] at N0 ⊢
        have A0 := hid N0
        clear hb hgA N0
        generalize World.alloc w1 (.cells #[.int .i64 3, .int .i64 0, .int .u64 (X : Int), .string ⟨#[]⟩] 24) = w2 at *
        obtain ⟨Ac0_2, Ac1_2, Ac2_2, Ac3_2, Af0_2, Af1_2, Af2_2, Af3_2, Al_2⟩ := A0.out.cells
        refine (cb.out _).mono ?_; rintro e w3 ⟨rfl, b3⟩
        clear Ac0_2 Ac1_2 Ac2_2 Ac3_2 Af0_2 Af1_2 Af2_2 Af3_2 Al_2
        have A3 := hid (A0.out.keep b3)
        have L3 := hid (hnext L1n.out b3)
        clear b3
        obtain ⟨Ac0_3, Ac1_3, Ac2_3, Ac3_3, Af0_3, Af1_3, Af2_3, Af3_3, Al_3⟩ := A3.out.cells
        go_wp2_with fail
        clear Ac0_3 Ac1_3 Ac2_3 Ac3_3 Af0_3 Af1_3 Af2_3 Af3_3 Al_3
        have hb := hba w3 (.cells #[.int .i64 3, .int .i64 0, .int .u64 (Y : Int), .string ⟨#[]⟩] 24)
        have N0 := BV.new w3 3 0 Y ⟨#[]⟩
        change BV (World.alloc w3 (.cells #[.int .i64 3, .int .i64 0, .int .u64 (Y : Int), .string ⟨#[]⟩] 24)) _ _ _ _ _ at N0
        have A3n := hid (A3.out.keep hb)
        have L3n := hid (hnext L3.out hb)
        obtain ⟨gB, hgB⟩ : ∃ g, w3.heap.size = g := ⟨_, rfl⟩
        rw [hgB] at N0 ⊢
        have B0 := hid N0
        clear hb hgB N0
        generalize World.alloc w3 (.cells #[.int .i64 3, .int .i64 0, .int .u64 (Y : Int), .string ⟨#[]⟩] 24) = w4 at *
        obtain ⟨Ac0_4, Ac1_4, Ac2_4, Ac3_4, Af0_4, Af1_4, Af2_4, Af3_4, Al_4⟩ := A3n.out.cells
        obtain ⟨Bc0_4, Bc1_4, Bc2_4, Bc3_4, Bf0_4, Bf1_4, Bf2_4, Bf3_4, Bl_4⟩ := B0.out.cells
        refine (ra.out _).mono ?_; rintro e w5 ⟨rfl, b5⟩
        clear Ac0_4 Ac1_4 Ac2_4 Ac3_4 Af0_4 Af1_4 Af2_4 Af3_4 Al_4 Bc0_4 Bc1_4 Bc2_4 Bc3_4 Bf0_4 Bf1_4 Bf2_4 Bf3_4 Bl_4
        have A5 := hid (A3n.out.keep b5)
        have B5 := hid (B0.out.keep b5)
        have L5 := hid (hnext L3n.out b5)
        clear b5
        obtain ⟨Ac0_5, Ac1_5, Ac2_5, Ac3_5, Af0_5, Af1_5, Af2_5, Af3_5, Al_5⟩ := A5.out.cells
        obtain ⟨Bc0_5, Bc1_5, Bc2_5, Bc3_5, Bf0_5, Bf1_5, Bf2_5, Bf3_5, Bl_5⟩ := B5.out.cells
        go_wp2_with fail
        refine (rb.out _).mono ?_; rintro e w6 ⟨rfl, b6⟩
        clear Ac0_5 Ac1_5 Ac2_5 Ac3_5 Af0_5 Af1_5 Af2_5 Af3_5 Al_5 Bc0_5 Bc1_5 Bc2_5 Bc3_5 Bf0_5 Bf1_5 Bf2_5 Bf3_5 Bl_5
        have A6 := hid (A5.out.keep b6)
        have B6 := hid (B5.out.keep b6)
        have L6 := hid (hnext L5.out b6)
        clear b6
        obtain ⟨Ac0_6, Ac1_6, Ac2_6, Ac3_6, Af0_6, Af1_6, Af2_6, Af3_6, Al_6⟩ := A6.out.cells
        obtain ⟨Bc0_6, Bc1_6, Bc2_6, Bc3_6, Bf0_6, Bf1_6, Bf2_6, Bf3_6, Bl_6⟩ := B6.out.cells
        go_wp2_with fail
        refine (cc.out _).mono ?_; rintro e w7 ⟨rfl, b7⟩
        clear Ac0_6 Ac1_6 Ac2_6 Ac3_6 Af0_6 Af1_6 Af2_6 Af3_6 Al_6 Bc0_6 Bc1_6 Bc2_6 Bc3_6 Bf0_6 Bf1_6 Bf2_6 Bf3_6 Bl_6
        have A7 := hid (A6.out.keep b7)
        have B7 := hid (B6.out.keep b7)
        have L7 := hid (hnext L6.out b7)
        clear b7
        obtain ⟨Ac0_7, Ac1_7, Ac2_7, Ac3_7, Af0_7, Af1_7, Af2_7, Af3_7, Al_7⟩ := A7.out.cells
        obtain ⟨Bc0_7, Bc1_7, Bc2_7, Bc3_7, Bf0_7, Bf1_7, Bf2_7, Bf3_7, Bl_7⟩ := B7.out.cells
        go_wp2_with fail
        refine (cf.out _).mono ?_; rintro e w8 ⟨rfl, b8⟩
        clear Ac0_7 Ac1_7 Ac2_7 Ac3_7 Af0_7 Af1_7 Af2_7 Af3_7 Al_7 Bc0_7 Bc1_7 Bc2_7 Bc3_7 Bf0_7 Bf1_7 Bf2_7 Bf3_7 Bl_7
        have A8 := hid (A7.out.keep b8)
        have B8 := hid (B7.out.keep b8)
        have L8 := hid (hnext L7.out b8)
        clear b8
        obtain ⟨Ac0_8, Ac1_8, Ac2_8, Ac3_8, Af0_8, Af1_8, Af2_8, Af3_8, Al_8⟩ := A8.out.cells
        obtain ⟨Bc0_8, Bc1_8, Bc2_8, Bc3_8, Bf0_8, Bf1_8, Bf2_8, Bf3_8, Bl_8⟩ := B8.out.cells
        go_wp2_with fail
        refine (known_any _).mono ?_; rintro e w9 ⟨rfl, b9⟩
        go_wp2
        go_ret
        exact ⟨rfl, hnext L8.out b9⟩
      · rw [h2] at cc0
        clear h2
        have ca := hid ca0
        have cb := hid cb0
        have ra := hid ra0
        have rb := hid rb0
        have cc := hid cc0
        have cf := hid cf0
        clear ca0 cb0 ra0 rb0 cc0 cf0
        go_enter Try.func7, Try.ntmps7
        go_wp2_with fail
        refine (ca.out _).mono ?_; rintro e w1 ⟨rfl, b1⟩
        have L1 := hid (hnext L.out b1)
        clear b1
        go_wp2_with fail
        have hb := hba w1 (.cells #[.int .i64 3, .int .i64 0, .int .u64 (X : Int), .string ⟨#[]⟩] 24)
        have N0 := BV.new w1 3 0 X ⟨#[]⟩
        change BV (World.alloc w1 (.cells #[.int .i64 3, .int .i64 0, .int .u64 (X : Int), .string ⟨#[]⟩] 24)) _ _ _ _ _ at N0
        have L1n := hid (hnext L1.out hb)
        obtain ⟨gA, hgA⟩ : ∃ g, w1.heap.size = g := ⟨_, rfl⟩
        rw [hgA] at N0 ⊢
        have A0 := hid N0
        clear hb hgA N0
        generalize World.alloc w1 (.cells #[.int .i64 3, .int .i64 0, .int .u64 (X : Int), .string ⟨#[]⟩] 24) = w2 at *
        obtain ⟨Ac0_2, Ac1_2, Ac2_2, Ac3_2, Af0_2, Af1_2, Af2_2, Af3_2, Al_2⟩ := A0.out.cells
        refine (cb.out _).mono ?_; rintro e w3 ⟨rfl, b3⟩
        clear Ac0_2 Ac1_2 Ac2_2 Ac3_2 Af0_2 Af1_2 Af2_2 Af3_2 Al_2
        have A3 := hid (A0.out.keep b3)
        have L3 := hid (hnext L1n.out b3)
        clear b3
        obtain ⟨Ac0_3, Ac1_3, Ac2_3, Ac3_3, Af0_3, Af1_3, Af2_3, Af3_3, Al_3⟩ := A3.out.cells
        go_wp2_with fail
        clear Ac0_3 Ac1_3 Ac2_3 Ac3_3 Af0_3 Af1_3 Af2_3 Af3_3 Al_3
        have hb := hba w3 (.cells #[.int .i64 3, .int .i64 0, .int .u64 (Y : Int), .string ⟨#[]⟩] 24)
        have N0 := BV.new w3 3 0 Y ⟨#[]⟩
        change BV (World.alloc w3 (.cells #[.int .i64 3, .int .i64 0, .int .u64 (Y : Int), .string ⟨#[]⟩] 24)) _ _ _ _ _ at N0
        have A3n := hid (A3.out.keep hb)
        have L3n := hid (hnext L3.out hb)
        obtain ⟨gB, hgB⟩ : ∃ g, w3.heap.size = g := ⟨_, rfl⟩
        rw [hgB] at N0 ⊢
        have B0 := hid N0
        clear hb hgB N0
        generalize World.alloc w3 (.cells #[.int .i64 3, .int .i64 0, .int .u64 (Y : Int), .string ⟨#[]⟩] 24) = w4 at *
        obtain ⟨Ac0_4, Ac1_4, Ac2_4, Ac3_4, Af0_4, Af1_4, Af2_4, Af3_4, Al_4⟩ := A3n.out.cells
        obtain ⟨Bc0_4, Bc1_4, Bc2_4, Bc3_4, Bf0_4, Bf1_4, Bf2_4, Bf3_4, Bl_4⟩ := B0.out.cells
        refine (ra.out _).mono ?_; rintro e w5 ⟨rfl, b5⟩
        clear Ac0_4 Ac1_4 Ac2_4 Ac3_4 Af0_4 Af1_4 Af2_4 Af3_4 Al_4 Bc0_4 Bc1_4 Bc2_4 Bc3_4 Bf0_4 Bf1_4 Bf2_4 Bf3_4 Bl_4
        have A5 := hid (A3n.out.keep b5)
        have B5 := hid (B0.out.keep b5)
        have L5 := hid (hnext L3n.out b5)
        clear b5
        obtain ⟨Ac0_5, Ac1_5, Ac2_5, Ac3_5, Af0_5, Af1_5, Af2_5, Af3_5, Al_5⟩ := A5.out.cells
        obtain ⟨Bc0_5, Bc1_5, Bc2_5, Bc3_5, Bf0_5, Bf1_5, Bf2_5, Bf3_5, Bl_5⟩ := B5.out.cells
        go_wp2_with fail
        refine (rb.out _).mono ?_; rintro e w6 ⟨rfl, b6⟩
        clear Ac0_5 Ac1_5 Ac2_5 Ac3_5 Af0_5 Af1_5 Af2_5 Af3_5 Al_5 Bc0_5 Bc1_5 Bc2_5 Bc3_5 Bf0_5 Bf1_5 Bf2_5 Bf3_5 Bl_5
        have A6 := hid (A5.out.keep b6)
        have B6 := hid (B5.out.keep b6)
        have L6 := hid (hnext L5.out b6)
        clear b6
        obtain ⟨Ac0_6, Ac1_6, Ac2_6, Ac3_6, Af0_6, Af1_6, Af2_6, Af3_6, Al_6⟩ := A6.out.cells
        obtain ⟨Bc0_6, Bc1_6, Bc2_6, Bc3_6, Bf0_6, Bf1_6, Bf2_6, Bf3_6, Bl_6⟩ := B6.out.cells
        go_wp2_with fail
        refine (cc.out _).mono ?_; rintro e w7 ⟨rfl, b7⟩
        clear Ac0_6 Ac1_6 Ac2_6 Ac3_6 Af0_6 Af1_6 Af2_6 Af3_6 Al_6 Bc0_6 Bc1_6 Bc2_6 Bc3_6 Bf0_6 Bf1_6 Bf2_6 Bf3_6 Bl_6
        have A7 := hid (A6.out.keep b7)
        have B7 := hid (B6.out.keep b7)
        have L7 := hid (hnext L6.out b7)
        clear b7
        obtain ⟨Ac0_7, Ac1_7, Ac2_7, Ac3_7, Af0_7, Af1_7, Af2_7, Af3_7, Al_7⟩ := A7.out.cells
        obtain ⟨Bc0_7, Bc1_7, Bc2_7, Bc3_7, Bf0_7, Bf1_7, Bf2_7, Bf3_7, Bl_7⟩ := B7.out.cells
        go_wp2_with fail
        refine (cf.out _).mono ?_; rintro e w8 ⟨rfl, b8⟩
        clear Ac0_7 Ac1_7 Ac2_7 Ac3_7 Af0_7 Af1_7 Af2_7 Af3_7 Al_7 Bc0_7 Bc1_7 Bc2_7 Bc3_7 Bf0_7 Bf1_7 Bf2_7 Bf3_7 Bl_7
        have A8 := hid (A7.out.keep b8)
        have B8 := hid (B7.out.keep b8)
        have L8 := hid (hnext L7.out b8)
        clear b8
        obtain ⟨Ac0_8, Ac1_8, Ac2_8, Ac3_8, Af0_8, Af1_8, Af2_8, Af3_8, Al_8⟩ := A8.out.cells
        obtain ⟨Bc0_8, Bc1_8, Bc2_8, Bc3_8, Bf0_8, Bf1_8, Bf2_8, Bf3_8, Bl_8⟩ := B8.out.cells
        go_wp2_with fail
        refine (known_any _).mono ?_; rintro e w9 ⟨rfl, b9⟩
        go_wp2
        go_ret
        exact ⟨rfl, hnext L8.out b9⟩
    · have z1' : (FloatKind.f64.format.order x 0 != some .eq) = true := by unfold bne; rw [z1]; rfl
      rcases hc with ⟨h1, h2⟩ | ⟨h1, h2⟩ | ⟨h1, h2⟩
      · rw [h2] at cc0
        clear h2
        have ca := hid ca0
        have cb := hid cb0
        have ra := hid ra0
        have rb := hid rb0
        have cc := hid cc0
        have cf := hid cf0
        clear ca0 cb0 ra0 rb0 cc0 cf0
        go_enter Try.func7, Try.ntmps7
        go_wp2_with fail
        refine (ca.out _).mono ?_; rintro e w1 ⟨rfl, b1⟩
        have L1 := hid (hnext L.out b1)
        clear b1
        go_wp2_with fail
        have hb := hba w1 (.cells #[.int .i64 3, .int .i64 0, .int .u64 (X : Int), .string ⟨#[]⟩] 24)
        have N0 := BV.new w1 3 0 X ⟨#[]⟩
        change BV (World.alloc w1 (.cells #[.int .i64 3, .int .i64 0, .int .u64 (X : Int), .string ⟨#[]⟩] 24)) _ _ _ _ _ at N0
        have L1n := hid (hnext L1.out hb)
        obtain ⟨gA, hgA⟩ : ∃ g, w1.heap.size = g := ⟨_, rfl⟩
        rw [hgA] at N0 ⊢
        have A0 := hid N0
        clear hb hgA N0
        generalize World.alloc w1 (.cells #[.int .i64 3, .int .i64 0, .int .u64 (X : Int), .string ⟨#[]⟩] 24) = w2 at *
        obtain ⟨Ac0_2, Ac1_2, Ac2_2, Ac3_2, Af0_2, Af1_2, Af2_2, Af3_2, Al_2⟩ := A0.out.cells
        refine (cb.out _).mono ?_; rintro e w3 ⟨rfl, b3⟩
        clear Ac0_2 Ac1_2 Ac2_2 Ac3_2 Af0_2 Af1_2 Af2_2 Af3_2 Al_2
        have A3 := hid (A0.out.keep b3)
        have L3 := hid (hnext L1n.out b3)
        clear b3
        obtain ⟨Ac0_3, Ac1_3, Ac2_3, Ac3_3, Af0_3, Af1_3, Af2_3, Af3_3, Al_3⟩ := A3.out.cells
        go_wp2_with fail
        clear Ac0_3 Ac1_3 Ac2_3 Ac3_3 Af0_3 Af1_3 Af2_3 Af3_3 Al_3
        have hb := hba w3 (.cells #[.int .i64 3, .int .i64 0, .int .u64 (Y : Int), .string ⟨#[]⟩] 24)
        have N0 := BV.new w3 3 0 Y ⟨#[]⟩
        change BV (World.alloc w3 (.cells #[.int .i64 3, .int .i64 0, .int .u64 (Y : Int), .string ⟨#[]⟩] 24)) _ _ _ _ _ at N0
        have A3n := hid (A3.out.keep hb)
        have L3n := hid (hnext L3.out hb)
        obtain ⟨gB, hgB⟩ : ∃ g, w3.heap.size = g := ⟨_, rfl⟩
        rw [hgB] at N0 ⊢
        have B0 := hid N0
        clear hb hgB N0
        generalize World.alloc w3 (.cells #[.int .i64 3, .int .i64 0, .int .u64 (Y : Int), .string ⟨#[]⟩] 24) = w4 at *
        obtain ⟨Ac0_4, Ac1_4, Ac2_4, Ac3_4, Af0_4, Af1_4, Af2_4, Af3_4, Al_4⟩ := A3n.out.cells
        obtain ⟨Bc0_4, Bc1_4, Bc2_4, Bc3_4, Bf0_4, Bf1_4, Bf2_4, Bf3_4, Bl_4⟩ := B0.out.cells
        refine (ra.out _).mono ?_; rintro e w5 ⟨rfl, b5⟩
        clear Ac0_4 Ac1_4 Ac2_4 Ac3_4 Af0_4 Af1_4 Af2_4 Af3_4 Al_4 Bc0_4 Bc1_4 Bc2_4 Bc3_4 Bf0_4 Bf1_4 Bf2_4 Bf3_4 Bl_4
        have A5 := hid (A3n.out.keep b5)
        have B5 := hid (B0.out.keep b5)
        have L5 := hid (hnext L3n.out b5)
        clear b5
        obtain ⟨Ac0_5, Ac1_5, Ac2_5, Ac3_5, Af0_5, Af1_5, Af2_5, Af3_5, Al_5⟩ := A5.out.cells
        obtain ⟨Bc0_5, Bc1_5, Bc2_5, Bc3_5, Bf0_5, Bf1_5, Bf2_5, Bf3_5, Bl_5⟩ := B5.out.cells
        go_wp2_with fail
        refine (rb.out _).mono ?_; rintro e w6 ⟨rfl, b6⟩
        clear Ac0_5 Ac1_5 Ac2_5 Ac3_5 Af0_5 Af1_5 Af2_5 Af3_5 Al_5 Bc0_5 Bc1_5 Bc2_5 Bc3_5 Bf0_5 Bf1_5 Bf2_5 Bf3_5 Bl_5
        have A6 := hid (A5.out.keep b6)
        have B6 := hid (B5.out.keep b6)
        have L6 := hid (hnext L5.out b6)
        clear b6
        obtain ⟨Ac0_6, Ac1_6, Ac2_6, Ac3_6, Af0_6, Af1_6, Af2_6, Af3_6, Al_6⟩ := A6.out.cells
        obtain ⟨Bc0_6, Bc1_6, Bc2_6, Bc3_6, Bf0_6, Bf1_6, Bf2_6, Bf3_6, Bl_6⟩ := B6.out.cells
        go_wp2_with fail
        refine (cc.out _).mono ?_; rintro e w7 ⟨rfl, b7⟩
        clear Ac0_6 Ac1_6 Ac2_6 Ac3_6 Af0_6 Af1_6 Af2_6 Af3_6 Al_6 Bc0_6 Bc1_6 Bc2_6 Bc3_6 Bf0_6 Bf1_6 Bf2_6 Bf3_6 Bl_6
        have A7 := hid (A6.out.keep b7)
        have B7 := hid (B6.out.keep b7)
        have L7 := hid (hnext L6.out b7)
        clear b7
        obtain ⟨Ac0_7, Ac1_7, Ac2_7, Ac3_7, Af0_7, Af1_7, Af2_7, Af3_7, Al_7⟩ := A7.out.cells
        obtain ⟨Bc0_7, Bc1_7, Bc2_7, Bc3_7, Bf0_7, Bf1_7, Bf2_7, Bf3_7, Bl_7⟩ := B7.out.cells
        go_wp2_with fail
        refine (cf.out _).mono ?_; rintro e w8 ⟨rfl, b8⟩
        clear Ac0_7 Ac1_7 Ac2_7 Ac3_7 Af0_7 Af1_7 Af2_7 Af3_7 Al_7 Bc0_7 Bc1_7 Bc2_7 Bc3_7 Bf0_7 Bf1_7 Bf2_7 Bf3_7 Bl_7
        have A8 := hid (A7.out.keep b8)
        have B8 := hid (B7.out.keep b8)
        have L8 := hid (hnext L7.out b8)
        clear b8
        obtain ⟨Ac0_8, Ac1_8, Ac2_8, Ac3_8, Af0_8, Af1_8, Af2_8, Af3_8, Al_8⟩ := A8.out.cells
        obtain ⟨Bc0_8, Bc1_8, Bc2_8, Bc3_8, Bf0_8, Bf1_8, Bf2_8, Bf3_8, Bl_8⟩ := B8.out.cells
        go_wp2_with fail
        refine (known_any _).mono ?_; rintro e w9 ⟨rfl, b9⟩
        go_wp2
        go_ret
        exact ⟨rfl, hnext L8.out b9⟩
      · rw [h2] at cc0
        clear h2
        have ca := hid ca0
        have cb := hid cb0
        have ra := hid ra0
        have rb := hid rb0
        have cc := hid cc0
        have cf := hid cf0
        clear ca0 cb0 ra0 rb0 cc0 cf0
        go_enter Try.func7, Try.ntmps7
        go_wp2_with fail
        refine (ca.out _).mono ?_; rintro e w1 ⟨rfl, b1⟩
        have L1 := hid (hnext L.out b1)
        clear b1
        go_wp2_with fail
        have hb := hba w1 (.cells #[.int .i64 3, .int .i64 0, .int .u64 (X : Int), .string ⟨#[]⟩] 24)
        have N0 := BV.new w1 3 0 X ⟨#[]⟩
        change BV (World.alloc w1 (.cells #[.int .i64 3, .int .i64 0, .int .u64 (X : Int), .string ⟨#[]⟩] 24)) _ _ _ _ _ at N0
        have L1n := hid (hnext L1.out hb)
        obtain ⟨gA, hgA⟩ : ∃ g, w1.heap.size = g := ⟨_, rfl⟩
        rw [hgA] at N0 ⊢
        have A0 := hid N0
        clear hb hgA N0
        generalize World.alloc w1 (.cells #[.int .i64 3, .int .i64 0, .int .u64 (X : Int), .string ⟨#[]⟩] 24) = w2 at *
        obtain ⟨Ac0_2, Ac1_2, Ac2_2, Ac3_2, Af0_2, Af1_2, Af2_2, Af3_2, Al_2⟩ := A0.out.cells
        refine (cb.out _).mono ?_; rintro e w3 ⟨rfl, b3⟩
        clear Ac0_2 Ac1_2 Ac2_2 Ac3_2 Af0_2 Af1_2 Af2_2 Af3_2 Al_2
        have A3 := hid (A0.out.keep b3)
        have L3 := hid (hnext L1n.out b3)
        clear b3
        obtain ⟨Ac0_3, Ac1_3, Ac2_3, Ac3_3, Af0_3, Af1_3, Af2_3, Af3_3, Al_3⟩ := A3.out.cells
        go_wp2_with fail
        clear Ac0_3 Ac1_3 Ac2_3 Ac3_3 Af0_3 Af1_3 Af2_3 Af3_3 Al_3
        have hb := hba w3 (.cells #[.int .i64 3, .int .i64 0, .int .u64 (Y : Int), .string ⟨#[]⟩] 24)
        have N0 := BV.new w3 3 0 Y ⟨#[]⟩
        change BV (World.alloc w3 (.cells #[.int .i64 3, .int .i64 0, .int .u64 (Y : Int), .string ⟨#[]⟩] 24)) _ _ _ _ _ at N0
        have A3n := hid (A3.out.keep hb)
        have L3n := hid (hnext L3.out hb)
        obtain ⟨gB, hgB⟩ : ∃ g, w3.heap.size = g := ⟨_, rfl⟩
        rw [hgB] at N0 ⊢
        have B0 := hid N0
        clear hb hgB N0
        generalize World.alloc w3 (.cells #[.int .i64 3, .int .i64 0, .int .u64 (Y : Int), .string ⟨#[]⟩] 24) = w4 at *
        obtain ⟨Ac0_4, Ac1_4, Ac2_4, Ac3_4, Af0_4, Af1_4, Af2_4, Af3_4, Al_4⟩ := A3n.out.cells
        obtain ⟨Bc0_4, Bc1_4, Bc2_4, Bc3_4, Bf0_4, Bf1_4, Bf2_4, Bf3_4, Bl_4⟩ := B0.out.cells
        refine (ra.out _).mono ?_; rintro e w5 ⟨rfl, b5⟩
        clear Ac0_4 Ac1_4 Ac2_4 Ac3_4 Af0_4 Af1_4 Af2_4 Af3_4 Al_4 Bc0_4 Bc1_4 Bc2_4 Bc3_4 Bf0_4 Bf1_4 Bf2_4 Bf3_4 Bl_4
        have A5 := hid (A3n.out.keep b5)
        have B5 := hid (B0.out.keep b5)
        have L5 := hid (hnext L3n.out b5)
        clear b5
        obtain ⟨Ac0_5, Ac1_5, Ac2_5, Ac3_5, Af0_5, Af1_5, Af2_5, Af3_5, Al_5⟩ := A5.out.cells
        obtain ⟨Bc0_5, Bc1_5, Bc2_5, Bc3_5, Bf0_5, Bf1_5, Bf2_5, Bf3_5, Bl_5⟩ := B5.out.cells
        go_wp2_with fail
        refine (rb.out _).mono ?_; rintro e w6 ⟨rfl, b6⟩
        clear Ac0_5 Ac1_5 Ac2_5 Ac3_5 Af0_5 Af1_5 Af2_5 Af3_5 Al_5 Bc0_5 Bc1_5 Bc2_5 Bc3_5 Bf0_5 Bf1_5 Bf2_5 Bf3_5 Bl_5
        have A6 := hid (A5.out.keep b6)
        have B6 := hid (B5.out.keep b6)
        have L6 := hid (hnext L5.out b6)
        clear b6
        obtain ⟨Ac0_6, Ac1_6, Ac2_6, Ac3_6, Af0_6, Af1_6, Af2_6, Af3_6, Al_6⟩ := A6.out.cells
        obtain ⟨Bc0_6, Bc1_6, Bc2_6, Bc3_6, Bf0_6, Bf1_6, Bf2_6, Bf3_6, Bl_6⟩ := B6.out.cells
        go_wp2_with fail
        refine (cc.out _).mono ?_; rintro e w7 ⟨rfl, b7⟩
        clear Ac0_6 Ac1_6 Ac2_6 Ac3_6 Af0_6 Af1_6 Af2_6 Af3_6 Al_6 Bc0_6 Bc1_6 Bc2_6 Bc3_6 Bf0_6 Bf1_6 Bf2_6 Bf3_6 Bl_6
        have A7 := hid (A6.out.keep b7)
        have B7 := hid (B6.out.keep b7)
        have L7 := hid (hnext L6.out b7)
        clear b7
        obtain ⟨Ac0_7, Ac1_7, Ac2_7, Ac3_7, Af0_7, Af1_7, Af2_7, Af3_7, Al_7⟩ := A7.out.cells
        obtain ⟨Bc0_7, Bc1_7, Bc2_7, Bc3_7, Bf0_7, Bf1_7, Bf2_7, Bf3_7, Bl_7⟩ := B7.out.cells
        go_wp2_with fail
        refine (cf.out _).mono ?_; rintro e w8 ⟨rfl, b8⟩
        clear Ac0_7 Ac1_7 Ac2_7 Ac3_7 Af0_7 Af1_7 Af2_7 Af3_7 Al_7 Bc0_7 Bc1_7 Bc2_7 Bc3_7 Bf0_7 Bf1_7 Bf2_7 Bf3_7 Bl_7
        have A8 := hid (A7.out.keep b8)
        have B8 := hid (B7.out.keep b8)
        have L8 := hid (hnext L7.out b8)
        clear b8
        obtain ⟨Ac0_8, Ac1_8, Ac2_8, Ac3_8, Af0_8, Af1_8, Af2_8, Af3_8, Al_8⟩ := A8.out.cells
        obtain ⟨Bc0_8, Bc1_8, Bc2_8, Bc3_8, Bf0_8, Bf1_8, Bf2_8, Bf3_8, Bl_8⟩ := B8.out.cells
        go_wp2_with fail
        refine (known_any _).mono ?_; rintro e w9 ⟨rfl, b9⟩
        go_wp2
        go_ret
        exact ⟨rfl, hnext L8.out b9⟩
      · rw [h2] at cc0
        clear h2
        have ca := hid ca0
        have cb := hid cb0
        have ra := hid ra0
        have rb := hid rb0
        have cc := hid cc0
        have cf := hid cf0
        clear ca0 cb0 ra0 rb0 cc0 cf0
        go_enter Try.func7, Try.ntmps7
        go_wp2_with fail
        refine (ca.out _).mono ?_; rintro e w1 ⟨rfl, b1⟩
        have L1 := hid (hnext L.out b1)
        clear b1
        go_wp2_with fail
        have hb := hba w1 (.cells #[.int .i64 3, .int .i64 0, .int .u64 (X : Int), .string ⟨#[]⟩] 24)
        have N0 := BV.new w1 3 0 X ⟨#[]⟩
        change BV (World.alloc w1 (.cells #[.int .i64 3, .int .i64 0, .int .u64 (X : Int), .string ⟨#[]⟩] 24)) _ _ _ _ _ at N0
        have L1n := hid (hnext L1.out hb)
        obtain ⟨gA, hgA⟩ : ∃ g, w1.heap.size = g := ⟨_, rfl⟩
        rw [hgA] at N0 ⊢
        have A0 := hid N0
        clear hb hgA N0
        generalize World.alloc w1 (.cells #[.int .i64 3, .int .i64 0, .int .u64 (X : Int), .string ⟨#[]⟩] 24) = w2 at *
        obtain ⟨Ac0_2, Ac1_2, Ac2_2, Ac3_2, Af0_2, Af1_2, Af2_2, Af3_2, Al_2⟩ := A0.out.cells
        refine (cb.out _).mono ?_; rintro e w3 ⟨rfl, b3⟩
        clear Ac0_2 Ac1_2 Ac2_2 Ac3_2 Af0_2 Af1_2 Af2_2 Af3_2 Al_2
        have A3 := hid (A0.out.keep b3)
        have L3 := hid (hnext L1n.out b3)
        clear b3
        obtain ⟨Ac0_3, Ac1_3, Ac2_3, Ac3_3, Af0_3, Af1_3, Af2_3, Af3_3, Al_3⟩ := A3.out.cells
        go_wp2_with fail
        clear Ac0_3 Ac1_3 Ac2_3 Ac3_3 Af0_3 Af1_3 Af2_3 Af3_3 Al_3
        have hb := hba w3 (.cells #[.int .i64 3, .int .i64 0, .int .u64 (Y : Int), .string ⟨#[]⟩] 24)
        have N0 := BV.new w3 3 0 Y ⟨#[]⟩
        change BV (World.alloc w3 (.cells #[.int .i64 3, .int .i64 0, .int .u64 (Y : Int), .string ⟨#[]⟩] 24)) _ _ _ _ _ at N0
        have A3n := hid (A3.out.keep hb)
        have L3n := hid (hnext L3.out hb)
        obtain ⟨gB, hgB⟩ : ∃ g, w3.heap.size = g := ⟨_, rfl⟩
        rw [hgB] at N0 ⊢
        have B0 := hid N0
        clear hb hgB N0
        generalize World.alloc w3 (.cells #[.int .i64 3, .int .i64 0, .int .u64 (Y : Int), .string ⟨#[]⟩] 24) = w4 at *
        obtain ⟨Ac0_4, Ac1_4, Ac2_4, Ac3_4, Af0_4, Af1_4, Af2_4, Af3_4, Al_4⟩ := A3n.out.cells
        obtain ⟨Bc0_4, Bc1_4, Bc2_4, Bc3_4, Bf0_4, Bf1_4, Bf2_4, Bf3_4, Bl_4⟩ := B0.out.cells
        refine (ra.out _).mono ?_; rintro e w5 ⟨rfl, b5⟩
        clear Ac0_4 Ac1_4 Ac2_4 Ac3_4 Af0_4 Af1_4 Af2_4 Af3_4 Al_4 Bc0_4 Bc1_4 Bc2_4 Bc3_4 Bf0_4 Bf1_4 Bf2_4 Bf3_4 Bl_4
        have A5 := hid (A3n.out.keep b5)
        have B5 := hid (B0.out.keep b5)
        have L5 := hid (hnext L3n.out b5)
        clear b5
        obtain ⟨Ac0_5, Ac1_5, Ac2_5, Ac3_5, Af0_5, Af1_5, Af2_5, Af3_5, Al_5⟩ := A5.out.cells
        obtain ⟨Bc0_5, Bc1_5, Bc2_5, Bc3_5, Bf0_5, Bf1_5, Bf2_5, Bf3_5, Bl_5⟩ := B5.out.cells
        go_wp2_with fail
        refine (rb.out _).mono ?_; rintro e w6 ⟨rfl, b6⟩
        clear Ac0_5 Ac1_5 Ac2_5 Ac3_5 Af0_5 Af1_5 Af2_5 Af3_5 Al_5 Bc0_5 Bc1_5 Bc2_5 Bc3_5 Bf0_5 Bf1_5 Bf2_5 Bf3_5 Bl_5
        have A6 := hid (A5.out.keep b6)
        have B6 := hid (B5.out.keep b6)
        have L6 := hid (hnext L5.out b6)
        clear b6
        obtain ⟨Ac0_6, Ac1_6, Ac2_6, Ac3_6, Af0_6, Af1_6, Af2_6, Af3_6, Al_6⟩ := A6.out.cells
        obtain ⟨Bc0_6, Bc1_6, Bc2_6, Bc3_6, Bf0_6, Bf1_6, Bf2_6, Bf3_6, Bl_6⟩ := B6.out.cells
        go_wp2_with fail
        refine (cc.out _).mono ?_; rintro e w7 ⟨rfl, b7⟩
        clear Ac0_6 Ac1_6 Ac2_6 Ac3_6 Af0_6 Af1_6 Af2_6 Af3_6 Al_6 Bc0_6 Bc1_6 Bc2_6 Bc3_6 Bf0_6 Bf1_6 Bf2_6 Bf3_6 Bl_6
        have A7 := hid (A6.out.keep b7)
        have B7 := hid (B6.out.keep b7)
        have L7 := hid (hnext L6.out b7)
        clear b7
        obtain ⟨Ac0_7, Ac1_7, Ac2_7, Ac3_7, Af0_7, Af1_7, Af2_7, Af3_7, Al_7⟩ := A7.out.cells
        obtain ⟨Bc0_7, Bc1_7, Bc2_7, Bc3_7, Bf0_7, Bf1_7, Bf2_7, Bf3_7, Bl_7⟩ := B7.out.cells
        go_wp2_with fail
        refine (cf.out _).mono ?_; rintro e w8 ⟨rfl, b8⟩
        clear Ac0_7 Ac1_7 Ac2_7 Ac3_7 Af0_7 Af1_7 Af2_7 Af3_7 Al_7 Bc0_7 Bc1_7 Bc2_7 Bc3_7 Bf0_7 Bf1_7 Bf2_7 Bf3_7 Bl_7
        have A8 := hid (A7.out.keep b8)
        have B8 := hid (B7.out.keep b8)
        have L8 := hid (hnext L7.out b8)
        clear b8
        obtain ⟨Ac0_8, Ac1_8, Ac2_8, Ac3_8, Af0_8, Af1_8, Af2_8, Af3_8, Al_8⟩ := A8.out.cells
        obtain ⟨Bc0_8, Bc1_8, Bc2_8, Bc3_8, Bf0_8, Bf1_8, Bf2_8, Bf3_8, Bl_8⟩ := B8.out.cells
        go_wp2_with fail
        refine (known_any _).mono ?_; rintro e w9 ⟨rfl, b9⟩
        go_wp2
        go_ret
        exact ⟨rfl, hnext L8.out b9⟩
theorem valueFloats_walk (m n : Int) (w : World) (hm : (Lit.int .u64 m).wf = true) (hn : (Lit.int .u64 n).wf = true) :
    Calls Try.prog 7 #[.int .u64 m, .int .u64 n] w fun e w' => e = .returned (.bool true) ∧ Below w.heap.size w w' := by
  obtain ⟨x, rfl, hx⟩ := u64_of hm
  obtain ⟨y, rfl, hy⟩ := u64_of hn
  exact valueFloats_nat x y w hx hy
end Go.Proofs.Ytgdegoacjobpdaa
