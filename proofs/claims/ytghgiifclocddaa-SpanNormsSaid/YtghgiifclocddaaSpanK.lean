/-
  'known' of the statements of spans answers true. No condition.
-/
import Derived.Test.YtghgiifclocddaaSpanCov
namespace Go.Proofs.Ytghgiifclocddaa
open Go.RowKit

theorem ba (w : World) (o : Obj) : Below w.heap.size w (w.alloc o) := (Below.refl _ _).alloc (Nat.le_refl _) o
/-- a box's two cells -/
def Box (w : World) (b : Nat) (x y : Int) : Prop := w.cell? ⟨b, 0, none⟩ = some (.int .i64 x) ∧ w.cell? ⟨b, 1, none⟩ = some (.int .i64 y) ∧ b < w.heap.size
theorem Box.keep {w w' : World} {b : Nat} {x y : Int} (h : Box w b x y) (hb : Below w.heap.size w w') : Box w' b x y := ⟨cellKeep h.1 hb, cellKeep h.2.1 hb, Nat.lt_of_lt_of_le h.2.2 hb.size⟩
theorem Box.new {w : World} {x y : Int} : Box (w.alloc (.cells #[.int .i64 x, .int .i64 y] 23)) w.heap.size x y := ⟨by simp, by simp, by simp⟩
theorem spans_three {w : World} {a b c d e f : Int} {g : Nat} (hg : g = w.heap.size) : SpansAt (w.alloc (.cells #[.int .i64 a, .int .i64 b, .int .i64 c, .int .i64 d, .int .i64 e, .int .i64 f] 23)) (.slice (some ⟨g, 0, none⟩) 3 3) [(a, b), (c, d), (e, f)] := by
  subst hg
  refine .inr ⟨w.heap.size, 0, 3, rfl, by simp, fun j s hj => ?_⟩
  match j, hj with
  | 0, hj => simp at hj; subst hj; exact ⟨by simp, by simp⟩
  | 1, hj => simp at hj; subst hj; exact ⟨by simp, by simp⟩
  | 2, hj => simp at hj; subst hj; exact ⟨by simp, by simp⟩

theorem km (W : World) : Calls Try.prog 10 #[.agg #[.int .i64 1, .int .i64 9], .agg #[.int .i64 3, .int .i64 4]] W fun e w' => e = .returned (.tuple #[.agg #[.int .i64 3, .int .i64 4], .bool true]) ∧ Below W.heap.size W w' := by
  have h := meet_any 1 9 3 4 W
  rwa [show Sp.meet (1, 9) (3, 4) = some (3, 4) by decide] at h
theorem kj1 (W : World) : Calls Try.prog 12 #[.agg #[.int .i64 3, .int .i64 4], .agg #[.int .i64 4, .int .i64 6]] W fun e w' => e = .returned (.tuple #[.agg #[.int .i64 3, .int .i64 6], .bool true]) ∧ Below W.heap.size W w' := by
  have h := join_any 3 4 4 6 W
  rwa [show Sp.join (3, 4) (4, 6) = some (3, 6) by decide] at h
theorem kj2 (W : World) : Calls Try.prog 12 #[.agg #[.int .i64 3, .int .i64 4], .agg #[.int .i64 5, .int .i64 6]] W fun e w' => e = .returned (.tuple #[.agg #[.int .i64 0, .int .i64 0], .bool false]) ∧ Below W.heap.size W w' := by
  have h := join_any 3 4 5 6 W
  rwa [show Sp.join (3, 4) (5, 6) = none by decide] at h
theorem kn (W : World) : Calls Try.prog 22 #[.slice (some ⟨W.heap.size, 0, none⟩) 3 3] (W.alloc (.cells #[.int .i64 7, .int .i64 8, .int .i64 3, .int .i64 5, .int .i64 1, .int .i64 3] 23)) fun e w' =>
    (∃ v', e = .returned v' ∧ SpansAt w' v' [(1, 5), (7, 8)]) ∧ Below W.heap.size W w' := by
  refine (norm_any _ _ _ (spans_three rfl) (by simp)).mono ?_
  rintro e w' ⟨⟨v', rfl, hown⟩, hb⟩
  rw [show Sp.norm [(7, 8), (3, 5), (1, 3)] = [(1, 5), (7, 8)] by decide] at hown
  exact ⟨⟨v', rfl, SpansAt.own hown⟩, (ba W _).trans (hb.mono (by simp))⟩

theorem right_below (a b : Int) (w : World) : Calls Try.prog 14 #[.agg #[.int .i64 a, .int .i64 b]] w fun e w' => e = .returned (.bool (Sp.right (a, b))) ∧ Below w.heap.size w w' :=
  (right_exact a b w).mono fun _ _ ⟨h1, h2⟩ => ⟨h1, h2 ▸ ba w _⟩
set_option maxRecDepth 100000 in
set_option maxHeartbeats 3200000 in
theorem known_any (w : World) : Calls Try.prog 21 #[] w fun e w' => e = .returned (.bool true) ∧ Below w.heap.size w w' := by
  have r1 : Sp.right (1, 9) = true := by decide
  have r2 : Sp.right (2, 2) = false := by decide
  have r3 : Sp.has (1, 9) 1 = true := by decide
  have r4 : Sp.has (1, 9) 9 = false := by decide
  go_enter Try.func21, Try.ntmps21
  go_wp2_with fail
  refine (km _).mono ?_; rintro e w1 ⟨rfl, hb1⟩
  obtain ⟨a1, a2, a3, a4, z1, hB1⟩ := two_boxes hb1
  have hz1 : w.heap.size < w1.heap.size := by omega
  clear hb1
  go_wp2_with fail
  refine (kj1 _).mono ?_; rintro e w2 ⟨rfl, hb2⟩
  have b1 := Box.keep (Box.keep (⟨a1, a2, hz1⟩ : Box w1 w.heap.size 1 9) (ba _ _)) hb2
  have b2 := Box.keep (Box.keep (⟨a3, a4, z1⟩ : Box w1 (w.heap.size + 1) 3 4) (ba _ _)) hb2
  have b3 := Box.keep Box.new hb2
  have hB2 := (hB1.alloc hB1.size _).trans (hb2.mono (by have := hB1.size; simp; omega))
  clear hb2 a1 a2 a3 a4 hB1 hz1 z1
  have c01 := b1.1
  have c02 := b1.2.1
  have c03 := b1.2.2
  have c04 : w.heap.size ≠ w2.heap.size := Nat.ne_of_lt b1.2.2
  have c11 := b2.1
  have c12 := b2.2.1
  have c13 := b2.2.2
  have c14 : w.heap.size + 1 ≠ w2.heap.size := Nat.ne_of_lt b2.2.2
  go_wp2_with fail
  refine (kj2 _).mono ?_; rintro e w3 ⟨rfl, hb3⟩
  clear c01 c02 c03 c04 c11 c12 c13 c14
  replace b1 := Box.keep (Box.keep b1 (ba _ _)) hb3
  replace b2 := Box.keep (Box.keep b2 (ba _ _)) hb3
  replace b3 := Box.keep (Box.keep b3 (ba _ _)) hb3
  have b5 := Box.keep Box.new hb3
  have hB3 := (hB2.alloc hB2.size _).trans (hb3.mono (by have := hB2.size; simp; omega))
  clear hb3 hB2
  have c01 := b1.1
  have c02 := b1.2.1
  have c03 := b1.2.2
  have c04 : w.heap.size ≠ w3.heap.size := Nat.ne_of_lt b1.2.2
  have c11 := b2.1
  have c12 := b2.2.1
  have c13 := b2.2.2
  have c14 : w.heap.size + 1 ≠ w3.heap.size := Nat.ne_of_lt b2.2.2
  have c21 := b3.1
  have c22 := b3.2.1
  have c23 := b3.2.2
  have c24 : w1.heap.size ≠ w3.heap.size := Nat.ne_of_lt b3.2.2
  have c31 := b5.1
  have c32 := b5.2.1
  have c33 := b5.2.2
  have c34 : w2.heap.size ≠ w3.heap.size := Nat.ne_of_lt b5.2.2
  go_wp2_with fail
  have hkn := kn (w3.alloc (.cells #[.int .i64 0, .int .i64 0] 23))
  rw [show (w3.alloc (.cells #[.int .i64 0, .int .i64 0] 23)).heap.size = w3.heap.size + 1 by simp] at hkn
  refine hkn.mono ?_; rintro e w4 ⟨⟨v9, rfl, s4⟩, hb4⟩
  clear c01 c02 c03 c04 c11 c12 c13 c14 c21 c22 c23 c24 c31 c32 c33 c34
  have hb4' : Below w3.heap.size w3 w4 := (ba w3 _).trans (hb4.mono (by omega))
  clear hkn hb4
  replace b1 := Box.keep b1 hb4'
  replace b2 := Box.keep b2 hb4'
  replace b3 := Box.keep b3 hb4'
  replace b5 := Box.keep b5 hb4'
  have hB4 := bnext hB3 hb4'
  clear hb4' hB3
  have c01 := b1.1
  have c02 := b1.2.1
  have c03 := b1.2.2
  have c04 : w.heap.size ≠ w4.heap.size := Nat.ne_of_lt b1.2.2
  have c11 := b2.1
  have c12 := b2.2.1
  have c13 := b2.2.2
  have c14 : w.heap.size + 1 ≠ w4.heap.size := Nat.ne_of_lt b2.2.2
  have c21 := b3.1
  have c22 := b3.2.1
  have c23 := b3.2.2
  have c24 : w1.heap.size ≠ w4.heap.size := Nat.ne_of_lt b3.2.2
  have c31 := b5.1
  have c32 := b5.2.1
  have c33 := b5.2.2
  have c34 : w2.heap.size ≠ w4.heap.size := Nat.ne_of_lt b5.2.2
  go_wp2_with fail
  refine (right_below 1 9 _).mono ?_; rintro e w5 ⟨rfl, hb5⟩
  clear c01 c02 c03 c04 c11 c12 c13 c14 c21 c22 c23 c24 c31 c32 c33 c34
  have hb5' := hb5
  replace b1 := Box.keep b1 hb5'
  replace b2 := Box.keep b2 hb5'
  replace b3 := Box.keep b3 hb5'
  replace b5 := Box.keep b5 hb5'
  have s5 := s4.below hb5'
  have hB5 := bnext hB4 hb5'
  clear hb5 hb5' hB4 s4
  have c01 := b1.1
  have c02 := b1.2.1
  have c03 := b1.2.2
  have c04 : w.heap.size ≠ w5.heap.size := Nat.ne_of_lt b1.2.2
  have c11 := b2.1
  have c12 := b2.2.1
  have c13 := b2.2.2
  have c14 : w.heap.size + 1 ≠ w5.heap.size := Nat.ne_of_lt b2.2.2
  have c21 := b3.1
  have c22 := b3.2.1
  have c23 := b3.2.2
  have c24 : w1.heap.size ≠ w5.heap.size := Nat.ne_of_lt b3.2.2
  have c31 := b5.1
  have c32 := b5.2.1
  have c33 := b5.2.2
  have c34 : w2.heap.size ≠ w5.heap.size := Nat.ne_of_lt b5.2.2
  go_wp2_with fail
  refine (right_below 2 2 _).mono ?_; rintro e w6 ⟨rfl, hb6⟩
  clear c01 c02 c03 c04 c11 c12 c13 c14 c21 c22 c23 c24 c31 c32 c33 c34
  have hb6' := hb6
  replace b1 := Box.keep b1 hb6'
  replace b2 := Box.keep b2 hb6'
  replace b3 := Box.keep b3 hb6'
  replace b5 := Box.keep b5 hb6'
  have s6 := s5.below hb6'
  have hB6 := bnext hB5 hb6'
  clear hb6 hb6' hB5 s5
  have c01 := b1.1
  have c02 := b1.2.1
  have c03 := b1.2.2
  have c04 : w.heap.size ≠ w6.heap.size := Nat.ne_of_lt b1.2.2
  have c11 := b2.1
  have c12 := b2.2.1
  have c13 := b2.2.2
  have c14 : w.heap.size + 1 ≠ w6.heap.size := Nat.ne_of_lt b2.2.2
  have c21 := b3.1
  have c22 := b3.2.1
  have c23 := b3.2.2
  have c24 : w1.heap.size ≠ w6.heap.size := Nat.ne_of_lt b3.2.2
  have c31 := b5.1
  have c32 := b5.2.1
  have c33 := b5.2.2
  have c34 : w2.heap.size ≠ w6.heap.size := Nat.ne_of_lt b5.2.2
  go_wp2_with fail
  refine (has_any 1 9 1 _).mono ?_; rintro e w7 ⟨rfl, hb7⟩
  clear c01 c02 c03 c04 c11 c12 c13 c14 c21 c22 c23 c24 c31 c32 c33 c34
  have hb7' := hb7
  replace b1 := Box.keep b1 hb7'
  replace b2 := Box.keep b2 hb7'
  replace b3 := Box.keep b3 hb7'
  replace b5 := Box.keep b5 hb7'
  have s7 := s6.below hb7'
  have hB7 := bnext hB6 hb7'
  clear hb7 hb7' hB6 s6
  have c01 := b1.1
  have c02 := b1.2.1
  have c03 := b1.2.2
  have c04 : w.heap.size ≠ w7.heap.size := Nat.ne_of_lt b1.2.2
  have c11 := b2.1
  have c12 := b2.2.1
  have c13 := b2.2.2
  have c14 : w.heap.size + 1 ≠ w7.heap.size := Nat.ne_of_lt b2.2.2
  have c21 := b3.1
  have c22 := b3.2.1
  have c23 := b3.2.2
  have c24 : w1.heap.size ≠ w7.heap.size := Nat.ne_of_lt b3.2.2
  have c31 := b5.1
  have c32 := b5.2.1
  have c33 := b5.2.2
  have c34 : w2.heap.size ≠ w7.heap.size := Nat.ne_of_lt b5.2.2
  go_wp2_with fail
  refine (has_any 1 9 9 _).mono ?_; rintro e w8 ⟨rfl, hb8⟩
  clear c01 c02 c03 c04 c11 c12 c13 c14 c21 c22 c23 c24 c31 c32 c33 c34
  have hb8' := hb8
  replace b1 := Box.keep b1 hb8'
  replace b2 := Box.keep b2 hb8'
  replace b3 := Box.keep b3 hb8'
  replace b5 := Box.keep b5 hb8'
  have s8 := s7.below hb8'
  have hB8 := bnext hB7 hb8'
  clear hb8 hb8' hB7 s7
  have q1 := sp_eql 3 4 3 4 true (by decide)
  have q2 := sp_eql 3 6 3 6 true (by decide)
  have c01 := b1.1
  have c02 := b1.2.1
  have c03 := b1.2.2
  have c04 : w.heap.size ≠ w8.heap.size := Nat.ne_of_lt b1.2.2
  have c11 := b2.1
  have c12 := b2.2.1
  have c13 := b2.2.2
  have c14 : w.heap.size + 1 ≠ w8.heap.size := Nat.ne_of_lt b2.2.2
  have c21 := b3.1
  have c22 := b3.2.1
  have c23 := b3.2.2
  have c24 : w1.heap.size ≠ w8.heap.size := Nat.ne_of_lt b3.2.2
  have c31 := b5.1
  have c32 := b5.2.1
  have c33 := b5.2.2
  have c34 : w2.heap.size ≠ w8.heap.size := Nat.ne_of_lt b5.2.2
  go_wp2_with fail
  refine (cut_any 1 9 3 4 _).mono ?_; rintro e w9 ⟨⟨vc, rfl, hoc⟩, hb9⟩
  clear c01 c02 c03 c04 c11 c12 c13 c14 c21 c22 c23 c24 c31 c32 c33 c34
  have hb9' := hb9
  replace b1 := Box.keep b1 hb9'
  replace b2 := Box.keep b2 hb9'
  replace b3 := Box.keep b3 hb9'
  replace b5 := Box.keep b5 hb9'
  have s9 := s8.below hb9'
  have hB9 := bnext hB8 hb9'
  clear hb9 hb9' hB8 s8
  have sc := SpansAt.own hoc
  rw [show Sp.cut (1, 9) (3, 4) = [(1, 3), (4, 9)] by decide] at sc
  clear hoc
  have c01 := b1.1
  have c02 := b1.2.1
  have c03 := b1.2.2
  have c04 : w.heap.size ≠ w9.heap.size := Nat.ne_of_lt b1.2.2
  have c11 := b2.1
  have c12 := b2.2.1
  have c13 := b2.2.2
  have c14 : w.heap.size + 1 ≠ w9.heap.size := Nat.ne_of_lt b2.2.2
  have c21 := b3.1
  have c22 := b3.2.1
  have c23 := b3.2.2
  have c24 : w1.heap.size ≠ w9.heap.size := Nat.ne_of_lt b3.2.2
  have c31 := b5.1
  have c32 := b5.2.1
  have c33 := b5.2.2
  have c34 : w2.heap.size ≠ w9.heap.size := Nat.ne_of_lt b5.2.2
  go_wp2_with fail
  refine (same_any _ _ [(1, 3), (4, 9)] [(1, 3), (4, 9)] _ (sc.below (ba _ _)) (spans_two rfl) (by simp) (by simp)).mono ?_; rintro e w10 ⟨rfl, hb10⟩
  clear c01 c02 c03 c04 c11 c12 c13 c14 c21 c22 c23 c24 c31 c32 c33 c34
  have hb10' : Below w9.heap.size w9 w10 := (ba w9 _).trans (hb10.mono (by simp))
  replace b1 := Box.keep b1 hb10'
  replace b2 := Box.keep b2 hb10'
  replace b3 := Box.keep b3 hb10'
  replace b5 := Box.keep b5 hb10'
  have s10 := s9.below hb10'
  have hB10 := bnext hB9 hb10'
  clear hb10 hb10' hB9 s9
  have c01 := b1.1
  have c02 := b1.2.1
  have c03 := b1.2.2
  have c04 : w.heap.size ≠ w10.heap.size := Nat.ne_of_lt b1.2.2
  have c11 := b2.1
  have c12 := b2.2.1
  have c13 := b2.2.2
  have c14 : w.heap.size + 1 ≠ w10.heap.size := Nat.ne_of_lt b2.2.2
  have c21 := b3.1
  have c22 := b3.2.1
  have c23 := b3.2.2
  have c24 : w1.heap.size ≠ w10.heap.size := Nat.ne_of_lt b3.2.2
  have c31 := b5.1
  have c32 := b5.2.1
  have c33 := b5.2.2
  have c34 : w2.heap.size ≠ w10.heap.size := Nat.ne_of_lt b5.2.2
  go_wp2_with fail
  refine (same_any _ _ [(1, 5), (7, 8)] [(1, 5), (7, 8)] _ (s10.below (ba _ _)) (spans_two rfl) (by simp) (by simp)).mono ?_; rintro e w11 ⟨rfl, hb11⟩
  clear c01 c02 c03 c04 c11 c12 c13 c14 c21 c22 c23 c24 c31 c32 c33 c34
  have hb11' : Below w10.heap.size w10 w11 := (ba w10 _).trans (hb11.mono (by simp))
  replace b1 := Box.keep b1 hb11'
  replace b2 := Box.keep b2 hb11'
  replace b3 := Box.keep b3 hb11'
  replace b5 := Box.keep b5 hb11'
  have s11 := s10.below hb11'
  have hB11 := bnext hB10 hb11'
  clear hb11 hb11' hB10 s10
  have r5 : Sp.covers [(1, 5), (7, 8)] (3, 4) = true := by decide
  have r6 : Sp.covers [(1, 5), (7, 8)] (1, 9) = false := by decide
  have c01 := b1.1
  have c02 := b1.2.1
  have c03 := b1.2.2
  have c04 : w.heap.size ≠ w11.heap.size := Nat.ne_of_lt b1.2.2
  have c11 := b2.1
  have c12 := b2.2.1
  have c13 := b2.2.2
  have c14 : w.heap.size + 1 ≠ w11.heap.size := Nat.ne_of_lt b2.2.2
  have c21 := b3.1
  have c22 := b3.2.1
  have c23 := b3.2.2
  have c24 : w1.heap.size ≠ w11.heap.size := Nat.ne_of_lt b3.2.2
  have c31 := b5.1
  have c32 := b5.2.1
  have c33 := b5.2.2
  have c34 : w2.heap.size ≠ w11.heap.size := Nat.ne_of_lt b5.2.2
  go_wp2_with fail
  refine (covers_any _ _ 3 4 _ s11 (by simp)).mono ?_; rintro e w12 ⟨rfl, hb12⟩
  clear c01 c02 c03 c04 c11 c12 c13 c14 c21 c22 c23 c24 c31 c32 c33 c34
  have hb12' := hb12
  replace b1 := Box.keep b1 hb12'
  replace b2 := Box.keep b2 hb12'
  replace b3 := Box.keep b3 hb12'
  replace b5 := Box.keep b5 hb12'
  have s12 := s11.below hb12'
  have hB12 := bnext hB11 hb12'
  clear hb12 hb12' hB11 s11
  have c01 := b1.1
  have c02 := b1.2.1
  have c03 := b1.2.2
  have c04 : w.heap.size ≠ w12.heap.size := Nat.ne_of_lt b1.2.2
  have c11 := b2.1
  have c12 := b2.2.1
  have c13 := b2.2.2
  have c14 : w.heap.size + 1 ≠ w12.heap.size := Nat.ne_of_lt b2.2.2
  have c21 := b3.1
  have c22 := b3.2.1
  have c23 := b3.2.2
  have c24 : w1.heap.size ≠ w12.heap.size := Nat.ne_of_lt b3.2.2
  have c31 := b5.1
  have c32 := b5.2.1
  have c33 := b5.2.2
  have c34 : w2.heap.size ≠ w12.heap.size := Nat.ne_of_lt b5.2.2
  go_wp2_with fail
  refine (covers_any _ _ 1 9 _ s12 (by simp)).mono ?_; rintro e w13 ⟨rfl, hb13⟩
  clear c01 c02 c03 c04 c11 c12 c13 c14 c21 c22 c23 c24 c31 c32 c33 c34
  have hb13' := hb13
  replace b1 := Box.keep b1 hb13'
  replace b2 := Box.keep b2 hb13'
  replace b3 := Box.keep b3 hb13'
  replace b5 := Box.keep b5 hb13'
  have s13 := s12.below hb13'
  have hB13 := bnext hB12 hb13'
  clear hb13 hb13' hB12 s12
  go_wp2
  go_ret
  exact ⟨rfl, hB13⟩
end Go.Proofs.Ytghgiifclocddaa
