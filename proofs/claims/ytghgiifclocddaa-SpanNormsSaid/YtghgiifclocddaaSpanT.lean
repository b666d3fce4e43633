/-
  SpanTells answers true, whatever the spans and the time: the walk. No condition.
-/
import Derived.Test.YtghgiifclocddaaSpanK
namespace Go.Proofs.Ytghgiifclocddaa
open Go.RowKit

theorem rightR_below (a b : Int) (w : World) : Calls Try.prog 15 #[.agg #[.int .i64 a, .int .i64 b]] w fun e w' => e = .returned (.bool (Sp.right (a, b))) ∧ Below w.heap.size w w' :=
  (rightR_exact a b w).mono fun _ _ ⟨h1, h2⟩ => ⟨h1, h2 ▸ ba w _⟩
theorem cut_short (a b : Sp.Span) : (Sp.cut a b).length ≤ 1000000 := Nat.le_trans (Sp.cut_len a b) (by omega)
theorem sp_refl (x y : Int) (w : World) : (binOp .eql 23 (.agg #[.int .i64 x, .int .i64 y]) (.agg #[.int .i64 x, .int .i64 y])).run Try.prog w = .ok (.bool true) w := sp_eql x y x y true (by simp) w
theorem Box.at2 {w w1 : World} {p q r s : Int} (h : Below ((w.alloc (.cells #[.int .i64 p, .int .i64 q] 23)).alloc (.cells #[.int .i64 r, .int .i64 s] 23)).heap.size ((w.alloc (.cells #[.int .i64 p, .int .i64 q] 23)).alloc (.cells #[.int .i64 r, .int .i64 s] 23)) w1) :
    Box w1 w.heap.size p q ∧ Box w1 (w.heap.size + 1) r s ∧ Below w.heap.size w w1 := by
  obtain ⟨a1, a2, a3, a4, z1, hB1⟩ := two_boxes h
  exact ⟨⟨a1, a2, by omega⟩, ⟨a3, a4, z1⟩, hB1⟩

set_option maxRecDepth 100000 in
set_option maxHeartbeats 3200000 in
theorem spanTells_walk (a b c d t : Int) (w : World) : Calls Try.prog 3 #[.agg #[.int .i64 a, .int .i64 b], .agg #[.int .i64 c, .int .i64 d], .int .i64 t] w fun e w' => e = .returned (.bool true) ∧ Below w.heap.size w w' := by
  obtain ⟨mx, my, mo, cm, cmR⟩ : ∃ mx my mo, Hid (∀ W, Calls Try.prog 10 #[.agg #[.int .i64 a, .int .i64 b], .agg #[.int .i64 c, .int .i64 d]] W fun e w' => e = .returned (.tuple #[.agg #[.int .i64 mx, .int .i64 my], .bool mo]) ∧ Below W.heap.size W w') ∧
      Hid (∀ W, Calls Try.prog 11 #[.agg #[.int .i64 a, .int .i64 b], .agg #[.int .i64 c, .int .i64 d]] W fun e w' => e = .returned (.tuple #[.agg #[.int .i64 mx, .int .i64 my], .bool mo]) ∧ Below W.heap.size W w') :=
    ⟨_, _, _, fun W => meet_any a b c d W, fun W => meetR_any a b c d W⟩
  obtain ⟨jx, jy, jo, cj, cjR⟩ : ∃ mx my mo, Hid (∀ W, Calls Try.prog 12 #[.agg #[.int .i64 a, .int .i64 b], .agg #[.int .i64 c, .int .i64 d]] W fun e w' => e = .returned (.tuple #[.agg #[.int .i64 mx, .int .i64 my], .bool mo]) ∧ Below W.heap.size W w') ∧
      Hid (∀ W, Calls Try.prog 13 #[.agg #[.int .i64 a, .int .i64 b], .agg #[.int .i64 c, .int .i64 d]] W fun e w' => e = .returned (.tuple #[.agg #[.int .i64 mx, .int .i64 my], .bool mo]) ∧ Below W.heap.size W w') :=
    ⟨_, _, _, fun W => join_any a b c d W, fun W => joinR_any a b c d W⟩
  have hcl := cut_short (a, b) (c, d)
  have q1 := sp_refl mx my
  have q2 := sp_refl jx jy
  go_enter Try.func3, Try.ntmps3
  go_wp2_with fail
  refine (cm.out _).mono ?_; rintro e w1 ⟨rfl, hb1⟩
  obtain ⟨b1, b2, hB1⟩ := Box.at2 hb1
  clear hb1
  have c01 := b1.1
  have c02 := b1.2.1
  have c03 := b1.2.2
  have c04 : w.heap.size ≠ w1.heap.size := Nat.ne_of_lt b1.2.2
  have c11 := b2.1
  have c12 := b2.2.1
  have c13 := b2.2.2
  have c14 : w.heap.size + 1 ≠ w1.heap.size := Nat.ne_of_lt b2.2.2
  go_wp2_with fail
  refine (cmR.out _).mono ?_; rintro e w2 ⟨rfl, hb2⟩
  clear c01 c02 c03 c04 c11 c12 c13 c14
  replace b1 := Box.keep (Box.keep b1 (ba _ _)) hb2
  replace b2 := Box.keep (Box.keep b2 (ba _ _)) hb2
  have b3 := Box.keep Box.new hb2
  have hB2 := (hB1.alloc hB1.size _).trans (hb2.mono (by have := hB1.size; simp; omega))
  clear hb2 hB1
  have c01 := b1.1
  have c02 := b1.2.1
  have c03 := b1.2.2
  have c04 : w.heap.size ≠ w2.heap.size := Nat.ne_of_lt b1.2.2
  have c11 := b2.1
  have c12 := b2.2.1
  have c13 := b2.2.2
  have c14 : w.heap.size + 1 ≠ w2.heap.size := Nat.ne_of_lt b2.2.2
  have c21 := b3.1
  have c22 := b3.2.1
  have c23 := b3.2.2
  have c24 : w1.heap.size ≠ w2.heap.size := Nat.ne_of_lt b3.2.2
  go_wp2_with fail
  refine (cj.out _).mono ?_; rintro e w3 ⟨rfl, hb3⟩
  clear c01 c02 c03 c04 c11 c12 c13 c14 c21 c22 c23 c24
  replace b1 := Box.keep (Box.keep b1 (ba _ _)) hb3
  replace b2 := Box.keep (Box.keep b2 (ba _ _)) hb3
  replace b3 := Box.keep (Box.keep b3 (ba _ _)) hb3
  have b4 := Box.keep Box.new hb3
  have hB3 := (hB2.alloc hB2.size _).trans (hb3.mono (by have := hB2.size; simp; omega))
  clear hb3 hB2
  have c01 := b1.1
  have c02 := b1.2.1
  have c03 := b1.2.2
  have c04 : w.heap.size ≠ w3.heap.size := Nat.ne_of_lt b1.2.2
  have c11 := b2.1
  have c12 := b2.2.1
  have c13 := b2.2.2
  have c14 : w.heap.size + 1 ≠ w3.heap.size := Nat.ne_of_lt b2.2.2
  have c21 := b3.1
  have c22 := b3.2.1
  have c23 := b3.2.2
  have c24 : w1.heap.size ≠ w3.heap.size := Nat.ne_of_lt b3.2.2
  have c31 := b4.1
  have c32 := b4.2.1
  have c33 := b4.2.2
  have c34 : w2.heap.size ≠ w3.heap.size := Nat.ne_of_lt b4.2.2
  go_wp2_with fail
  refine (cjR.out _).mono ?_; rintro e w4 ⟨rfl, hb4⟩
  clear c01 c02 c03 c04 c11 c12 c13 c14 c21 c22 c23 c24 c31 c32 c33 c34
  replace b1 := Box.keep (Box.keep b1 (ba _ _)) hb4
  replace b2 := Box.keep (Box.keep b2 (ba _ _)) hb4
  replace b3 := Box.keep (Box.keep b3 (ba _ _)) hb4
  replace b4 := Box.keep (Box.keep b4 (ba _ _)) hb4
  have b5 := Box.keep Box.new hb4
  have hB4 := (hB3.alloc hB3.size _).trans (hb4.mono (by have := hB3.size; simp; omega))
  clear hb4 hB3
  have c01 := b1.1
  have c02 := b1.2.1
  have c03 := b1.2.2
  have c04 : w.heap.size ≠ w4.heap.size := Nat.ne_of_lt b1.2.2
  have c11 := b2.1
  have c12 := b2.2.1
  have c13 := b2.2.2
  have c14 : w.heap.size + 1 ≠ w4.heap.size := Nat.ne_of_lt b2.2.2
  have c21 := b3.1
  have c22 := b3.2.1
  have c23 := b3.2.2
  have c24 : w1.heap.size ≠ w4.heap.size := Nat.ne_of_lt b3.2.2
  have c31 := b4.1
  have c32 := b4.2.1
  have c33 := b4.2.2
  have c34 : w2.heap.size ≠ w4.heap.size := Nat.ne_of_lt b4.2.2
  have c41 := b5.1
  have c42 := b5.2.1
  have c43 := b5.2.2
  have c44 : w3.heap.size ≠ w4.heap.size := Nat.ne_of_lt b5.2.2
  go_wp2_with fail
  clear c01 c02 c03 c04 c11 c12 c13 c14 c21 c22 c23 c24 c31 c32 c33 c34 c41 c42 c43 c44
  replace b1 := Box.keep b1 (ba w4 (.cells #[.int .i64 jx, .int .i64 jy] 23))
  replace b2 := Box.keep b2 (ba w4 (.cells #[.int .i64 jx, .int .i64 jy] 23))
  replace b3 := Box.keep b3 (ba w4 (.cells #[.int .i64 jx, .int .i64 jy] 23))
  replace b4 := Box.keep b4 (ba w4 (.cells #[.int .i64 jx, .int .i64 jy] 23))
  replace b5 := Box.keep b5 (ba w4 (.cells #[.int .i64 jx, .int .i64 jy] 23))
  have b6 : Box (w4.alloc (.cells #[.int .i64 jx, .int .i64 jy] 23)) w4.heap.size jx jy := Box.new
  have hB := hB4.alloc hB4.size (.cells #[.int .i64 jx, .int .i64 jy] 23)
  clear hB4
  generalize w4.alloc (.cells #[.int .i64 jx, .int .i64 jy] 23) = w5 at b1 b2 b3 b4 b5 b6 hB ⊢
  replace b1 : Box w5.drew _ _ _ := b1
  replace b2 : Box w5.drew _ _ _ := b2
  replace b3 : Box w5.drew _ _ _ := b3
  replace b4 : Box w5.drew _ _ _ := b4
  replace b5 : Box w5.drew _ _ _ := b5
  replace b6 : Box w5.drew _ _ _ := b6
  replace hB : Below w.heap.size w w5.drew := hB.drew
  go_region_held3 (fun W => (W.cell? ⟨w.heap.size, 0, none⟩ = some (.int .i64 a) ∧ W.cell? ⟨w.heap.size, 1, none⟩ = some (.int .i64 b)) ∧ (W.cell? ⟨w.heap.size + 1, 0, none⟩ = some (.int .i64 c) ∧ W.cell? ⟨w.heap.size + 1, 1, none⟩ = some (.int .i64 d)) ∧ (W.cell? ⟨w1.heap.size, 0, none⟩ = some (.int .i64 mx) ∧ W.cell? ⟨w1.heap.size, 1, none⟩ = some (.int .i64 my)) ∧ (W.cell? ⟨w2.heap.size, 0, none⟩ = some (.int .i64 mx) ∧ W.cell? ⟨w2.heap.size, 1, none⟩ = some (.int .i64 my)) ∧ (W.cell? ⟨w3.heap.size, 0, none⟩ = some (.int .i64 jx) ∧ W.cell? ⟨w3.heap.size, 1, none⟩ = some (.int .i64 jy)) ∧ (W.cell? ⟨w4.heap.size, 0, none⟩ = some (.int .i64 jx) ∧ W.cell? ⟨w4.heap.size, 1, none⟩ = some (.int .i64 jy))) (exact ⟨⟨b1.1, b1.2.1⟩, ⟨b2.1, b2.2.1⟩, ⟨b3.1, b3.2.1⟩, ⟨b4.1, b4.2.1⟩, ⟨b5.1, b5.2.1⟩, ⟨b6.1, b6.2.1⟩⟩) (first | (go_at_call 14; refine (right_below _ _ _).mono ?_; rintro e wn ⟨rfl, hb⟩; replace b1 := Box.keep b1 hb; replace b2 := Box.keep b2 hb; replace b3 := Box.keep b3 hb; replace b4 := Box.keep b4 hb; replace b5 := Box.keep b5 hb; replace b6 := Box.keep b6 hb; replace hB := bnext hB hb; clear hb) | (go_at_call 15; refine (rightR_below _ _ _).mono ?_; rintro e wn ⟨rfl, hb⟩; replace b1 := Box.keep b1 hb; replace b2 := Box.keep b2 hb; replace b3 := Box.keep b3 hb; replace b4 := Box.keep b4 hb; replace b5 := Box.keep b5 hb; replace b6 := Box.keep b6 hb; replace hB := bnext hB hb; clear hb) | (go_at_call 16; refine (has_any _ _ _ _).mono ?_; rintro e wn ⟨rfl, hb⟩; replace b1 := Box.keep b1 hb; replace b2 := Box.keep b2 hb; replace b3 := Box.keep b3 hb; replace b4 := Box.keep b4 hb; replace b5 := Box.keep b5 hb; replace b6 := Box.keep b6 hb; replace hB := bnext hB hb; clear hb) | (go_at_call 17; refine (hasR_any _ _ _ _).mono ?_; rintro e wn ⟨rfl, hb⟩; replace b1 := Box.keep b1 hb; replace b2 := Box.keep b2 hb; replace b3 := Box.keep b3 hb; replace b4 := Box.keep b4 hb; replace b5 := Box.keep b5 hb; replace b6 := Box.keep b6 hb; replace hB := bnext hB hb; clear hb) | (go_at_call 19; refine (cut_any _ _ _ _ _).mono ?_; rintro e wn ⟨⟨vc, rfl, hoc⟩, hb⟩; replace b1 := Box.keep b1 hb; replace b2 := Box.keep b2 hb; replace b3 := Box.keep b3 hb; replace b4 := Box.keep b4 hb; replace b5 := Box.keep b5 hb; replace b6 := Box.keep b6 hb; replace hB := bnext hB hb; have sc := SpansAt.own hoc; clear hoc; clear hb) | (go_at_call 20; refine (cutR_any _ _ _ _ _).mono ?_; rintro e wn ⟨⟨vd, rfl, hod⟩, hb⟩; replace b1 := Box.keep b1 hb; replace b2 := Box.keep b2 hb; replace b3 := Box.keep b3 hb; replace b4 := Box.keep b4 hb; replace b5 := Box.keep b5 hb; replace b6 := Box.keep b6 hb; replace hB := bnext hB hb; have sd := SpansAt.own hod; replace sc := sc.below hb; clear hod; clear hb) | (go_at_call 18; refine (same_any _ _ _ _ _ sc sd hcl hcl).mono ?_; rintro e wn ⟨rfl, hb⟩; replace b1 := Box.keep b1 hb; replace b2 := Box.keep b2 hb; replace b3 := Box.keep b3 hb; replace b4 := Box.keep b4 hb; replace b5 := Box.keep b5 hb; replace b6 := Box.keep b6 hb; replace hB := bnext hB hb; clear hb) | (go_at_call 21; refine (known_any _).mono ?_; rintro e wn ⟨rfl, hb⟩; replace b1 := Box.keep b1 hb; replace b2 := Box.keep b2 hb; replace b3 := Box.keep b3 hb; replace b4 := Box.keep b4 hb; replace b5 := Box.keep b5 hb; replace b6 := Box.keep b6 hb; replace hB := bnext hB hb; clear hb))
  go_wp2
  go_ret
  exact ⟨rfl, hB⟩
end Go.Proofs.Ytghgiifclocddaa
