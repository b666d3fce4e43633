/-
  SpanBoth answers true, whatever the spans: the walk. No condition.
-/
import Derived.Test.YtghgiifclocddaaSpanT
namespace Go.Proofs.Ytghgiifclocddaa
open Go.RowKit

namespace Sp
theorem mem_opt (o : Option Span) (t : Int) : mem o.toList t ↔ has (fst o) t = true := by
  cases o with
  | none => simp [mem, fst, has_iff, right_iff]
  | some s => simp [mem, fst]
theorem meet_few (a b : Span) : Few (meet a b).toList := by
  cases h : meet a b with
  | none => trivial
  | some m => exact few_one (meet_some h).2.2.1
theorem meet_eq {a b c d : Span} (h : ∀ t, (has a t = true ∧ has b t = true) ↔ (has c t = true ∧ has d t = true)) : meet a b = meet c d := by
  have := few_eq (meet_few a b) (meet_few c d) fun t => by rw [mem_opt, mem_opt, has_meet, has_meet]; exact h t
  cases h1 : meet a b <;> cases h2 : meet c d <;> simp_all
theorem meet_assoc (a b c : Span) : meet (fst (meet a b)) c = meet a (fst (meet b c)) := meet_eq fun t => by rw [has_meet, has_meet, and_assoc]
theorem meet_self (a : Span) : meet a a = if right a then some a else none := by
  unfold meet
  have e1 : max a.1 a.1 = a.1 := by omega
  have e2 : min a.2 a.2 = a.2 := by omega
  rw [e1, e2]
  cases right a <;> simp
end Sp
theorem Box.at3 {w w1 : World} {p q r s u v : Int} (h : Below (((w.alloc (.cells #[.int .i64 p, .int .i64 q] 23)).alloc (.cells #[.int .i64 r, .int .i64 s] 23)).alloc (.cells #[.int .i64 u, .int .i64 v] 23)).heap.size (((w.alloc (.cells #[.int .i64 p, .int .i64 q] 23)).alloc (.cells #[.int .i64 r, .int .i64 s] 23)).alloc (.cells #[.int .i64 u, .int .i64 v] 23)) w1) :
    Box w1 w.heap.size p q ∧ Box w1 (w.heap.size + 1) r s ∧ Box w1 (w.heap.size + 1 + 1) u v ∧ Below w.heap.size w w1 := by
  have h1 := Box.keep (Box.keep (Box.keep (Box.new (w := w) (x := p) (y := q)) (ba _ (.cells #[.int .i64 r, .int .i64 s] 23))) (ba _ (.cells #[.int .i64 u, .int .i64 v] 23))) h
  have h2 := Box.keep (Box.keep (Box.new (w := w.alloc (.cells #[.int .i64 p, .int .i64 q] 23)) (x := r) (y := s)) (ba _ (.cells #[.int .i64 u, .int .i64 v] 23))) h
  have h3 := Box.keep (Box.new (w := (w.alloc (.cells #[.int .i64 p, .int .i64 q] 23)).alloc (.cells #[.int .i64 r, .int .i64 s] 23)) (x := u) (y := v)) h
  refine ⟨h1, by simpa using h2, by simpa using h3, ?_⟩
  exact bnext (bnext (bnext (ba w _) (ba _ _)) (ba _ _)) h

set_option maxRecDepth 100000 in
set_option maxHeartbeats 6400000 in
theorem spanBoth_walk (a1 a2 b1' b2' c1 c2 : Int) (w : World) : Calls Try.prog 8 #[.agg #[.int .i64 a1, .int .i64 a2], .agg #[.int .i64 b1', .int .i64 b2'], .agg #[.int .i64 c1, .int .i64 c2]] w fun e w' => e = .returned (.bool true) ∧ Below w.heap.size w w' := by
  obtain ⟨mx, my, mo, px, py, po, xx, xy, xo, km1, km2, kp, kx1, kx2⟩ : ∃ mx my mo px py po xx xy xo, Hid (∀ W, Calls Try.prog 10 #[.agg #[.int .i64 a1, .int .i64 a2], .agg #[.int .i64 b1', .int .i64 b2']] W fun e w' => e = .returned (.tuple #[.agg #[.int .i64 mx, .int .i64 my], .bool mo]) ∧ Below W.heap.size W w') ∧ Hid (∀ W, Calls Try.prog 10 #[.agg #[.int .i64 b1', .int .i64 b2'], .agg #[.int .i64 a1, .int .i64 a2]] W fun e w' => e = .returned (.tuple #[.agg #[.int .i64 mx, .int .i64 my], .bool mo]) ∧ Below W.heap.size W w') ∧ Hid (∀ W, Calls Try.prog 10 #[.agg #[.int .i64 b1', .int .i64 b2'], .agg #[.int .i64 c1, .int .i64 c2]] W fun e w' => e = .returned (.tuple #[.agg #[.int .i64 px, .int .i64 py], .bool po]) ∧ Below W.heap.size W w') ∧ Hid (∀ W, Calls Try.prog 10 #[.agg #[.int .i64 mx, .int .i64 my], .agg #[.int .i64 c1, .int .i64 c2]] W fun e w' => e = .returned (.tuple #[.agg #[.int .i64 xx, .int .i64 xy], .bool xo]) ∧ Below W.heap.size W w') ∧ Hid (∀ W, Calls Try.prog 10 #[.agg #[.int .i64 a1, .int .i64 a2], .agg #[.int .i64 px, .int .i64 py]] W fun e w' => e = .returned (.tuple #[.agg #[.int .i64 xx, .int .i64 xy], .bool xo]) ∧ Below W.heap.size W w') := by
    refine ⟨_, _, _, _, _, _, _, _, _, fun W => meet_any a1 a2 b1' b2' W, fun W => ?_, fun W => meet_any b1' b2' c1 c2 W, fun W => meet_any _ _ c1 c2 W, fun W => ?_⟩
    · rw [Sp.meet_comm]; exact meet_any b1' b2' a1 a2 W
    · rw [show Sp.meet ((Sp.fst (Sp.meet (a1, a2) (b1', b2'))).1, (Sp.fst (Sp.meet (a1, a2) (b1', b2'))).2) (c1, c2) = Sp.meet (a1, a2) ((Sp.fst (Sp.meet (b1', b2') (c1, c2))).1, (Sp.fst (Sp.meet (b1', b2') (c1, c2))).2) from Sp.meet_assoc _ _ _]
      exact meet_any a1 a2 _ _ W
  obtain ⟨jx, jy, jo, kj1, kj2⟩ : ∃ jx jy jo, Hid (∀ W, Calls Try.prog 12 #[.agg #[.int .i64 a1, .int .i64 a2], .agg #[.int .i64 b1', .int .i64 b2']] W fun e w' => e = .returned (.tuple #[.agg #[.int .i64 jx, .int .i64 jy], .bool jo]) ∧ Below W.heap.size W w') ∧ Hid (∀ W, Calls Try.prog 12 #[.agg #[.int .i64 b1', .int .i64 b2'], .agg #[.int .i64 a1, .int .i64 a2]] W fun e w' => e = .returned (.tuple #[.agg #[.int .i64 jx, .int .i64 jy], .bool jo]) ∧ Below W.heap.size W w') := by
    refine ⟨_, _, _, fun W => join_any a1 a2 b1' b2' W, fun W => ?_⟩
    rw [Sp.join_comm]; exact join_any b1' b2' a1 a2 W
  obtain ⟨ox, oy, oo, ko, kr, ho⟩ : ∃ ox oy oo, Hid (∀ W, Calls Try.prog 10 #[.agg #[.int .i64 a1, .int .i64 a2], .agg #[.int .i64 a1, .int .i64 a2]] W fun e w' => e = .returned (.tuple #[.agg #[.int .i64 ox, .int .i64 oy], .bool oo]) ∧ Below W.heap.size W w') ∧ Hid (∀ W, Calls Try.prog 14 #[.agg #[.int .i64 a1, .int .i64 a2]] W fun e w' => e = .returned (.bool oo) ∧ Below W.heap.size W w') ∧ (oo = false ∨ (oo = true ∧ a1 = ox ∧ a2 = oy)) := by
    have h := fun W => meet_any a1 a2 a1 a2 W
    have h2 := fun W => right_below a1 a2 W
    rw [Sp.meet_self] at h
    cases hr : Sp.right (a1, a2) with
    | false => rw [hr] at h h2; exact ⟨0, 0, false, h, h2, .inl rfl⟩
    | true => rw [hr] at h h2; exact ⟨a1, a2, true, h, h2, .inr ⟨rfl, rfl, rfl⟩⟩
  have q1 := sp_refl mx my
  have q2 := sp_refl jx jy
  have q3 := sp_refl ox oy
  have q4 := sp_refl xx xy
  go_enter Try.func8, Try.ntmps8
  go_wp2_with fail
  refine (km1.out _).mono ?_; rintro e w1 ⟨rfl, hb1⟩
  obtain ⟨ba1, bb, bc, hB1⟩ := Box.at3 hb1
  clear hb1
  have c01 := ba1.1
  have c02 := ba1.2.1
  have c03 := ba1.2.2
  have c04 : w.heap.size ≠ w1.heap.size := Nat.ne_of_lt ba1.2.2
  have c11 := bb.1
  have c12 := bb.2.1
  have c13 := bb.2.2
  have c14 : (w.heap.size + 1) ≠ w1.heap.size := Nat.ne_of_lt bb.2.2
  have c21 := bc.1
  have c22 := bc.2.1
  have c23 := bc.2.2
  have c24 : (w.heap.size + 1 + 1) ≠ w1.heap.size := Nat.ne_of_lt bc.2.2
  go_wp2_with fail
  refine (km2.out _).mono ?_; rintro e w2 ⟨rfl, hb2⟩
  clear c01 c02 c03 c04 c11 c12 c13 c14 c21 c22 c23 c24
  replace ba1 := Box.keep (Box.keep ba1 (ba _ _)) hb2
  replace bb := Box.keep (Box.keep bb (ba _ _)) hb2
  replace bc := Box.keep (Box.keep bc (ba _ _)) hb2
  have bm : Box w2 w1.heap.size mx my := Box.keep Box.new hb2
  have hB2 := (hB1.alloc hB1.size _).trans (hb2.mono (by have := hB1.size; simp; omega))
  clear hb2 hB1
  have c01 := ba1.1
  have c02 := ba1.2.1
  have c03 := ba1.2.2
  have c04 : w.heap.size ≠ w2.heap.size := Nat.ne_of_lt ba1.2.2
  have c11 := bb.1
  have c12 := bb.2.1
  have c13 := bb.2.2
  have c14 : (w.heap.size + 1) ≠ w2.heap.size := Nat.ne_of_lt bb.2.2
  have c21 := bc.1
  have c22 := bc.2.1
  have c23 := bc.2.2
  have c24 : (w.heap.size + 1 + 1) ≠ w2.heap.size := Nat.ne_of_lt bc.2.2
  have c31 := bm.1
  have c32 := bm.2.1
  have c33 := bm.2.2
  have c34 : w1.heap.size ≠ w2.heap.size := Nat.ne_of_lt bm.2.2
  go_wp2_with fail
  refine (kj1.out _).mono ?_; rintro e w3 ⟨rfl, hb3⟩
  clear c01 c02 c03 c04 c11 c12 c13 c14 c21 c22 c23 c24 c31 c32 c33 c34
  replace ba1 := Box.keep (Box.keep ba1 (ba _ _)) hb3
  replace bb := Box.keep (Box.keep bb (ba _ _)) hb3
  replace bc := Box.keep (Box.keep bc (ba _ _)) hb3
  replace bm := Box.keep (Box.keep bm (ba _ _)) hb3
  have bn : Box w3 w2.heap.size mx my := Box.keep Box.new hb3
  have hB3 := (hB2.alloc hB2.size _).trans (hb3.mono (by have := hB2.size; simp; omega))
  clear hb3 hB2
  have c01 := ba1.1
  have c02 := ba1.2.1
  have c03 := ba1.2.2
  have c04 : w.heap.size ≠ w3.heap.size := Nat.ne_of_lt ba1.2.2
  have c11 := bb.1
  have c12 := bb.2.1
  have c13 := bb.2.2
  have c14 : (w.heap.size + 1) ≠ w3.heap.size := Nat.ne_of_lt bb.2.2
  have c21 := bc.1
  have c22 := bc.2.1
  have c23 := bc.2.2
  have c24 : (w.heap.size + 1 + 1) ≠ w3.heap.size := Nat.ne_of_lt bc.2.2
  have c31 := bm.1
  have c32 := bm.2.1
  have c33 := bm.2.2
  have c34 : w1.heap.size ≠ w3.heap.size := Nat.ne_of_lt bm.2.2
  have c41 := bn.1
  have c42 := bn.2.1
  have c43 := bn.2.2
  have c44 : w2.heap.size ≠ w3.heap.size := Nat.ne_of_lt bn.2.2
  go_wp2_with fail
  refine (kj2.out _).mono ?_; rintro e w4 ⟨rfl, hb4⟩
  clear c01 c02 c03 c04 c11 c12 c13 c14 c21 c22 c23 c24 c31 c32 c33 c34 c41 c42 c43 c44
  replace ba1 := Box.keep (Box.keep ba1 (ba _ _)) hb4
  replace bb := Box.keep (Box.keep bb (ba _ _)) hb4
  replace bc := Box.keep (Box.keep bc (ba _ _)) hb4
  replace bm := Box.keep (Box.keep bm (ba _ _)) hb4
  replace bn := Box.keep (Box.keep bn (ba _ _)) hb4
  have bj : Box w4 w3.heap.size jx jy := Box.keep Box.new hb4
  have hB4 := (hB3.alloc hB3.size _).trans (hb4.mono (by have := hB3.size; simp; omega))
  clear hb4 hB3
  have c01 := ba1.1
  have c02 := ba1.2.1
  have c03 := ba1.2.2
  have c04 : w.heap.size ≠ w4.heap.size := Nat.ne_of_lt ba1.2.2
  have c11 := bb.1
  have c12 := bb.2.1
  have c13 := bb.2.2
  have c14 : (w.heap.size + 1) ≠ w4.heap.size := Nat.ne_of_lt bb.2.2
  have c21 := bc.1
  have c22 := bc.2.1
  have c23 := bc.2.2
  have c24 : (w.heap.size + 1 + 1) ≠ w4.heap.size := Nat.ne_of_lt bc.2.2
  have c31 := bm.1
  have c32 := bm.2.1
  have c33 := bm.2.2
  have c34 : w1.heap.size ≠ w4.heap.size := Nat.ne_of_lt bm.2.2
  have c41 := bn.1
  have c42 := bn.2.1
  have c43 := bn.2.2
  have c44 : w2.heap.size ≠ w4.heap.size := Nat.ne_of_lt bn.2.2
  have c51 := bj.1
  have c52 := bj.2.1
  have c53 := bj.2.2
  have c54 : w3.heap.size ≠ w4.heap.size := Nat.ne_of_lt bj.2.2
  go_wp2_with fail
  refine (ko.out _).mono ?_; rintro e w5 ⟨rfl, hb5⟩
  clear c01 c02 c03 c04 c11 c12 c13 c14 c21 c22 c23 c24 c31 c32 c33 c34 c41 c42 c43 c44 c51 c52 c53 c54
  replace ba1 := Box.keep (Box.keep ba1 (ba _ _)) hb5
  replace bb := Box.keep (Box.keep bb (ba _ _)) hb5
  replace bc := Box.keep (Box.keep bc (ba _ _)) hb5
  replace bm := Box.keep (Box.keep bm (ba _ _)) hb5
  replace bn := Box.keep (Box.keep bn (ba _ _)) hb5
  replace bj := Box.keep (Box.keep bj (ba _ _)) hb5
  have bk : Box w5 w4.heap.size jx jy := Box.keep Box.new hb5
  have hB5 := (hB4.alloc hB4.size _).trans (hb5.mono (by have := hB4.size; simp; omega))
  clear hb5 hB4
  have c01 := ba1.1
  have c02 := ba1.2.1
  have c03 := ba1.2.2
  have c04 : w.heap.size ≠ w5.heap.size := Nat.ne_of_lt ba1.2.2
  have c11 := bb.1
  have c12 := bb.2.1
  have c13 := bb.2.2
  have c14 : (w.heap.size + 1) ≠ w5.heap.size := Nat.ne_of_lt bb.2.2
  have c21 := bc.1
  have c22 := bc.2.1
  have c23 := bc.2.2
  have c24 : (w.heap.size + 1 + 1) ≠ w5.heap.size := Nat.ne_of_lt bc.2.2
  have c31 := bm.1
  have c32 := bm.2.1
  have c33 := bm.2.2
  have c34 : w1.heap.size ≠ w5.heap.size := Nat.ne_of_lt bm.2.2
  have c41 := bn.1
  have c42 := bn.2.1
  have c43 := bn.2.2
  have c44 : w2.heap.size ≠ w5.heap.size := Nat.ne_of_lt bn.2.2
  have c51 := bj.1
  have c52 := bj.2.1
  have c53 := bj.2.2
  have c54 : w3.heap.size ≠ w5.heap.size := Nat.ne_of_lt bj.2.2
  have c61 := bk.1
  have c62 := bk.2.1
  have c63 := bk.2.2
  have c64 : w4.heap.size ≠ w5.heap.size := Nat.ne_of_lt bk.2.2
  go_wp2_with fail
  refine (kx1.out _).mono ?_; rintro e w6 ⟨rfl, hb6⟩
  clear c01 c02 c03 c04 c11 c12 c13 c14 c21 c22 c23 c24 c31 c32 c33 c34 c41 c42 c43 c44 c51 c52 c53 c54 c61 c62 c63 c64
  replace ba1 := Box.keep (Box.keep ba1 (ba _ _)) hb6
  replace bb := Box.keep (Box.keep bb (ba _ _)) hb6
  replace bc := Box.keep (Box.keep bc (ba _ _)) hb6
  replace bm := Box.keep (Box.keep bm (ba _ _)) hb6
  replace bn := Box.keep (Box.keep bn (ba _ _)) hb6
  replace bj := Box.keep (Box.keep bj (ba _ _)) hb6
  replace bk := Box.keep (Box.keep bk (ba _ _)) hb6
  have bo : Box w6 w5.heap.size ox oy := Box.keep Box.new hb6
  have hB6 := (hB5.alloc hB5.size _).trans (hb6.mono (by have := hB5.size; simp; omega))
  clear hb6 hB5
  have c01 := ba1.1
  have c02 := ba1.2.1
  have c03 := ba1.2.2
  have c04 : w.heap.size ≠ w6.heap.size := Nat.ne_of_lt ba1.2.2
  have c11 := bb.1
  have c12 := bb.2.1
  have c13 := bb.2.2
  have c14 : (w.heap.size + 1) ≠ w6.heap.size := Nat.ne_of_lt bb.2.2
  have c21 := bc.1
  have c22 := bc.2.1
  have c23 := bc.2.2
  have c24 : (w.heap.size + 1 + 1) ≠ w6.heap.size := Nat.ne_of_lt bc.2.2
  have c31 := bm.1
  have c32 := bm.2.1
  have c33 := bm.2.2
  have c34 : w1.heap.size ≠ w6.heap.size := Nat.ne_of_lt bm.2.2
  have c41 := bn.1
  have c42 := bn.2.1
  have c43 := bn.2.2
  have c44 : w2.heap.size ≠ w6.heap.size := Nat.ne_of_lt bn.2.2
  have c51 := bj.1
  have c52 := bj.2.1
  have c53 := bj.2.2
  have c54 : w3.heap.size ≠ w6.heap.size := Nat.ne_of_lt bj.2.2
  have c61 := bk.1
  have c62 := bk.2.1
  have c63 := bk.2.2
  have c64 : w4.heap.size ≠ w6.heap.size := Nat.ne_of_lt bk.2.2
  have c71 := bo.1
  have c72 := bo.2.1
  have c73 := bo.2.2
  have c74 : w5.heap.size ≠ w6.heap.size := Nat.ne_of_lt bo.2.2
  go_wp2_with fail
  refine (kp.out _).mono ?_; rintro e w7 ⟨rfl, hb7⟩
  clear c01 c02 c03 c04 c11 c12 c13 c14 c21 c22 c23 c24 c31 c32 c33 c34 c41 c42 c43 c44 c51 c52 c53 c54 c61 c62 c63 c64 c71 c72 c73 c74
  replace ba1 := Box.keep (Box.keep ba1 (ba _ _)) hb7
  replace bb := Box.keep (Box.keep bb (ba _ _)) hb7
  replace bc := Box.keep (Box.keep bc (ba _ _)) hb7
  replace bm := Box.keep (Box.keep bm (ba _ _)) hb7
  replace bn := Box.keep (Box.keep bn (ba _ _)) hb7
  replace bj := Box.keep (Box.keep bj (ba _ _)) hb7
  replace bk := Box.keep (Box.keep bk (ba _ _)) hb7
  replace bo := Box.keep (Box.keep bo (ba _ _)) hb7
  have bx : Box w7 w6.heap.size xx xy := Box.keep Box.new hb7
  have hB7 := (hB6.alloc hB6.size _).trans (hb7.mono (by have := hB6.size; simp; omega))
  clear hb7 hB6
  have c01 := ba1.1
  have c02 := ba1.2.1
  have c03 := ba1.2.2
  have c04 : w.heap.size ≠ w7.heap.size := Nat.ne_of_lt ba1.2.2
  have c11 := bb.1
  have c12 := bb.2.1
  have c13 := bb.2.2
  have c14 : (w.heap.size + 1) ≠ w7.heap.size := Nat.ne_of_lt bb.2.2
  have c21 := bc.1
  have c22 := bc.2.1
  have c23 := bc.2.2
  have c24 : (w.heap.size + 1 + 1) ≠ w7.heap.size := Nat.ne_of_lt bc.2.2
  have c31 := bm.1
  have c32 := bm.2.1
  have c33 := bm.2.2
  have c34 : w1.heap.size ≠ w7.heap.size := Nat.ne_of_lt bm.2.2
  have c41 := bn.1
  have c42 := bn.2.1
  have c43 := bn.2.2
  have c44 : w2.heap.size ≠ w7.heap.size := Nat.ne_of_lt bn.2.2
  have c51 := bj.1
  have c52 := bj.2.1
  have c53 := bj.2.2
  have c54 : w3.heap.size ≠ w7.heap.size := Nat.ne_of_lt bj.2.2
  have c61 := bk.1
  have c62 := bk.2.1
  have c63 := bk.2.2
  have c64 : w4.heap.size ≠ w7.heap.size := Nat.ne_of_lt bk.2.2
  have c71 := bo.1
  have c72 := bo.2.1
  have c73 := bo.2.2
  have c74 : w5.heap.size ≠ w7.heap.size := Nat.ne_of_lt bo.2.2
  have c81 := bx.1
  have c82 := bx.2.1
  have c83 := bx.2.2
  have c84 : w6.heap.size ≠ w7.heap.size := Nat.ne_of_lt bx.2.2
  go_wp2_with fail
  refine (kx2.out _).mono ?_; rintro e w8 ⟨rfl, hb8⟩
  clear c01 c02 c03 c04 c11 c12 c13 c14 c21 c22 c23 c24 c31 c32 c33 c34 c41 c42 c43 c44 c51 c52 c53 c54 c61 c62 c63 c64 c71 c72 c73 c74 c81 c82 c83 c84
  replace ba1 := Box.keep (Box.keep ba1 (ba _ _)) hb8
  replace bb := Box.keep (Box.keep bb (ba _ _)) hb8
  replace bc := Box.keep (Box.keep bc (ba _ _)) hb8
  replace bm := Box.keep (Box.keep bm (ba _ _)) hb8
  replace bn := Box.keep (Box.keep bn (ba _ _)) hb8
  replace bj := Box.keep (Box.keep bj (ba _ _)) hb8
  replace bk := Box.keep (Box.keep bk (ba _ _)) hb8
  replace bo := Box.keep (Box.keep bo (ba _ _)) hb8
  replace bx := Box.keep (Box.keep bx (ba _ _)) hb8
  have bp : Box w8 w7.heap.size px py := Box.keep Box.new hb8
  have hB8 := (hB7.alloc hB7.size _).trans (hb8.mono (by have := hB7.size; simp; omega))
  clear hb8 hB7
  replace ba1 := Box.keep ba1 (ba w8 (.cells #[.int .i64 xx, .int .i64 xy] 23))
  replace bb := Box.keep bb (ba w8 (.cells #[.int .i64 xx, .int .i64 xy] 23))
  replace bc := Box.keep bc (ba w8 (.cells #[.int .i64 xx, .int .i64 xy] 23))
  replace bm := Box.keep bm (ba w8 (.cells #[.int .i64 xx, .int .i64 xy] 23))
  replace bn := Box.keep bn (ba w8 (.cells #[.int .i64 xx, .int .i64 xy] 23))
  replace bj := Box.keep bj (ba w8 (.cells #[.int .i64 xx, .int .i64 xy] 23))
  replace bk := Box.keep bk (ba w8 (.cells #[.int .i64 xx, .int .i64 xy] 23))
  replace bo := Box.keep bo (ba w8 (.cells #[.int .i64 xx, .int .i64 xy] 23))
  replace bx := Box.keep bx (ba w8 (.cells #[.int .i64 xx, .int .i64 xy] 23))
  replace bp := Box.keep bp (ba w8 (.cells #[.int .i64 xx, .int .i64 xy] 23))
  have by' : Box (w8.alloc (.cells #[.int .i64 xx, .int .i64 xy] 23)) w8.heap.size xx xy := Box.new
  have hB := hB8.alloc hB8.size (.cells #[.int .i64 xx, .int .i64 xy] 23)
  clear hB8
  have c01 := ba1.1
  have c02 := ba1.2.1
  have c11 := bb.1
  have c12 := bb.2.1
  have c21 := bc.1
  have c22 := bc.2.1
  have c31 := bm.1
  have c32 := bm.2.1
  have c41 := bn.1
  have c42 := bn.2.1
  have c51 := bj.1
  have c52 := bj.2.1
  have c61 := bk.1
  have c62 := bk.2.1
  have c71 := bo.1
  have c72 := bo.2.1
  have c81 := bx.1
  have c82 := bx.2.1
  have c91 := bp.1
  have c92 := bp.2.1
  have c101 := by'.1
  have c102 := by'.2.1
  rcases ho with rfl | ⟨rfl, rfl, rfl⟩
  all_goals
    go_wp2_with (first | (go_at_call 14; refine (kr.out _).mono ?_; rintro e wn ⟨rfl, hb⟩; clear c01 c02 c11 c12 c21 c22 c31 c32 c41 c42 c51 c52 c61 c62 c71 c72 c81 c82 c91 c92 c101 c102; replace ba1 := Box.keep ba1 hb; replace bb := Box.keep bb hb; replace bc := Box.keep bc hb; replace bm := Box.keep bm hb; replace bn := Box.keep bn hb; replace bj := Box.keep bj hb; replace bk := Box.keep bk hb; replace bo := Box.keep bo hb; replace bx := Box.keep bx hb; replace bp := Box.keep bp hb; replace by' := Box.keep by' hb; replace hB := bnext hB hb; clear hb; have c01 := ba1.1; have c02 := ba1.2.1; have c11 := bb.1; have c12 := bb.2.1; have c21 := bc.1; have c22 := bc.2.1; have c31 := bm.1; have c32 := bm.2.1; have c41 := bn.1; have c42 := bn.2.1; have c51 := bj.1; have c52 := bj.2.1; have c61 := bk.1; have c62 := bk.2.1; have c71 := bo.1; have c72 := bo.2.1; have c81 := bx.1; have c82 := bx.2.1; have c91 := bp.1; have c92 := bp.2.1; have c101 := by'.1; have c102 := by'.2.1) | (go_at_call 21; refine (known_any _).mono ?_; rintro e wn ⟨rfl, hb⟩; clear c01 c02 c11 c12 c21 c22 c31 c32 c41 c42 c51 c52 c61 c62 c71 c72 c81 c82 c91 c92 c101 c102; replace ba1 := Box.keep ba1 hb; replace bb := Box.keep bb hb; replace bc := Box.keep bc hb; replace bm := Box.keep bm hb; replace bn := Box.keep bn hb; replace bj := Box.keep bj hb; replace bk := Box.keep bk hb; replace bo := Box.keep bo hb; replace bx := Box.keep bx hb; replace bp := Box.keep bp hb; replace by' := Box.keep by' hb; replace hB := bnext hB hb; clear hb; have c01 := ba1.1; have c02 := ba1.2.1; have c11 := bb.1; have c12 := bb.2.1; have c21 := bc.1; have c22 := bc.2.1; have c31 := bm.1; have c32 := bm.2.1; have c41 := bn.1; have c42 := bn.2.1; have c51 := bj.1; have c52 := bj.2.1; have c61 := bk.1; have c62 := bk.2.1; have c71 := bo.1; have c72 := bo.2.1; have c81 := bx.1; have c82 := bx.2.1; have c91 := bp.1; have c92 := bp.2.1; have c101 := by'.1; have c102 := by'.2.1))
    go_ret
    exact ⟨rfl, hB⟩
end Go.Proofs.Ytghgiifclocddaa
