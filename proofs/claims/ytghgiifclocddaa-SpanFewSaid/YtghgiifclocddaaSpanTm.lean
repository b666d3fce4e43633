/-
  SpanTimes answers true, whatever the spans and the time: the walk. No condition.
-/
import Derived.Test.YtghgiifclocddaaSpanB
namespace Go.Proofs.Ytghgiifclocddaa
open Go.RowKit

namespace Sp
def cnt (l : List Span) (t : Int) : Nat := (l.filter fun s => has s t).length
theorem cnt_snoc (l : List Span) (t : Int) (k : Nat) (h : k < l.length) : cnt (l.take (k + 1)) t = cnt (l.take k) t + (if has l[k] t then 1 else 0) := by
  unfold cnt
  rw [take_snoc l k h, List.filter_append, List.length_append]
  cases hh : has l[k] t <;> simp [hh]
theorem cnt_le (l : List Span) (t : Int) : cnt l t ≤ l.length := List.length_filter_le _ _
theorem cnt_zero {l : List Span} {t : Int} (h : ¬ mem l t) : cnt l t = 0 := by
  unfold cnt
  rw [List.length_eq_zero_iff, List.filter_eq_nil_iff]
  exact fun s hs hh => h ⟨s, hs, hh⟩
theorem cnt_few {l : List Span} (h : Few l) (t : Int) : mem l t → cnt l t = 1 := by
  induction l with
  | nil => intro hm; exact absurd hm (mem_nil t)
  | cons s l ih =>
    intro hm
    have e : cnt (s :: l) t = (if has s t then 1 else 0) + cnt l t := by
      unfold cnt
      cases hh : has s t <;> simp [hh, Nat.add_comm]
    rw [e]
    cases hh : has s t with
    | false =>
      rcases mem_cons.1 hm with h2 | h2
      · rw [hh] at h2; cases h2
      · simp [ih h.2.2 h2]
    | true =>
      rw [has_iff] at hh
      rw [cnt_zero]
      · rfl
      · rintro ⟨x, hx, h3⟩
        have := h.2.1 x hx
        rw [has_iff] at h3
        omega
/-- what the statement asks, of the four answers -/
theorem times_ways (a b : Span) (t : Int) : ∃ x y z n, has a t = x ∧ has b t = y ∧ has (fst (meet a b)) t = z ∧ cnt (cut a b) t = n ∧
    ((x = true ∧ y = true ∧ z = true ∧ n = 0) ∨ (x = true ∧ y = false ∧ z = false ∧ n = 1) ∨ (x = false ∧ y = true ∧ z = false ∧ n = 0) ∨ (x = false ∧ y = false ∧ z = false ∧ n = 0)) := by
  have h1 := has_meet a b t
  have h2 := mem_cut a b t
  have h3 := cnt_few (cut_few a b) t
  have h4 := @cnt_zero (cut a b) t
  refine ⟨_, _, _, _, rfl, rfl, rfl, rfl, ?_⟩
  cases hx : has a t <;> cases hy : has b t <;> cases hz : has (fst (meet a b)) t <;> simp_all
theorem join_ways2 (a b : Span) (t : Int) : (join a b).isSome = false ∨ ((join a b).isSome = true ∧ has (fst (join a b)) t = (has a t || has b t)) := by
  cases h : join a b with
  | none => exact .inl rfl
  | some j =>
    refine .inr ⟨rfl, ?_⟩
    have := has_join h t
    simp only [fst, Option.getD_some]
    cases hj : has j t <;> cases hx : has a t <;> cases hy : has b t <;> simp_all
end Sp

set_option maxRecDepth 100000 in
set_option maxHeartbeats 3200000 in
theorem spanTimes_walk (a1 a2 b1' b2' t : Int) (w : World) : Calls Try.prog 5 #[.agg #[.int .i64 a1, .int .i64 a2], .agg #[.int .i64 b1', .int .i64 b2'], .int .i64 t] w fun e w' => e = .returned (.bool true) ∧ Below w.heap.size w w' := by
  obtain ⟨mx, my, mo, jx, jy, jo, x, y, z, u, n, l, km, kj, kx, ky, kz, ku, kc, hl, hn, hxy, hju⟩ : ∃ mx my mo jx jy jo x y z u n l, Hid (∀ W, Calls Try.prog 10 #[.agg #[.int .i64 a1, .int .i64 a2], .agg #[.int .i64 b1', .int .i64 b2']] W fun e w' => e = .returned (.tuple #[.agg #[.int .i64 mx, .int .i64 my], .bool mo]) ∧ Below W.heap.size W w') ∧ Hid (∀ W, Calls Try.prog 12 #[.agg #[.int .i64 a1, .int .i64 a2], .agg #[.int .i64 b1', .int .i64 b2']] W fun e w' => e = .returned (.tuple #[.agg #[.int .i64 jx, .int .i64 jy], .bool jo]) ∧ Below W.heap.size W w') ∧ Hid (∀ W, Calls Try.prog 16 #[.agg #[.int .i64 a1, .int .i64 a2], .int .i64 t] W fun e w' => e = .returned (.bool x) ∧ Below W.heap.size W w') ∧ Hid (∀ W, Calls Try.prog 16 #[.agg #[.int .i64 b1', .int .i64 b2'], .int .i64 t] W fun e w' => e = .returned (.bool y) ∧ Below W.heap.size W w') ∧ Hid (Sp.has (mx, my) t = z) ∧ Hid (Sp.has (jx, jy) t = u) ∧
      Hid (∀ W, Calls Try.prog 19 #[.agg #[.int .i64 a1, .int .i64 a2], .agg #[.int .i64 b1', .int .i64 b2']] W fun e w' => (∃ v', e = .returned v' ∧ w'.ownsRow W.heap.size 23 2 v' l.length (scells l)) ∧ Below W.heap.size W w') ∧
      l.length ≤ 2 ∧ Hid (Sp.cnt l t = n) ∧ Hid ((x = true ∧ y = true ∧ z = true ∧ n = 0) ∨ (x = true ∧ y = false ∧ z = false ∧ n = 1) ∨ (x = false ∧ y = true ∧ z = false ∧ n = 0) ∨ (x = false ∧ y = false ∧ z = false ∧ n = 0)) ∧ Hid (jo = false ∨ (jo = true ∧ u = (x || y))) := by
    obtain ⟨x, y, z, n, hx, hy, hz, hn, hw⟩ := Sp.times_ways (a1, a2) (b1', b2') t
    have hj := Sp.join_ways2 (a1, a2) (b1', b2') t
    rw [hx, hy] at hj
    exact ⟨_, _, _, _, _, _, x, y, z, _, n, Sp.cut (a1, a2) (b1', b2'), fun W => meet_any a1 a2 b1' b2' W, fun W => join_any a1 a2 b1' b2' W, fun W => hx ▸ has_any a1 a2 t W, fun W => hy ▸ has_any b1' b2' t W,
      hz, rfl, fun W => cut_any a1 a2 b1' b2' W, Sp.cut_len _ _, hn, hw, hj⟩
  go_enter Try.func5, Try.ntmps5
  go_wp2_with fail
  refine (kx.out _).mono ?_; rintro e w1 ⟨rfl, hb1⟩
  obtain ⟨ba1, bb, hB1⟩ := Box.at2 hb1
  clear hb1
  have c01 := ba1.1
  have c02 := ba1.2.1
  have c03 := ba1.2.2
  have c04 : w.heap.size ≠ w1.heap.size := Nat.ne_of_lt ba1.2.2
  have c11 := bb.1
  have c12 := bb.2.1
  have c13 := bb.2.2
  have c14 : (w.heap.size + 1) ≠ w1.heap.size := Nat.ne_of_lt bb.2.2
  go_wp2_with fail
  refine (ky.out _).mono ?_; rintro e w2 ⟨rfl, hb2⟩
  clear c01 c02 c03 c04 c11 c12 c13 c14
  replace ba1 := Box.keep ba1 hb2
  replace bb := Box.keep bb hb2
  have hB2 := hB1.trans (hb2.mono hB1.size)
  clear hb2 hB1
  have c01 := ba1.1
  have c02 := ba1.2.1
  have c03 := ba1.2.2
  have c04 : w.heap.size ≠ w2.heap.size := Nat.ne_of_lt ba1.2.2
  have c11 := bb.1
  have c12 := bb.2.1
  have c13 := bb.2.2
  have c14 : (w.heap.size + 1) ≠ w2.heap.size := Nat.ne_of_lt bb.2.2
  go_wp2_with fail
  refine (km.out _).mono ?_; rintro e w3 ⟨rfl, hb3⟩
  clear c01 c02 c03 c04 c11 c12 c13 c14
  replace ba1 := Box.keep ba1 hb3
  replace bb := Box.keep bb hb3
  have hB3 := hB2.trans (hb3.mono hB2.size)
  clear hb3 hB2
  have c01 := ba1.1
  have c02 := ba1.2.1
  have c03 := ba1.2.2
  have c04 : w.heap.size ≠ w3.heap.size := Nat.ne_of_lt ba1.2.2
  have c11 := bb.1
  have c12 := bb.2.1
  have c13 := bb.2.2
  have c14 : (w.heap.size + 1) ≠ w3.heap.size := Nat.ne_of_lt bb.2.2
  go_wp2_with fail
  refine (kj.out _).mono ?_; rintro e w4 ⟨rfl, hb4⟩
  clear c01 c02 c03 c04 c11 c12 c13 c14
  replace ba1 := Box.keep (Box.keep ba1 (ba _ _)) hb4
  replace bb := Box.keep (Box.keep bb (ba _ _)) hb4
  have bm : Box w4 w3.heap.size mx my := Box.keep Box.new hb4
  have hB4 := (hB3.alloc hB3.size _).trans (hb4.mono (by have := hB3.size; simp; omega))
  clear hb4 hB3
  have c01 := ba1.1
  have c02 := ba1.2.1
  have c03 := ba1.2.2
  have c04 : w.heap.size ≠ w4.heap.size := Nat.ne_of_lt ba1.2.2
  have c11 := bb.1
  have c12 := bb.2.1
  have c13 := bb.2.2
  have c14 : (w.heap.size + 1) ≠ w4.heap.size := Nat.ne_of_lt bb.2.2
  have c21 := bm.1
  have c22 := bm.2.1
  have c23 := bm.2.2
  have c24 : w3.heap.size ≠ w4.heap.size := Nat.ne_of_lt bm.2.2
  go_wp2_with fail
  refine (kc.out _).mono ?_; rintro e w5 ⟨⟨vl, rfl, hown⟩, hb5⟩
  clear c01 c02 c03 c04 c11 c12 c13 c14 c21 c22 c23 c24
  replace ba1 := Box.keep (Box.keep ba1 (ba _ _)) hb5
  replace bb := Box.keep (Box.keep bb (ba _ _)) hb5
  replace bm := Box.keep (Box.keep bm (ba _ _)) hb5
  have bj : Box w5 w4.heap.size jx jy := Box.keep Box.new hb5
  have hB5 := (hB4.alloc hB4.size _).trans (hb5.mono (by have := hB4.size; simp; omega))
  clear hb5 hB4
  have HB5 := hid hB5
  have HM := hid bm
  have HJ := hid bj
  clear ba1 bb bm bj hB5
  have hnl := Sp.cnt_le l t
  rcases own_shape hown with ⟨rfl, rfl⟩ | ⟨g, cap, rfl, hg1, hg2, hpos⟩
  · obtain rfl : n = 0 := by rw [← hn.out]; rfl
    go_wp2
    go_loopw [14, 15] (fun m i wr => i = .int .i64 0 ∧ m = .int .i64 0 ∧ Below w5.heap.size w5 wr) (fun _ i _ => 0)
    case atStart => exact ⟨rfl, rfl, Below.refl _ _⟩
    case round =>
      obtain ⟨rfl, rfl, hbr⟩ := hrel
      rcases hxy.out with ⟨rfl, rfl, rfl, hq⟩ | ⟨rfl, rfl, rfl, hq⟩ | ⟨rfl, rfl, rfl, hq⟩ | ⟨rfl, rfl, rfl, hq⟩ <;> rcases hju.out with rfl | ⟨rfl, rfl⟩
      all_goals (try (exact absurd hq (by decide)))
      all_goals
        have hB := HB5.out
        have bm := Box.keep HM.out hbr
        have bj := Box.keep HJ.out hbr
        replace hB := bnext hB hbr
        have c01 := bm.1
        have c02 := bm.2.1
        have c11 := bj.1
        have c12 := bj.2.1
        go_wp2_with (first | (go_at_call 16; refine (has_any _ _ _ _).mono ?_; rintro e wn ⟨rfl, hb⟩; clear c01 c02 c11 c12; replace bm := Box.keep bm hb; replace bj := Box.keep bj hb; replace hB := bnext hB hb; (first | rw [kz.out] | rw [ku.out]); clear hb; have c01 := bm.1; have c02 := bm.2.1; have c11 := bj.1; have c12 := bj.2.1) | (go_at_call 21; refine (known_any _).mono ?_; rintro e wn ⟨rfl, hb⟩; clear c01 c02 c11 c12; replace bm := Box.keep bm hb; replace bj := Box.keep bj hb; replace hB := bnext hB hb; clear hb; have c01 := bm.1; have c02 := bm.2.1; have c11 := bj.1; have c12 := bj.2.1))
        go_ret
        exact ⟨rfl, hB⟩
  · have HC := hid (own_cells hown)
    clear hown
    go_wp2
    go_loopw [14, 15] (fun m i wr => ∃ k : Nat, k ≤ l.length ∧ i = .int .i64 k ∧ m = .int .i64 (Sp.cnt (l.take k) t) ∧ Below w5.heap.size w5 wr) (fun _ i _ => l.length - (intOf i).toNat)
    case atStart => exact ⟨0, by omega, rfl, rfl, Below.refl _ _⟩
    case round =>
      obtain ⟨k, hk, rfl, rfl, hbr⟩ := hrel
      obtain ⟨wo, rfl⟩ : ∃ wo : World, wo = wr := ⟨_, rfl⟩
      by_cases hlk : k < l.length
      · obtain ⟨p1, p2, _, _⟩ := HC.out k l[k] (List.getElem?_eq_getElem hlk)
        have e1 := (hbr.cell (p := ⟨g, k * 2, none⟩) hg2).trans p1
        have e2 := (hbr.cell (p := ⟨g, k * 2 + 1, none⟩) hg2).trans p2
        have hS := hid (Sp.cnt_snoc l t k hlk)
        have hck := Sp.cnt_le (l.take k) t
        rw [List.length_take] at hck
        clear p1 p2
        generalize Sp.cnt (l.take k) t = q at hS hck
        generalize l[k] = s at e1 e2 hS
        obtain ⟨sa, sb⟩ := s
        simp only at e1 e2
        obtain ⟨hh, kh, hS2⟩ : ∃ hh, Hid (∀ W, Calls Try.prog 16 #[.agg #[.int .i64 sa, .int .i64 sb], .int .i64 t] W fun e w' => e = .returned (.bool hh) ∧ Below W.heap.size W w') ∧ Hid (Sp.cnt (l.take (k + 1)) t = q + (if hh then 1 else 0)) := ⟨_, fun W => has_any sa sb t W, hS.out⟩
        cases hh
        all_goals
          go_wp2_with (go_at_call 16; refine (kh.out _).mono ?_; rintro e wn ⟨rfl, hb⟩)
          go_roundw
          case rel => exact ⟨k + 1, by omega, by go_num, by rw [hS2.out]; go_num, hbr.trans (hb.mono hbr.size)⟩
          case measure => simp [intOf]; omega
      · have hkl : k = l.length := by omega
        subst hkl
        rw [List.take_length, hn.out]
        rcases hxy.out with ⟨rfl, rfl, rfl, hq⟩ | ⟨rfl, rfl, rfl, hq⟩ | ⟨rfl, rfl, rfl, hq⟩ | ⟨rfl, rfl, rfl, hq⟩ <;> rcases hju.out with rfl | ⟨rfl, rfl⟩
        all_goals subst hq
        all_goals
          have hB := HB5.out
          have bm := Box.keep HM.out hbr
          have bj := Box.keep HJ.out hbr
          replace hB := bnext hB hbr
          have c01 := bm.1
          have c02 := bm.2.1
          have c11 := bj.1
          have c12 := bj.2.1
          go_wp2_with (first | (go_at_call 16; refine (has_any _ _ _ _).mono ?_; rintro e wn ⟨rfl, hb⟩; clear c01 c02 c11 c12; replace bm := Box.keep bm hb; replace bj := Box.keep bj hb; replace hB := bnext hB hb; (first | rw [kz.out] | rw [ku.out]); clear hb; have c01 := bm.1; have c02 := bm.2.1; have c11 := bj.1; have c12 := bj.2.1) | (go_at_call 21; refine (known_any _).mono ?_; rintro e wn ⟨rfl, hb⟩; clear c01 c02 c11 c12; replace bm := Box.keep bm hb; replace bj := Box.keep bj hb; replace hB := bnext hB hb; clear hb; have c01 := bm.1; have c02 := bm.2.1; have c11 := bj.1; have c12 := bj.2.1))
          go_ret
          exact ⟨rfl, hB⟩
end Go.Proofs.Ytghgiifclocddaa
