/-
  span.Cut and the reference's: their contracts. No condition.
-/
import Derived.Test.YtghgiifclocddaaSpanR
namespace Go.Proofs.Ytghgiifclocddaa
open Go.RowKit

theorem own_mono {w : World} {B B' e size : Nat} {v : Value} {n : Nat} {xs : List Value} (h : w.ownsRow B e size v n xs) (hB : B' ≤ B) : w.ownsRow B' e size v n xs := by
  refine ⟨h.1, ?_⟩
  rcases h.2 with h1 | ⟨g, cap, cur, q1, q2, q3⟩
  · exact .inl h1
  · exact .inr ⟨g, cap, cur, q1, by omega, q3⟩
/-- a slice that has just been written out -/
theorem own_lit (w : World) (l : List Sp.Span) (B n : Nat) (cs : Array Value) (hB : B ≤ w.heap.size) (hcs : cs = (scells l).toArray) (hn : l.length = n) (hm : n ≤ 1000000) : (w.alloc (.cells cs 23)).ownsRow B 23 2 (.slice (some ⟨w.heap.size, 0, none⟩) n n) n (scells l) := by
  subst hcs
  refine ⟨by rw [scells_length, hn], .inr ⟨w.heap.size, n, _, rfl, hB, heap_alloc_new w _, Nat.le_refl _, by unfold maxLen; omega, by rw [List.size_toArray, scells_length, hn], ?_⟩⟩
  rw [List.take_of_length_le (by simp [scells_length, hn])]

/-- what a call that has boxed two spans leaves of the boxes -/
theorem two_boxes {w w1 : World} {p q r s : Int} (h0 : Below ((w.alloc (.cells #[.int .i64 p, .int .i64 q] 23)).alloc (.cells #[.int .i64 r, .int .i64 s] 23)).heap.size ((w.alloc (.cells #[.int .i64 p, .int .i64 q] 23)).alloc (.cells #[.int .i64 r, .int .i64 s] 23)) w1) :
    w1.cell? ⟨w.heap.size, 0, none⟩ = some (.int .i64 p) ∧ w1.cell? ⟨w.heap.size, 1, none⟩ = some (.int .i64 q) ∧ w1.cell? ⟨w.heap.size + 1, 0, none⟩ = some (.int .i64 r) ∧ w1.cell? ⟨w.heap.size + 1, 1, none⟩ = some (.int .i64 s) ∧
    w.heap.size + 1 < w1.heap.size ∧ Below w.heap.size w w1 := by
  have h : Below (w.heap.size + 1 + 1) ((w.alloc (.cells #[.int .i64 p, .int .i64 q] 23)).alloc (.cells #[.int .i64 r, .int .i64 s] 23)) w1 := by simpa using h0
  refine ⟨(h.cell (p := ⟨w.heap.size, 0, none⟩) (by simp only; omega)).trans (by simp), (h.cell (p := ⟨w.heap.size, 1, none⟩) (by simp only; omega)).trans (by simp), (h.cell (p := ⟨w.heap.size + 1, 0, none⟩) (by simp only; omega)).trans (by simp), (h.cell (p := ⟨w.heap.size + 1, 1, none⟩) (by simp only; omega)).trans (by simp), ?_, ?_⟩
  · have := h.size; simp at this; omega
  · exact (((Below.refl _ _).alloc (Nat.le_refl _) _).alloc (by simp) _).trans (h.mono (by omega))

theorem spans_one {w : World} {a b : Int} {g : Nat} (hg : g = w.heap.size) : SpansAt (w.alloc (.cells #[.int .i64 a, .int .i64 b] 23)) (.slice (some ⟨g, 0, none⟩) 1 1) [(a, b)] := by
  subst hg
  refine .inr ⟨w.heap.size, 0, 1, rfl, by simp, fun j s hj => ?_⟩
  match j, hj with
  | 0, hj => simp at hj; subst hj; exact ⟨by simp, by simp⟩
theorem spans_two {w : World} {a b c d : Int} {g : Nat} (hg : g = w.heap.size) : SpansAt (w.alloc (.cells #[.int .i64 a, .int .i64 b, .int .i64 c, .int .i64 d] 23)) (.slice (some ⟨g, 0, none⟩) 2 2) [(a, b), (c, d)] := by
  subst hg
  refine .inr ⟨w.heap.size, 0, 2, rfl, by simp, fun j s hj => ?_⟩
  match j, hj with
  | 0, hj => simp at hj; subst hj; exact ⟨by simp, by simp⟩
  | 1, hj => simp at hj; subst hj; exact ⟨by simp, by simp⟩

set_option maxHeartbeats 800000 in
theorem cut_any (a b c d : Int) (w : World) : Calls Try.prog 19 #[.agg #[.int .i64 a, .int .i64 b], .agg #[.int .i64 c, .int .i64 d]] w fun e w' =>
    (∃ v', e = .returned v' ∧ w'.ownsRow w.heap.size 23 2 v' (Sp.cut (a, b) (c, d)).length (scells (Sp.cut (a, b) (c, d)))) ∧ Below w.heap.size w w' := by
  have hm := fun W => meet_any a b c d W
  unfold Sp.cut
  cases ho : Sp.meet (a, b) (c, d) with
  | none =>
    rw [ho] at hm
    have HM : Hid (∀ W, Calls Try.prog 10 #[.agg #[.int .i64 a, .int .i64 b], .agg #[.int .i64 c, .int .i64 d]] W fun e w' => e = .returned (.tuple #[.agg #[.int .i64 0, .int .i64 0], .bool false]) ∧ Below W.heap.size W w') := hm
    clear hm ho
    simp only
    go_enter Try.func19, Try.ntmps19
    go_wp2_with fail
    refine (HM.out _).mono ?_; rintro e w1 ⟨rfl, hb1⟩
    obtain ⟨hc1, hc2, _, _, hz1, hB1⟩ := two_boxes hb1
    have hz0 : w.heap.size < w1.heap.size := by omega
    have hz2 : w.heap.size ≠ w1.heap.size := by omega
    clear hb1
    go_wp2_with fail
    have hB2 := (hB1.alloc hB1.size (.cells #[.int .i64 0, .int .i64 0] 23)).alloc (by have := hB1.size; simp; omega) (.cells #[.int .i64 a, .int .i64 b] 23)
    refine (rights_any _ _ _ (spans_one ?hg1) (by simp)).mono ?_; (case hg1 => simp); rintro e w2 ⟨⟨v', rfl, hown⟩, hb2⟩
    have hB3 := bnext hB2 hb2
    have hown2 := own_mono (B' := w.heap.size) hown hB2.size
    clear hown
    go_wp2
    go_ret
    exact ⟨⟨_, rfl, hown2⟩, hB3⟩
  | some m =>
    obtain ⟨x, y⟩ := m
    rw [ho] at hm
    have HM : Hid (∀ W, Calls Try.prog 10 #[.agg #[.int .i64 a, .int .i64 b], .agg #[.int .i64 c, .int .i64 d]] W fun e w' => e = .returned (.tuple #[.agg #[.int .i64 x, .int .i64 y], .bool true]) ∧ Below W.heap.size W w') := hm
    clear hm ho
    simp only
    go_enter Try.func19, Try.ntmps19
    go_wp2_with fail
    refine (HM.out _).mono ?_; rintro e w1 ⟨rfl, hb1⟩
    obtain ⟨hc1, hc2, _, _, hz1, hB1⟩ := two_boxes hb1
    have hz0 : w.heap.size < w1.heap.size := by omega
    have hz2 : w.heap.size ≠ w1.heap.size := by omega
    clear hb1
    go_wp2_with fail
    have hB2 := (hB1.alloc hB1.size (.cells #[.int .i64 x, .int .i64 y] 23)).alloc (by have := hB1.size; simp; omega) (.cells #[.int .i64 a, .int .i64 x, .int .i64 y, .int .i64 b] 23)
    refine (rights_any _ _ _ (spans_two ?hg2) (by simp)).mono ?_; (case hg2 => simp); rintro e w2 ⟨⟨v', rfl, hown⟩, hb2⟩
    have hB3 := bnext hB2 hb2
    have hown2 := own_mono (B' := w.heap.size) hown hB2.size
    clear hown
    go_wp2
    go_ret
    exact ⟨⟨_, rfl, hown2⟩, hB3⟩

theorem rights_two {a b x y : Int} (h1 : 0 ≤ a) (h2 : x ≤ 1099511627776) (h3 : 0 ≤ y) (h4 : b ≤ 1099511627776) :
    Sp.rights [(a, x), (y, b)] = (if a < x then [(a, x)] else []) ++ (if y < b then [(y, b)] else []) := by
  have e1 : Sp.right (a, x) = decide (a < x) := by simp [Sp.right, h1, h2]
  have e2 : Sp.right (y, b) = decide (y < b) := by simp [Sp.right, h3, h4]
  unfold Sp.rights
  simp only [List.filter_cons, e1, e2, List.filter_nil, decide_eq_true_iff]
  split <;> split <;> rfl

set_option maxHeartbeats 1600000 in
theorem cutR_any (a b c d : Int) (w : World) : Calls Try.prog 20 #[.agg #[.int .i64 a, .int .i64 b], .agg #[.int .i64 c, .int .i64 d]] w fun e w' =>
    (∃ v', e = .returned v' ∧ w'.ownsRow w.heap.size 23 2 v' (Sp.cut (a, b) (c, d)).length (scells (Sp.cut (a, b) (c, d)))) ∧ Below w.heap.size w w' := by
  obtain ⟨i0, hi, hzz, hz1', hz2'⟩ := info_parts Try.infoSpan
  have hm := fun W => meetR_any a b c d W
  unfold Sp.cut
  cases ho : Sp.meet (a, b) (c, d) with
  | none =>
    rw [ho] at hm
    have HM : Hid (∀ W, Calls Try.prog 11 #[.agg #[.int .i64 a, .int .i64 b], .agg #[.int .i64 c, .int .i64 d]] W fun e w' => e = .returned (.tuple #[.agg #[.int .i64 0, .int .i64 0], .bool false]) ∧ Below W.heap.size W w') := hm
    clear hm ho
    simp only
    cases hr : Sp.right (a, b)
    · have HE := hid (show Sp.rights [(a, b)] = [] by simp [Sp.rights, hr])
      go_enter Try.func20, Try.ntmps20
      go_wp2_with fail
      refine (HM.out _).mono ?_; rintro e w1 ⟨rfl, hb1⟩
      obtain ⟨hc1, hc2, _, _, hz1, hB1⟩ := two_boxes hb1
      have hz0 : w.heap.size < w1.heap.size := by omega
      have hz2 : w.heap.size ≠ w1.heap.size := by omega
      clear hb1
      go_wp2_with (go_at_call 15; refine (rightR_exact _ _ _).mono ?_; rintro e w2 ⟨rfl, rfl⟩)
      go_ret
      rw [HE.out]
      exact ⟨⟨_, rfl, World.ownsRow_nil _ _ _ _⟩, (hB1.alloc hB1.size _).alloc (by have := hB1.size; simp; omega) _⟩
    · have HE := hid (show Sp.rights [(a, b)] = [(a, b)] by simp [Sp.rights, hr])
      go_enter Try.func20, Try.ntmps20
      go_wp2_with fail
      refine (HM.out _).mono ?_; rintro e w1 ⟨rfl, hb1⟩
      obtain ⟨hc1, hc2, _, _, hz1, hB1⟩ := two_boxes hb1
      have hz0 : w.heap.size < w1.heap.size := by omega
      have hz2 : w.heap.size ≠ w1.heap.size := by omega
      clear hb1
      go_wp2_with (go_at_call 15; refine (rightR_exact _ _ _).mono ?_; rintro e w2 ⟨rfl, rfl⟩)
      go_ret
      rw [HE.out]
      have hsz := hB1.size
      have ho := own_lit ((w1.alloc (.cells #[.int .i64 0, .int .i64 0] 23)).alloc (.cells #[.int .i64 a, .int .i64 b] 23)) [(a, b)] w.heap.size 1 #[.int .i64 a, .int .i64 b] (by simp; omega) rfl rfl (by omega)
      refine ⟨⟨_, rfl, ?_⟩, ((hB1.alloc hsz _).alloc (by simp; omega) _).alloc (by simp; omega) _⟩
      simpa using ho
  | some m =>
    obtain ⟨x, y⟩ := m
    have hms := Sp.meet_some ho
    rw [ho] at hm
    have HM : Hid (∀ W, Calls Try.prog 11 #[.agg #[.int .i64 a, .int .i64 b], .agg #[.int .i64 c, .int .i64 d]] W fun e w' => e = .returned (.tuple #[.agg #[.int .i64 x, .int .i64 y], .bool true]) ∧ Below W.heap.size W w') := hm
    clear hm ho
    obtain ⟨h1, _, h3, _⟩ := hms
    rw [Sp.right_iff] at h1 h3
    simp only at h1 h3 ⊢
    have HE := hid (rights_two (a := a) (b := b) (x := x) (y := y) (by omega) (by omega) (by omega) (by omega))
    by_cases hax : a < x <;> by_cases hyb : y < b
    all_goals
      go_enter Try.func20, Try.ntmps20
      go_wp2_with fail
      refine (HM.out _).mono ?_; rintro e w1 ⟨rfl, hb1⟩
      obtain ⟨hc1, hc2, _, _, hz1, hB1⟩ := two_boxes hb1
      have hz0 : w.heap.size < w1.heap.size := by omega
      have hz2 : w.heap.size ≠ w1.heap.size := by omega
      clear hb1
    · have hsz := hB1.size
      have e2 : ((w1.alloc (.cells #[.int .i64 x, .int .i64 y] 23)).cell? ⟨w.heap.size, 1, none⟩) = some (.int .i64 b) := (((Below.refl w1.heap.size w1).alloc (Nat.le_refl _) _).cell (p := ⟨w.heap.size, 1, none⟩) hz0).trans hc2
      have e3 : ((w1.alloc (.cells #[.int .i64 x, .int .i64 y] 23)).cell? ⟨w1.heap.size, 1, none⟩) = some (.int .i64 y) := by simp
      have hBm := hB1.alloc hsz (.cells #[.int .i64 x, .int .i64 y] 23)
      have HBm := hid hBm
      have HE2 := hid e2
      have HE3 := hid e3
      clear e2 e3 hBm
      go_wp2_with (first | (at_builtin; refine append_span _ rfl _ _ rfl w.heap.size _ [] rfl (World.ownsRow_nil _ _ _ _) _ _ _ (by first | rfl | (simp; done)) rfl (by simp) (by simp; omega) ?_; intro v2 w2 hown hgrow; have hBg := Below.grown (Below.refl _ _) hgrow (Nat.le_refl _) (by intro k hk; cases hk); have d2 := (hBg.cell (p := ⟨w.heap.size, 1, none⟩) (by simp; omega)).trans HE2.out; have d3 := (hBg.cell (p := ⟨w1.heap.size, 1, none⟩) (by simp)).trans HE3.out; have hB2 := HBm.out.trans (hBg.mono (by simp; omega)); have hz7 : w1.heap.size < w2.heap.size := (by have := hBg.size; simp at this; omega); clear hBg hgrow) | (at_builtin; refine append_span _ rfl _ _ rfl w.heap.size _ _ rfl hown _ _ _ (by first | rfl | (simp; done)) rfl (by simp) hB2.size ?_; intro v3 w3 hown3 hgrow3; have hB3 := hB2.grown hgrow3 hB2.size (fun q hq => (hown.lt q hq).1)))
      go_ret
      rw [HE.out, if_pos (by omega), if_pos (by omega)]
      exact ⟨⟨_, rfl, hown3⟩, hB3⟩
    · have hsz := hB1.size
      have e2 : ((w1.alloc (.cells #[.int .i64 x, .int .i64 y] 23)).cell? ⟨w.heap.size, 1, none⟩) = some (.int .i64 b) := (((Below.refl w1.heap.size w1).alloc (Nat.le_refl _) _).cell (p := ⟨w.heap.size, 1, none⟩) hz0).trans hc2
      have e3 : ((w1.alloc (.cells #[.int .i64 x, .int .i64 y] 23)).cell? ⟨w1.heap.size, 1, none⟩) = some (.int .i64 y) := by simp
      have hBm := hB1.alloc hsz (.cells #[.int .i64 x, .int .i64 y] 23)
      have HBm := hid hBm
      have HE2 := hid e2
      have HE3 := hid e3
      clear e2 e3 hBm
      go_wp2_with (first | (at_builtin; refine append_span _ rfl _ _ rfl w.heap.size _ [] rfl (World.ownsRow_nil _ _ _ _) _ _ _ (by first | rfl | (simp; done)) rfl (by simp) (by simp; omega) ?_; intro v2 w2 hown hgrow; have hBg := Below.grown (Below.refl _ _) hgrow (Nat.le_refl _) (by intro k hk; cases hk); have d2 := (hBg.cell (p := ⟨w.heap.size, 1, none⟩) (by simp; omega)).trans HE2.out; have d3 := (hBg.cell (p := ⟨w1.heap.size, 1, none⟩) (by simp)).trans HE3.out; have hB2 := HBm.out.trans (hBg.mono (by simp; omega)); have hz7 : w1.heap.size < w2.heap.size := (by have := hBg.size; simp at this; omega); clear hBg hgrow))
      go_ret
      rw [HE.out, if_pos (by omega), if_neg (by omega)]
      exact ⟨⟨_, rfl, hown⟩, hB2⟩
    · have hsz := hB1.size
      go_wp2_with (first | (at_builtin; refine append_span _ rfl _ _ rfl w.heap.size _ [] rfl (World.ownsRow_nil _ _ _ _) _ _ _ (by first | rfl | (simp; done)) rfl (by simp) (by simp; omega) ?_; intro v2 w2 hown hgrow; have hB2 := (hB1.alloc hsz _).grown hgrow (by simp; omega) (by intro k hk; cases hk); have HO := hid hown; clear hown hgrow))
      go_ret
      rw [HE.out, if_neg (by omega), if_pos (by omega)]
      exact ⟨⟨_, rfl, HO.out⟩, hB2⟩
    · go_wp2
      go_ret
      rw [HE.out, if_neg (by omega), if_neg (by omega)]
      exact ⟨⟨_, rfl, World.ownsRow_nil _ _ _ _⟩, hB1.alloc hB1.size _⟩
end Go.Proofs.Ytghgiifclocddaa
