/-
  span.Covers: its contract. Condition: at most 100000 spans.
-/
import Derived.Test.YtghgiifclocddaaSpanNorm
import Derived.Laws.AppendOwnNone
namespace Go.Proofs.Ytghgiifclocddaa
namespace Sp

theorem cut_in (a b : Span) : ∀ x ∈ cut a b, a.1 ≤ x.1 ∧ x.2 ≤ a.2 := by
  intro x hx
  unfold cut at hx
  cases h : meet a b with
  | none =>
    rw [h] at hx
    have := (List.mem_filter.1 hx).1
    simp at this
    subst this
    omega
  | some m =>
    rw [h] at hx
    obtain ⟨h1, h2, h3, rfl⟩ := meet_some h
    have := (List.mem_filter.1 hx).1
    rw [right_iff] at h1 h2 h3
    simp at this
    simp only at h3
    rcases this with rfl | rfl <;> simp only <;> omega
theorem cut_few (a b : Span) : Few (cut a b) := by
  unfold cut
  cases h : meet a b with
  | none =>
    simp only [rights, List.filter_cons, List.filter_nil]
    split
    · rename_i hr; exact few_one hr
    · trivial
  | some m =>
    obtain ⟨h1, h2, h3, rfl⟩ := meet_some h
    rw [right_iff] at h3
    simp only at h3
    simp only [rights, List.filter_cons, List.filter_nil]
    split
    · rename_i hr
      split
      · rename_i hr2
        exact ⟨hr, fun x hx => by simp at hx; subst hx; exact h3.2.1, few_one hr2⟩
      · exact few_one hr
    · split
      · rename_i hr2; exact few_one hr2
      · trivial
theorem cut_len (a b : Span) : (cut a b).length ≤ 2 := by
  unfold cut
  split <;> exact Nat.le_trans (List.length_filter_le _ _) (by simp)
theorem cut_len1 (a b : Span) (h : b.2 ≤ a.1) : (cut a b).length ≤ 1 := by
  unfold cut
  cases hm : meet a b with
  | none => exact Nat.le_trans (List.length_filter_le _ _) (by simp)
  | some m =>
    exfalso
    obtain ⟨h1, h2, h3, rfl⟩ := meet_some hm
    rw [right_iff] at h3
    simp only at h3
    omega
theorem cut_len2 (a b : Span) (h : 1 < (cut a b).length) : b.2 ≤ a.2 := by
  unfold cut at h
  cases hm : meet a b with
  | none =>
    rw [hm] at h
    have := List.length_filter_le right [a]
    simp only [rights] at h
    simp at this h
    omega
  | some m =>
    rw [hm] at h
    obtain ⟨h1, h2, h3, rfl⟩ := meet_some hm
    rw [right_iff] at h3
    simp only at h3
    refine Classical.byContradiction fun hc => ?_
    have e : right (min a.2 b.2, a.2) = false := by
      rw [right_not]; simp only; omega
    simp only [rights, List.filter_cons, List.filter_nil, e] at h
    split at h <;> simp at h
theorem cutAll_few {l : List Span} (h : Few l) (x : Span) : Few (cutAll l x) ∧ (∀ y ∈ cutAll l x, ∃ z ∈ l, z.1 ≤ y.1 ∧ y.2 ≤ z.2) := by
  induction l with
  | nil => exact ⟨trivial, fun y hy => by simp [cutAll] at hy⟩
  | cons s l ih =>
    obtain ⟨i1, i2⟩ := ih h.2.2
    have e : cutAll (s :: l) x = cut s x ++ cutAll l x := by simp [cutAll]
    rw [e]
    refine ⟨few_append.2 ⟨cut_few s x, i1, fun y hy z hz => ?_⟩, fun y hy => ?_⟩
    · have q1 := cut_in s x y hy
      obtain ⟨z', hz', q2⟩ := i2 z hz
      have := h.2.1 z' hz'
      omega
    · rcases List.mem_append.1 hy with hy | hy
      · exact ⟨s, by simp, cut_in s x y hy⟩
      · obtain ⟨z, hz, q⟩ := i2 y hy
        exact ⟨z, by simp [hz], q⟩
theorem cutAll_len0 {l : List Span} (x : Span) (h : ∀ y ∈ l, x.2 ≤ y.1) : (cutAll l x).length ≤ l.length := by
  induction l with
  | nil => simp [cutAll]
  | cons s l ih =>
    have e : cutAll (s :: l) x = cut s x ++ cutAll l x := by simp [cutAll]
    have := cut_len1 s x (h s (by simp))
    have := ih (fun y hy => h y (by simp [hy]))
    rw [e, List.length_append, List.length_cons]
    omega
theorem cutAll_len {l : List Span} (h : Few l) (x : Span) : (cutAll l x).length ≤ l.length + 1 := by
  induction l with
  | nil => simp [cutAll]
  | cons s l ih =>
    have e : cutAll (s :: l) x = cut s x ++ cutAll l x := by simp [cutAll]
    rw [e, List.length_append, List.length_cons]
    have h1 := ih h.2.2
    have h2 := cut_len s x
    by_cases hc : 1 < (cut s x).length
    · have h3 := cut_len2 s x hc
      have := cutAll_len0 (l := l) x (fun y hy => by have := h.2.1 y hy; omega)
      omega
    · omega
theorem left_few (l : List Span) (s : Span) : Few (l.foldl cutAll (rights [s])) ∧ (l.foldl cutAll (rights [s])).length ≤ 1 + l.length := by
  have key : ∀ (l left : List Span), Few left → Few (l.foldl cutAll left) ∧ (l.foldl cutAll left).length ≤ left.length + l.length := by
    intro l
    induction l with
    | nil => intro left h; exact ⟨h, by simp⟩
    | cons x l ih =>
      intro left h
      obtain ⟨i1, i2⟩ := ih (cutAll left x) (cutAll_few h x).1
      have := cutAll_len h x
      refine ⟨i1, ?_⟩
      simp only [List.foldl_cons, List.length_cons]
      omega
  have hr : Few (rights [s]) := by
    simp only [rights, List.filter_cons, List.filter_nil]
    split
    · rename_i h; exact few_one h
    · trivial
  obtain ⟨k1, k2⟩ := key l _ hr
  have := List.length_filter_le right [s]
  simp only [List.length_cons, List.length_nil] at this
  refine ⟨k1, ?_⟩
  unfold rights at k2 ⊢
  omega
theorem cutAll_take (l : List Span) (x : Span) (k : Nat) : (cutAll (l.take k) x).length ≤ (cutAll l x).length := by
  have : cutAll l x = cutAll (l.take k) x ++ cutAll (l.drop k) x := by
    unfold cutAll
    rw [← List.flatMap_append, List.take_append_drop]
  rw [this, List.length_append]
  omega
theorem cutAll_snoc (l : List Span) (x : Span) (k : Nat) (h : k < l.length) : cutAll (l.take (k + 1)) x = cutAll (l.take k) x ++ cut l[k] x := by
  unfold cutAll
  rw [take_snoc l k h, List.flatMap_append, List.flatMap_cons, List.flatMap_nil, List.append_nil]
end Sp
open Go.RowKit

theorem len_zero {α : Type} (l : List α) : ((l.length : Int) == 0) = l.isEmpty := by
  cases l with
  | nil => rfl
  | cons x l => simp only [List.length_cons, List.isEmpty_cons, beq_eq_false_iff_ne]; omega
/-- 'append(out, more...)', both of the call's own -/
theorem append_spans (u : World) {ops : Array Oper} {rest : List Oper} {o : Oper} {a : Act} {Q : Exit → Act → World → Prop} (hgd : o.guard = none) (s x : Operand)
    (ho : o.op = .call { callee := .builtin .append, args := #[s, x], argTypes := #[29, 29] })
    (B : Nat) (v : Value) (l : List Sp.Span) (hs : a.eval s = v) (hown : u.ownsRow B 23 2 v l.length (scells l)) (B2 : Nat) (v2 : Value) (r : List Sp.Span) (hx : a.eval x = v2) (hown2 : u.ownsRow B2 23 2 v2 r.length (scells r))
    (hlen : l.length + r.length ≤ 1000000) (hB : B ≤ u.heap.size)
    (hK : ∀ v' w', w'.ownsRow B 23 2 v' (l ++ r).length (scells (l ++ r)) → u.grownBy w' v.ownBlock → wpList Try.prog ops Q rest (a.put o.dst v') w') :
    wpList Try.prog ops Q (o :: rest) a u := by
  obtain ⟨i0, hi, hz0, hz1, hz2⟩ := info_parts Try.infoSpan
  rcases hown2.2 with ⟨rfl, hn⟩ | ⟨g, cap, cur, rfl, _, hg, _⟩
  · have : r = [] := List.eq_nil_of_length_eq_zero hn
    subst this
    refine wpList_append_own_none hgd s x 29 ho B 23 i0 2 Try.underlying29 hi v l.length (scells l) hs hown hx ?_
    exact hK v u (by simpa using hown) ⟨rfl, rfl, rfl, Nat.le_refl _, fun _ _ _ => rfl⟩
  · refine wpList_append_own _ hgd s x 29 ho B 23 i0 (.agg #[.int .i64 0, .int .i64 0]) 2 16 Try.underlying29 hi hz0 hz1 hz2 rfl (by decide) v l.length (scells l) hs hown ⟨g, 0, none⟩ r.length cap (scells r) hx (scells_length r) (hown2.cells (g := g) rfl) (scells_one_cell r) ?_ ?_ hB ?_
    · unfold maxLen; omega
    · omega
    · intro v' w' hown' hgrow _
      exact hK v' w' (by rw [scells_append, List.length_append]; exact hown') hgrow

set_option maxRecDepth 100000 in
set_option maxHeartbeats 3200000 in
theorem covers_any (v : Value) (l : List Sp.Span) (a b : Int) (w : World) (hv : SpansAt w v l) (hl : l.length ≤ 100000) :
    Calls Try.prog 24 #[v, .agg #[.int .i64 a, .int .i64 b]] w fun e w' => e = .returned (.bool (Sp.covers l (a, b))) ∧ Below w.heap.size w w' := by
  unfold Sp.covers
  go_enter Try.func24, Try.ntmps24
  go_wp2_with fail
  refine (rights_any _ _ _ (spans_one ?hg1) (by simp)).mono ?_; (case hg1 => simp); rintro e w1 ⟨⟨vl, rfl, hown⟩, hb1⟩
  have hB0 : Below w.heap.size w ((w.alloc (.cells #[.int .i64 a, .int .i64 b] 23)).alloc (.cells #[.int .i64 a, .int .i64 b] 23)) := ((Below.refl _ _).alloc (Nat.le_refl _) _).alloc (by simp) _
  have hB1 := bnext hB0 hb1
  have hown1 := own_mono (B' := w.heap.size) hown hB0.size
  clear hown hb1 hB0
  rcases hv with ⟨rfl, ao, cap, rfl⟩ | ⟨g, off, cap, rfl, hlt, hc⟩
  · rcases own_shape hown1 with ⟨rfl, h0⟩ | ⟨go, co, rfl, _⟩
    all_goals
      go_wp2
      go_rounds 1
      go_ret
      refine ⟨?_, hB1⟩
    · show _ = Ending.returned (.bool (Sp.rights [(a, b)]).isEmpty)
      rw [h0]; rfl
    · show _ = Ending.returned (.bool (Sp.rights [(a, b)]).isEmpty)
      rw [← len_zero]; rfl
  · have HC := hid hc
    clear hc
    go_wp2
    go_loopw [16, 5] (fun i t wr => ∃ k : Nat, k ≤ l.length ∧ i = .int .i64 k ∧ wr.ownsRow w.heap.size 23 2 t ((l.take k).foldl Sp.cutAll (Sp.rights [(a, b)])).length (scells ((l.take k).foldl Sp.cutAll (Sp.rights [(a, b)]))) ∧ Below w.heap.size w wr) (fun i _ _ => l.length - (intOf i).toNat)
    case atStart => exact ⟨0, by omega, rfl, hown1, hB1⟩
    case round =>
      obtain ⟨k, hk, rfl, hown, hbel⟩ := hrel
      obtain ⟨wo, rfl⟩ : ∃ wo : World, wo = wr := ⟨_, rfl⟩
      by_cases hlk : k < l.length
      · obtain ⟨q1, q2⟩ := spans_cells hlk HC.out
        have d1 := (hbel.cell (p := ⟨g, off + k * 2, none⟩) hlt).trans q1
        have d2 := (hbel.cell (p := ⟨g, off + k * 2 + 1, none⟩) hlt).trans q2
        have HS := hid (foldl_snoc Sp.cutAll (Sp.rights [(a, b)]) l k hlk)
        obtain ⟨hfew, hlen⟩ := Sp.left_few (l.take k) (a, b)
        rw [List.length_take] at hlen
        clear q1 q2
        generalize l[k] = s at d1 d2 HS
        generalize (l.take k).foldl Sp.cutAll (Sp.rights [(a, b)]) = left at hown HS hfew hlen
        obtain ⟨x, y⟩ := s
        simp only at d1 d2
        have hzr := hbel.size
        have hcl := Sp.cutAll_len hfew (x, y)
        have HF := hid hfew
        clear hfew
        have hownW := hown.alloc (.cells #[.int .i64 x, .int .i64 y] 23)
        have hbW := hbel.alloc hzr (.cells #[.int .i64 x, .int .i64 y] 23)
        have x1 : (wo.alloc (.cells #[.int .i64 x, .int .i64 y] 23)).cell? ⟨wo.heap.size, 0, none⟩ = some (.int .i64 x) := by simp
        have x2 : (wo.alloc (.cells #[.int .i64 x, .int .i64 y] 23)).cell? ⟨wo.heap.size, 1, none⟩ = some (.int .i64 y) := by simp
        have x3 : wo.heap.size < (wo.alloc (.cells #[.int .i64 x, .int .i64 y] 23)).heap.size := by simp
        have HO := hid hown
        have HX1 := hid x1
        have HX2 := hid x2
        have HX3 := hid x3
        have HOW := hid hownW
        have HBW := hid hbW
        clear hown x1 x2 x3 hownW hbW
        rcases own_shape HO.out with ⟨rfl, rfl⟩ | ⟨gl, cl, rfl, hgl, hgl2, _⟩
        · go_wp2_with fail
          go_rounds 1
          go_roundw
          case rel => exact ⟨k + 1, by omega, by go_num, by rw [HS.out]; exact World.ownsRow_nil _ _ _ _, HBW.out⟩
          case measure => simp [intOf]; omega
        · go_wp2_with fail
          generalize wo.alloc (.cells #[.int .i64 x, .int .i64 y] 23) = W at HX1 HX2 HX3 HOW HBW ⊢
          go_loopw [22, 8] (fun i t wq => ∃ j : Nat, j ≤ left.length ∧ i = .int .i64 j ∧ wq.ownsRow W.heap.size 23 2 t (Sp.cutAll (left.take j) (x, y)).length (scells (Sp.cutAll (left.take j) (x, y))) ∧ Below W.heap.size W wq) (fun i _ _ => left.length - (intOf i).toNat)
          case atStart => exact ⟨0, by omega, rfl, World.ownsRow_nil _ _ _ _, Below.refl _ _⟩
          case round =>
            obtain ⟨j, hj, rfl, hown, hbq⟩ := hrel
            have HOR := hid hown
            clear hown
            by_cases hjl : j < left.length
            · have hz2 := hbq.size
              obtain ⟨p1, p2, _, _⟩ := own_cells HOW.out j left[j] (List.getElem?_eq_getElem hjl)
              have e1 := (hbq.cell (p := ⟨gl, j * 2, none⟩) (by have := HX3.out; show gl < _; omega)).trans p1
              have e2 := (hbq.cell (p := ⟨gl, j * 2 + 1, none⟩) (by have := HX3.out; show gl < _; omega)).trans p2
              have e3 := (hbq.cell (p := ⟨wo.heap.size, 0, none⟩) HX3.out).trans HX1.out
              have e4 := (hbq.cell (p := ⟨wo.heap.size, 1, none⟩) HX3.out).trans HX2.out
              have e5 : wo.heap.size < wr.heap.size := Nat.lt_of_lt_of_le HX3.out hz2
              have e6 : wo.heap.size ≠ wr.heap.size := by omega
              have HJ := hid (Sp.cutAll_snoc left (x, y) j hjl)
              have hcap := Sp.cutAll_take left (x, y) j
              have hcap2 := Sp.cut_len left[j] (x, y)
              clear p1 p2
              generalize left[j] = t at e1 e2 HJ hcap2
              obtain ⟨ta, tb⟩ := t
              simp only at e1 e2
              have HB2 : Hid (Below W.heap.size W (wr.alloc (.cells #[.int .i64 ta, .int .i64 tb] 23))) := hbq.alloc hz2 _
              have HO2 : Hid ((wr.alloc (.cells #[.int .i64 ta, .int .i64 tb] 23)).ownsRow _ _ _ _ _ _) := HOR.out.alloc _
              go_wp2_with (first
                | (go_at_call 19; refine (cut_any _ _ _ _ _).mono ?_; rintro e w3 ⟨⟨vc, rfl, hown3⟩, hb3⟩; have hO4 := own_below HO2.out hb3; have hB4 := HB2.out.trans (hb3.mono HB2.out.size))
                | (at_builtin; refine append_spans _ rfl _ _ rfl W.heap.size _ _ rfl hO4 _ _ _ rfl hown3 (by omega) hB4.size ?_; intro v5 w5 hown5 hgrow5; have hB5 := hB4.grown hgrow5 hB4.size (fun q hq => (hO4.lt q hq).1); have HO5 := hid hown5; clear hown5 hgrow5))
              go_roundw
              case rel => exact ⟨j + 1, by omega, by go_num, by rw [HJ.out]; exact HO5.out, hB5⟩
              case measure => simp [intOf]; omega
            · have hjl2 : j = left.length := by omega
              subst hjl2
              have hfin := own_mono (B' := w.heap.size) HOR.out (Nat.le_trans hzr (Nat.le_of_lt HX3.out))
              rw [List.take_length] at hfin
              have HFIN := hid hfin
              clear hfin
              go_wp2
              go_roundw
              case rel => exact ⟨k + 1, by omega, by go_num, by rw [HS.out]; exact HFIN.out, HBW.out.trans (hbq.mono HBW.out.size)⟩
              case measure => simp [intOf]; omega
      · have hkl : k = l.length := by omega
        subst hkl
        rw [List.take_length] at hown
        rcases own_shape hown with ⟨rfl, h0⟩ | ⟨go, co, rfl, _⟩
        all_goals
          go_wp2
          go_ret
          refine ⟨?_, hbel⟩
        · rw [h0]; rfl
        · rw [← len_zero]; rfl
end Go.Proofs.Ytghgiifclocddaa
