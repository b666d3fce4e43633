/-
  THE PLAIN LAW OF SPANS, more: the program's way to as few spans as can be (sorted, then joined one by one), the reference's (each one joined with those that are there), both ways of covering. No condition. No Go in sight.
-/
import Derived.Test.YtghgiifclocddaaSpan
namespace Go.Proofs.Ytghgiifclocddaa.Sp

theorem few_append {l r : List Span} : Few (l ++ r) ↔ Few l ∧ Few r ∧ ∀ x ∈ l, ∀ y ∈ r, x.2 < y.1 := by
  induction l with
  | nil => simp [Few]
  | cons s l ih =>
    simp only [List.cons_append, Few, ih, List.mem_append, List.mem_cons]
    constructor
    · rintro ⟨h1, h2, h3, h4, h5⟩
      refine ⟨⟨h1, fun x hx => h2 x (.inl hx), h3⟩, h4, ?_⟩
      rintro x (rfl | hx) y hy
      · exact h2 y (.inr hy)
      · exact h5 x hx y hy
    · rintro ⟨⟨h1, h2, h3⟩, h4, h5⟩
      refine ⟨h1, ?_, h3, h4, fun x hx y hy => h5 x (.inr hx) y hy⟩
      rintro x (hx | hx)
      · exact h2 x hx
      · exact h5 s (.inl rfl) x hx
theorem few_one {s : Span} (h : right s = true) : Few [s] := ⟨h, fun x hx => (by cases hx), trivial⟩
theorem few_pair {l : List Span} (h : Few l) {x y : Span} (hx : x ∈ l) (hy : y ∈ l) : x = y ∨ x.2 < y.1 ∨ y.2 < x.1 := by
  induction l with
  | nil => cases hx
  | cons s l ih =>
    rcases List.mem_cons.1 hx with ex | hx' <;> rcases List.mem_cons.1 hy with ey | hy'
    · exact .inl (ex.trans ey.symm)
    · subst ex; exact .inr (.inl (h.2.1 y hy'))
    · subst ey; exact .inr (.inr (h.2.1 x hx'))
    · exact ih h.2.2 hx' hy'

/-! ### the program's sort -/
def swapAt (l : List Span) (k : Nat) : List Span := (l.set k (l.getD (k - 1) (0, 0))).set (k - 1) (l.getD k (0, 0))
def sink : Nat → List Span → List Span
  | 0, l => l
  | k + 1, l => if (l.getD (k + 1) (0, 0)).1 < (l.getD k (0, 0)).1 then sink k (swapAt l (k + 1)) else l
def riseTo (l : List Span) : Nat → List Span
  | 0 => l
  | i + 1 => sink i (riseTo l i)
def rise (l : List Span) : List Span := riseTo l l.length

theorem swapAt_length (l : List Span) (k : Nat) : (swapAt l k).length = l.length := by simp [swapAt]
theorem sink_length (k : Nat) (l : List Span) : (sink k l).length = l.length := by
  induction k generalizing l with
  | zero => rfl
  | succ k ih =>
    unfold sink
    split
    · rw [ih, swapAt_length]
    · rfl
theorem riseTo_length (l : List Span) (i : Nat) : (riseTo l i).length = l.length := by
  induction i with
  | zero => rfl
  | succ i ih => unfold riseTo; rw [sink_length, ih]
theorem swapAt_get (l : List Span) (k : Nat) (hk : k + 1 < l.length) (j : Nat) : (swapAt l (k + 1)).getD j (0, 0) = if j = k + 1 then l.getD k (0, 0) else if j = k then l.getD (k + 1) (0, 0) else l.getD j (0, 0) := by
  unfold swapAt
  simp only [List.getD_eq_getElem?_getD, List.getElem?_set, Nat.add_sub_cancel, List.length_set]
  by_cases h1 : j = k + 1
  · subst h1
    simp [hk]
  · by_cases h2 : j = k
    · subst h2
      simp [show j < l.length from by omega]
    · simp [h1, h2, Ne.symm h1, Ne.symm h2]
theorem swapAt_mem (l : List Span) (k : Nat) (hk : k + 1 < l.length) (x : Span) : x ∈ swapAt l (k + 1) ↔ x ∈ l := by
  have hl := swapAt_length l (k + 1)
  have g : ∀ (m : List Span) (y : Span), y ∈ m ↔ ∃ j, j < m.length ∧ m.getD j (0, 0) = y := by
    intro m y
    rw [List.mem_iff_getElem]
    constructor
    · rintro ⟨j, hj, e⟩; exact ⟨j, hj, by rw [List.getD_eq_getElem?_getD, List.getElem?_eq_getElem hj]; exact e⟩
    · rintro ⟨j, hj, e⟩; exact ⟨j, hj, by rw [List.getD_eq_getElem?_getD, List.getElem?_eq_getElem hj] at e; exact e⟩
  rw [g, g, hl]
  have key := swapAt_get l k hk
  constructor
  · rintro ⟨j, hj, e⟩
    rw [key] at e
    by_cases h1 : j = k + 1
    · rw [if_pos h1] at e; exact ⟨k, by omega, e⟩
    · rw [if_neg h1] at e
      by_cases h2 : j = k
      · rw [if_pos h2] at e; exact ⟨k + 1, by omega, e⟩
      · rw [if_neg h2] at e; exact ⟨j, hj, e⟩
  · rintro ⟨j, hj, e⟩
    by_cases h1 : j = k + 1
    · exact ⟨k, by omega, by rw [key, if_neg (by omega), if_pos rfl, ← h1]; exact e⟩
    · by_cases h2 : j = k
      · exact ⟨k + 1, by omega, by rw [key, if_pos rfl, ← h2]; exact e⟩
      · exact ⟨j, hj, by rw [key, if_neg h1, if_neg h2]; exact e⟩
theorem sink_mem (k : Nat) (l : List Span) (hk : k < l.length) (x : Span) : x ∈ sink k l ↔ x ∈ l := by
  induction k generalizing l with
  | zero => exact Iff.rfl
  | succ k ih =>
    unfold sink
    split
    · rw [ih _ (by rw [swapAt_length]; omega), swapAt_mem l k hk]
    · exact Iff.rfl
theorem riseTo_mem (l : List Span) (i : Nat) (hi : i ≤ l.length) (x : Span) : x ∈ riseTo l i ↔ x ∈ l := by
  induction i with
  | zero => exact Iff.rfl
  | succ i ih => unfold riseTo; rw [sink_mem _ _ (by rw [riseTo_length]; omega), ih (by omega)]
theorem rise_mem (l : List Span) (x : Span) : x ∈ rise l ↔ x ∈ l := riseTo_mem l _ (Nat.le_refl _) x
/-- the first n rise -/
def Rises (l : List Span) (n : Nat) : Prop := ∀ p q, p < q → q < n → (l.getD p (0, 0)).1 ≤ (l.getD q (0, 0)).1
/-- the first n rise, but for the one at k, which is at most those behind it -/
def RisesBut (l : List Span) (k n : Nat) : Prop := (∀ p q, p < q → q < n → p ≠ k → q ≠ k → (l.getD p (0, 0)).1 ≤ (l.getD q (0, 0)).1) ∧ (∀ q, k < q → q < n → (l.getD k (0, 0)).1 ≤ (l.getD q (0, 0)).1)
theorem sink_rises (k n : Nat) (l : List Span) (hkn : k < n) (hn : n ≤ l.length) (h : RisesBut l k n) : Rises (sink k l) n := by
  induction k generalizing l with
  | zero =>
    intro p q hpq hq
    show (l.getD p (0, 0)).1 ≤ (l.getD q (0, 0)).1
    by_cases hp : p = 0
    · subst hp; exact h.2 q hpq hq
    · exact h.1 p q hpq hq hp (by omega)
  | succ k ih =>
    unfold sink
    split
    · rename_i hlt
      refine ih _ (by omega) (by rw [swapAt_length]; exact hn) ?_
      have key := swapAt_get l k (by omega)
      refine ⟨fun p q hpq hq hp hq2 => ?_, fun q hkq hq => ?_⟩
      · rw [key, key]
        by_cases h1 : p = k + 1
        · rw [if_pos h1, if_neg (by omega), if_neg hq2]
          exact h.1 k q (by omega) hq (by omega) (by omega)
        · rw [if_neg h1, if_neg hp]
          by_cases h2 : q = k + 1
          · rw [if_pos h2]
            exact h.1 p k (by omega) (by omega) (by omega) (by omega)
          · rw [if_neg h2, if_neg hq2]
            exact h.1 p q hpq hq h1 h2
      · rw [key, key, if_neg (by omega), if_pos rfl]
        by_cases h2 : q = k + 1
        · rw [if_pos h2]; omega
        · rw [if_neg h2, if_neg (by omega)]
          exact h.2 q (by omega) hq
    · rename_i hge
      intro p q hpq hq
      by_cases hp : p = k + 1
      · rw [hp]; exact h.2 q (by omega) hq
      · by_cases hq2 : q = k + 1
        · rw [hq2]
          by_cases hpk : p = k
          · rw [hpk]; omega
          · have := h.1 p k (by omega) (by omega) hp (by omega)
            omega
        · exact h.1 p q hpq hq hp hq2
theorem riseTo_rises (l : List Span) (i : Nat) (hi : i ≤ l.length) : Rises (riseTo l i) i := by
  induction i with
  | zero => intro p q _ hq; omega
  | succ i ih =>
    unfold riseTo
    have h := ih (by omega)
    refine sink_rises i (i + 1) _ (by omega) (by rw [riseTo_length]; omega) ⟨fun p q hpq hq hp hq2 => h p q hpq (by omega), fun q hq1 hq2 => by omega⟩
theorem rise_rises (l : List Span) : ∀ p q, p < q → q < l.length → ((rise l).getD p (0, 0)).1 ≤ ((rise l).getD q (0, 0)).1 := riseTo_rises l _ (Nat.le_refl _)

/-! ### the program's joining -/
def mstep (out : List Span) (s : Span) : List Span :=
  if out.length = 0 then out ++ [s] else
  match join (out.getD (out.length - 1) (0, 0)) s with
  | some j => out.set (out.length - 1) j
  | none => out ++ [s]
def norm (l : List Span) : List Span := (rise (rights l)).foldl mstep []

theorem mstep_few {out : List Span} {s : Span} (hf : Few out) (hs : right s = true) (hrise : ∀ x ∈ out, x.1 ≤ s.1) :
    Few (mstep out s) ∧ (∀ t, mem (mstep out s) t ↔ mem out t ∨ has s t = true) ∧ (∀ b, s.1 ≤ b → ∀ x ∈ mstep out s, x.1 ≤ b) := by
  unfold mstep
  split
  · rename_i h0
    have : out = [] := List.eq_nil_of_length_eq_zero h0
    subst this
    refine ⟨few_one hs, fun t => by simp [mem_cons, mem_nil], fun b hb x hx => ?_⟩
    simp at hx; subst hx; exact hb
  · rename_i h0
    obtain ⟨p, x, rfl⟩ : ∃ p x, out = p ++ [x] := ⟨out.dropLast, out.getLast (by intro e; simp [e] at h0), (List.dropLast_concat_getLast _).symm⟩
    have hlast : (p ++ [x]).getD ((p ++ [x]).length - 1) (0, 0) = x := by simp [List.getD_eq_getElem?_getD]
    rw [hlast]
    obtain ⟨f1, f2, f3⟩ := few_append.1 hf
    have hx1 : x.1 ≤ s.1 := hrise x (by simp)
    have hxr : right x = true := f2.1
    cases hj : join x s with
    | some j =>
      have hset : (p ++ [x]).set ((p ++ [x]).length - 1) j = p ++ [j] := by simp
      simp only []
      rw [hset]
      have hjr := join_right hj
      have hjm := has_join hj
      obtain ⟨_, _, _, _, he⟩ := join_some hj
      have hj1 : j.1 = x.1 := by rw [he]; simp only; omega
      refine ⟨few_append.2 ⟨f1, few_one hjr, fun y hy z hz => ?_⟩, fun t => ?_, fun b hb y hy => ?_⟩
      · simp at hz; subst hz; rw [hj1]; exact f3 y hy x (by simp)
      · simp only [mem_append, mem_cons, mem_nil, or_false, hjm t, or_assoc]
      · rcases List.mem_append.1 hy with hy | hy
        · have := hrise y (by simp [hy]); omega
        · simp at hy; subst hy; omega
    | none =>
      simp only []
      have hn := join_none hj
      have hlt : x.2 < s.1 := by
        rw [right_iff] at hxr
        have hs' := right_iff.1 hs
        have : ¬ (s.1 ≤ x.2 ∧ x.1 ≤ s.2) := fun q => hn ⟨f2.1, hs, q⟩
        omega
      refine ⟨few_append.2 ⟨hf, few_one hs, fun y hy z hz => ?_⟩, fun t => ?_, fun b hb y hy => ?_⟩
      · simp at hz; subst hz
        rcases List.mem_append.1 hy with hy | hy
        · have q1 := f3 y hy x (by simp)
          rw [right_iff] at hxr; omega
        · simp at hy; subst hy; exact hlt
      · simp only [mem_append, mem_cons, mem_nil, or_false]
      · rcases List.mem_append.1 hy with hy | hy
        · have := hrise y hy; omega
        · simp at hy; subst hy; omega
theorem foldl_few (l out : List Span) (hf : Few out) (hl : ∀ x ∈ l, right x = true) (hrise : ∀ x ∈ out, ∀ y ∈ l, x.1 ≤ y.1) (hs : ∀ p q, p < q → q < l.length → (l.getD p (0, 0)).1 ≤ (l.getD q (0, 0)).1) :
    Few (l.foldl mstep out) ∧ ∀ t, mem (l.foldl mstep out) t ↔ mem out t ∨ mem l t := by
  induction l generalizing out with
  | nil => exact ⟨hf, fun t => by simp [mem_nil]⟩
  | cons s l ih =>
    obtain ⟨m1, m2, m3⟩ := mstep_few hf (hl s (by simp)) (fun x hx => hrise x hx s (by simp))
    have hsl : ∀ y ∈ l, s.1 ≤ y.1 := by
      intro y hy
      obtain ⟨j, hj, e⟩ := List.mem_iff_getElem.1 hy
      have := hs 0 (j + 1) (by omega) (by simp; omega)
      simp only [List.getD_eq_getElem?_getD, List.getElem?_cons_zero, List.getElem?_cons_succ, List.getElem?_eq_getElem hj, Option.getD_some, e] at this
      exact this
    obtain ⟨i1, i2⟩ := ih (mstep out s) m1 (fun x hx => hl x (by simp [hx])) (fun x hx y hy => m3 y.1 (hsl y hy) x hx)
      (fun p q hpq hq => by
        have := hs (p + 1) (q + 1) (by omega) (by simp; omega)
        simpa [List.getD_eq_getElem?_getD] using this)
    refine ⟨i1, fun t => ?_⟩
    show mem (l.foldl mstep (mstep out s)) t ↔ _
    rw [i2 t, m2 t, mem_cons, or_assoc]
theorem norm_few (l : List Span) : Few (norm l) ∧ ∀ t, mem (norm l) t ↔ mem l t := by
  have hr : ∀ x ∈ rise (rights l), right x = true := fun x hx => by
    rw [rise_mem] at hx
    exact (List.mem_filter.1 hx).2
  have h := foldl_few (rise (rights l)) [] trivial hr (fun x hx => by cases hx) (fun p q hpq hq => rise_rises (rights l) p q hpq (by unfold rise at hq; rwa [riseTo_length] at hq))
  refine ⟨h.1, fun t => ?_⟩
  unfold norm
  rw [h.2 t, ← mem_rights (l := l)]
  unfold mem
  simp only [rise_mem]
  simp

/-! ### the reference's way -/
def astep (c : List Span × List Span × Span) (x : Span) : List Span × List Span × Span :=
  match join c.2.2 x with
  | some j => (c.1, c.2.1, j)
  | none => if x.1 < c.2.2.1 then (c.1 ++ [x], c.2.1, c.2.2) else (c.1, c.2.1 ++ [x], c.2.2)
def addEnd (c : List Span × List Span × Span) : List Span := c.1 ++ [c.2.2] ++ c.2.1
def add (l : List Span) (s : Span) : List Span := addEnd (l.foldl astep ([], [], s))
def normR (l : List Span) : List Span := (rights l).foldl add []

theorem foldl_astep (l : List Span) : ∀ (c : List Span × List Span × Span), Few (addEnd c) → (∀ x, x ∈ c.1 ∨ x ∈ c.2.1 → ∀ y ∈ l, x.2 < y.1) → Few l →
    Few (addEnd (l.foldl astep c)) ∧ ∀ t, mem (addEnd (l.foldl astep c)) t ↔ mem (addEnd c) t ∨ mem l t := by
  induction l with
  | nil => intro c h _ _; exact ⟨h, fun t => by simp [mem_nil]⟩
  | cons x l ih =>
    intro c hf hb hl
    obtain ⟨a, b, s⟩ := c
    unfold addEnd at hf
    simp only at hf hb
    obtain ⟨f1, f2, f3⟩ := few_append.1 hf
    obtain ⟨g1, g2, g3⟩ := few_append.1 f1
    have hs := g2.1
    have hs' := right_iff.1 hs
    have hx := hl.1
    have hx' := right_iff.1 hx
    show Few (addEnd (l.foldl astep (astep (a, b, s) x))) ∧ ∀ t, mem (addEnd (l.foldl astep (astep (a, b, s) x))) t ↔ _
    cases hj : join s x with
    | some j =>
      have hjm := has_join hj
      have hjr := join_right hj
      obtain ⟨_, _, q1, q2, he⟩ := join_some hj
      have hbn : b = [] := by
        cases b with
        | nil => rfl
        | cons y b =>
          exfalso
          have r1 := f3 s (by simp) y (by simp)
          have r2 := hb y (.inr (by simp)) x (by simp)
          have r3 := right_iff.1 (f2.1)
          omega
      subst hbn
      rw [show astep (a, [], s) x = (a, [], j) by simp only [astep, hj]]
      obtain ⟨i1, i2⟩ := ih (a, [], j) (by
          unfold addEnd
          simp only [List.append_nil]
          refine few_append.2 ⟨g1, few_one hjr, fun y hy z hz => ?_⟩
          simp at hz; subst hz
          have r1 := g3 y hy s (by simp)
          have r2 := hb y (.inl hy) x (by simp)
          rw [he]; simp only; omega) (fun y hy z hz => hb y hy z (by simp [hz])) hl.2.2
      refine ⟨i1, fun t => ?_⟩
      rw [i2 t]
      unfold addEnd
      simp only [mem_append, mem_cons, mem_nil, or_false, hjm t, or_assoc]
    | none =>
      have hn := join_none hj
      by_cases hlt : x.1 < s.1
      · rw [show astep (a, b, s) x = (a ++ [x], b, s) by simp only [astep, hj, if_pos hlt]]
        have hxs : x.2 < s.1 := by
          have : ¬ (x.1 ≤ s.2 ∧ s.1 ≤ x.2) := fun q => hn ⟨hs, hx, q⟩
          omega
        obtain ⟨i1, i2⟩ := ih (a ++ [x], b, s) (by
            unfold addEnd
            simp only []
            refine few_append.2 ⟨few_append.2 ⟨few_append.2 ⟨g1, few_one hx, fun y hy z hz => ?_⟩, few_one hs, fun y hy z hz => ?_⟩, f2, fun y hy z hz => ?_⟩
            · simp at hz; subst hz; exact hb y (.inl hy) z (by simp)
            · simp at hz; subst hz
              rcases List.mem_append.1 hy with hy | hy
              · exact g3 y hy z (by simp)
              · simp at hy; subst hy; exact hxs
            · rcases List.mem_append.1 hy with hy | hy
              · rcases List.mem_append.1 hy with hy | hy
                · exact f3 y (by simp [hy]) z hz
                · simp at hy; subst hy
                  have := f3 s (by simp) z hz
                  omega
              · simp at hy; subst hy; exact f3 y (by simp) z hz)
          (fun y hy z hz => by
            rcases hy with hy | hy
            · rcases List.mem_append.1 hy with hy | hy
              · exact hb y (.inl hy) z (by simp [hz])
              · simp at hy; subst hy; exact hl.2.1 z hz
            · exact hb y (.inr hy) z (by simp [hz])) hl.2.2
        refine ⟨i1, fun t => ?_⟩
        rw [i2 t]
        unfold addEnd
        simp only [mem_append, mem_cons, mem_nil, or_false]
        constructor
        · rintro ((((h | h) | h) | h) | h) <;> simp [h]
        · rintro (((h | h) | h) | h | h) <;> simp [h]
      · rw [show astep (a, b, s) x = (a, b ++ [x], s) by simp only [astep, hj, if_neg hlt]]
        have hxs : s.2 < x.1 := by
          have : ¬ (x.1 ≤ s.2 ∧ s.1 ≤ x.2) := fun q => hn ⟨hs, hx, q⟩
          omega
        obtain ⟨i1, i2⟩ := ih (a, b ++ [x], s) (by
            unfold addEnd
            simp only []
            refine few_append.2 ⟨f1, few_append.2 ⟨f2, few_one hx, fun y hy z hz => ?_⟩, fun y hy z hz => ?_⟩
            · simp at hz; subst hz; exact hb y (.inr hy) z (by simp)
            · rcases List.mem_append.1 hz with hz | hz
              · exact f3 y hy z hz
              · simp at hz; subst hz
                rcases List.mem_append.1 hy with hy | hy
                · exact hb y (.inl hy) z (by simp)
                · simp at hy; subst hy; exact hxs)
          (fun y hy z hz => by
            rcases hy with hy | hy
            · exact hb y (.inl hy) z (by simp [hz])
            · rcases List.mem_append.1 hy with hy | hy
              · exact hb y (.inr hy) z (by simp [hz])
              · simp at hy; subst hy; exact hl.2.1 z hz) hl.2.2
        refine ⟨i1, fun t => ?_⟩
        rw [i2 t]
        unfold addEnd
        simp only [mem_append, mem_cons, mem_nil, or_false]
        constructor
        · rintro (((h | h) | h | h) | h) <;> simp [h]
        · rintro (((h | h) | h) | h | h) <;> simp [h]
theorem add_few {l : List Span} {s : Span} (hl : Few l) (hs : right s = true) : Few (add l s) ∧ ∀ t, mem (add l s) t ↔ mem l t ∨ has s t = true := by
  obtain ⟨i1, i2⟩ := foldl_astep l ([], [], s) (few_one hs) (fun x hx => by simp at hx) hl
  refine ⟨i1, fun t => ?_⟩
  unfold add
  rw [i2 t]
  unfold addEnd
  simp only [List.nil_append, List.append_nil, mem_cons, mem_nil, or_false]
  exact or_comm
theorem normR_few (l : List Span) : Few (normR l) ∧ ∀ t, mem (normR l) t ↔ mem l t := by
  have key : ∀ (m out : List Span), Few out → (∀ x ∈ m, right x = true) → Few (m.foldl add out) ∧ ∀ t, mem (m.foldl add out) t ↔ mem out t ∨ mem m t := by
    intro m
    induction m with
    | nil => intro out h _; exact ⟨h, fun t => by simp [mem_nil]⟩
    | cons s m ih =>
      intro out h hm
      obtain ⟨a1, a2⟩ := add_few h (hm s (by simp))
      obtain ⟨i1, i2⟩ := ih (add out s) a1 (fun x hx => hm x (by simp [hx]))
      refine ⟨i1, fun t => ?_⟩
      show mem (m.foldl add (add out s)) t ↔ _
      rw [i2 t, a2 t, mem_cons, or_assoc]
  obtain ⟨i1, i2⟩ := key (rights l) [] trivial (fun x hx => (List.mem_filter.1 hx).2)
  refine ⟨i1, fun t => ?_⟩
  unfold normR
  rw [i2 t, mem_rights]
  simp [mem_nil]
/-- BOTH WAYS COME TO THE SAME -/
theorem norm_eq (l : List Span) : norm l = normR l := few_eq (norm_few l).1 (normR_few l).1 fun t => by rw [(norm_few l).2, (normR_few l).2]

/-! ### covering -/
def cutAll (left : List Span) (x : Span) : List Span := left.flatMap fun y => cut y x
def covers (l : List Span) (s : Span) : Bool := (l.foldl cutAll (rights [s])).isEmpty
def coversR (l : List Span) (s : Span) : Bool := !right s || (normR l).any fun n => decide (n.1 ≤ s.1) && decide (s.2 ≤ n.2)
theorem cut_right (a b : Span) : ∀ x ∈ cut a b, right x = true := by
  intro x hx
  unfold cut at hx
  split at hx <;> exact (List.mem_filter.1 hx).2
theorem foldl_cutAll (l left : List Span) (h : ∀ x ∈ left, right x = true) : (∀ x ∈ l.foldl cutAll left, right x = true) ∧ ∀ t, mem (l.foldl cutAll left) t ↔ mem left t ∧ ¬ mem l t := by
  induction l generalizing left with
  | nil => exact ⟨h, fun t => by simp [mem_nil]⟩
  | cons x l ih =>
    obtain ⟨i1, i2⟩ := ih (cutAll left x) (fun y hy => by
      obtain ⟨z, _, hz⟩ := List.mem_flatMap.1 hy
      exact cut_right z x y hz)
    refine ⟨i1, fun t => ?_⟩
    show mem (l.foldl cutAll (cutAll left x)) t ↔ _
    rw [i2 t, mem_cons, not_or, ← and_assoc]
    have : mem (cutAll left x) t ↔ mem left t ∧ ¬ has x t = true := by
      unfold cutAll
      constructor
      · rintro ⟨y, hy, hh⟩
        obtain ⟨z, hz, hz2⟩ := List.mem_flatMap.1 hy
        have := (mem_cut z x t).1 ⟨y, hz2, hh⟩
        exact ⟨⟨z, hz, this.1⟩, this.2⟩
      · rintro ⟨⟨z, hz, hh⟩, hn⟩
        obtain ⟨y, hy, hh2⟩ := (mem_cut z x t).2 ⟨hh, hn⟩
        exact ⟨y, List.mem_flatMap.2 ⟨z, hz, hy⟩, hh2⟩
    rw [this]
theorem empty_iff {l : List Span} (h : ∀ x ∈ l, right x = true) : l.isEmpty = true ↔ ∀ t, ¬ mem l t := by
  cases l with
  | nil => simp [mem_nil]
  | cons s l =>
    simp only [List.isEmpty_cons, Bool.false_eq_true, false_iff]
    intro hn
    have hs := h s (by simp)
    have hs' := right_iff.1 hs
    exact hn s.1 (mem_cons.2 (.inl (by rw [has_iff]; exact ⟨hs, by omega, by omega⟩)))
theorem covers_iff (l : List Span) (s : Span) : covers l s = true ↔ ∀ t, has s t = true → mem l t := by
  have h := foldl_cutAll l (rights [s]) (fun x hx => (List.mem_filter.1 hx).2)
  unfold covers
  rw [empty_iff h.1]
  constructor
  · intro hn t ht
    exact Classical.byContradiction fun hm => hn t ((h.2 t).2 ⟨mem_rights.2 (mem_cons.2 (.inl ht)), hm⟩)
  · intro hc t hm
    obtain ⟨h1, h2⟩ := (h.2 t).1 hm
    rw [mem_rights, mem_cons] at h1
    rcases h1 with h1 | h1
    · exact h2 (hc t h1)
    · exact mem_nil t h1
theorem coversR_iff (l : List Span) (s : Span) : coversR l s = true ↔ ∀ t, has s t = true → mem l t := by
  obtain ⟨f1, f2⟩ := normR_few l
  unfold coversR
  simp only [Bool.or_eq_true, Bool.not_eq_true', List.any_eq_true, Bool.and_eq_true, decide_eq_true_iff]
  constructor
  · rintro (h | ⟨n, hn, h1, h2⟩) t ht
    · rw [has_iff, h] at ht; cases ht.1
    · rw [← f2 t]
      rw [has_iff] at ht
      exact ⟨n, hn, by rw [has_iff]; exact ⟨f1.right n hn, by omega, by omega⟩⟩
  · intro h
    cases hr : right s with
    | false => exact .inl rfl
    | true =>
      right
      have hr' := right_iff.1 hr
      obtain ⟨n, hn, hh⟩ := (f2 s.1).2 (h s.1 (by rw [has_iff]; exact ⟨hr, by omega, by omega⟩))
      rw [has_iff] at hh
      refine ⟨n, hn, by omega, ?_⟩
      refine Classical.byContradiction fun hc => ?_
      obtain ⟨m, hm, hh2⟩ := (f2 n.2).2 (h n.2 (by rw [has_iff]; exact ⟨hr, by omega, by omega⟩))
      rw [has_iff] at hh2
      have := right_iff.1 hh.1
      rcases few_pair f1 hn hm with e | e | e
      · subst e; omega
      · omega
      · omega
theorem covers_eq (l : List Span) (s : Span) : covers l s = coversR l s := by
  rw [Bool.eq_iff_iff, covers_iff, coversR_iff]
end Go.Proofs.Ytghgiifclocddaa.Sp
