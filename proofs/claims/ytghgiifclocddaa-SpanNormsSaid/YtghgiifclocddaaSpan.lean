/-
  THE PLAIN LAW OF SPANS: half-open intervals, what they have, meet, join, cut, as few as can be; two lists of as few as can be that have the same times are the same. No condition. No Go in sight.
-/
import Derived.WalkKit
namespace Go.Proofs.Ytghgiifclocddaa.Sp

abbrev Span := Int × Int
def right (s : Span) : Bool := decide (0 ≤ s.1) && decide (s.1 < s.2) && decide (s.2 ≤ 1099511627776)
theorem right_iff {s : Span} : right s = true ↔ 0 ≤ s.1 ∧ s.1 < s.2 ∧ s.2 ≤ 1099511627776 := by simp [right, and_assoc]
theorem right_not {s : Span} : right s = false ↔ ¬ (0 ≤ s.1 ∧ s.1 < s.2 ∧ s.2 ≤ 1099511627776) := by rw [← right_iff]; simp
def has (s : Span) (t : Int) : Bool := right s && decide (s.1 ≤ t) && decide (t < s.2)
theorem has_iff {s : Span} {t : Int} : has s t = true ↔ right s = true ∧ s.1 ≤ t ∧ t < s.2 := by simp [has, and_assoc]
def meet (a b : Span) : Option Span := if right a && right b && right (max a.1 b.1, min a.2 b.2) then some (max a.1 b.1, min a.2 b.2) else none
def join (a b : Span) : Option Span := if right a && right b && decide (b.1 ≤ a.2) && decide (a.1 ≤ b.2) then some (min a.1 b.1, max a.2 b.2) else none
def fst (o : Option Span) : Span := o.getD (0, 0)
def rights (l : List Span) : List Span := l.filter right
def cut (a b : Span) : List Span := match meet a b with
  | none => rights [a]
  | some m => rights [(a.1, m.1), (m.2, a.2)]

/-- has one of them the time? -/
def mem (l : List Span) (t : Int) : Prop := ∃ s ∈ l, has s t = true

theorem meet_some {a b m : Span} (h : meet a b = some m) : right a = true ∧ right b = true ∧ right m = true ∧ m = (max a.1 b.1, min a.2 b.2) := by
  unfold meet at h
  split at h
  · rename_i hc
    simp only [Bool.and_eq_true] at hc
    injection h with h
    subst h
    exact ⟨hc.1.1, hc.1.2, hc.2, rfl⟩
  · cases h
theorem meet_none {a b : Span} (h : meet a b = none) : ¬ (right a = true ∧ right b = true ∧ max a.1 b.1 < min a.2 b.2) := by
  unfold meet at h
  split at h
  · cases h
  · rename_i hc
    rintro ⟨h1, h2, h3⟩
    apply hc
    simp only [Bool.and_eq_true]
    refine ⟨⟨h1, h2⟩, ?_⟩
    rw [right_iff] at *
    simp only
    omega
theorem has_meet (a b : Span) (t : Int) : has (fst (meet a b)) t = true ↔ has a t = true ∧ has b t = true := by
  cases h : meet a b with
  | none =>
    have := meet_none h
    constructor
    · intro h1
      simp only [fst, Option.getD_none, has_iff, right_iff] at h1
      omega
    · rintro ⟨h1, h2⟩
      exfalso
      rw [has_iff] at h1 h2
      apply this
      exact ⟨h1.1, h2.1, by omega⟩
  | some m =>
    obtain ⟨h1, h2, h3, rfl⟩ := meet_some h
    simp only [fst, Option.getD_some, has_iff, h1, h2, h3, true_and]
    omega
theorem join_some {a b j : Span} (h : join a b = some j) : right a = true ∧ right b = true ∧ b.1 ≤ a.2 ∧ a.1 ≤ b.2 ∧ j = (min a.1 b.1, max a.2 b.2) := by
  unfold join at h
  split at h
  · rename_i hc
    simp only [Bool.and_eq_true, decide_eq_true_iff] at hc
    injection h with h
    exact ⟨hc.1.1.1, hc.1.1.2, hc.1.2, hc.2, h.symm⟩
  · cases h
theorem join_none {a b : Span} (h : join a b = none) : ¬ (right a = true ∧ right b = true ∧ b.1 ≤ a.2 ∧ a.1 ≤ b.2) := by
  unfold join at h
  split at h
  · cases h
  · rename_i hc
    rintro ⟨h1, h2, h3, h4⟩
    apply hc
    simp only [Bool.and_eq_true, decide_eq_true_iff]
    exact ⟨⟨⟨h1, h2⟩, h3⟩, h4⟩
theorem join_right {a b j : Span} (h : join a b = some j) : right j = true := by
  obtain ⟨h1, h2, h3, h4, rfl⟩ := join_some h
  rw [right_iff] at *
  simp only
  omega
theorem has_join {a b j : Span} (h : join a b = some j) (t : Int) : has j t = true ↔ has a t = true ∨ has b t = true := by
  have hj := join_right h
  obtain ⟨h1, h2, h3, h4, rfl⟩ := join_some h
  rw [right_iff] at h1 h2
  simp only [has_iff, hj, true_and, right_iff]
  omega
theorem join_comm (a b : Span) : join a b = join b a := by
  cases h : join a b with
  | none =>
    cases h2 : join b a with
    | none => rfl
    | some j =>
      obtain ⟨q1, q2, q3, q4, _⟩ := join_some h2
      exact absurd ⟨q2, q1, q4, q3⟩ (join_none h)
  | some j =>
    obtain ⟨q1, q2, q3, q4, rfl⟩ := join_some h
    unfold join
    rw [if_pos (by simp only [Bool.and_eq_true, decide_eq_true_iff]; exact ⟨⟨⟨q2, q1⟩, q4⟩, q3⟩)]
    simp only [Option.some.injEq, Prod.mk.injEq]
    omega
theorem meet_comm (a b : Span) : meet a b = meet b a := by
  unfold meet
  rw [show max a.1 b.1 = max b.1 a.1 from by omega, show min a.2 b.2 = min b.2 a.2 from by omega, Bool.and_comm (right a) (right b)]

theorem mem_nil (t : Int) : ¬ mem [] t := by rintro ⟨s, h, _⟩; cases h
theorem mem_cons {s : Span} {l : List Span} {t : Int} : mem (s :: l) t ↔ has s t = true ∨ mem l t := by
  unfold mem
  simp
theorem mem_append {l r : List Span} {t : Int} : mem (l ++ r) t ↔ mem l t ∨ mem r t := by
  unfold mem
  simp only [List.mem_append]
  constructor
  · rintro ⟨s, h | h, h2⟩
    · exact .inl ⟨s, h, h2⟩
    · exact .inr ⟨s, h, h2⟩
  · rintro (⟨s, h, h2⟩ | ⟨s, h, h2⟩)
    · exact ⟨s, .inl h, h2⟩
    · exact ⟨s, .inr h, h2⟩
theorem mem_rights {l : List Span} {t : Int} : mem (rights l) t ↔ mem l t := by
  unfold mem rights
  simp only [List.mem_filter]
  constructor
  · rintro ⟨s, ⟨h, _⟩, h2⟩; exact ⟨s, h, h2⟩
  · rintro ⟨s, h, h2⟩; exact ⟨s, ⟨h, (has_iff.1 h2).1⟩, h2⟩
theorem mem_cut (a b : Span) (t : Int) : mem (cut a b) t ↔ has a t = true ∧ ¬ has b t = true := by
  unfold cut
  cases h : meet a b with
  | none =>
    simp only [mem_rights, mem_cons, mem_nil, or_false]
    have hm := has_meet a b t
    rw [h] at hm
    constructor
    · intro ha
      refine ⟨ha, fun hb => ?_⟩
      have := hm.2 ⟨ha, hb⟩
      simp only [fst, Option.getD_none, has_iff, right_iff] at this
      omega
    · exact fun h => h.1
  | some m =>
    obtain ⟨h1, h2, h3, rfl⟩ := meet_some h
    simp only [mem_rights, mem_cons, mem_nil, or_false]
    rw [right_iff] at h1 h2 h3
    simp only at h3
    simp only [has_iff, right_iff]
    omega

/-! ### as few as can be -/
/-- rising, right, not touching -/
def Few : List Span → Prop
  | [] => True
  | s :: l => right s = true ∧ (∀ x ∈ l, s.2 < x.1) ∧ Few l
theorem Few.right {l : List Span} (h : Few l) : ∀ x ∈ l, right x = true := by
  induction l with
  | nil => intro x hx; cases hx
  | cons s l ih =>
    intro x hx
    rcases List.mem_cons.1 hx with rfl | hx
    · exact h.1
    · exact ih h.2.2 x hx
/-- THE SAME TIMES: THE SAME LIST -/
theorem few_eq {l r : List Span} (hl : Few l) (hr : Few r) (h : ∀ t, mem l t ↔ mem r t) : l = r := by
  induction l generalizing r with
  | nil =>
    cases r with
    | nil => rfl
    | cons s r =>
      exfalso
      have := hr.1
      rw [right_iff] at this
      exact mem_nil s.1 ((h s.1).2 (mem_cons.2 (.inl (by rw [has_iff]; exact ⟨hr.1, by omega, by omega⟩))))
  | cons a l ih =>
    cases r with
    | nil =>
      exfalso
      have := hl.1
      rw [right_iff] at this
      exact mem_nil a.1 ((h a.1).1 (mem_cons.2 (.inl (by rw [has_iff]; exact ⟨hl.1, by omega, by omega⟩))))
    | cons b r =>
      have ha := right_iff.1 hl.1
      have hb := right_iff.1 hr.1
      have out : ∀ {s : Span} {l : List Span}, Few (s :: l) → ∀ t, t ≤ s.2 → mem l t → False := by
        intro s l hf t ht ⟨x, hx, hh⟩
        have := hf.2.1 x hx
        rw [has_iff] at hh
        omega
      -- the beginnings
      have e1 : a.1 = b.1 := by
        have q1 := (h a.1).1 (mem_cons.2 (.inl (by rw [has_iff]; exact ⟨hl.1, by omega, by omega⟩)))
        have q2 := (h b.1).2 (mem_cons.2 (.inl (by rw [has_iff]; exact ⟨hr.1, by omega, by omega⟩)))
        rcases mem_cons.1 q1 with q1 | ⟨x, hx, q1⟩
        · rcases mem_cons.1 q2 with q2 | ⟨y, hy, q2⟩
          · rw [has_iff] at q1 q2; omega
          · have := hl.2.1 y hy
            rw [has_iff] at q1 q2; omega
        · have := hr.2.1 x hx
          rcases mem_cons.1 q2 with q2 | ⟨y, hy, q2⟩
          · rw [has_iff] at q1 q2; omega
          · have := hl.2.1 y hy
            rw [has_iff] at q1 q2; omega
      -- the ends
      have e2 : a.2 = b.2 := by
        rcases Int.lt_trichotomy a.2 b.2 with hlt | heq | hgt
        · exfalso
          have q := (h a.2).2 (mem_cons.2 (.inl (by rw [has_iff]; exact ⟨hr.1, by omega, by omega⟩)))
          rcases mem_cons.1 q with q | q
          · rw [has_iff] at q; omega
          · exact out hl a.2 (by omega) q
        · exact heq
        · exfalso
          have q := (h b.2).1 (mem_cons.2 (.inl (by rw [has_iff]; exact ⟨hl.1, by omega, by omega⟩)))
          rcases mem_cons.1 q with q | q
          · rw [has_iff] at q; omega
          · exact out hr b.2 (by omega) q
      have e : a = b := Prod.ext e1 e2
      subst e
      congr 1
      refine ih hl.2.2 hr.2.2 fun t => ?_
      have q := h t
      rw [mem_cons, mem_cons] at q
      constructor
      · intro m
        rcases q.1 (.inr m) with m2 | m2
        · rw [has_iff] at m2
          exact (out hl t (by omega) m).elim
        · exact m2
      · intro m
        rcases q.2 (.inr m) with m2 | m2
        · rw [has_iff] at m2
          exact (out hr t (by omega) m).elim
        · exact m2
end Go.Proofs.Ytghgiifclocddaa.Sp
