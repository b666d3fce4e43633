/-
  Texts of conditions, plainly: right conditions of the same text are the same. No condition.
-/
import Derived.Test.YtfdehigepgeknaaPk
namespace Go.Proofs.Ytfdehigepgeknaa
open Go.RowKit Pd

namespace Pd
/-- what may stand behind a condition's text -/
def Stop : List UInt8 → Prop
  | [] => True
  | c :: _ => c = 38 ∨ c = 124 ∨ c = 41
def isDig (c : UInt8) : Prop := 48 ≤ c.toNat ∧ c.toNat ≤ 57
def noDig : List UInt8 → Prop
  | [] => True
  | c :: _ => ¬ isDig c
theorem stop_noDig {r : List UInt8} (h : Stop r) : noDig r := by
  cases r with
  | nil => trivial
  | cons c r => rcases h with rfl | rfl | rfl <;> (intro g; revert g; unfold isDig; decide)
theorem digit_is (d : Nat) (h : d < 10) : isDig (UInt8.ofNat (48 + d)) ∧ (UInt8.ofNat (48 + d)).toNat = 48 + d := by
  have e : (UInt8.ofNat (48 + d)).toNat = 48 + d := by rw [UInt8.toNat_ofNat']; omega
  exact ⟨⟨by omega, by omega⟩, e⟩
theorem dec_digs (n : Nat) : ∀ c ∈ Vl.dec n, isDig c := by
  induction n using Nat.strongRecOn with
  | ind n ih =>
    intro c hc
    by_cases h : n < 10
    · rw [Vl.dec_one h] at hc
      rw [List.mem_singleton.1 hc]; exact (digit_is n h).1
    · rw [Vl.dec_more h] at hc
      rcases List.mem_append.1 hc with hc | hc
      · exact ih (n / 10) (by omega) c hc
      · rw [List.mem_singleton.1 hc]; exact (digit_is (n % 10) (by omega)).1
/-- digits ahead of what is no digit -/
theorem digs_split : ∀ (a b r s : List UInt8), (∀ c ∈ a, isDig c) → (∀ c ∈ b, isDig c) → noDig r → noDig s → a ++ r = b ++ s → a = b ∧ r = s
  | [], [], r, s, _, _, _, _, h => ⟨rfl, h⟩
  | [], c :: b, r, s, _, hb, hr, _, h => by
    have h' : r = c :: (b ++ s) := h
    subst h'
    exact absurd (hb c (by simp)) hr
  | c :: a, [], r, s, ha, _, _, hs, h => by
    have h' : c :: (a ++ r) = s := h
    subst h'
    exact absurd (ha c (by simp)) hs
  | c :: a, d :: b, r, s, ha, hb, hr, hs, h => by
    have h1 := List.cons.inj h
    obtain ⟨h2, h3⟩ := digs_split a b r s (fun x hx => ha x (by simp [hx])) (fun x hx => hb x (by simp [hx])) hr hs h1.2
    exact ⟨by rw [h1.1, h2], h3⟩
theorem dec_pos (n : Nat) : 0 < (Vl.dec n).length := by
  by_cases h3 : n < 10
  · rw [Vl.dec_one h3]; exact Nat.succ_pos _
  · rw [Vl.dec_more h3]; simp
theorem dec_inj (n : Nat) : ∀ m, Vl.dec n = Vl.dec m → n = m := by
  induction n using Nat.strongRecOn with
  | ind n ih =>
    intro m h
    by_cases h1 : n < 10
    · by_cases h2 : m < 10
      · rw [Vl.dec_one h1, Vl.dec_one h2] at h
        have e := (List.cons.inj h).1
        have a := (digit_is n h1).2
        have b := (digit_is m h2).2
        rw [e] at a; omega
      · have l1 := congrArg List.length h
        rw [Vl.dec_one h1, Vl.dec_more h2, List.length_append] at l1
        have := dec_pos (m / 10)
        simp only [List.length_cons, List.length_nil] at l1; omega
    · by_cases h2 : m < 10
      · have l1 := congrArg List.length h
        rw [Vl.dec_one h2, Vl.dec_more h1, List.length_append] at l1
        have := dec_pos (n / 10)
        simp only [List.length_cons, List.length_nil] at l1; omega
      · rw [Vl.dec_more h1, Vl.dec_more h2] at h
        obtain ⟨a, b⟩ := List.append_inj' h rfl
        have e1 := ih (n / 10) (by omega) _ a
        have e2 := (List.cons.inj b).1
        have c := (digit_is (n % 10) (by omega)).2
        have d := (digit_is (m % 10) (by omega)).2
        rw [e2] at c
        omega
theorem decI_split {n m : Int} {r s : List UInt8} (hr : noDig r) (hs : noDig s) (h : Vl.decI n ++ r = Vl.decI m ++ s) : n = m ∧ r = s := by
  have hd : ∀ k : Nat, ∀ x : List UInt8, ¬ (45 : UInt8) :: x = [] := fun _ _ e => by cases e
  have no45 : ∀ k : Nat, ∀ x t : List UInt8, Vl.dec k ++ t ≠ 45 :: x := by
    intro k x t e
    have h0 := dec_digs k
    cases hk : Vl.dec k with
    | nil =>
      have := dec_pos k
      rw [hk] at this; exact absurd this (by decide)
    | cons c l =>
      rw [hk] at e h0
      have e1 := (List.cons.inj e).1
      have := h0 c (by simp)
      rw [e1] at this
      revert this; unfold isDig; decide
  unfold Vl.decI at h
  by_cases hn : n < 0
  · rw [if_pos hn] at h
    by_cases hm : m < 0
    · rw [if_pos hm] at h
      obtain ⟨a, b⟩ := digs_split _ _ r s (dec_digs _) (dec_digs _) hr hs (List.cons.inj h).2
      have := dec_inj _ _ a
      exact ⟨by omega, b⟩
    · rw [if_neg hm] at h
      exact absurd h.symm (no45 _ _ _)
  · rw [if_neg hn] at h
    by_cases hm : m < 0
    · rw [if_pos hm] at h
      exact absurd h (no45 _ _ _)
    · rw [if_neg hm] at h
      obtain ⟨a, b⟩ := digs_split _ _ r s (dec_digs _) (dec_digs _) hr hs h
      have := dec_inj _ _ a
      exact ⟨by omega, b⟩
theorem hexd_inj : ∀ a, a < 16 → ∀ b, b < 16 → Vl.hexd a = Vl.hexd b → a = b := by decide +kernel
theorem hexd_stop : ∀ a, a < 16 → Vl.hexd a ≠ 38 ∧ Vl.hexd a ≠ 124 ∧ Vl.hexd a ≠ 41 := by decide +kernel
theorem hexL_inj (k : Nat) : ∀ n m : Nat, Vl.hexL k n = Vl.hexL k m → n % 16 ^ k = m % 16 ^ k := by
  induction k with
  | zero => intro n m _; rw [Nat.pow_zero, Nat.mod_one, Nat.mod_one]
  | succ k ih =>
    intro n m h
    have h' : Vl.hexL k (n / 16) ++ [Vl.hexd (n % 16)] = Vl.hexL k (m / 16) ++ [Vl.hexd (m % 16)] := h
    obtain ⟨a, b⟩ := List.append_inj' h' rfl
    have e1 := ih _ _ a
    have e2 := hexd_inj _ (Nat.mod_lt _ (by decide)) _ (Nat.mod_lt _ (by decide)) (List.cons.inj b).1
    rw [Nat.pow_succ, Nat.mul_comm, Nat.mod_mul, Nat.mod_mul, e1, e2]
theorem hx_inj {c d : UInt8} (h : Vl.hx c = Vl.hx d) : c = d := by
  have e := hexL_inj 2 _ _ h
  have h1 := c.toNat_lt
  have h2 := d.toNat_lt
  rw [Nat.mod_eq_of_lt (by omega), Nat.mod_eq_of_lt (by omega)] at e
  exact UInt8.toNat_inj.1 e
theorem hx_two (c : UInt8) : ∃ a b, a < 16 ∧ Vl.hx c = [Vl.hexd a, b] := ⟨c.toNat / 16 % 16, Vl.hexd (c.toNat % 16), Nat.mod_lt _ (by decide), rfl⟩
theorem hexes_split : ∀ (a b r s : List UInt8), Stop r → Stop s → a.flatMap Vl.hx ++ r = b.flatMap Vl.hx ++ s → a = b ∧ r = s
  | [], [], r, s, _, _, h => ⟨rfl, h⟩
  | [], d :: b, r, s, hr, _, h => by
    obtain ⟨x, y, hx, e⟩ := hx_two d
    rw [List.flatMap_cons, e] at h
    have h' : r = Vl.hexd x :: ([y] ++ b.flatMap Vl.hx ++ s) := h
    subst h'
    have := hexd_stop x hx
    rcases hr with g | g | g <;> simp [g] at this
  | c :: a, [], r, s, _, hs, h => by
    obtain ⟨x, y, hx, e⟩ := hx_two c
    rw [List.flatMap_cons, e] at h
    have h' : Vl.hexd x :: ([y] ++ a.flatMap Vl.hx ++ r) = s := h
    subst h'
    have := hexd_stop x hx
    rcases hs with g | g | g <;> simp [g] at this
  | c :: a, d :: b, r, s, hr, hs, h => by
    rw [List.flatMap_cons, List.flatMap_cons, List.append_assoc, List.append_assoc] at h
    obtain ⟨h1, h2⟩ := List.append_inj h (by rw [show (Vl.hx c).length = 2 from Vl.hexL_length 2 _, show (Vl.hx d).length = 2 from Vl.hexL_length 2 _])
    obtain ⟨h3, h4⟩ := hexes_split a b r s hr hs h2
    exact ⟨by rw [hx_inj h1, h3], h4⟩
theorem quo_ways (c : UInt8) : ((c = 34 ∨ c = 92) ∧ Vl.quo c = [92, c]) ∨ (c ≠ 34 ∧ c ≠ 92 ∧ Vl.quo c = 92 :: 120 :: Vl.hexL 2 c.toNat) ∨ (c ≠ 34 ∧ c ≠ 92 ∧ Vl.quo c = [c]) := by
  by_cases h1 : c = 34 ∨ c = 92
  · exact .inl ⟨h1, if_pos h1⟩
  · by_cases h2 : c < 32 ∨ 126 < c
    · exact .inr (.inl ⟨fun e => h1 (.inl e), fun e => h1 (.inr e), by unfold Vl.quo; rw [if_neg h1, if_pos h2]⟩)
    · exact .inr (.inr ⟨fun e => h1 (.inl e), fun e => h1 (.inr e), by unfold Vl.quo; rw [if_neg h1, if_neg h2]⟩)
theorem quo_split1 (c d : UInt8) (r s : List UInt8) (h : Vl.quo c ++ r = Vl.quo d ++ s) : c = d ∧ r = s := by
  rcases quo_ways c with ⟨h1, e1⟩ | ⟨h1, h1', e1⟩ | ⟨h1, h1', e1⟩
  · rcases quo_ways d with ⟨h2, e2⟩ | ⟨h2, h2', e2⟩ | ⟨h2, h2', e2⟩
    · rw [e1, e2] at h
      have a := List.cons.inj (List.cons.inj h).2
      exact a
    · rw [e1, e2] at h
      have a := (List.cons.inj (List.cons.inj h).2).1
      rcases h1 with g | g <;> (rw [g] at a; cases a)
    · rw [e1, e2] at h
      exact absurd (List.cons.inj h).1.symm h2'
  · rcases quo_ways d with ⟨h2, e2⟩ | ⟨h2, h2', e2⟩ | ⟨h2, h2', e2⟩
    · rw [e1, e2] at h
      have a := (List.cons.inj (List.cons.inj h).2).1
      rcases h2 with g | g <;> (rw [g] at a; cases a)
    · rw [e1, e2] at h
      have a := (List.cons.inj (List.cons.inj h).2).2
      obtain ⟨a1, a2⟩ := List.append_inj a (by rw [Vl.hexL_length, Vl.hexL_length])
      exact ⟨hx_inj a1, a2⟩
    · rw [e1, e2] at h
      exact absurd (List.cons.inj h).1.symm h2'
  · rcases quo_ways d with ⟨h2, e2⟩ | ⟨h2, h2', e2⟩ | ⟨h2, h2', e2⟩
    · rw [e1, e2] at h
      exact absurd (List.cons.inj h).1 h1'
    · rw [e1, e2] at h
      exact absurd (List.cons.inj h).1 h1'
    · rw [e1, e2] at h
      exact List.cons.inj h
theorem quo_head (c : UInt8) : ∃ x t, Vl.quo c = x :: t ∧ x ≠ 34 := by
  rcases quo_ways c with ⟨_, e⟩ | ⟨_, _, e⟩ | ⟨h, _, e⟩
  · exact ⟨92, _, e, by decide⟩
  · exact ⟨92, _, e, by decide⟩
  · exact ⟨c, _, e, h⟩
theorem quos_split : ∀ (a b r s : List UInt8), a.flatMap Vl.quo ++ 34 :: r = b.flatMap Vl.quo ++ 34 :: s → a = b ∧ r = s
  | [], [], r, s, h => ⟨rfl, (List.cons.inj h).2⟩
  | [], d :: b, r, s, h => by
    obtain ⟨x, t, e, hx⟩ := quo_head d
    rw [List.flatMap_cons, e] at h
    exact absurd (List.cons.inj h).1.symm hx
  | c :: a, [], r, s, h => by
    obtain ⟨x, t, e, hx⟩ := quo_head c
    rw [List.flatMap_cons, e] at h
    exact absurd (List.cons.inj h).1 hx
  | c :: a, d :: b, r, s, h => by
    rw [List.flatMap_cons, List.flatMap_cons, List.append_assoc, List.append_assoc] at h
    obtain ⟨h1, h2⟩ := quo_split1 c d _ _ h
    obtain ⟨h3, h4⟩ := quos_split a b r s h2
    exact ⟨by rw [h1, h3], h4⟩
theorem txt_of {k n : Int} {b : Nat} {s : ByteArray} (h : Va.right k n b s = true) : Vl.txt k n b s = if k = 0 then [110, 117, 108, 108]
  else if k = 1 then (if n = 0 then [102, 97, 108, 115, 101] else [116, 114, 117, 101])
  else if k = 2 then Vl.decI n
  else if k = 3 then 102 :: Vl.hexL 16 b
  else if k = 4 then 120 :: s.data.toList.flatMap Vl.hx
  else 34 :: s.data.toList.flatMap Vl.quo ++ [34] := by
  unfold Vl.txt; rw [if_neg (by rw [h]; decide)]
theorem val_split {k n n' : Int} {b b' : Nat} {s s' : ByteArray} {r r' : List UInt8} (h : Va.right k n b s = true) (h' : Va.right k n' b' s' = true) (hb : b < 18446744073709551616) (hb' : b' < 18446744073709551616) (hr : Stop r) (hr' : Stop r') (e : Vl.txt k n b s ++ r = Vl.txt k n' b' s' ++ r') : (⟨k, n, b, s⟩ : Cd.V) = ⟨k, n', b', s'⟩ ∧ r = r' := by
  rw [txt_of h, txt_of h'] at e
  rcases Ky.right_cases h with ⟨rfl, rfl, rfl, rfl⟩ | ⟨rfl, hn, rfl, rfl⟩ | ⟨rfl, rfl, rfl⟩ | ⟨rfl, rfl, _, rfl⟩ | ⟨hk, rfl, rfl, _⟩
  · rcases Ky.right_cases h' with ⟨_, rfl, rfl, rfl⟩ | ⟨g, _⟩ | ⟨g, _⟩ | ⟨g, _⟩ | ⟨g, _⟩
    · exact ⟨rfl, List.append_cancel_left e⟩
    all_goals omega
  · rcases Ky.right_cases h' with ⟨g, _⟩ | ⟨_, hn', rfl, rfl⟩ | ⟨g, _⟩ | ⟨g, _⟩ | ⟨g, _⟩
    · cases g
    · rcases hn with rfl | rfl <;> rcases hn' with rfl | rfl
      · exact ⟨rfl, List.append_cancel_left e⟩
      · cases (List.cons.inj e).1
      · cases (List.cons.inj e).1
      · exact ⟨rfl, List.append_cancel_left e⟩
    all_goals omega
  · rcases Ky.right_cases h' with ⟨g, _⟩ | ⟨g, _⟩ | ⟨_, rfl, rfl⟩ | ⟨g, _⟩ | ⟨g, _⟩
    · cases g
    · cases g
    · obtain ⟨e1, e2⟩ := decI_split (stop_noDig hr) (stop_noDig hr') e
      exact ⟨by rw [e1], e2⟩
    all_goals omega
  · rcases Ky.right_cases h' with ⟨g, _⟩ | ⟨g, _⟩ | ⟨g, _⟩ | ⟨_, rfl, _, rfl⟩ | ⟨g, _⟩
    · cases g
    · cases g
    · cases g
    · have e' : Vl.hexL 16 b ++ r = Vl.hexL 16 b' ++ r' := (List.cons.inj e).2
      obtain ⟨e1, e2⟩ := List.append_inj e' (by rw [Vl.hexL_length, Vl.hexL_length])
      have e3 := hexL_inj 16 _ _ e1
      rw [Nat.mod_eq_of_lt (by omega), Nat.mod_eq_of_lt (by omega)] at e3
      exact ⟨by rw [e3], e2⟩
    · rcases g with g | g <;> cases g
  · rcases hk with rfl | rfl
    · rcases Ky.right_cases h' with ⟨g, _⟩ | ⟨g, _⟩ | ⟨g, _⟩ | ⟨g, _⟩ | ⟨_, rfl, rfl, _⟩
      · cases g
      · cases g
      · cases g
      · cases g
      · obtain ⟨e1, e2⟩ := hexes_split _ _ r r' hr hr' (List.cons.inj e).2
        exact ⟨by rw [← bstr_of s, ← bstr_of s', e1], e2⟩
    · rcases Ky.right_cases h' with ⟨g, _⟩ | ⟨g, _⟩ | ⟨g, _⟩ | ⟨g, _⟩ | ⟨_, rfl, rfl, _⟩
      · cases g
      · cases g
      · cases g
      · cases g
      · have e' : s.data.toList.flatMap Vl.quo ++ 34 :: r = s'.data.toList.flatMap Vl.quo ++ 34 :: r' := by
          have := (List.cons.inj e).2
          simpa using this
        obtain ⟨e1, e2⟩ := quos_split _ _ r r' e'
        exact ⟨by rw [← bstr_of s, ← bstr_of s', e1], e2⟩
theorem txt_head {k n : Int} {b : Nat} {s : ByteArray} (h : Va.right k n b s = true) : ∃ c t, Vl.txt k n b s = c :: t ∧ c ≠ 61 := by
  rw [txt_of h]
  rcases Ky.right_cases h with ⟨rfl, rfl, rfl, rfl⟩ | ⟨rfl, hn, rfl, rfl⟩ | ⟨rfl, rfl, rfl⟩ | ⟨rfl, rfl, _, rfl⟩ | ⟨hk, rfl, rfl, _⟩
  · exact ⟨110, _, rfl, by decide⟩
  · rcases hn with rfl | rfl
    · exact ⟨102, _, rfl, by decide⟩
    · exact ⟨116, _, rfl, by decide⟩
  · show ∃ c t, Vl.decI n = c :: t ∧ c ≠ 61
    unfold Vl.decI
    by_cases hn : n < 0
    · rw [if_pos hn]; exact ⟨45, _, rfl, by decide⟩
    · rw [if_neg hn]
      have h0 := dec_digs n.toNat
      cases hk : Vl.dec n.toNat with
      | nil =>
        have := dec_pos n.toNat
        rw [hk] at this; exact absurd this (by decide)
      | cons c l =>
        rw [hk] at h0
        exact ⟨c, l, rfl, fun e => by have := h0 c (by simp); rw [e] at this; revert this; unfold isDig; decide⟩
  · exact ⟨102, _, rfl, by decide⟩
  · rcases hk with rfl | rfl
    · exact ⟨120, _, rfl, by decide⟩
    · exact ⟨34, _, rfl, by decide⟩
end Pd
end Go.Proofs.Ytfdehigepgeknaa
