/-
  Rows that fit, and schemas that extend others, plainly. No condition.
-/
import Derived.Test.YtmgafcblbbbanaaSm
namespace Go.Proofs.Ytmgafcblbbbanaa
namespace Sc

theorem holds_at {cs : List C} {l : List Cd.V} (h : fitAll cs l = true) {k : Nat} (h1 : k < cs.length) (h2 : k < l.length) : holdsB cs[k] l[k] = true := by
  cases e : holdsB cs[k] l[k] with
  | true => rfl
  | false => rw [fit_no h1 h2 e] at h; cases h
theorem need_at {s : S} (h : right s = true) {k : Nat} (hk : k < s.cols.length) (hn : (k : Int) < s.keys) : s.cols[k].need = true := by
  unfold right at h
  simp only [Bool.and_eq_true, decide_eq_true_eq] at h
  have h1 := good1_of h.2 k hk
  rw [good1_at s k hk] at h1
  unfold colOk at h1
  simp only [Bool.and_eq_true, Bool.or_eq_true, decide_eq_true_eq] at h1
  rcases h1.1.2 with h2 | h2
  · omega
  · exact h2
/-- no value of a key is Null -/
theorem key_kind {s : S} {l : List Cd.V} (h : fits s l = 0) {k : Nat} (hk : k < l.length) (hn : (k : Int) < s.keys) : l[k].k ≠ 0 := by
  obtain ⟨h1, h2, _, _, _, _, h3⟩ := fits_zero h
  have h4 := holds_at h3 (k := k) (by omega) hk
  have h5 := need_at h1 (k := k) (by omega) hn
  unfold holdsB at h4
  rw [h5] at h4
  intro e
  rw [if_pos e] at h4
  simp at h4
theorem key_of {s : S} {l : List Cd.V} (h : fits s l = 0) : key s l = l.take s.keys.toNat := by unfold key; rw [if_pos h]
theorem key_none {s : S} {l : List Cd.V} (h : fits s l ≠ 0) : key s l = [] := by unfold key; rw [if_neg h]
/-- each right schema is an extension of itself -/
theorem extends_self (s : S) : Sc.extends s s = right s := by
  unfold Sc.extends loose
  cases right s
  · rfl
  · simp [same]
theorem extends_inv {a b : S} (h : Sc.extends a b = true) : right a = true ∧ right b = true ∧ a.cols.length ≤ b.cols.length ∧ loose a.cols.length b.cols = true ∧ a.name = b.name ∧ a.keys = b.keys ∧ a.cols = b.cols.take a.cols.length := by
  unfold Sc.extends same at h
  simp only [Bool.and_eq_true, decide_eq_true_eq] at h
  exact ⟨h.1, h.2.1, h.2.2.1, h.2.2.2.1, h.2.2.2.2.1, h.2.2.2.2.2.1, h.2.2.2.2.2.2⟩
theorem extends_mk {a b : S} (h1 : right a = true) (h2 : right b = true) (h3 : a.cols.length ≤ b.cols.length) (h4 : loose a.cols.length b.cols = true) (h5 : a.name = b.name) (h6 : a.keys = b.keys) (h7 : a.cols = b.cols.take a.cols.length) : Sc.extends a b = true := by
  unfold Sc.extends same
  simp only [Bool.and_eq_true, decide_eq_true_eq]
  exact ⟨h1, h2, h3, h4, h5, h6, h7⟩
theorem loose_at {n : Nat} {l : List C} (h : loose n l = true) {k : Nat} (hk : k < l.length) (hn : n ≤ k) : l[k].need = false := by
  cases e : l[k].need with
  | false => rfl
  | true =>
    have := loose_no (n := n) (k := k - n) (l := l) (by omega) (by simp only [show n + (k - n) = k by omega]; exact e)
    rw [this] at h; cases h
theorem loose_mk {n : Nat} {l : List C} (h : ∀ k (hk : k < l.length), n ≤ k → l[k].need = false) : loose n l = true := by
  unfold loose
  rw [List.all_eq_true]
  intro c hc
  obtain ⟨k, hk, rfl⟩ := List.mem_iff_getElem.1 hc
  rw [List.length_drop] at hk
  rw [List.getElem_drop]
  rw [h (n + k) (by omega) (by omega)]
  rfl
theorem take_at {a b : List C} (h : a = b.take a.length) (hl : a.length ≤ b.length) {k : Nat} (hk : k < a.length) : a[k] = b[k]'(by omega) := by
  have e : a[k]? = (b.take a.length)[k]? := by rw [← h]
  rw [List.getElem?_take, if_pos hk, List.getElem?_eq_getElem hk, List.getElem?_eq_getElem (by omega)] at e
  exact Option.some.inj e
theorem extends_trans {a b c : S} (h1 : Sc.extends a b = true) (h2 : Sc.extends b c = true) : Sc.extends a c = true := by
  obtain ⟨a1, a2, a3, a4, a5, a6, a7⟩ := extends_inv h1
  obtain ⟨b1, b2, b3, b4, b5, b6, b7⟩ := extends_inv h2
  refine extends_mk a1 b2 (by omega) (loose_mk fun k hk hn => ?_) (a5.trans b5) (a6.trans b6) ?_
  · by_cases hkb : k < b.cols.length
    · rw [← take_at b7 b3 hkb]
      exact loose_at a4 hkb hn
    · exact loose_at b4 hk (by omega)
  · rw [a7, b7, List.take_take]
    congr 1
    rw [List.length_take]
    omega
theorem wide_at {b : S} {l : List Cd.V} (_hl : l.length ≤ b.cols.length) {k : Nat} (hk : k < (wide b l).length) : (wide b l)[k] = if h : k < l.length then l[k] else nullV := by
  unfold wide at hk ⊢
  rw [List.getElem_append]
  split
  · rfl
  · simp
theorem fitAll_mk {cs : List C} {l : List Cd.V} (h : ∀ k (h1 : k < cs.length) (h2 : k < l.length), holdsB cs[k] l[k] = true) : fitAll cs l = true := by
  unfold fitAll
  rw [List.all_eq_true]
  intro p hp
  obtain ⟨k, hk, rfl⟩ := List.mem_iff_getElem.1 hp
  have hk' : k < min cs.length l.length := by simpa using hk
  have := h k (by omega) (by omega)
  simpa using this
/-- a row that fits a schema fits, widened, by each one that goes on from it -/
theorem fits_wide {a b : S} {l : List Cd.V} (h : Sc.extends a b = true) (hf : fits a l = 0) : fits b (wide b l) = 0 := by
  obtain ⟨a1, a2, a3, a4, a5, a6, a7⟩ := extends_inv h
  obtain ⟨_, f2, _, _, _, _, f3⟩ := fits_zero hf
  have hl : l.length ≤ b.cols.length := by omega
  have hwl := wide_length hl
  have hall : fitAll b.cols (wide b l) = true := fitAll_mk fun k h1 h2 => by
    rw [wide_at hl h2]
    split
    · rename_i hkl
      have h4 := holds_at f3 (k := k) (by omega) hkl
      rw [← take_at a7 a3 (by omega)]
      exact h4
    · have h4 := loose_at a4 h1 (by omega)
      unfold holdsB
      rw [h4, if_pos (show nullV.k = 0 from rfl)]
      decide
  unfold fits
  rw [a2, if_neg (by decide), if_neg (by simp [hwl]), hall, if_pos rfl]
theorem key_wide {a b : S} {l : List Cd.V} (h : Sc.extends a b = true) (hf : fits a l = 0) : key b (wide b l) = key a l := by
  obtain ⟨_, _, _, _, _, a6, _⟩ := extends_inv h
  obtain ⟨_, f2, f3, f4, f5, _, _⟩ := fits_zero hf
  rw [key_of (fits_wide h hf), key_of hf, ← a6]
  unfold wide
  rw [List.take_append_of_le_length (by omega)]
theorem widen_wide {a b : S} {l : List Cd.V} (h : Sc.extends a b = true) (hf : fits a l = 0) : widen b l = (wide b l, 0) := by
  obtain ⟨_, a2, a3, _, _, _, _⟩ := extends_inv h
  obtain ⟨_, f2, _, _, _, _, _⟩ := fits_zero hf
  unfold widen
  rw [a2, if_neg (by decide), if_neg (by omega), if_pos (fits_wide h hf)]
theorem wide_take {b : S} {l : List Cd.V} : (wide b l).take l.length = l := by unfold wide; rw [List.take_left]
end Sc
end Go.Proofs.Ytmgafcblbbbanaa
