/-
  The law of QueryGrows, plainly. No condition.
-/
import Derived.Test.YtmcneelapghfcaaRb
import Derived.Test.YtmcneelapghfcaaCe
namespace Go.Proofs.Ytmcneelapghfcaa
open Go.RowKit Pd Qu

namespace Qu
theorem ext_inv {a b : Sc.S} (h : Sc.extends a b = true) : a.cols.length ≤ b.cols.length ∧ a.name = b.name ∧ a.keys = b.keys ∧ a.cols = b.cols.take a.cols.length := by
  unfold Sc.extends Sc.same at h
  simp only [Bool.and_eq_true, decide_eq_true_eq] at h
  exact ⟨h.2.2.1, h.2.2.2.2.1, h.2.2.2.2.2.1, h.2.2.2.2.2.2⟩
theorem col_at {a b : List Sc.C} (h : a = b.take a.length) {k : Nat} (hk : k < a.length) : a[k]? = b[k]? := by
  have e : a[k]? = (b.take a.length)[k]? := by rw [← h]
  rw [e, List.getElem?_take, if_pos hk]
theorem okN_wide {a b : List Sc.C} (hl : a.length ≤ b.length) (ht : a = b.take a.length) {x : N} (h : okN a x = true) : okN b x = true := by
  unfold okN at h ⊢
  by_cases h6 : x.op ≤ 6
  · rw [if_pos h6] at h ⊢
    rw [Bool.and_eq_true, Bool.and_eq_true, decide_eq_true_iff, decide_eq_true_iff] at h ⊢
    obtain ⟨⟨c0, c1⟩, r, k⟩ := h
    refine ⟨⟨c0, by omega⟩, r, ?_⟩
    rw [k]
    unfold kindAt
    rw [col_at ht (by omega)]
  · rw [if_neg h6] at h ⊢
    by_cases h8 : x.op ≤ 8
    · rw [if_pos h8] at h ⊢
      rw [Bool.and_eq_true, decide_eq_true_iff] at h ⊢
      exact ⟨⟨h.1.1, by omega⟩, h.2⟩
    · rw [if_neg h8] at h ⊢
      exact h
theorem rightL_wide {a b : List Sc.C} (hl : a.length ≤ b.length) (ht : a = b.take a.length) {l : List N} (h : rightL a l = true) : rightL b l = true := by
  unfold rightL at h ⊢
  rw [Bool.and_eq_true, List.all_eq_true] at h ⊢
  exact ⟨h.1, fun x hx => okN_wide hl ht (h.2 x hx)⟩
theorem keyed_wide {a b : Sc.S} (hl : a.cols.length ≤ b.cols.length) (hk : a.keys = b.keys) (ht : a.cols = b.cols.take a.cols.length) {l : List Cd.V} (h : keyedB a l = true) : keyedB b l = true := by
  unfold keyedB at h ⊢
  rw [Bool.and_eq_true, decide_eq_true_iff, List.all_eq_true] at h ⊢
  obtain ⟨⟨h1, h2⟩, h3⟩ := h
  refine ⟨⟨by rw [h1, hk], by omega⟩, fun i hi => ?_⟩
  have hi' : i < l.length := List.mem_range.1 hi
  have := h3 i hi
  unfold keyAt at this ⊢
  rw [col_at ht (by omega)] at this
  exact this
theorem shape_wide {a b : Sc.S} (hl : a.cols.length ≤ b.cols.length) (hk : a.keys = b.keys) (ht : a.cols = b.cols.take a.cols.length) {q : Q} (h : shapeB a q = true) : shapeB b q = true := by
  by_cases k1 : q.kind = 1
  · rw [shape1 k1] at h ⊢; exact h
  · by_cases k2 : q.kind = 2
    · rw [shape2 k2] at h ⊢; exact h
    · by_cases k3 : q.kind = 3
      · rw [shape3 k3] at h ⊢
        simp only [Bool.and_eq_true] at h ⊢
        exact ⟨h.1, h.2.1, h.2.2.1, keyed_wide hl hk ht h.2.2.2⟩
      · by_cases k4 : q.kind = 4
        · rw [shape4 k4] at h ⊢
          simp only [Bool.and_eq_true] at h ⊢
          exact ⟨h.1, h.2.1, h.2.2.1, keyed_wide hl hk ht h.2.2.2⟩
        · rw [shape0 k1 k2 k3 k4] at h; cases h
/-- a query that is right for a schema is so for one that extends it -/
theorem right_wide {a b : Sc.S} (h : Sc.extends a b = true) {q : Q} (hr : rightB a q = true) : rightB b q = true := by
  obtain ⟨hl, hn, hk, ht⟩ := ext_inv h
  unfold rightB at hr ⊢
  simp only [Bool.and_eq_true, decide_eq_true_iff] at hr ⊢
  obtain ⟨r1, r2, r3, r4, r5, r6⟩ := hr
  refine ⟨r1.trans hn, r2, r3, shape_wide hl hk ht r4, ?_, ?_⟩
  · unfold colsB at r5 ⊢
    rw [List.all_eq_true] at r5 ⊢
    intro c hc
    have := r5 c hc
    rw [decide_eq_true_iff] at this ⊢
    exact ⟨this.1, by omega⟩
  · rw [Bool.or_eq_true] at r6 ⊢
    exact r6.imp id (rightL_wide hl ht)
theorem right_kind {s : Sc.S} {q : Q} (h : rightB s q = true) : 1 ≤ q.kind ∧ q.kind ≤ 4 := by
  unfold rightB at h
  simp only [Bool.and_eq_true, decide_eq_true_iff] at h
  have h4 := h.2.2.2.1
  by_cases k1 : q.kind = 1
  · omega
  · by_cases k2 : q.kind = 2
    · omega
    · by_cases k3 : q.kind = 3
      · omega
      · by_cases k4 : q.kind = 4
        · omega
        · rw [shape0 k1 k2 k3 k4] at h4; cases h4
theorem right_name {s : Sc.S} {q : Q} (h : rightB s q = true) : q.table = s.name := by
  unfold rightB at h
  rw [Bool.and_eq_true, decide_eq_true_iff] at h
  exact h.1
/-- one more byte in the table's name -/
theorem bad_table {s : Sc.S} {q x : Q} (h : rightB s q = true) (hx : x.table = q.table ++ ⟨#[122]⟩) : rightB s x = false := by
  have hn := right_name h
  unfold rightB
  rw [decide_eq_false (show ¬ x.table = s.name from fun e => by
    have := congrArg ByteArray.size (hx.symm.trans (e.trans hn.symm))
    rw [ByteArray.size_append] at this
    have h1 : (⟨#[122]⟩ : ByteArray).size = 1 := rfl
    omega)]
  rfl
theorem bad_limit {s : Sc.S} {x : Q} (hx : x.limit = -1) : rightB s x = false := by
  unfold rightB
  rw [decide_eq_false (show ¬ (0 ≤ x.limit ∧ x.limit ≤ 1099511627776) by omega)]
  simp
theorem bad_kind {s : Sc.S} {x : Q} (hx : 5 ≤ x.kind) : rightB s x = false := by
  unfold rightB
  rw [shape0 (by omega) (by omega) (by omega) (by omega)]
  simp
end Qu
end Go.Proofs.Ytmcneelapghfcaa
