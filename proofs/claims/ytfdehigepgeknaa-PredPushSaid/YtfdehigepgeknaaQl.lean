/-
  The law of PredPush, plainly, put together. No condition.
-/
import Derived.Test.YtfdehigepgeknaaTz
import Derived.Test.YtfdehigepgeknaaPk
namespace Go.Proofs.Ytfdehigepgeknaa
open Go.RowKit Pd

namespace Pd
theorem okN_other {cs : List Sc.C} {x : N} (h : okN cs x = true) (h0 : 1 ≤ x.op) (h1 : x.op ≤ 10) : okN cs (other x) = true := by
  obtain ⟨op, col, v⟩ := x
  simp only at h0 h1
  unfold okN at h ⊢
  have hr : (1 ≤ op ∧ op ≤ 6 ∧ 1 ≤ otherOp op ∧ otherOp op ≤ 6) ∨ ((op = 7 ∨ op = 8) ∧ (otherOp op = 7 ∨ otherOp op = 8)) ∨ (9 ≤ op ∧ 9 ≤ otherOp op) := by
    obtain rfl | rfl | rfl | rfl | rfl | rfl | rfl | rfl | rfl | rfl : op = 1 ∨ op = 2 ∨ op = 3 ∨ op = 4 ∨ op = 5 ∨ op = 6 ∨ op = 7 ∨ op = 8 ∨ op = 9 ∨ op = 10 := by omega
    all_goals decide
  rcases hr with ⟨_, a, _, b⟩ | ⟨a, b⟩ | ⟨a, b⟩
  · rw [if_pos (show op ≤ 6 from a)] at h
    rw [if_pos (show (other ⟨op, col, v⟩).op ≤ 6 from b)]
    exact h
  · rw [if_neg (show ¬ op ≤ 6 by omega), if_pos (show op ≤ 8 by omega), Bool.and_eq_true, decide_eq_true_iff, decide_eq_true_iff] at h
    rw [if_neg (show ¬ (other ⟨op, col, v⟩).op ≤ 6 by show ¬ otherOp op ≤ 6; omega), if_pos (show (other ⟨op, col, v⟩).op ≤ 8 by show otherOp op ≤ 8; omega), Bool.and_eq_true, decide_eq_true_iff, decide_eq_true_iff]
    refine ⟨h.1, ?_⟩
    obtain ⟨_, _⟩ := h
    rename_i e
    injection e with _ _ e3
    show (⟨otherOp op, col, v⟩ : N) = _
    rw [e3]; rfl
  · rw [if_neg (show ¬ op ≤ 6 by omega), if_neg (show ¬ op ≤ 8 by omega), decide_eq_true_iff] at h
    rw [if_neg (show ¬ (other ⟨op, col, v⟩).op ≤ 6 by show ¬ otherOp op ≤ 6; omega), if_neg (show ¬ (other ⟨op, col, v⟩).op ≤ 8 by show ¬ otherOp op ≤ 8; omega), decide_eq_true_iff]
    injection h with _ e2 e3
    show (⟨otherOp op, col, v⟩ : N) = _
    rw [e2, e3]; rfl
/-- all of a pushed condition that the statement asks -/
theorem push_law {l p : List N} (h : pushL l p) : (p = [] ∧ whole l = false) ∨ (0 < p.length ∧ p.length ≤ 40 ∧ l.length ≤ 40 ∧ (∀ x ∈ p, x.op ≠ 11) ∧ (∀ cs, rightL cs l = true → rightL cs p = true) ∧
    (∀ row : List Cd.V, colsOk l row.length = true → evalI p row = evalI l row) ∧ (∀ q, pushL p q → q = p) ∧ ((∀ x ∈ l, x.v.s.size ≤ maxLen) → ∀ x ∈ p, x.v.s.size ≤ maxLen)) := by
  rcases h with ⟨h, rfl⟩ | ⟨t, ht, rfl, hw, rfl⟩
  · exact .inl ⟨rfl, h⟩
  · right
    have hl := (whole_ends hw).2.2
    have hp := push_len t false
    have hk := push_ok t ht false
    refine ⟨T.ser_pos _, by omega, hl, push_no_not t ht false, ?_, ?_, ?_, ?_⟩
    · intro cs hr
      unfold rightL at hr ⊢
      rw [Bool.and_eq_true, List.all_eq_true] at hr ⊢
      exact ⟨whole_tree hk (by omega), push_nodes (fun x => okN cs x = true) (fun x hx h0 h1 => okN_other hx h0 h1) t ht false hr.2⟩
    · intro row hc
      have hc2 : colsOk (t.push false).ser row.length = true := by
        unfold colsOk at hc ⊢
        rw [List.all_eq_true] at hc ⊢
        exact push_nodes (fun x => (decide (0 ≤ x.col) && decide (x.col < (row.length : Int))) = true) (fun x hx _ _ => hx) t ht false hc
      rw [evalI_tree row hk (by omega) hc2, evalI_tree row ht hl hc, ev_push row t ht false]; rfl
    · intro q hq
      rcases hq with ⟨h, _⟩ | ⟨t2, ht2, e, _, rfl⟩
      · rw [whole_tree hk (by omega)] at h; cases h
      · have := ser_eq hk ht2 e
        subst this
        rw [pure_push _ (push_pure t false)]
    · intro hs
      exact push_nodes (fun x => x.v.s.size ≤ maxLen) (fun x hx _ _ => hx) t ht false hs
theorem right_whole {cs : List Sc.C} {l : List N} (h : whole l = false) : rightL cs l = false := by unfold rightL; rw [h, Bool.false_and]
theorem eval_whole {row : List Cd.V} {l : List N} (h : whole l = false) : evalI l row = -1 := if_pos h
theorem eval_null {row : List Cd.V} {k : Nat} (hk : k < row.length) : 0 ≤ evalI [⟨7, (k : Int), nul⟩] row := by
  have h : evalI [⟨7, (k : Int), nul⟩] row = T.ev row (.leaf ⟨7, (k : Int), nul⟩) := evalI_tree row (t := .leaf ⟨7, (k : Int), nul⟩) ⟨by show (1 : Int) ≤ 7; decide, by show (7 : Int) ≤ 8; decide⟩ (show 1 ≤ 40 by decide) (by
    show ((decide (0 ≤ (k : Int)) && decide ((k : Int) < (row.length : Int))) && true) = true
    rw [decide_eq_true (by omega), decide_eq_true (by omega)]; rfl)
  rw [h]
  exact (tr_range _).1
theorem cols_take {l : List N} {n k : Nat} (hk : k < l.length) : colsOk (l.take (k + 1)) n = (colsOk (l.take k) n && (decide (0 ≤ l[k].col) && decide (l[k].col < (n : Int)))) := by
  unfold colsOk
  rw [List.take_succ_eq_append_getElem hk, List.all_append]
  simp
end Pd
end Go.Proofs.Ytfdehigepgeknaa
