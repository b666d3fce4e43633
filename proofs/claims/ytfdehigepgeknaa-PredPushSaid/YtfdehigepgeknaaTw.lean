/-
  Conditions put together, plainly: the laws of PredTwice and PredThree. No condition.
-/
import Derived.Test.YtfdehigepgeknaaPt
namespace Go.Proofs.Ytfdehigepgeknaa
open Go.RowKit Pd

namespace Pd
def nd (op : Int) : N := ⟨op, 0, nul⟩
theorem endI_tree {a : List N} (h0 : 0 < a.length) (h : endI a 0 = (a.length : Int)) : ∃ t : T, t.ok ∧ a = t.ser := by
  unfold endI at h
  rw [if_neg (by omega), show (0 : Int).toNat = 0 from rfl, List.drop_zero] at h
  cases he : ends 1 a with
  | none => rw [he] at h; have h' : (-1 : Int) = _ := h; omega
  | some n =>
    rw [he] at h
    have h' : (0 : Int) + (n : Int) = (a.length : Int) := h
    obtain rfl : n = a.length := by omega
    exact tree he
/-- a tree's truth, also where a column is none -/
theorem evalI_any (row : List Cd.V) {t : T} (h : t.ok) (hl : t.ser.length ≤ 40) : evalI t.ser row = if colsOk t.ser row.length = false then -1 else t.ev row := by
  cases hc : colsOk t.ser row.length with
  | false =>
    rw [if_pos rfl]
    unfold evalI
    rw [if_neg (by rw [whole_tree h hl]; decide), if_pos hc]
  | true =>
    rw [if_neg (by decide)]
    exact evalI_tree row h hl hc
theorem cols_append (a b : List N) (n : Nat) : colsOk (a ++ b) n = (colsOk a n && colsOk b n) := List.all_append
theorem cols_nd (op : Int) (a : List N) {n : Nat} (h : 0 < n) : colsOk (nd op :: a) n = colsOk a n := by
  show (decide (0 ≤ (0 : Int)) && decide ((0 : Int) < (n : Int)) && colsOk a n) = _
  rw [decide_eq_true (by omega), decide_eq_true (show (0 : Int) < (n : Int) by omega)]; rfl
theorem and_same {x : Int} (h : -1 ≤ x ∧ x ≤ 1) : andI x x = x ∧ orI x x = x ∧ andI x (notI x) ≠ 1 ∧ orI x (notI x) ≠ 0 := by
  obtain rfl | rfl | rfl : x = -1 ∨ x = 0 ∨ x = 1 := by omega
  all_goals decide
theorem twice_law {a : List N} {row : List Cd.V} (h0 : 0 < a.length) (h18 : a.length ≤ 18) (he : endI a 0 = (a.length : Int)) (hr : 0 < row.length) :
    evalI ([nd 9] ++ a ++ a) row = evalI a row ∧ evalI ([nd 10] ++ a ++ a) row = evalI a row ∧ evalI ([nd 9] ++ a ++ [nd 11] ++ a) row ≠ 1 ∧ evalI ([nd 10] ++ a ++ [nd 11] ++ a) row ≠ 0 := by
  obtain ⟨t, ht, rfl⟩ := endI_tree h0 he
  have e1 : [nd 9] ++ t.ser ++ t.ser = (T.bin (nd 9) t t).ser := by simp [T.ser]
  have e2 : [nd 10] ++ t.ser ++ t.ser = (T.bin (nd 10) t t).ser := by simp [T.ser]
  have e3 : [nd 9] ++ t.ser ++ [nd 11] ++ t.ser = (T.bin (nd 9) t (.not (nd 11) t)).ser := by simp [T.ser]
  have e4 : [nd 10] ++ t.ser ++ [nd 11] ++ t.ser = (T.bin (nd 10) t (.not (nd 11) t)).ser := by simp [T.ser]
  have c1 : colsOk (T.bin (nd 9) t t).ser row.length = colsOk t.ser row.length := by rw [← e1, List.append_assoc, List.singleton_append, cols_nd _ _ hr, cols_append, Bool.and_self]
  have c2 : colsOk (T.bin (nd 10) t t).ser row.length = colsOk t.ser row.length := by rw [← e2, List.append_assoc, List.singleton_append, cols_nd _ _ hr, cols_append, Bool.and_self]
  have c3 : colsOk (T.bin (nd 9) t (.not (nd 11) t)).ser row.length = colsOk t.ser row.length := by rw [← e3, List.append_assoc, List.append_assoc, List.singleton_append, cols_nd _ _ hr, cols_append, List.singleton_append, cols_nd _ _ hr, Bool.and_self]
  have c4 : colsOk (T.bin (nd 10) t (.not (nd 11) t)).ser row.length = colsOk t.ser row.length := by rw [← e4, List.append_assoc, List.append_assoc, List.singleton_append, cols_nd _ _ hr, cols_append, List.singleton_append, cols_nd _ _ hr, Bool.and_self]
  have l1 : (T.bin (nd 9) t t).ser.length ≤ 40 := by rw [← e1]; simp; omega
  have l2 : (T.bin (nd 10) t t).ser.length ≤ 40 := by rw [← e2]; simp; omega
  have l3 : (T.bin (nd 9) t (.not (nd 11) t)).ser.length ≤ 40 := by rw [← e3]; simp; omega
  have l4 : (T.bin (nd 10) t (.not (nd 11) t)).ser.length ≤ 40 := by rw [← e4]; simp; omega
  rw [e1, e2, e3, e4, evalI_any row (t := .bin (nd 9) t t) ⟨.inl rfl, ht, ht⟩ l1, evalI_any row (t := .bin (nd 10) t t) ⟨.inr rfl, ht, ht⟩ l2, evalI_any row (t := .bin (nd 9) t (.not (nd 11) t)) ⟨.inl rfl, ht, rfl, ht⟩ l3, evalI_any row (t := .bin (nd 10) t (.not (nd 11) t)) ⟨.inr rfl, ht, rfl, ht⟩ l4, evalI_any row ht (by omega), c1, c2, c3, c4]
  cases colsOk t.ser row.length with
  | false => exact ⟨rfl, rfl, by rw [if_pos rfl]; decide, by rw [if_pos rfl]; decide⟩
  | true =>
    have hx := and_same (T.ev_range row t)
    exact ⟨hx.1, hx.2.1, hx.2.2.1, hx.2.2.2⟩
theorem not_twice {x : Int} (h : -1 ≤ x ∧ x ≤ 1) : notI (notI x) = x := by
  obtain rfl | rfl | rfl : x = -1 ∨ x = 0 ∨ x = 1 := by omega
  all_goals decide
theorem three_law {a b : List N} {row : List Cd.V} (ha : 0 < a.length) (hb : 0 < b.length) (hab : a.length + b.length ≤ 36) (ea : endI a 0 = (a.length : Int)) (eb : endI b 0 = (b.length : Int)) (hr : 0 < row.length) (ca : colsOk a row.length = true) (cb : colsOk b row.length = true) :
    (-1 ≤ evalI a row ∧ evalI a row ≤ 1) ∧ (-1 ≤ evalI b row ∧ evalI b row ≤ 1) ∧ evalI ([nd 9] ++ a ++ b) row = andI (evalI a row) (evalI b row) ∧ evalI ([nd 10] ++ a ++ b) row = orI (evalI a row) (evalI b row) ∧
    evalI ([nd 11, nd 9, nd 11] ++ a ++ [nd 11] ++ b) row = orI (evalI a row) (evalI b row) ∧ evalI ([nd 11, nd 11] ++ a) row = evalI a row := by
  obtain ⟨t, ht, rfl⟩ := endI_tree ha ea
  obtain ⟨u, hu, rfl⟩ := endI_tree hb eb
  have e1 : [nd 9] ++ t.ser ++ u.ser = (T.bin (nd 9) t u).ser := by simp [T.ser]
  have e2 : [nd 10] ++ t.ser ++ u.ser = (T.bin (nd 10) t u).ser := by simp [T.ser]
  have e3 : [nd 11, nd 9, nd 11] ++ t.ser ++ [nd 11] ++ u.ser = (T.not (nd 11) (.bin (nd 9) (.not (nd 11) t) (.not (nd 11) u))).ser := by simp [T.ser]
  have e4 : [nd 11, nd 11] ++ t.ser = (T.not (nd 11) (.not (nd 11) t)).ser := by simp [T.ser]
  have c1 : colsOk (T.bin (nd 9) t u).ser row.length = true := by rw [← e1, List.append_assoc, List.singleton_append, cols_nd _ _ hr, cols_append, ca, cb]; rfl
  have c2 : colsOk (T.bin (nd 10) t u).ser row.length = true := by rw [← e2, List.append_assoc, List.singleton_append, cols_nd _ _ hr, cols_append, ca, cb]; rfl
  have c3 : colsOk (T.not (nd 11) (.bin (nd 9) (.not (nd 11) t) (.not (nd 11) u))).ser row.length = true := by
    show colsOk (nd 11 :: nd 9 :: (nd 11 :: t.ser ++ nd 11 :: u.ser)) row.length = true
    rw [cols_nd _ _ hr, cols_nd _ _ hr, cols_append, cols_nd _ _ hr, cols_nd _ _ hr, ca, cb]; rfl
  have c4 : colsOk (T.not (nd 11) (.not (nd 11) t)).ser row.length = true := by
    show colsOk (nd 11 :: nd 11 :: t.ser) row.length = true
    rw [cols_nd _ _ hr, cols_nd _ _ hr, ca]
  have l1 : (T.bin (nd 9) t u).ser.length ≤ 40 := by rw [← e1]; simp; omega
  have l2 : (T.bin (nd 10) t u).ser.length ≤ 40 := by rw [← e2]; simp; omega
  have l3 : (T.not (nd 11) (.bin (nd 9) (.not (nd 11) t) (.not (nd 11) u))).ser.length ≤ 40 := by rw [← e3]; simp; omega
  have l4 : (T.not (nd 11) (.not (nd 11) t)).ser.length ≤ 40 := by rw [← e4]; simp; omega
  rw [e1, e2, e3, e4, evalI_tree row (t := .bin (nd 9) t u) ⟨.inl rfl, ht, hu⟩ l1 c1, evalI_tree row (t := .bin (nd 10) t u) ⟨.inr rfl, ht, hu⟩ l2 c2, evalI_tree row (t := .not (nd 11) (.bin (nd 9) (.not (nd 11) t) (.not (nd 11) u))) ⟨rfl, .inl rfl, ⟨rfl, ht⟩, ⟨rfl, hu⟩⟩ l3 c3, evalI_tree row (t := .not (nd 11) (.not (nd 11) t)) ⟨rfl, rfl, ht⟩ l4 c4, evalI_tree row ht (by omega) ca, evalI_tree row hu (by omega) cb]
  exact ⟨T.ev_range row t, T.ev_range row u, rfl, rfl, rfl, not_twice (T.ev_range row t)⟩
end Pd
end Go.Proofs.Ytfdehigepgeknaa
