/-
  A condition without Not, plainly: the law of PredPush. No condition.
-/
import Derived.Test.YtfdehigepgeknaaPv
import Derived.Test.YtfdehigepgeknaaPr
import Derived.Test.YtfdehigepgeknaaTw
namespace Go.Proofs.Ytfdehigepgeknaa
open Go.RowKit Pd

namespace Pd
theorem tr_not (b : Bool) : tr (!b) = notI (tr b) := by cases b <;> rfl
theorem opB_other {op : Int} (c : Int) (h0 : 1 ≤ op) (h1 : op ≤ 6) : opB (otherOp op) c = !opB op c := by
  obtain rfl | rfl | rfl | rfl | rfl | rfl : op = 1 ∨ op = 2 ∨ op = 3 ∨ op = 4 ∨ op = 5 ∨ op = 6 := by omega
  · rfl
  · show decide (c = 0) = !!decide (c = 0); rw [Bool.not_not]
  · show decide (0 ≤ c) = !decide (c < 0); rw [← decide_not, decide_eq_decide]; omega
  · show decide (0 < c) = !decide (c ≤ 0); rw [← decide_not, decide_eq_decide]; omega
  · show decide (c ≤ 0) = !decide (0 < c); rw [← decide_not, decide_eq_decide]; omega
  · show decide (c < 0) = !decide (0 ≤ c); rw [← decide_not, decide_eq_decide]; omega
theorem leafV_other {x : N} (y : Cd.V) (h0 : 1 ≤ x.op) (h1 : x.op ≤ 8) : leafV (other x) y = notI (leafV x y) := by
  obtain ⟨op, col, v⟩ := x
  replace h0 : 1 ≤ op := h0
  replace h1 : op ≤ 8 := h1
  by_cases h7 : op = 7
  · subst h7
    show tr (!decide (y.k = 0)) = notI (tr (decide (y.k = 0)))
    exact tr_not _
  by_cases h8 : op = 8
  · subst h8
    show tr (decide (y.k = 0)) = notI (tr (!decide (y.k = 0)))
    rw [← tr_not, Bool.not_not]
  have o1 : otherOp op ≠ 7 ∧ otherOp op ≠ 8 := by
    obtain rfl | rfl | rfl | rfl | rfl | rfl : op = 1 ∨ op = 2 ∨ op = 3 ∨ op = 4 ∨ op = 5 ∨ op = 6 := by omega
    all_goals decide
  unfold leafV
  rw [if_neg (show ¬ (other ⟨op, col, v⟩).op = 7 from o1.1), if_neg (show ¬ (other ⟨op, col, v⟩).op = 8 from o1.2), if_neg (show ¬ (⟨op, col, v⟩ : N).op = 7 from h7), if_neg (show ¬ (⟨op, col, v⟩ : N).op = 8 from h8)]
  by_cases hn : y.k = 0 ∨ v.k = 0
  · rw [if_pos (show y.k = 0 ∨ (other ⟨op, col, v⟩).v.k = 0 from hn), if_pos (show y.k = 0 ∨ (⟨op, col, v⟩ : N).v.k = 0 from hn)]; rfl
  · rw [if_neg (show ¬ (y.k = 0 ∨ (other ⟨op, col, v⟩).v.k = 0) from hn), if_neg (show ¬ (y.k = 0 ∨ (⟨op, col, v⟩ : N).v.k = 0) from hn), ← tr_not]
    show tr (opB (otherOp op) (Ky.cmp y v)) = tr (!opB op (Ky.cmp y v))
    rw [opB_other _ h0 (by omega)]
theorem morgan {a b : Int} (ha : -1 ≤ a ∧ a ≤ 1) (hb : -1 ≤ b ∧ b ≤ 1) : orI (notI a) (notI b) = notI (andI a b) ∧ andI (notI a) (notI b) = notI (orI a b) := by
  obtain rfl | rfl | rfl : a = -1 ∨ a = 0 ∨ a = 1 := by omega
  all_goals
    obtain rfl | rfl | rfl : b = -1 ∨ b = 0 ∨ b = 1 := by omega
    all_goals decide
theorem ev_push (row : List Cd.V) (t : T) : t.ok → ∀ r, (t.push r).ev row = if r then notI (t.ev row) else t.ev row := by
  induction t with
  | leaf x =>
    intro h r
    cases r with
    | false => rfl
    | true => exact leafV_other _ h.1 h.2
  | not x t ih =>
    intro h r
    show (t.push (!r)).ev row = _
    rw [ih h.2]
    cases r with
    | false => rfl
    | true => exact (not_twice (T.ev_range row t)).symm
  | bin x a b iha ihb =>
    intro h r
    have ra := T.ev_range row a
    have rb := T.ev_range row b
    show (if (if r then other x else x).op = 9 then andI ((a.push r).ev row) ((b.push r).ev row) else orI ((a.push r).ev row) ((b.push r).ev row)) = _
    rw [iha h.2.1, ihb h.2.2]
    cases r with
    | false => rfl
    | true =>
      show (if otherOp x.op = 9 then andI (notI (a.ev row)) (notI (b.ev row)) else orI (notI (a.ev row)) (notI (b.ev row))) = notI (if x.op = 9 then andI (a.ev row) (b.ev row) else orI (a.ev row) (b.ev row))
      rcases h.1 with e | e
      · rw [e, if_neg (by decide), if_pos rfl]; exact (morgan ra rb).1
      · rw [e, if_pos (by decide), if_neg (by decide)]; exact (morgan ra rb).2
theorem push_ok (t : T) : t.ok → ∀ r, (t.push r).ok := by
  induction t with
  | leaf x =>
    intro h r
    cases r with
    | false => exact h
    | true => exact other_leaf h.1 h.2
  | not x t ih => intro h r; exact ih h.2 (!r)
  | bin x a b iha ihb =>
    intro h r
    refine ⟨?_, iha h.2.1 r, ihb h.2.2 r⟩
    cases r with
    | false => exact h.1
    | true => rcases h.1 with e | e <;> (show otherOp x.op = 9 ∨ otherOp x.op = 10; rw [e]; decide)
theorem push_nodes (P : N → Prop) (ho : ∀ x, P x → 1 ≤ x.op → x.op ≤ 10 → P (other x)) (t : T) : t.ok → ∀ r, (∀ x ∈ t.ser, P x) → ∀ x ∈ (t.push r).ser, P x := by
  induction t with
  | leaf x =>
    intro h r hp y hy
    have hx := hp x (by simp [T.ser])
    cases r with
    | false => rw [List.mem_singleton.1 hy]; exact hx
    | true => rw [List.mem_singleton.1 hy]; exact ho x hx h.1 (by have := h.2; omega)
  | not x t ih => intro h r hp; exact ih h.2 (!r) (fun y hy => hp y (by simp [T.ser, hy]))
  | bin x a b iha ihb =>
    intro h r hp y hy
    have hx := hp x (by simp [T.ser])
    rcases List.mem_cons.1 hy with e | hy
    · rw [e]
      cases r with
      | false => exact hx
      | true => exact ho x hx (by rcases h.1 with e | e <;> omega) (by rcases h.1 with e | e <;> omega)
    · rcases List.mem_append.1 hy with hy | hy
      · exact iha h.2.1 r (fun z hz => hp z (by simp [T.ser, hz])) y hy
      · exact ihb h.2.2 r (fun z hz => hp z (by simp [T.ser, hz])) y hy
theorem push_no_not (t : T) : t.ok → ∀ r, ∀ x ∈ (t.push r).ser, x.op ≠ 11 := by
  induction t with
  | leaf x =>
    intro h r y hy
    have hk : (if r then other x else x).op ≤ 8 := (push_ok (.leaf x) h r).2
    have e1 : y = if r then other x else x := List.mem_singleton.1 hy
    rw [← e1] at hk
    omega
  | not x t ih => intro h r; exact ih h.2 (!r)
  | bin x a b iha ihb =>
    intro h r y hy
    have hk := (push_ok (.bin x a b) h r).1
    rcases List.mem_cons.1 hy with e | hy
    · rw [e]; rcases hk with g | g <;> rw [g] <;> decide
    · rcases List.mem_append.1 hy with hy | hy
      · exact iha h.2.1 r y hy
      · exact ihb h.2.2 r y hy
/-- a tree without Not is its own -/
def T.pure : T → Prop
  | .leaf _ => True
  | .not _ _ => False
  | .bin _ a b => a.pure ∧ b.pure
theorem push_pure (t : T) : ∀ r, (t.push r).pure := by
  induction t with
  | leaf x => intro r; trivial
  | not x t ih => intro r; exact ih (!r)
  | bin x a b iha ihb => intro r; exact ⟨iha r, ihb r⟩
theorem pure_push (t : T) : t.pure → t.push false = t := by
  induction t with
  | leaf x => intro _; rfl
  | not x t ih => intro h; exact absurd h id
  | bin x a b iha ihb => intro h; show T.bin x (a.push false) (b.push false) = _; rw [iha h.1, ihb h.2]
end Pd
end Go.Proofs.Ytfdehigepgeknaa
