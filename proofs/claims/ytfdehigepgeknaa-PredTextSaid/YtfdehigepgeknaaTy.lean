/-
  Texts of conditions, plainly: right conditions of the same text are the same. No condition.
-/
import Derived.Test.YtfdehigepgeknaaTx
namespace Go.Proofs.Ytfdehigepgeknaa
open Go.RowKit Pd

namespace Pd
/-- all nodes are right for the columns -/
def T.good (cs : List Sc.C) : T → Prop
  | .leaf x => okN cs x = true ∧ Nok x
  | .not x t => okN cs x = true ∧ t.good cs
  | .bin x a b => okN cs x = true ∧ a.good cs ∧ b.good cs
theorem T.good_of (cs : List Sc.C) (t : T) (h : ∀ x ∈ t.ser, okN cs x = true) (hn : ∀ x ∈ t.ser, Nok x) : t.good cs := by
  induction t with
  | leaf x => exact ⟨h x (by simp [T.ser]), hn x (by simp [T.ser])⟩
  | not x t ih => exact ⟨h x (by simp [T.ser]), ih (fun y hy => h y (by simp [T.ser, hy])) (fun y hy => hn y (by simp [T.ser, hy]))⟩
  | bin x a b iha ihb => exact ⟨h x (by simp [T.ser]), iha (fun y hy => h y (by simp [T.ser, hy])) (fun y hy => hn y (by simp [T.ser, hy])), ihb (fun y hy => h y (by simp [T.ser, hy])) (fun y hy => hn y (by simp [T.ser, hy]))⟩
theorem ok_cmp {cs : List Sc.C} {x : N} (h : okN cs x = true) (h6 : x.op ≤ 6) : x.v.right = true ∧ x.v.k = kindAt cs x.col := by
  unfold okN at h
  rw [if_pos h6] at h
  simp only [Bool.and_eq_true, decide_eq_true_eq] at h
  exact ⟨h.2.1, h.2.2⟩
theorem ok_null {cs : List Sc.C} {x : N} (h : okN cs x = true) (h6 : ¬ x.op ≤ 6) (h8 : x.op ≤ 8) : x = ⟨x.op, x.col, nul⟩ := by
  unfold okN at h
  rw [if_neg h6, if_pos h8] at h
  simp only [Bool.and_eq_true, decide_eq_true_eq] at h
  exact h.2
theorem ok_inner {cs : List Sc.C} {x : N} (h : okN cs x = true) (h8 : ¬ x.op ≤ 8) : x = ⟨x.op, 0, nul⟩ := by
  unfold okN at h
  rw [if_neg (by omega), if_neg h8] at h
  exact of_decide_eq_true h
theorem stop41 (r : List UInt8) : Stop (41 :: r) := by
  show (41 : UInt8) = 38 ∨ (41 : UInt8) = 124 ∨ (41 : UInt8) = 41
  exact .inr (.inr rfl)
theorem stop_no {r t : List UInt8} (h : Stop r) : r ≠ 61 :: t := by
  intro e
  subst e
  rcases h with h | h | h <;> cases h
theorem sign_noDig (op : Int) (t : List UInt8) : noDig (sign op ++ t) := by
  unfold sign
  repeat' split
  all_goals (show ¬ isDig _; unfold isDig; decide)
/-- what stands behind a sign: a value's text if the node has one -/
def Tail (op : Int) (z : List UInt8) : Prop := (op ≤ 6 ∧ ∀ t, z ≠ 61 :: t) ∨ (¬ op ≤ 6 ∧ Stop z)
theorem tail_no {op : Int} {z t : List UInt8} (h : Tail op z) : z ≠ 61 :: t := by
  rcases h with ⟨_, h⟩ | ⟨_, h⟩
  · exact h t
  · exact stop_no h
theorem sign_split {op op' : Int} {z z' : List UInt8} (o0 : 1 ≤ op) (o1 : op ≤ 8) (p0 : 1 ≤ op') (p1 : op' ≤ 8) (h : Tail op z) (h' : Tail op' z') (e : sign op ++ z = sign op' ++ z') : op = op' ∧ z = z' := by
  obtain rfl | rfl | rfl | rfl | rfl | rfl | rfl | rfl : op = 1 ∨ op = 2 ∨ op = 3 ∨ op = 4 ∨ op = 5 ∨ op = 6 ∨ op = 7 ∨ op = 8 := by omega
  all_goals
    obtain rfl | rfl | rfl | rfl | rfl | rfl | rfl | rfl : op' = 1 ∨ op' = 2 ∨ op' = 3 ∨ op' = 4 ∨ op' = 5 ∨ op' = 6 ∨ op' = 7 ∨ op' = 8 := by omega
    all_goals
      first
        | exact ⟨rfl, List.append_cancel_left e⟩
        | (have e1 := (List.cons.inj e).1; exact absurd e1 (by decide))
        | (have e2 : _ = _ := (List.cons.inj e).2; exact absurd e2 (tail_no h))
        | (have e2 : _ = _ := (List.cons.inj e).2; exact absurd e2.symm (tail_no h'))
theorem leaf_split {cs : List Sc.C} {x y : N} {r s : List UInt8} (hx : (T.leaf x).ok) (hy : (T.leaf y).ok) (gx : (T.leaf x).good cs) (gy : (T.leaf y).good cs) (hr : Stop r) (hs : Stop s) (e : leafTxt x ++ r = leafTxt y ++ s) : x = y ∧ r = s := by
  obtain ⟨o0, o1⟩ := hx
  obtain ⟨p0, p1⟩ := hy
  obtain ⟨gx, nx⟩ := gx
  obtain ⟨gy, ny⟩ := gy
  unfold leafTxt at e
  have e1 : Vl.decI x.col ++ (sign x.op ++ (if x.op ≤ 6 then Vl.txt x.v.k x.v.n x.v.b x.v.s else [])) ++ r = Vl.decI y.col ++ (sign y.op ++ (if y.op ≤ 6 then Vl.txt y.v.k y.v.n y.v.b y.v.s else [])) ++ s := (List.cons.inj e).2
  rw [List.append_assoc, List.append_assoc, List.append_assoc, List.append_assoc] at e1
  obtain ⟨ec, e2⟩ := decI_split (sign_noDig _ _) (sign_noDig _ _) e1
  have tl : ∀ (z : N) (q : List UInt8), okN cs z = true → Stop q → Tail z.op ((if z.op ≤ 6 then Vl.txt z.v.k z.v.n z.v.b z.v.s else []) ++ q) := by
    intro z q gz hq
    by_cases h6 : z.op ≤ 6
    · rw [if_pos h6]
      obtain ⟨c, t, e, hc⟩ := txt_head (k := z.v.k) (n := z.v.n) (b := z.v.b) (s := z.v.s) (ok_cmp gz h6).1
      refine .inl ⟨h6, fun t' e' => ?_⟩
      rw [e] at e'
      exact hc (List.cons.inj e').1
    · rw [if_neg h6]
      exact .inr ⟨h6, hq⟩
  obtain ⟨eo, e3⟩ := sign_split o0 o1 p0 p1 (tl x r gx hr) (tl y s gy hs) e2
  obtain ⟨op, col, ⟨k, n, b, v⟩⟩ := x
  obtain ⟨op', col', ⟨k', n', b', v'⟩⟩ := y
  simp only at ec eo e3 o0 o1
  subst ec eo
  by_cases h6 : op ≤ 6
  · rw [if_pos h6, if_pos h6] at e3
    obtain ⟨rx, kx⟩ := ok_cmp gx h6
    obtain ⟨ry, ky⟩ := ok_cmp gy h6
    simp only at kx ky
    have hk : k' = k := by rw [kx, ky]
    subst hk
    obtain ⟨ev, er⟩ := val_split rx ry nx.2.2.2.1 ny.2.2.2.1 hr hs e3
    exact ⟨by rw [ev], er⟩
  · rw [if_neg h6, if_neg h6] at e3
    have ex := ok_null gx h6 o1
    have ey := ok_null gy h6 o1
    exact ⟨ex.trans ey.symm, e3⟩
theorem txt_split {cs : List Sc.C} (t : T) : ∀ (t' : T) (r r' : List UInt8), t.ok → t'.ok → t.good cs → t'.good cs → Stop r → Stop r' → t.txt ++ r = t'.txt ++ r' → t = t' ∧ r = r' := by
  induction t with
  | leaf x =>
    intro t' r r' h h' g g' hr hr' e
    cases t' with
    | leaf y =>
      obtain ⟨a, b⟩ := leaf_split h h' g g' hr hr' e
      exact ⟨by rw [a], b⟩
    | not y t => exact absurd (List.cons.inj e).1 (by decide)
    | bin y a b => exact absurd (List.cons.inj e).1 (by decide)
  | not x t ih =>
    intro t' r r' h h' g g' hr hr' e
    cases t' with
    | leaf y => exact absurd (List.cons.inj e).1 (by decide)
    | not y t' =>
      obtain ⟨a, b⟩ := ih t' r r' h.2 h'.2 g.2 g'.2 hr hr' (List.cons.inj e).2
      have ex := ok_inner g.1 (by rw [h.1]; decide)
      have ey := ok_inner g'.1 (by rw [h'.1]; decide)
      exact ⟨by rw [ex, ey, h.1, h'.1, a], b⟩
    | bin y a b => exact absurd (List.cons.inj e).1 (by decide)
  | bin x a b iha ihb =>
    intro t' r r' h h' g g' hr hr' e
    cases t' with
    | leaf y => exact absurd (List.cons.inj e).1 (by decide)
    | not y t => exact absurd (List.cons.inj e).1 (by decide)
    | bin y a' b' =>
      have e1 := (List.cons.inj e).2
      have e2 : a.txt ++ ((if x.op = 9 then 38 else 124) :: (b.txt ++ (41 :: r))) = a'.txt ++ ((if y.op = 9 then 38 else 124) :: (b'.txt ++ (41 :: r'))) := by simpa using e1
      have st : ∀ (o : Int) (z : List UInt8), Stop ((if o = 9 then 38 else 124) :: z) := fun o z => by
        by_cases ho : o = 9
        · rw [if_pos ho]; exact .inl rfl
        · rw [if_neg ho]; exact .inr (.inl rfl)
      obtain ⟨ea, e3⟩ := iha a' _ _ h.2.1 h'.2.1 g.2.1 g'.2.1 (st _ _) (st _ _) e2
      have e4 := List.cons.inj e3
      obtain ⟨eb, e5⟩ := ihb b' _ _ h.2.2 h'.2.2 g.2.2 g'.2.2 (stop41 r) (stop41 r') e4.2
      have ex := ok_inner g.1 (by rcases h.1 with q | q <;> rw [q] <;> decide)
      have ey := ok_inner g'.1 (by rcases h'.1 with q | q <;> rw [q] <;> decide)
      have eo : x.op = y.op := by
        have e6 := e4.1
        rcases h.1 with q | q <;> rcases h'.1 with q' | q' <;> rw [q, q'] at e6 ⊢ <;> first | rfl | exact absurd e6 (by decide)
      refine ⟨?_, (List.cons.inj e5).2⟩
      rw [ex, ey, eo, ea, eb]
theorem txt_pos (t : T) : t.txt ≠ [] := by cases t <;> (intro h; cases h)
end Pd
end Go.Proofs.Ytfdehigepgeknaa
