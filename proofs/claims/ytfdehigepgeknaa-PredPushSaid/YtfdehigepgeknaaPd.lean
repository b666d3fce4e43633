/-
  Conditions plainly and in memory: nodes, slices of nodes, a node in a block of its own, nodes that are the same. No condition.
-/
import Derived.Test.YtfdehigepgeknaaPb
namespace Go.Proofs.Ytfdehigepgeknaa
open Go.RowKit

namespace Pd
/-- a part of a condition -/
structure N where
  op : Int
  col : Int
  v : Cd.V
theorem v_dec (x y : Cd.V) : (x.k = y.k ∧ x.n = y.n ∧ x.b = y.b ∧ x.s = y.s) ↔ x = y := by cases x; cases y; simp
instance nDec : DecidableEq N := fun a b => decidable_of_iff (a.op = b.op ∧ a.col = b.col ∧ a.v.k = b.v.k ∧ a.v.n = b.v.n ∧ a.v.b = b.v.b ∧ a.v.s = b.v.s) (by
  obtain ⟨o, c, ⟨k, n, e, s⟩⟩ := a
  obtain ⟨o', c', ⟨k', n', e', s'⟩⟩ := b
  simp)
/-- how many parts an Op has -/
def parts (op : Int) : Int := if op < 1 ∨ 11 < op then -1 else if op = 11 then 1 else if op = 9 ∨ op = 10 then 2 else 0
/-- how many nodes so many conditions have -/
def ends : Nat → List N → Option Nat
  | 0, _ => some 0
  | _ + 1, [] => none
  | k + 1, x :: r => if parts x.op < 0 then none else (ends (k + (parts x.op).toNat) r).map (· + 1)
def endI (l : List N) (i : Int) : Int := if i < 0 then -1 else match ends 1 (l.drop i.toNat) with | some n => i + (n : Int) | none => -1
def whole (l : List N) : Bool := decide (0 < l.length) && (decide (l.length ≤ 40) && decide (ends 1 l = some l.length))
theorem parts_cases (op : Int) : (parts op = -1 ∧ (op < 1 ∨ 11 < op)) ∨ (parts op = 0 ∧ 1 ≤ op ∧ op ≤ 8) ∨ (parts op = 2 ∧ (op = 9 ∨ op = 10)) ∨ (parts op = 1 ∧ op = 11) := by
  unfold parts
  split
  · exact .inl ⟨rfl, by assumption⟩
  · split
    · exact .inr (.inr (.inr ⟨rfl, by assumption⟩))
    · split
      · exact .inr (.inr (.inl ⟨rfl, by assumption⟩))
      · exact .inr (.inl ⟨rfl, by omega, by omega⟩)
theorem ends_le (k : Nat) : ∀ (l : List N) (n : Nat), ends k l = some n → n ≤ l.length := by
  intro l
  induction l generalizing k with
  | nil =>
    intro n h
    cases k with
    | zero => cases h; exact Nat.le_refl _
    | succ k => cases h
  | cons x r ih =>
    intro n h
    cases k with
    | zero => cases h; exact Nat.zero_le _
    | succ k =>
      unfold ends at h
      split at h
      · cases h
      · cases he : ends (k + (parts x.op).toNat) r with
        | none => rw [he] at h; cases h
        | some m => rw [he] at h; cases h; have := ih _ _ he; simp; omega
/-- a node that can stand in memory -/
def Nok (x : N) : Prop := (-9223372036854775808 ≤ x.op ∧ x.op ≤ 9223372036854775807) ∧ (-9223372036854775808 ≤ x.col ∧ x.col ≤ 9223372036854775807) ∧ Vok x.v
end Pd
open Pd
/-- a node as a value -/
def nv (x : N) : Value := .agg #[.int .i64 x.op, .int .i64 x.col, .int .i64 x.v.k, .int .i64 x.v.n, .int .u64 (x.v.b : Int), .string x.v.s]
/-- the slice v holds the nodes l -/
def NsAt (w : World) (v : Value) (l : List N) : Prop :=
  ∃ adr cap, v = .slice adr l.length cap ∧ ∀ k (hk : k < l.length), ∃ g off, adr = some ⟨g, off, none⟩ ∧ w.cell? ⟨g, off + k * 6, none⟩ = some (.int .i64 l[k].op) ∧ w.cell? ⟨g, off + k * 6 + 1, none⟩ = some (.int .i64 l[k].col) ∧
    w.cell? ⟨g, off + k * 6 + 2, none⟩ = some (.int .i64 l[k].v.k) ∧ w.cell? ⟨g, off + k * 6 + 3, none⟩ = some (.int .i64 l[k].v.n) ∧ w.cell? ⟨g, off + k * 6 + 4, none⟩ = some (.int .u64 (l[k].v.b : Int)) ∧ w.cell? ⟨g, off + k * 6 + 5, none⟩ = some (.string l[k].v.s)
theorem NsAt.below {w w' : World} {v : Value} {l : List N} (h : NsAt w v l) (hb : Below w.heap.size w w') : NsAt w' v l := by
  obtain ⟨adr, cap, rfl, hc⟩ := h
  refine ⟨adr, cap, rfl, fun k hk => ?_⟩
  obtain ⟨g, off, rfl, q0, q1, q2, q3, q4, q5⟩ := hc k hk
  exact ⟨g, off, rfl, hkeep q0 hb, hkeep q1 hb, hkeep q2 hb, hkeep q3 hb, hkeep q4 hb, hkeep q5 hb⟩
theorem NsAt.slc {w : World} {v : Value} {l : List N} (h : NsAt w v l) : ∃ adr cap, v = .slice adr l.length cap := by
  obtain ⟨adr, cap, rfl, _⟩ := h; exact ⟨adr, cap, rfl⟩
/-- the nodes' cells, one behind the other -/
def ncells (l : List N) : List Value := l.flatMap fun x => [.int .i64 x.op, .int .i64 x.col, .int .i64 x.v.k, .int .i64 x.v.n, .int .u64 (x.v.b : Int), .string x.v.s]
theorem ncells_append (l r : List N) : ncells (l ++ r) = ncells l ++ ncells r := by simp [ncells]
theorem ncells_length (l : List N) : (ncells l).length = l.length * 6 := by
  induction l with
  | nil => rfl
  | cons s l ih => show (_ :: _ :: _ :: _ :: _ :: _ :: ncells l).length = _; simp [ih]; omega
theorem ncells_get {l : List N} {j : Nat} {s : N} (h : l[j]? = some s) : (ncells l)[j * 6]? = some (.int .i64 s.op) ∧ (ncells l)[j * 6 + 1]? = some (.int .i64 s.col) ∧ (ncells l)[j * 6 + 2]? = some (.int .i64 s.v.k) ∧ (ncells l)[j * 6 + 3]? = some (.int .i64 s.v.n) ∧ (ncells l)[j * 6 + 4]? = some (.int .u64 (s.v.b : Int)) ∧ (ncells l)[j * 6 + 5]? = some (.string s.v.s) := by
  induction l generalizing j with
  | nil => simp at h
  | cons x l ih =>
    have e : ncells (x :: l) = [.int .i64 x.op, .int .i64 x.col, .int .i64 x.v.k, .int .i64 x.v.n, .int .u64 (x.v.b : Int), .string x.v.s] ++ ncells l := rfl
    cases j with
    | zero => simp at h; subst h; exact ⟨rfl, rfl, rfl, rfl, rfl, rfl⟩
    | succ j =>
      simp only [List.getElem?_cons_succ] at h
      have g : ∀ i, (ncells (x :: l))[(j + 1) * 6 + i]? = (ncells l)[j * 6 + i]? := by
        intro i
        rw [e, List.getElem?_append_right (by simp; omega)]
        congr 1; simp; omega
      have := ih h
      refine ⟨(g 0).trans this.1, (g 1).trans this.2.1, (g 2).trans this.2.2.1, (g 3).trans this.2.2.2.1, (g 4).trans this.2.2.2.2.1, (g 5).trans this.2.2.2.2.2⟩
theorem ncells_one_cell (l : List N) : ∀ u ∈ ncells l, u.oneCell' = true := by
  intro u hu
  obtain ⟨s, _, hs⟩ := List.mem_flatMap.1 hu
  simp at hs
  rcases hs with rfl | rfl | rfl | rfl | rfl | rfl <;> rfl
theorem NsAt.row {w : World} {g cap : Nat} {t : TypeId} {l : List N} {cur : Array Value} (hg : w.heap[g]? = some (.cells cur t (0, 0))) (ht : cur.toList.take (l.length * 6) = ncells l) : NsAt w (.slice (some ⟨g, 0, none⟩) l.length cap) l := by
  refine ⟨_, cap, rfl, fun k hk => ⟨g, 0, rfl, ?_⟩⟩
  have hc : ∀ i u, (ncells l)[i]? = some u → w.cell? ⟨g, 0 + i, none⟩ = some u := by
    intro i u hi
    rw [Nat.zero_add, cell_of_row w g i cur _ (0, 0) hg]
    rw [← ht, List.getElem?_take] at hi
    split at hi
    · simpa using hi
    · cases hi
  obtain ⟨g0, g1, g2, g3, g4, g5⟩ := ncells_get (List.getElem?_eq_getElem hk)
  exact ⟨hc _ _ g0, by rw [Nat.add_assoc]; exact hc _ _ g1, by rw [Nat.add_assoc]; exact hc _ _ g2, by rw [Nat.add_assoc]; exact hc _ _ g3, by rw [Nat.add_assoc]; exact hc _ _ g4, by rw [Nat.add_assoc]; exact hc _ _ g5⟩
theorem NsAt.own {w : World} {B : Nat} {t : TypeId} {v : Value} {l : List N} (h : w.ownsRow B t 6 v l.length (ncells l)) : NsAt w v l := by
  rcases h.2 with ⟨rfl, hn⟩ | ⟨g, cap, cur, rfl, hB, hg, hn, _, hs, ht⟩
  · exact ⟨none, 0, by rw [hn], fun k hk => by omega⟩
  · exact NsAt.row hg ht
/-- a node in a block of its own -/
def BN (t : TypeId) (w : World) (g : Nat) (x : N) : Prop := w.heap[g]? = some (.cells #[.int .i64 x.op, .int .i64 x.col, .int .i64 x.v.k, .int .i64 x.v.n, .int .u64 (x.v.b : Int), .string x.v.s] t (0, 0))
theorem BN.cells {t : TypeId} {w : World} {g : Nat} {x : N} (h : BN t w g x) : w.cell? ⟨g, 0, none⟩ = some (.int .i64 x.op) ∧ w.cell? ⟨g, 1, none⟩ = some (.int .i64 x.col) ∧ w.cell? ⟨g, 2, none⟩ = some (.int .i64 x.v.k) ∧ w.cell? ⟨g, 3, none⟩ = some (.int .i64 x.v.n) ∧ w.cell? ⟨g, 4, none⟩ = some (.int .u64 (x.v.b : Int)) ∧ w.cell? ⟨g, 5, none⟩ = some (.string x.v.s) ∧
    w.frozen? ⟨g, 0, none⟩ = false ∧ w.frozen? ⟨g, 1, none⟩ = false ∧ w.frozen? ⟨g, 2, none⟩ = false ∧ w.frozen? ⟨g, 3, none⟩ = false ∧ w.frozen? ⟨g, 4, none⟩ = false ∧ w.frozen? ⟨g, 5, none⟩ = false ∧ g < w.heap.size :=
  ⟨cell_of_row w g 0 _ _ _ h, cell_of_row w g 1 _ _ _ h, cell_of_row w g 2 _ _ _ h, cell_of_row w g 3 _ _ _ h, cell_of_row w g 4 _ _ _ h, cell_of_row w g 5 _ _ _ h, frozen_of_row w g 0 _ _ h, frozen_of_row w g 1 _ _ h, frozen_of_row w g 2 _ _ h, frozen_of_row w g 3 _ _ h, frozen_of_row w g 4 _ _ h, frozen_of_row w g 5 _ _ h, (Array.getElem?_eq_some_iff.1 h).1⟩
theorem BN.keep {t : TypeId} {w w' : World} {g : Nat} {x : N} (h : BN t w g x) (hb : Below w.heap.size w w') : BN t w' g x := keepBlock h hb
theorem BN.new (t : TypeId) (w : World) (x : N) : BN t (w.alloc (.cells #[.int .i64 x.op, .int .i64 x.col, .int .i64 x.v.k, .int .i64 x.v.n, .int .u64 (x.v.b : Int), .string x.v.s] t)) w.heap.size x := heap_alloc_new w _
theorem nHeld : Try.prog.stoodInHeld 41 = false := by kernel_rfl
theorem n_equalIn (x y : N) (w : World) : (Op.equalIn 10000 41 (nv x) (nv y)).run Try.prog w = .ok (decide (x = y)) w := by
  have hd : decide (x = y) = (x.op == y.op && (x.col == y.col && (x.v.k == y.v.k && (x.v.n == y.v.n && ((x.v.b : Int) == (y.v.b : Int) && decide (x.v.s = y.v.s)))))) := by
    rw [Bool.eq_iff_iff]
    obtain ⟨o, c, ⟨k, n, b, s⟩⟩ := x
    obtain ⟨o', c', ⟨k', n', b', s'⟩⟩ := y
    simp
    intros; omega
  rw [hd, ← bytes_beq]
  unfold nv
  rw [run_equalIn_agg w 9999 41 _ _ (by kernel_rfl) nHeld]
  cases h1 : (x.op == y.op) with
  | false => go_simp
  | true =>
    cases h2 : (x.col == y.col) with
    | false => go_simp
    | true =>
      cases h3 : (x.v.k == y.v.k) <;> cases h4 : (x.v.n == y.v.n) <;> cases h5 : ((x.v.b : Int) == (y.v.b : Int)) <;> cases h6 : (x.v.s.toList == y.v.s.toList)
      all_goals
        go_simp
theorem n_eql (x y : N) (r : Bool) (h : decide (x = y) = r) (w : World) : (binOp .eql 41 (nv x) (nv y)).run Try.prog w = .ok (.bool r) w := by
  subst h
  have h := n_equalIn x y w
  unfold nv at h ⊢
  simp [binOp, Op.equal, Op.maxDepth, h]
theorem n_neq (x y : N) (r : Bool) (h : decide (x = y) = r) (w : World) : (binOp .neq 41 (nv x) (nv y)).run Try.prog w = .ok (.bool (!r)) w := by
  subst h
  have h := n_equalIn x y w
  unfold nv at h ⊢
  simp [binOp, Op.equal, Op.maxDepth, h]
theorem mHeld : Try.prog.stoodInHeld 44 = false := by kernel_rfl
theorem m_equalIn (x y : N) (w : World) : (Op.equalIn 10000 44 (nv x) (nv y)).run Try.prog w = .ok (decide (x = y)) w := by
  have hd : decide (x = y) = (x.op == y.op && (x.col == y.col && (x.v.k == y.v.k && (x.v.n == y.v.n && ((x.v.b : Int) == (y.v.b : Int) && decide (x.v.s = y.v.s)))))) := by
    rw [Bool.eq_iff_iff]
    obtain ⟨o, c, ⟨k, n, b, s⟩⟩ := x
    obtain ⟨o', c', ⟨k', n', b', s'⟩⟩ := y
    simp
    intros; omega
  rw [hd, ← bytes_beq]
  unfold nv
  rw [run_equalIn_agg w 9999 44 _ _ (by kernel_rfl) mHeld]
  cases h1 : (x.op == y.op) with
  | false => go_simp
  | true =>
    cases h2 : (x.col == y.col) with
    | false => go_simp
    | true =>
      cases h3 : (x.v.k == y.v.k) <;> cases h4 : (x.v.n == y.v.n) <;> cases h5 : ((x.v.b : Int) == (y.v.b : Int)) <;> cases h6 : (x.v.s.toList == y.v.s.toList)
      all_goals
        go_simp
theorem m_neq (x y : N) (r : Bool) (h : decide (x = y) = r) (w : World) : (binOp .neq 44 (nv x) (nv y)).run Try.prog w = .ok (.bool (!r)) w := by
  subst h
  have h := m_equalIn x y w
  unfold nv at h ⊢
  simp [binOp, Op.equal, Op.maxDepth, h]
end Go.Proofs.Ytfdehigepgeknaa
