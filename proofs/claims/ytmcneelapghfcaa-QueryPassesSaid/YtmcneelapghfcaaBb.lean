/-
  Contracts and laws of the layers below, put together: Pd Pe Pf Pg Pt. Conditions: where they are named.
-/
import Derived.Test.YtmcneelapghfcaaBa

namespace Go.Proofs.Ytmcneelapghfcaa
open Go.RowKit

namespace Pd
/-- a part of a condition -/
structure N where
  op : Int
  col : Int
  v : Cd.V
instance nDec : DecidableEq N := fun a b => decidable_of_iff (a.op = b.op ∧ a.col = b.col ∧ a.v.k = b.v.k ∧ a.v.n = b.v.n ∧ a.v.b = b.v.b ∧ a.v.s = b.v.s) (by
  obtain ⟨o, c, ⟨k, n, e, s⟩⟩ := a
  obtain ⟨o', c', ⟨k', n', e', s'⟩⟩ := b
  simp)
/-- how many parts an Op has -/
def parts (op : Int) : Int := if op < 1 ∨ 11 < op then -1 else if op = 11 then 1 else if op = 9 ∨ op = 10 then 2 else 0
/-- how many nodes so many conditions have -/
def ends : Nat → List N → Option Nat
  | 0, _ => some 0
  | _ + 1, [] => none
  | k + 1, x :: r => if parts x.op < 0 then none else (ends (k + (parts x.op).toNat) r).map (· + 1)
def endI (l : List N) (i : Int) : Int := if i < 0 then -1 else match ends 1 (l.drop i.toNat) with | some n => i + (n : Int) | none => -1
def whole (l : List N) : Bool := decide (0 < l.length) && (decide (l.length ≤ 40) && decide (ends 1 l = some l.length))
theorem parts_cases (op : Int) : (parts op = -1 ∧ (op < 1 ∨ 11 < op)) ∨ (parts op = 0 ∧ 1 ≤ op ∧ op ≤ 8) ∨ (parts op = 2 ∧ (op = 9 ∨ op = 10)) ∨ (parts op = 1 ∧ op = 11) := by
  unfold parts
  split
  · exact .inl ⟨rfl, by assumption⟩
  · split
    · exact .inr (.inr (.inr ⟨rfl, by assumption⟩))
    · split
      · exact .inr (.inr (.inl ⟨rfl, by assumption⟩))
      · exact .inr (.inl ⟨rfl, by omega, by omega⟩)
theorem ends_le (k : Nat) : ∀ (l : List N) (n : Nat), ends k l = some n → n ≤ l.length := by
  intro l
  induction l generalizing k with
  | nil =>
    intro n h
    cases k with
    | zero => cases h; exact Nat.le_refl _
    | succ k => cases h
  | cons x r ih =>
    intro n h
    cases k with
    | zero => cases h; exact Nat.zero_le _
    | succ k =>
      unfold ends at h
      split at h
      · cases h
      · cases he : ends (k + (parts x.op).toNat) r with
        | none => rw [he] at h; cases h
        | some m => rw [he] at h; cases h; have := ih _ _ he; simp; omega
/-- a node that can stand in memory -/
def Nok (x : N) : Prop := (-9223372036854775808 ≤ x.op ∧ x.op ≤ 9223372036854775807) ∧ (-9223372036854775808 ≤ x.col ∧ x.col ≤ 9223372036854775807) ∧ Vok x.v
end Pd
open Pd
/-- a node as a value -/
def nv (x : N) : Value := .agg #[.int .i64 x.op, .int .i64 x.col, .int .i64 x.v.k, .int .i64 x.v.n, .int .u64 (x.v.b : Int), .string x.v.s]
/-- the slice v holds the nodes l -/
def NsAt (w : World) (v : Value) (l : List N) : Prop :=
  ∃ adr cap, v = .slice adr l.length cap ∧ ∀ k (hk : k < l.length), ∃ g off, adr = some ⟨g, off, none⟩ ∧ w.cell? ⟨g, off + k * 6, none⟩ = some (.int .i64 l[k].op) ∧ w.cell? ⟨g, off + k * 6 + 1, none⟩ = some (.int .i64 l[k].col) ∧
    w.cell? ⟨g, off + k * 6 + 2, none⟩ = some (.int .i64 l[k].v.k) ∧ w.cell? ⟨g, off + k * 6 + 3, none⟩ = some (.int .i64 l[k].v.n) ∧ w.cell? ⟨g, off + k * 6 + 4, none⟩ = some (.int .u64 (l[k].v.b : Int)) ∧ w.cell? ⟨g, off + k * 6 + 5, none⟩ = some (.string l[k].v.s)
theorem NsAt.below {w w' : World} {v : Value} {l : List N} (h : NsAt w v l) (hb : Below w.heap.size w w') : NsAt w' v l := by
  obtain ⟨adr, cap, rfl, hc⟩ := h
  refine ⟨adr, cap, rfl, fun k hk => ?_⟩
  obtain ⟨g, off, rfl, q0, q1, q2, q3, q4, q5⟩ := hc k hk
  exact ⟨g, off, rfl, hkeep q0 hb, hkeep q1 hb, hkeep q2 hb, hkeep q3 hb, hkeep q4 hb, hkeep q5 hb⟩
theorem NsAt.slc {w : World} {v : Value} {l : List N} (h : NsAt w v l) : ∃ adr cap, v = .slice adr l.length cap := by
  obtain ⟨adr, cap, rfl, _⟩ := h; exact ⟨adr, cap, rfl⟩
/-- the nodes' cells, one behind the other -/
def ncells (l : List N) : List Value := l.flatMap fun x => [.int .i64 x.op, .int .i64 x.col, .int .i64 x.v.k, .int .i64 x.v.n, .int .u64 (x.v.b : Int), .string x.v.s]
theorem ncells_append (l r : List N) : ncells (l ++ r) = ncells l ++ ncells r := by simp [ncells]
theorem ncells_length (l : List N) : (ncells l).length = l.length * 6 := by
  induction l with
  | nil => rfl
  | cons s l ih => show (_ :: _ :: _ :: _ :: _ :: _ :: ncells l).length = _; simp [ih]; omega
theorem ncells_get {l : List N} {j : Nat} {s : N} (h : l[j]? = some s) : (ncells l)[j * 6]? = some (.int .i64 s.op) ∧ (ncells l)[j * 6 + 1]? = some (.int .i64 s.col) ∧ (ncells l)[j * 6 + 2]? = some (.int .i64 s.v.k) ∧ (ncells l)[j * 6 + 3]? = some (.int .i64 s.v.n) ∧ (ncells l)[j * 6 + 4]? = some (.int .u64 (s.v.b : Int)) ∧ (ncells l)[j * 6 + 5]? = some (.string s.v.s) := by
  induction l generalizing j with
  | nil => simp at h
  | cons x l ih =>
    have e : ncells (x :: l) = [.int .i64 x.op, .int .i64 x.col, .int .i64 x.v.k, .int .i64 x.v.n, .int .u64 (x.v.b : Int), .string x.v.s] ++ ncells l := rfl
    cases j with
    | zero => simp at h; subst h; exact ⟨rfl, rfl, rfl, rfl, rfl, rfl⟩
    | succ j =>
      simp only [List.getElem?_cons_succ] at h
      have g : ∀ i, (ncells (x :: l))[(j + 1) * 6 + i]? = (ncells l)[j * 6 + i]? := by
        intro i
        rw [e, List.getElem?_append_right (by simp; omega)]
        congr 1; simp; omega
      have := ih h
      refine ⟨(g 0).trans this.1, (g 1).trans this.2.1, (g 2).trans this.2.2.1, (g 3).trans this.2.2.2.1, (g 4).trans this.2.2.2.2.1, (g 5).trans this.2.2.2.2.2⟩
theorem ncells_one_cell (l : List N) : ∀ u ∈ ncells l, u.oneCell' = true := by
  intro u hu
  obtain ⟨s, _, hs⟩ := List.mem_flatMap.1 hu
  simp at hs
  rcases hs with rfl | rfl | rfl | rfl | rfl | rfl <;> rfl
theorem NsAt.row {w : World} {g cap : Nat} {t : TypeId} {l : List N} {cur : Array Value} (hg : w.heap[g]? = some (.cells cur t (0, 0))) (ht : cur.toList.take (l.length * 6) = ncells l) : NsAt w (.slice (some ⟨g, 0, none⟩) l.length cap) l := by
  refine ⟨_, cap, rfl, fun k hk => ⟨g, 0, rfl, ?_⟩⟩
  have hc : ∀ i u, (ncells l)[i]? = some u → w.cell? ⟨g, 0 + i, none⟩ = some u := by
    intro i u hi
    rw [Nat.zero_add, cell_of_row w g i cur _ (0, 0) hg]
    rw [← ht, List.getElem?_take] at hi
    split at hi
    · simpa using hi
    · cases hi
  obtain ⟨g0, g1, g2, g3, g4, g5⟩ := ncells_get (List.getElem?_eq_getElem hk)
  exact ⟨hc _ _ g0, by rw [Nat.add_assoc]; exact hc _ _ g1, by rw [Nat.add_assoc]; exact hc _ _ g2, by rw [Nat.add_assoc]; exact hc _ _ g3, by rw [Nat.add_assoc]; exact hc _ _ g4, by rw [Nat.add_assoc]; exact hc _ _ g5⟩
theorem NsAt.own {w : World} {B : Nat} {t : TypeId} {v : Value} {l : List N} (h : w.ownsRow B t 6 v l.length (ncells l)) : NsAt w v l := by
  rcases h.2 with ⟨rfl, hn⟩ | ⟨g, cap, cur, rfl, hB, hg, hn, _, hs, ht⟩
  · exact ⟨none, 0, by rw [hn], fun k hk => by omega⟩
  · exact NsAt.row hg ht
/-- a node in a block of its own -/
def BN (t : TypeId) (w : World) (g : Nat) (x : N) : Prop := w.heap[g]? = some (.cells #[.int .i64 x.op, .int .i64 x.col, .int .i64 x.v.k, .int .i64 x.v.n, .int .u64 (x.v.b : Int), .string x.v.s] t (0, 0))
theorem BN.cells {t : TypeId} {w : World} {g : Nat} {x : N} (h : BN t w g x) : w.cell? ⟨g, 0, none⟩ = some (.int .i64 x.op) ∧ w.cell? ⟨g, 1, none⟩ = some (.int .i64 x.col) ∧ w.cell? ⟨g, 2, none⟩ = some (.int .i64 x.v.k) ∧ w.cell? ⟨g, 3, none⟩ = some (.int .i64 x.v.n) ∧ w.cell? ⟨g, 4, none⟩ = some (.int .u64 (x.v.b : Int)) ∧ w.cell? ⟨g, 5, none⟩ = some (.string x.v.s) ∧
    w.frozen? ⟨g, 0, none⟩ = false ∧ w.frozen? ⟨g, 1, none⟩ = false ∧ w.frozen? ⟨g, 2, none⟩ = false ∧ w.frozen? ⟨g, 3, none⟩ = false ∧ w.frozen? ⟨g, 4, none⟩ = false ∧ w.frozen? ⟨g, 5, none⟩ = false ∧ g < w.heap.size :=
  ⟨cell_of_row w g 0 _ _ _ h, cell_of_row w g 1 _ _ _ h, cell_of_row w g 2 _ _ _ h, cell_of_row w g 3 _ _ _ h, cell_of_row w g 4 _ _ _ h, cell_of_row w g 5 _ _ _ h, frozen_of_row w g 0 _ _ h, frozen_of_row w g 1 _ _ h, frozen_of_row w g 2 _ _ h, frozen_of_row w g 3 _ _ h, frozen_of_row w g 4 _ _ h, frozen_of_row w g 5 _ _ h, (Array.getElem?_eq_some_iff.1 h).1⟩
theorem BN.keep {t : TypeId} {w w' : World} {g : Nat} {x : N} (h : BN t w g x) (hb : Below w.heap.size w w') : BN t w' g x := keepBlock h hb
theorem BN.new (t : TypeId) (w : World) (x : N) : BN t (w.alloc (.cells #[.int .i64 x.op, .int .i64 x.col, .int .i64 x.v.k, .int .i64 x.v.n, .int .u64 (x.v.b : Int), .string x.v.s] t)) w.heap.size x := heap_alloc_new w _
theorem nHeld : Try.prog.stoodInHeld 65 = false := by kernel_rfl
theorem n_equalIn (x y : N) (w : World) : (Op.equalIn 10000 65 (nv x) (nv y)).run Try.prog w = .ok (decide (x = y)) w := by
  have hd : decide (x = y) = (x.op == y.op && (x.col == y.col && (x.v.k == y.v.k && (x.v.n == y.v.n && ((x.v.b : Int) == (y.v.b : Int) && decide (x.v.s = y.v.s)))))) := by
    rw [Bool.eq_iff_iff]
    obtain ⟨o, c, ⟨k, n, b, s⟩⟩ := x
    obtain ⟨o', c', ⟨k', n', b', s'⟩⟩ := y
    simp
    intros; omega
  rw [hd, ← bytes_beq]
  unfold nv
  rw [run_equalIn_agg w 9999 65 _ _ (by kernel_rfl) nHeld]
  cases h1 : (x.op == y.op) with
  | false => go_simp
  | true =>
    cases h2 : (x.col == y.col) with
    | false => go_simp
    | true =>
      cases h3 : (x.v.k == y.v.k) <;> cases h4 : (x.v.n == y.v.n) <;> cases h5 : ((x.v.b : Int) == (y.v.b : Int)) <;> cases h6 : (x.v.s.toList == y.v.s.toList)
      all_goals
        go_simp
theorem n_neq (x y : N) (r : Bool) (h : decide (x = y) = r) (w : World) : (binOp .neq 65 (nv x) (nv y)).run Try.prog w = .ok (.bool (!r)) w := by
  subst h
  have h := n_equalIn x y w
  unfold nv at h ⊢
  simp [binOp, Op.equal, Op.maxDepth, h]
theorem mHeld : Try.prog.stoodInHeld 83 = false := by kernel_rfl
theorem m_equalIn (x y : N) (w : World) : (Op.equalIn 10000 83 (nv x) (nv y)).run Try.prog w = .ok (decide (x = y)) w := by
  have hd : decide (x = y) = (x.op == y.op && (x.col == y.col && (x.v.k == y.v.k && (x.v.n == y.v.n && ((x.v.b : Int) == (y.v.b : Int) && decide (x.v.s = y.v.s)))))) := by
    rw [Bool.eq_iff_iff]
    obtain ⟨o, c, ⟨k, n, b, s⟩⟩ := x
    obtain ⟨o', c', ⟨k', n', b', s'⟩⟩ := y
    simp
    intros; omega
  rw [hd, ← bytes_beq]
  unfold nv
  rw [run_equalIn_agg w 9999 83 _ _ (by kernel_rfl) mHeld]
  cases h1 : (x.op == y.op) with
  | false => go_simp
  | true =>
    cases h2 : (x.col == y.col) with
    | false => go_simp
    | true =>
      cases h3 : (x.v.k == y.v.k) <;> cases h4 : (x.v.n == y.v.n) <;> cases h5 : ((x.v.b : Int) == (y.v.b : Int)) <;> cases h6 : (x.v.s.toList == y.v.s.toList)
      all_goals
        go_simp
theorem m_neq (x y : N) (r : Bool) (h : decide (x = y) = r) (w : World) : (binOp .neq 83 (nv x) (nv y)).run Try.prog w = .ok (.bool (!r)) w := by
  subst h
  have h := m_equalIn x y w
  unfold nv at h ⊢
  simp [binOp, Op.equal, Op.maxDepth, h]
end Go.Proofs.Ytmcneelapghfcaa

namespace Go.Proofs.Ytmcneelapghfcaa
open Go.RowKit Pd

set_option maxRecDepth 100000 in
set_option maxHeartbeats 3200000 in
theorem parts_any (op : Int) (w : World) : Calls Try.prog 64 #[.int .i64 op] w fun e w' => e = .returned (.int .i64 (parts op)) ∧ w = w' := by
  by_cases h0 : op < 1
  · have HE : Hid (parts op = -1) := if_pos (.inl h0)
    have g0 : op < 1 := h0
    have g1 : ¬ (1 : Int) ≤ op := by omega
    have g9 : (op == 9) = false := by rw [beq_eq_false_iff_ne]; omega
    have g10 : (op == 10) = false := by rw [beq_eq_false_iff_ne]; omega
    have g11 : (op == 11) = false := by rw [beq_eq_false_iff_ne]; omega
    go_enter Try.func64, Try.ntmps64
    go_wp2_with fail
    go_ret
    rw [HE.out]
    exact ⟨rfl, rfl⟩
  · skip
    by_cases h1 : 11 < op
    · have HE : Hid (parts op = -1) := if_pos (.inr h1)
      have g0 : ¬ op ≤ 10 := by omega
      have g9 : (op == 9) = false := by rw [beq_eq_false_iff_ne]; omega
      have g10 : (op == 10) = false := by rw [beq_eq_false_iff_ne]; omega
      have g11 : (op == 11) = false := by rw [beq_eq_false_iff_ne]; omega
      have g1 : (1 : Int) ≤ op := by omega
      have g8 : ¬ op ≤ 8 := by omega
      go_enter Try.func64, Try.ntmps64
      go_wp2_with fail
      go_ret
      rw [HE.out]
      exact ⟨rfl, rfl⟩
    · skip
      by_cases h2 : op = 11
      · subst h2
        have HE : Hid (parts 11 = 1) := rfl
        go_enter Try.func64, Try.ntmps64
        go_wp2_with fail
        go_ret
        rw [HE.out]
        exact ⟨rfl, rfl⟩
      · skip
        by_cases h3 : op = 9
        · subst h3
          have HE : Hid (parts 9 = 2) := rfl
          go_enter Try.func64, Try.ntmps64
          go_wp2_with fail
          go_ret
          rw [HE.out]
          exact ⟨rfl, rfl⟩
        · skip
          by_cases h4 : op = 10
          · subst h4
            have HE : Hid (parts 10 = 2) := rfl
            go_enter Try.func64, Try.ntmps64
            go_wp2_with fail
            go_ret
            rw [HE.out]
            exact ⟨rfl, rfl⟩
          · skip
            have HE : Hid (parts op = 0) := by show _ = _; unfold parts; rw [if_neg (by omega), if_neg h2, if_neg (by omega)]
            have g1 : (1 : Int) ≤ op := by omega
            have g8 : op ≤ 8 := by omega
            have g9 : (op == 9) = false := by rw [beq_eq_false_iff_ne]; omega
            have g10 : (op == 10) = false := by rw [beq_eq_false_iff_ne]; omega
            have g11 : (op == 11) = false := by rw [beq_eq_false_iff_ne]; omega
            go_enter Try.func64, Try.ntmps64
            go_wp2_with fail
            go_ret
            rw [HE.out]
            exact ⟨rfl, rfl⟩
set_option maxRecDepth 100000 in
set_option maxHeartbeats 3200000 in
theorem kids_any (op : Int) (w : World) : Calls Try.prog 111 #[.int .i64 op] w fun e w' => e = .returned (.int .i64 (parts op)) ∧ w = w' := by
  by_cases h0 : op < 1
  · have HE : Hid (parts op = -1) := if_pos (.inl h0)
    have g0 : op < 1 := h0
    have g1 : ¬ (1 : Int) ≤ op := by omega
    have g9 : (op == 9) = false := by rw [beq_eq_false_iff_ne]; omega
    have g10 : (op == 10) = false := by rw [beq_eq_false_iff_ne]; omega
    have g11 : (op == 11) = false := by rw [beq_eq_false_iff_ne]; omega
    go_enter Try.func111, Try.ntmps111
    go_wp2_with fail
    go_ret
    rw [HE.out]
    exact ⟨rfl, rfl⟩
  · skip
    by_cases h1 : 11 < op
    · have HE : Hid (parts op = -1) := if_pos (.inr h1)
      have g0 : ¬ op ≤ 10 := by omega
      have g9 : (op == 9) = false := by rw [beq_eq_false_iff_ne]; omega
      have g10 : (op == 10) = false := by rw [beq_eq_false_iff_ne]; omega
      have g11 : (op == 11) = false := by rw [beq_eq_false_iff_ne]; omega
      have g1 : (1 : Int) ≤ op := by omega
      have g8 : ¬ op ≤ 8 := by omega
      go_enter Try.func111, Try.ntmps111
      go_wp2_with fail
      go_ret
      rw [HE.out]
      exact ⟨rfl, rfl⟩
    · skip
      by_cases h2 : op = 11
      · subst h2
        have HE : Hid (parts 11 = 1) := rfl
        go_enter Try.func111, Try.ntmps111
        go_wp2_with fail
        go_ret
        rw [HE.out]
        exact ⟨rfl, rfl⟩
      · skip
        by_cases h3 : op = 9
        · subst h3
          have HE : Hid (parts 9 = 2) := rfl
          go_enter Try.func111, Try.ntmps111
          go_wp2_with fail
          go_ret
          rw [HE.out]
          exact ⟨rfl, rfl⟩
        · skip
          by_cases h4 : op = 10
          · subst h4
            have HE : Hid (parts 10 = 2) := rfl
            go_enter Try.func111, Try.ntmps111
            go_wp2_with fail
            go_ret
            rw [HE.out]
            exact ⟨rfl, rfl⟩
          · skip
            have HE : Hid (parts op = 0) := by show _ = _; unfold parts; rw [if_neg (by omega), if_neg h2, if_neg (by omega)]
            have g1 : (1 : Int) ≤ op := by omega
            have g8 : op ≤ 8 := by omega
            have g9 : (op == 9) = false := by rw [beq_eq_false_iff_ne]; omega
            have g10 : (op == 10) = false := by rw [beq_eq_false_iff_ne]; omega
            have g11 : (op == 11) = false := by rw [beq_eq_false_iff_ne]; omega
            go_enter Try.func111, Try.ntmps111
            go_wp2_with fail
            go_ret
            rw [HE.out]
            exact ⟨rfl, rfl⟩
namespace Pd
def tr (b : Bool) : Int := if b then 1 else 0
def notI (t : Int) : Int := if t = -1 then -1 else 1 - t
def andI (a b : Int) : Int := if a = 0 ∨ b = 0 then 0 else if a = -1 ∨ b = -1 then -1 else 1
def opB (op c : Int) : Bool := if op = 1 then decide (c = 0) else if op = 2 then !decide (c = 0) else if op = 3 then decide (c < 0) else if op = 4 then decide (c ≤ 0) else if op = 5 then decide (0 < c) else decide (0 ≤ c)
def leafV (x : N) (y : Cd.V) : Int := if x.op = 7 then tr (decide (y.k = 0)) else if x.op = 8 then tr (!decide (y.k = 0)) else if y.k = 0 ∨ x.v.k = 0 then -1 else tr (opB x.op (Ky.cmp y x.v))
def otherOp (op : Int) : Int := if op = 1 then 2 else if op = 2 then 1 else if op = 3 then 6 else if op = 6 then 3 else if op = 4 then 5 else if op = 5 then 4 else if op = 7 then 8 else if op = 8 then 7 else if op = 9 then 10 else if op = 10 then 9 else 0
def other (x : N) : N := ⟨otherOp x.op, x.col, x.v⟩
end Pd
set_option maxRecDepth 100000 in
set_option maxHeartbeats 3200000 in
theorem truth_any (b : Bool) (w : World) : Calls Try.prog 98 #[.bool b] w fun e w' => e = .returned (.int .i64 (tr b)) ∧ w = w' := by
  cases b
  all_goals
    go_enter Try.func98, Try.ntmps98
    go_wp2_with fail
    go_ret
    exact ⟨rfl, rfl⟩
set_option maxRecDepth 100000 in
set_option maxHeartbeats 3200000 in
theorem truthR_any (b : Bool) (w : World) : Calls Try.prog 116 #[.bool b] w fun e w' => e = .returned (.int .i64 (tr b)) ∧ w = w' := by
  cases b
  all_goals
    go_enter Try.func116, Try.ntmps116
    go_wp2_with fail
    go_ret
    exact ⟨rfl, rfl⟩
set_option maxRecDepth 100000 in
set_option maxHeartbeats 3200000 in
theorem not_any (t : Int) (h0 : -1 ≤ t) (h1 : t ≤ 1) (w : World) : Calls Try.prog 69 #[.int .i64 t] w fun e w' => e = .returned (.int .i64 (notI t)) ∧ w = w' := by
  obtain rfl | rfl | rfl : t = -1 ∨ t = 0 ∨ t = 1 := by omega
  all_goals
    go_enter Try.func69, Try.ntmps69
    go_wp2_with fail
    go_ret
    exact ⟨rfl, rfl⟩
set_option maxRecDepth 100000 in
set_option maxHeartbeats 3200000 in
theorem and_any (a b : Int) (h0 : -1 ≤ a) (h1 : a ≤ 1) (h2 : -1 ≤ b) (h3 : b ≤ 1) (w : World) : Calls Try.prog 70 #[.int .i64 a, .int .i64 b] w fun e w' => e = .returned (.int .i64 (andI a b)) ∧ w = w' := by
  obtain rfl | rfl | rfl : a = -1 ∨ a = 0 ∨ a = 1 := by omega
  all_goals
    obtain rfl | rfl | rfl : b = -1 ∨ b = 0 ∨ b = 1 := by omega
    all_goals
      go_enter Try.func70, Try.ntmps70
      go_wp2_with fail
      go_ret
      exact ⟨rfl, rfl⟩
theorem idx_other (w : World) : (Instr.index 126 (.agg #[.int .i64 0, .int .i64 2, .int .i64 1, .int .i64 6, .int .i64 5, .int .i64 4, .int .i64 3, .int .i64 8, .int .i64 7, .int .i64 10, .int .i64 9]) (.int .i64 1)).run Try.prog w = .ok (.int .i64 2) w ∧ (Instr.index 126 (.agg #[.int .i64 0, .int .i64 2, .int .i64 1, .int .i64 6, .int .i64 5, .int .i64 4, .int .i64 3, .int .i64 8, .int .i64 7, .int .i64 10, .int .i64 9]) (.int .i64 2)).run Try.prog w = .ok (.int .i64 1) w ∧ (Instr.index 126 (.agg #[.int .i64 0, .int .i64 2, .int .i64 1, .int .i64 6, .int .i64 5, .int .i64 4, .int .i64 3, .int .i64 8, .int .i64 7, .int .i64 10, .int .i64 9]) (.int .i64 3)).run Try.prog w = .ok (.int .i64 6) w ∧ (Instr.index 126 (.agg #[.int .i64 0, .int .i64 2, .int .i64 1, .int .i64 6, .int .i64 5, .int .i64 4, .int .i64 3, .int .i64 8, .int .i64 7, .int .i64 10, .int .i64 9]) (.int .i64 4)).run Try.prog w = .ok (.int .i64 5) w ∧ (Instr.index 126 (.agg #[.int .i64 0, .int .i64 2, .int .i64 1, .int .i64 6, .int .i64 5, .int .i64 4, .int .i64 3, .int .i64 8, .int .i64 7, .int .i64 10, .int .i64 9]) (.int .i64 5)).run Try.prog w = .ok (.int .i64 4) w ∧ (Instr.index 126 (.agg #[.int .i64 0, .int .i64 2, .int .i64 1, .int .i64 6, .int .i64 5, .int .i64 4, .int .i64 3, .int .i64 8, .int .i64 7, .int .i64 10, .int .i64 9]) (.int .i64 6)).run Try.prog w = .ok (.int .i64 3) w ∧ (Instr.index 126 (.agg #[.int .i64 0, .int .i64 2, .int .i64 1, .int .i64 6, .int .i64 5, .int .i64 4, .int .i64 3, .int .i64 8, .int .i64 7, .int .i64 10, .int .i64 9]) (.int .i64 7)).run Try.prog w = .ok (.int .i64 8) w ∧ (Instr.index 126 (.agg #[.int .i64 0, .int .i64 2, .int .i64 1, .int .i64 6, .int .i64 5, .int .i64 4, .int .i64 3, .int .i64 8, .int .i64 7, .int .i64 10, .int .i64 9]) (.int .i64 8)).run Try.prog w = .ok (.int .i64 7) w ∧ (Instr.index 126 (.agg #[.int .i64 0, .int .i64 2, .int .i64 1, .int .i64 6, .int .i64 5, .int .i64 4, .int .i64 3, .int .i64 8, .int .i64 7, .int .i64 10, .int .i64 9]) (.int .i64 9)).run Try.prog w = .ok (.int .i64 10) w ∧ (Instr.index 126 (.agg #[.int .i64 0, .int .i64 2, .int .i64 1, .int .i64 6, .int .i64 5, .int .i64 4, .int .i64 3, .int .i64 8, .int .i64 7, .int .i64 10, .int .i64 9]) (.int .i64 10)).run Try.prog w = .ok (.int .i64 9) w := by
  refine ⟨?_, ?_, ?_, ?_, ?_, ?_, ?_, ?_, ?_, ?_⟩ <;> kernel_rfl
set_option maxRecDepth 100000 in
set_option maxHeartbeats 3200000 in
theorem other_any (x : N) (h0 : 1 ≤ x.op) (h1 : x.op ≤ 10) (w : World) : Calls Try.prog 63 #[nv x] w fun e w' => e = .returned (nv (other x)) ∧ Below w.heap.size w w' := by
  obtain ⟨op, c, ⟨k, n, b, s⟩⟩ := x
  unfold nv
  simp only at h0 h1 ⊢
  obtain rfl | rfl | rfl | rfl | rfl | rfl | rfl | rfl | rfl | rfl : op = 1 ∨ op = 2 ∨ op = 3 ∨ op = 4 ∨ op = 5 ∨ op = 6 ∨ op = 7 ∨ op = 8 ∨ op = 9 ∨ op = 10 := by omega
  · have hi := fun w => (idx_other w).1
    go_enter Try.func63, Try.ntmps63
    go_wp2_with fail
    refine bodyPost_ret (v := .agg #[.int .i64 2, .int .i64 c, .int .i64 k, .int .i64 n, .int .u64 (b : Int), .string s]) (by simp [results, Try.results63, go_sem]) rfl ?_
    exact ⟨rfl, hnext (hba _ _) (hba _ _)⟩
  · have hi := fun w => (idx_other w).2.1
    go_enter Try.func63, Try.ntmps63
    go_wp2_with fail
    refine bodyPost_ret (v := .agg #[.int .i64 1, .int .i64 c, .int .i64 k, .int .i64 n, .int .u64 (b : Int), .string s]) (by simp [results, Try.results63, go_sem]) rfl ?_
    exact ⟨rfl, hnext (hba _ _) (hba _ _)⟩
  · have hi := fun w => (idx_other w).2.2.1
    go_enter Try.func63, Try.ntmps63
    go_wp2_with fail
    refine bodyPost_ret (v := .agg #[.int .i64 6, .int .i64 c, .int .i64 k, .int .i64 n, .int .u64 (b : Int), .string s]) (by simp [results, Try.results63, go_sem]) rfl ?_
    exact ⟨rfl, hnext (hba _ _) (hba _ _)⟩
  · have hi := fun w => (idx_other w).2.2.2.1
    go_enter Try.func63, Try.ntmps63
    go_wp2_with fail
    refine bodyPost_ret (v := .agg #[.int .i64 5, .int .i64 c, .int .i64 k, .int .i64 n, .int .u64 (b : Int), .string s]) (by simp [results, Try.results63, go_sem]) rfl ?_
    exact ⟨rfl, hnext (hba _ _) (hba _ _)⟩
  · have hi := fun w => (idx_other w).2.2.2.2.1
    go_enter Try.func63, Try.ntmps63
    go_wp2_with fail
    refine bodyPost_ret (v := .agg #[.int .i64 4, .int .i64 c, .int .i64 k, .int .i64 n, .int .u64 (b : Int), .string s]) (by simp [results, Try.results63, go_sem]) rfl ?_
    exact ⟨rfl, hnext (hba _ _) (hba _ _)⟩
  · have hi := fun w => (idx_other w).2.2.2.2.2.1
    go_enter Try.func63, Try.ntmps63
    go_wp2_with fail
    refine bodyPost_ret (v := .agg #[.int .i64 3, .int .i64 c, .int .i64 k, .int .i64 n, .int .u64 (b : Int), .string s]) (by simp [results, Try.results63, go_sem]) rfl ?_
    exact ⟨rfl, hnext (hba _ _) (hba _ _)⟩
  · have hi := fun w => (idx_other w).2.2.2.2.2.2.1
    go_enter Try.func63, Try.ntmps63
    go_wp2_with fail
    refine bodyPost_ret (v := .agg #[.int .i64 8, .int .i64 c, .int .i64 k, .int .i64 n, .int .u64 (b : Int), .string s]) (by simp [results, Try.results63, go_sem]) rfl ?_
    exact ⟨rfl, hnext (hba _ _) (hba _ _)⟩
  · have hi := fun w => (idx_other w).2.2.2.2.2.2.2.1
    go_enter Try.func63, Try.ntmps63
    go_wp2_with fail
    refine bodyPost_ret (v := .agg #[.int .i64 7, .int .i64 c, .int .i64 k, .int .i64 n, .int .u64 (b : Int), .string s]) (by simp [results, Try.results63, go_sem]) rfl ?_
    exact ⟨rfl, hnext (hba _ _) (hba _ _)⟩
  · have hi := fun w => (idx_other w).2.2.2.2.2.2.2.2.1
    go_enter Try.func63, Try.ntmps63
    go_wp2_with fail
    refine bodyPost_ret (v := .agg #[.int .i64 10, .int .i64 c, .int .i64 k, .int .i64 n, .int .u64 (b : Int), .string s]) (by simp [results, Try.results63, go_sem]) rfl ?_
    exact ⟨rfl, hnext (hba _ _) (hba _ _)⟩
  · have hi := fun w => (idx_other w).2.2.2.2.2.2.2.2.2
    go_enter Try.func63, Try.ntmps63
    go_wp2_with fail
    refine bodyPost_ret (v := .agg #[.int .i64 9, .int .i64 c, .int .i64 k, .int .i64 n, .int .u64 (b : Int), .string s]) (by simp [results, Try.results63, go_sem]) rfl ?_
    exact ⟨rfl, hnext (hba _ _) (hba _ _)⟩
theorem idx_leaf (b1 b2 b3 b4 b5 b6 : Bool) (w : World) : (Instr.index 131 (.agg #[.bool false, .bool b1, .bool b2, .bool b3, .bool b4, .bool b5, .bool b6]) (.int .i64 1)).run Try.prog w = .ok (.bool b1) w ∧ (Instr.index 131 (.agg #[.bool false, .bool b1, .bool b2, .bool b3, .bool b4, .bool b5, .bool b6]) (.int .i64 2)).run Try.prog w = .ok (.bool b2) w ∧ (Instr.index 131 (.agg #[.bool false, .bool b1, .bool b2, .bool b3, .bool b4, .bool b5, .bool b6]) (.int .i64 3)).run Try.prog w = .ok (.bool b3) w ∧ (Instr.index 131 (.agg #[.bool false, .bool b1, .bool b2, .bool b3, .bool b4, .bool b5, .bool b6]) (.int .i64 4)).run Try.prog w = .ok (.bool b4) w ∧ (Instr.index 131 (.agg #[.bool false, .bool b1, .bool b2, .bool b3, .bool b4, .bool b5, .bool b6]) (.int .i64 5)).run Try.prog w = .ok (.bool b5) w ∧ (Instr.index 131 (.agg #[.bool false, .bool b1, .bool b2, .bool b3, .bool b4, .bool b5, .bool b6]) (.int .i64 6)).run Try.prog w = .ok (.bool b6) w := by
  refine ⟨?_, ?_, ?_, ?_, ?_, ?_⟩ <;> kernel_rfl
set_option maxRecDepth 100000 in
set_option maxHeartbeats 3200000 in
theorem leaf_any (x : N) (y : Cd.V) (h0 : 1 ≤ x.op) (h1 : x.op ≤ 8) (hx : x.v.s.size ≤ maxLen) (hy : y.s.size ≤ maxLen) (w : World) : Calls Try.prog 71 #[nv x, vv y.k y.n y.b y.s] w fun e w' => e = .returned (.int .i64 (leafV x y)) ∧ Below w.heap.size w w' := by
  have cc := hid (fun W => compare_any y x.v hy hx W)
  have ct := hid (fun b W => truth_any b W)
  obtain ⟨op, c, ⟨xk, xn, xb, xs⟩⟩ := x
  obtain ⟨k, n, b, s⟩ := y
  unfold nv vv at *
  simp only at h0 h1 ⊢
  have LB := hid (hnext (hba w (.cells #[.int .i64 op, .int .i64 c, .int .i64 xk, .int .i64 xn, .int .u64 (xb : Int), .string xs] 65)) (hba _ (.cells #[.int .i64 k, .int .i64 n, .int .u64 (b : Int), .string s] 36)))
  by_cases e7 : op = 7
  · subst e7
    by_cases hk : k = 0
    · subst hk
      have HE : Hid (leafV ⟨7, c, ⟨xk, xn, xb, xs⟩⟩ ⟨0, n, b, s⟩ = tr true) := by show _ = _; unfold leafV; simp
      go_enter Try.func71, Try.ntmps71
      go_wp2_with fail
      refine (ct.out _ _).mono ?_; rintro e w1 ⟨rfl, rfl⟩
      go_wp2_with fail
      go_ret
      rw [HE.out]
      exact ⟨rfl, LB.out⟩
    · have hk' : (k == 0) = false := by rw [beq_eq_false_iff_ne]; exact hk
      have HE : Hid (leafV ⟨7, c, ⟨xk, xn, xb, xs⟩⟩ ⟨k, n, b, s⟩ = tr false) := by show _ = _; unfold leafV; simp [hk]
      clear hk
      go_enter Try.func71, Try.ntmps71
      go_wp2_with fail
      refine (ct.out _ _).mono ?_; rintro e w1 ⟨rfl, rfl⟩
      go_wp2_with fail
      go_ret
      rw [HE.out]
      exact ⟨rfl, LB.out⟩
  by_cases e8 : op = 8
  · subst e8
    by_cases hk : k = 0
    · subst hk
      have HE : Hid (leafV ⟨8, c, ⟨xk, xn, xb, xs⟩⟩ ⟨0, n, b, s⟩ = tr false) := by show _ = _; unfold leafV; simp
      go_enter Try.func71, Try.ntmps71
      go_wp2_with fail
      refine (ct.out _ _).mono ?_; rintro e w1 ⟨rfl, rfl⟩
      go_wp2_with fail
      go_ret
      rw [HE.out]
      exact ⟨rfl, LB.out⟩
    · have hk' : (k == 0) = false := by rw [beq_eq_false_iff_ne]; exact hk
      have HE : Hid (leafV ⟨8, c, ⟨xk, xn, xb, xs⟩⟩ ⟨k, n, b, s⟩ = tr true) := by show _ = _; unfold leafV; simp [hk]
      clear hk
      go_enter Try.func71, Try.ntmps71
      go_wp2_with fail
      refine (ct.out _ _).mono ?_; rintro e w1 ⟨rfl, rfl⟩
      go_wp2_with fail
      go_ret
      rw [HE.out]
      exact ⟨rfl, LB.out⟩
  have n7 : (op == 7) = false := by rw [beq_eq_false_iff_ne]; exact e7
  have n8 : (op == 8) = false := by rw [beq_eq_false_iff_ne]; exact e8
  by_cases hk : k = 0
  · subst hk
    have HE : Hid (leafV ⟨op, c, ⟨xk, xn, xb, xs⟩⟩ ⟨0, n, b, s⟩ = -1) := by show _ = _; unfold leafV; rw [if_neg e7, if_neg e8]; simp
    go_enter Try.func71, Try.ntmps71
    go_wp2_with fail
    go_ret
    rw [HE.out]
    exact ⟨rfl, LB.out⟩
  have hk' : (k == 0) = false := by rw [beq_eq_false_iff_ne]; exact hk
  by_cases hxk : xk = 0
  · subst hxk
    have HE : Hid (leafV ⟨op, c, ⟨0, xn, xb, xs⟩⟩ ⟨k, n, b, s⟩ = -1) := by show _ = _; unfold leafV; rw [if_neg e7, if_neg e8]; simp
    go_enter Try.func71, Try.ntmps71
    go_wp2_with fail
    go_ret
    rw [HE.out]
    exact ⟨rfl, LB.out⟩
  have hxk' : (xk == 0) = false := by rw [beq_eq_false_iff_ne]; exact hxk
  have HE0 : Hid (leafV ⟨op, c, ⟨xk, xn, xb, xs⟩⟩ ⟨k, n, b, s⟩ = tr (opB op (Ky.cmp ⟨k, n, b, s⟩ ⟨xk, xn, xb, xs⟩))) := by show _ = _; unfold leafV; rw [if_neg e7, if_neg e8, if_neg (by rintro (h | h); exact hk h; exact hxk h)]
  generalize Ky.cmp ⟨k, n, b, s⟩ ⟨xk, xn, xb, xs⟩ = z at cc HE0
  obtain ⟨b1, hb1⟩ : ∃ r, (z == 0) = r := ⟨_, rfl⟩
  obtain ⟨b3, hb3⟩ : ∃ r, decide (z < 0) = r := ⟨_, rfl⟩
  obtain ⟨b4, hb4⟩ : ∃ r, decide (z ≤ 0) = r := ⟨_, rfl⟩
  obtain ⟨b5, hb5⟩ : ∃ r, decide (0 < z) = r := ⟨_, rfl⟩
  obtain ⟨b6, hb6⟩ : ∃ r, decide (0 ≤ z) = r := ⟨_, rfl⟩
  have hb2 : (z != 0) = !b1 := by rw [← hb1]; rfl
  have hb1' : decide (z = 0) = b1 := by rw [← hb1]; rfl
  clear hk hxk e7 e8
  obtain rfl | rfl | rfl | rfl | rfl | rfl : op = 1 ∨ op = 2 ∨ op = 3 ∨ op = 4 ∨ op = 5 ∨ op = 6 := by have := beq_eq_false_iff_ne.1 n7; have := beq_eq_false_iff_ne.1 n8; omega
  · have HE : Hid (leafV ⟨1, c, ⟨xk, xn, xb, xs⟩⟩ ⟨k, n, b, s⟩ = tr (b1)) := by show _ = _; rw [HE0.out, ← hb1']; rfl
    clear HE0
    have hi := fun p1 p2 p3 p4 p5 p6 w => (idx_leaf p1 p2 p3 p4 p5 p6 w).1
    go_enter Try.func71, Try.ntmps71
    go_wp2_with fail
    refine (cc.out _).mono ?_; rintro e w1 ⟨rfl, b7⟩
    have V1 := BN.keep (BN.keep (BN.new 65 w ⟨1, c, ⟨xk, xn, xb, xs⟩⟩) (hba _ (.cells #[.int .i64 k, .int .i64 n, .int .u64 (b : Int), .string s] 36))) b7
    have LB1 := hid (hnext LB.out b7)
    clear b7
    obtain ⟨q0, q1, q2, q3, q4, q5, qf0, qf1, qf2, qf3, qf4, qf5, ql⟩ := V1.cells
    simp only at q0 q1 q2 q3 q4 q5
    go_wp2_with fail
    refine (ct.out _ _).mono ?_; rintro e w2 ⟨rfl, rfl⟩
    go_wp2_with fail
    go_ret
    rw [HE.out]
    exact ⟨rfl, LB1.out⟩
  · have HE : Hid (leafV ⟨2, c, ⟨xk, xn, xb, xs⟩⟩ ⟨k, n, b, s⟩ = tr (!b1)) := by show _ = _; rw [HE0.out, ← hb1']; rfl
    clear HE0
    have hi := fun p1 p2 p3 p4 p5 p6 w => (idx_leaf p1 p2 p3 p4 p5 p6 w).2.1
    go_enter Try.func71, Try.ntmps71
    go_wp2_with fail
    refine (cc.out _).mono ?_; rintro e w1 ⟨rfl, b7⟩
    have V1 := BN.keep (BN.keep (BN.new 65 w ⟨2, c, ⟨xk, xn, xb, xs⟩⟩) (hba _ (.cells #[.int .i64 k, .int .i64 n, .int .u64 (b : Int), .string s] 36))) b7
    have LB1 := hid (hnext LB.out b7)
    clear b7
    obtain ⟨q0, q1, q2, q3, q4, q5, qf0, qf1, qf2, qf3, qf4, qf5, ql⟩ := V1.cells
    simp only at q0 q1 q2 q3 q4 q5
    go_wp2_with fail
    refine (ct.out _ _).mono ?_; rintro e w2 ⟨rfl, rfl⟩
    go_wp2_with fail
    go_ret
    rw [HE.out]
    exact ⟨rfl, LB1.out⟩
  · have HE : Hid (leafV ⟨3, c, ⟨xk, xn, xb, xs⟩⟩ ⟨k, n, b, s⟩ = tr (b3)) := by show _ = _; rw [HE0.out, ← hb3]; rfl
    clear HE0
    have hi := fun p1 p2 p3 p4 p5 p6 w => (idx_leaf p1 p2 p3 p4 p5 p6 w).2.2.1
    go_enter Try.func71, Try.ntmps71
    go_wp2_with fail
    refine (cc.out _).mono ?_; rintro e w1 ⟨rfl, b7⟩
    have V1 := BN.keep (BN.keep (BN.new 65 w ⟨3, c, ⟨xk, xn, xb, xs⟩⟩) (hba _ (.cells #[.int .i64 k, .int .i64 n, .int .u64 (b : Int), .string s] 36))) b7
    have LB1 := hid (hnext LB.out b7)
    clear b7
    obtain ⟨q0, q1, q2, q3, q4, q5, qf0, qf1, qf2, qf3, qf4, qf5, ql⟩ := V1.cells
    simp only at q0 q1 q2 q3 q4 q5
    go_wp2_with fail
    refine (ct.out _ _).mono ?_; rintro e w2 ⟨rfl, rfl⟩
    go_wp2_with fail
    go_ret
    rw [HE.out]
    exact ⟨rfl, LB1.out⟩
  · have HE : Hid (leafV ⟨4, c, ⟨xk, xn, xb, xs⟩⟩ ⟨k, n, b, s⟩ = tr (b4)) := by show _ = _; rw [HE0.out, ← hb4]; rfl
    clear HE0
    have hi := fun p1 p2 p3 p4 p5 p6 w => (idx_leaf p1 p2 p3 p4 p5 p6 w).2.2.2.1
    go_enter Try.func71, Try.ntmps71
    go_wp2_with fail
    refine (cc.out _).mono ?_; rintro e w1 ⟨rfl, b7⟩
    have V1 := BN.keep (BN.keep (BN.new 65 w ⟨4, c, ⟨xk, xn, xb, xs⟩⟩) (hba _ (.cells #[.int .i64 k, .int .i64 n, .int .u64 (b : Int), .string s] 36))) b7
    have LB1 := hid (hnext LB.out b7)
    clear b7
    obtain ⟨q0, q1, q2, q3, q4, q5, qf0, qf1, qf2, qf3, qf4, qf5, ql⟩ := V1.cells
    simp only at q0 q1 q2 q3 q4 q5
    go_wp2_with fail
    refine (ct.out _ _).mono ?_; rintro e w2 ⟨rfl, rfl⟩
    go_wp2_with fail
    go_ret
    rw [HE.out]
    exact ⟨rfl, LB1.out⟩
  · have HE : Hid (leafV ⟨5, c, ⟨xk, xn, xb, xs⟩⟩ ⟨k, n, b, s⟩ = tr (b5)) := by show _ = _; rw [HE0.out, ← hb5]; rfl
    clear HE0
    have hi := fun p1 p2 p3 p4 p5 p6 w => (idx_leaf p1 p2 p3 p4 p5 p6 w).2.2.2.2.1
    go_enter Try.func71, Try.ntmps71
    go_wp2_with fail
    refine (cc.out _).mono ?_; rintro e w1 ⟨rfl, b7⟩
    have V1 := BN.keep (BN.keep (BN.new 65 w ⟨5, c, ⟨xk, xn, xb, xs⟩⟩) (hba _ (.cells #[.int .i64 k, .int .i64 n, .int .u64 (b : Int), .string s] 36))) b7
    have LB1 := hid (hnext LB.out b7)
    clear b7
    obtain ⟨q0, q1, q2, q3, q4, q5, qf0, qf1, qf2, qf3, qf4, qf5, ql⟩ := V1.cells
    simp only at q0 q1 q2 q3 q4 q5
    go_wp2_with fail
    refine (ct.out _ _).mono ?_; rintro e w2 ⟨rfl, rfl⟩
    go_wp2_with fail
    go_ret
    rw [HE.out]
    exact ⟨rfl, LB1.out⟩
  · have HE : Hid (leafV ⟨6, c, ⟨xk, xn, xb, xs⟩⟩ ⟨k, n, b, s⟩ = tr (b6)) := by show _ = _; rw [HE0.out, ← hb6]; rfl
    clear HE0
    have hi := fun p1 p2 p3 p4 p5 p6 w => (idx_leaf p1 p2 p3 p4 p5 p6 w).2.2.2.2.2
    go_enter Try.func71, Try.ntmps71
    go_wp2_with fail
    refine (cc.out _).mono ?_; rintro e w1 ⟨rfl, b7⟩
    have V1 := BN.keep (BN.keep (BN.new 65 w ⟨6, c, ⟨xk, xn, xb, xs⟩⟩) (hba _ (.cells #[.int .i64 k, .int .i64 n, .int .u64 (b : Int), .string s] 36))) b7
    have LB1 := hid (hnext LB.out b7)
    clear b7
    obtain ⟨q0, q1, q2, q3, q4, q5, qf0, qf1, qf2, qf3, qf4, qf5, ql⟩ := V1.cells
    simp only at q0 q1 q2 q3 q4 q5
    go_wp2_with fail
    refine (ct.out _ _).mono ?_; rintro e w2 ⟨rfl, rfl⟩
    go_wp2_with fail
    go_ret
    rw [HE.out]
    exact ⟨rfl, LB1.out⟩
end Go.Proofs.Ytmcneelapghfcaa

namespace Go.Proofs.Ytmcneelapghfcaa
open Go.RowKit Pd

namespace Pd
/-- the place behind so many conditions -/
def endK (l : List N) (k : Nat) (j : Int) : Int := if k = 0 then j else if j < 0 then -1 else match ends k (l.drop j.toNat) with | some n => j + (n : Int) | none => -1
theorem endK_one (l : List N) (i : Int) : endI l i = endK l 1 i := rfl
theorem endK_neg {l : List N} {k : Nat} {j : Int} (h : j < 0) : endK l (k + 1) j = -1 := by unfold endK; rw [if_neg (by omega), if_pos h]
theorem endK_far {l : List N} {k : Nat} {j : Int} (h : (l.length : Int) ≤ j) : endK l (k + 1) j = -1 := by
  unfold endK
  rw [if_neg (by omega), if_neg (by omega), List.drop_of_length_le (by omega)]; rfl
theorem endK_bad {l : List N} {k j : Nat} (h : j < l.length) (hp : parts l[j].op < 0) : endK l (k + 1) (j : Int) = -1 := by
  unfold endK
  rw [if_neg (by omega), if_neg (by omega), Int.toNat_natCast, List.drop_eq_getElem_cons h]
  unfold ends
  rw [if_pos hp]
theorem ends_zero (l : List N) : ends 0 l = some 0 := by cases l <;> rfl
theorem endK_next {l : List N} {k j p : Nat} (h : j < l.length) (hp : parts l[j].op = (p : Int)) : endK l (k + 1) (j : Int) = endK l (k + p) ((j + 1 : Nat) : Int) := by
  unfold endK
  rw [if_neg (by omega), if_neg (by omega), Int.toNat_natCast, List.drop_eq_getElem_cons h]
  have e : ends (k + 1) (l[j] :: l.drop (j + 1)) = (ends (k + p) (l.drop (j + 1))).map (· + 1) := by
    rw [ends, if_neg (by omega), hp, Int.toNat_natCast]
  rw [e]
  by_cases hk : k + p = 0
  · rw [if_pos hk, hk, ends_zero]
    show (match (some 0).map (· + 1) with | some n => (j : Int) + (n : Int) | none => -1) = _
    show (j : Int) + ((0 + 1 : Nat) : Int) = _
    omega
  · rw [if_neg hk, if_neg (by omega), Int.toNat_natCast]
    cases ends (k + p) (l.drop (j + 1)) with
    | none => rfl
    | some n => show (j : Int) + ((n + 1 : Nat) : Int) = ((j + 1 : Nat) : Int) + (n : Int); omega
end Pd
set_option maxRecDepth 100000 in
set_option maxHeartbeats 3200000 in
theorem end_any (v : Value) (l : List N) (i : Int) (w : World) (hv : NsAt w v l) (hl : l.length ≤ 1000000) (hi : i ≤ 9223372036854775807) : Calls Try.prog 95 #[v, .int .i64 i] w fun e w' => e = .returned (.int .i64 (endI l i)) ∧ w = w' := by
  obtain ⟨adr, cap, rfl, hc⟩ := hv
  have HC := hid hc
  clear hc
  have HE0 := hid (endK_one l i)
  go_enter Try.func95, Try.ntmps95
  go_wp2_with fail
  go_loopw [5, 1] (fun kv jv wr => ∃ (k : Nat) (j : Int), kv = .int .i64 (k : Int) ∧ jv = .int .i64 j ∧ Hid (endI l i = endK l k j) ∧ Hid (k ≤ 1 ∨ (0 ≤ j ∧ (k : Int) ≤ j + 1)) ∧ Hid (j ≤ 9223372036854775807) ∧ wr = w) (fun _ jv _ => l.length - (intOf jv).toNat)
  case atStart => exact ⟨1, i, rfl, rfl, HE0.out, .inl (Nat.le_refl _), hi, rfl⟩
  case round =>
    obtain ⟨k, j, rfl, rfl, hE, hB, hJ, rfl⟩ := hrel
    cases k with
    | zero =>
      have HR : Hid (endI l i = j) := hE.out.trans (if_pos rfl)
      clear hE
      go_wp2_with fail
      go_ret
      rw [HR.out]
      exact ⟨rfl, rfl⟩
    | succ k =>
      have hk0 : (0 : Int) < ((k + 1 : Nat) : Int) := by omega
      obtain ⟨K, hK⟩ : ∃ K : Int, ((k + 1 : Nat) : Int) = K := ⟨_, rfl⟩
      rw [hK] at hk0 ⊢
      by_cases h1 : j < 0
      · have HR : Hid (endI l i = -1) := hE.out.trans (endK_neg h1)
        clear hE
        go_wp2_with fail
        go_ret
        rw [HR.out]
        exact ⟨rfl, rfl⟩
      · by_cases h2 : (l.length : Int) ≤ j
        · have HR : Hid (endI l i = -1) := hE.out.trans (endK_far h2)
          clear hE
          go_wp2_with fail
          go_ret
          rw [HR.out]
          exact ⟨rfl, rfl⟩
        · obtain ⟨m, rfl⟩ : ∃ m : Nat, j = (m : Int) := ⟨j.toNat, by omega⟩
          have hm : m < l.length := by omega
          have hm' : (m : Int) < (l.length : Int) := by omega
          have hm0 : (0 : Int) ≤ (m : Int) := by omega
          clear h1
          obtain ⟨g, off, rfl, q0, _, _, _, _, _⟩ := HC.out m hm
          have HX := hid (endK_bad (k := k) hm)
          have HN := hid (fun p => endK_next (k := k) (p := p) hm)
          generalize l[m].op = op at q0 HX HN
          have cp := hid (fun W => parts_any op W)
          rcases parts_cases op with ⟨hp, _⟩ | hp
          · have HR : Hid (endI l i = -1) := hE.out.trans (HX.out (by omega))
            rw [hp] at cp
            clear hE HX HN
            go_wp2_with fail
            refine (cp.out _).mono ?_; rintro e w1 ⟨rfl, rfl⟩
            go_wp2_with fail
            go_ret
            rw [HR.out]
            exact ⟨rfl, rfl⟩
          · obtain ⟨p, hpp, hp2⟩ : ∃ p : Nat, parts op = (p : Int) ∧ p ≤ 2 := by
              rcases hp with ⟨h, _⟩ | ⟨h, _⟩ | ⟨h, _⟩
              · exact ⟨0, h, by omega⟩
              · exact ⟨2, h, by omega⟩
              · exact ⟨1, h, by omega⟩
            have HR := hid (hE.out.trans (HN.out p hpp))
            rw [hpp] at cp
            have hne : ((p : Int) == -1) = false := by rw [beq_eq_false_iff_ne]; omega
            have hkb : (k : Int) ≤ 1000000 := by have := hB.out; omega
            have w1 : IntKind.i64.wrap (K + (p : Int)) = K + (p : Int) := by rw [IntKind.wrap_i64]; omega
            have w2 : IntKind.i64.wrap (K + (p : Int) - 1) = ((k + p : Nat) : Int) := by rw [IntKind.wrap_i64]; omega
            have hB2 : Hid (k + p ≤ 1 ∨ (0 ≤ ((m + 1 : Nat) : Int) ∧ ((k + p : Nat) : Int) ≤ ((m + 1 : Nat) : Int) + 1)) := by have := hB.out; show _ ∨ _; omega
            have hKb : K ≤ 1000001 := by omega
            have hp2' : (p : Int) ≤ 2 := by omega
            clear hE HX HN hp hB
            go_wp2_with fail
            refine (cp.out _).mono ?_; rintro e w1 ⟨rfl, rfl⟩
            go_wp2_with fail
            refine (cp.out _).mono ?_; rintro e w1 ⟨rfl, rfl⟩
            go_wp2_with fail
            go_roundw
            case rel => exact ⟨k + p, ((m + 1 : Nat) : Int), by first | rfl | go_num | (congr 1; omega), by first | rfl | go_num, HR.out, hB2.out, by show _ ≤ _; omega, trivial⟩
            case measure => simp [intOf]; omega
set_option maxRecDepth 100000 in
set_option maxHeartbeats 3200000 in
theorem whole_any (v : Value) (l : List N) (w : World) (hv : NsAt w v l) (hl : l.length ≤ 1000000) : Calls Try.prog 61 #[v] w fun e w' => e = .returned (.bool (whole l)) ∧ w = w' := by
  have ce := hid (end_any v l 0 w hv hl (by decide))
  obtain ⟨adr, cap, rfl⟩ := hv.slc
  clear hv
  by_cases h1 : 0 < l.length
  · have h1' : (0 : Int) < (l.length : Int) := by omega
    by_cases h2 : l.length ≤ 40
    · have h2' : (l.length : Int) ≤ 40 := by omega
      have HE : Hid (whole l = decide (endI l 0 = (l.length : Int))) := by
        show _ = _
        unfold whole
        rw [decide_eq_true h1, decide_eq_true h2, Bool.true_and, Bool.true_and, decide_eq_decide]
        unfold endI
        rw [if_neg (by omega), show (0 : Int).toNat = 0 from rfl, List.drop_zero]
        cases ends 1 l with
        | none => constructor
                  · intro h; cases h
                  · intro h; exact absurd h (by show ¬ (-1 : Int) = _; omega)
        | some n => constructor
                    · intro h; cases h; show (0 : Int) + (l.length : Int) = _; omega
                    · intro h
                      have h' : (0 : Int) + (n : Int) = (l.length : Int) := h
                      rw [show n = l.length by omega]
      generalize endI l 0 = z at ce HE
      have hb : (z == (l.length : Int)) = decide (z = (l.length : Int)) := by rw [Bool.eq_iff_iff]; simp
      generalize decide (z = (l.length : Int)) = r at hb HE
      go_enter Try.func61, Try.ntmps61
      go_wp2_with fail
      refine ce.out.mono ?_; rintro e w1 ⟨rfl, rfl⟩
      go_wp2_with fail
      go_ret
      rw [HE.out]
      exact ⟨rfl, rfl⟩
    · have h2' : ¬ (l.length : Int) ≤ 40 := by omega
      have HE : Hid (whole l = false) := by show _ = _; unfold whole; rw [decide_eq_false h2, Bool.false_and, Bool.and_false]
      go_enter Try.func61, Try.ntmps61
      go_wp2_with fail
      go_ret
      rw [HE.out]
      exact ⟨rfl, rfl⟩
  · have h1' : ¬ (0 : Int) < (l.length : Int) := by omega
    have HE : Hid (whole l = false) := by show _ = _; unfold whole; rw [decide_eq_false h1, Bool.false_and]
    go_enter Try.func61, Try.ntmps61
    go_wp2_with fail
    go_ret
    rw [HE.out]
    exact ⟨rfl, rfl⟩
end Go.Proofs.Ytmcneelapghfcaa

namespace Go.Proofs.Ytmcneelapghfcaa
open Go.RowKit Pd

theorem Try.infoInt : (Try.prog.info? 3).map (fun i => (i.zero, i.size, i.bytes)) = some (some (.int .i64 0), 1, 8) := by kernel_rfl
def intV (n : Int) : Value := .int .i64 n
/-- numbers of the call's own -/
def OwnI (w : World) (B : Nat) (v : Value) (l : List Int) : Prop := w.ownsRow B 3 1 v l.length (l.map intV)
theorem OwnI.nil (w : World) (B : Nat) : OwnI w B (.slice none 0 0) [] := World.ownsRow_nil _ _ _ _
theorem OwnI.below {w w' : World} {B : Nat} {v : Value} {l : List Int} (h : OwnI w B v l) (hb : Below w.heap.size w w') : OwnI w' B v l := own_below h hb
theorem OwnI.ge {w : World} {B : Nat} {v : Value} {l : List Int} (h : OwnI w B v l) : ∀ q, v.ownBlock = some q → B ≤ q := fun q e => (World.ownsRow.lt h q e).1
theorem OwnI.slc {w : World} {B : Nat} {v : Value} {l : List Int} (h : OwnI w B v l) : ∃ adr cap, v = .slice adr l.length cap := by
  rcases h.2 with ⟨rfl, hn⟩ | ⟨g, cap, cur, rfl, _⟩
  · exact ⟨none, 0, by rw [hn]⟩
  · exact ⟨_, cap, rfl⟩
theorem OwnI.ex {w : World} {B : Nat} {v : Value} {l : List Int} (h : OwnI w B v l) (h0 : 0 < l.length) : ∃ g cap, v = .slice (some ⟨g, 0, none⟩) l.length cap ∧ l.length ≤ cap ∧ cap ≤ maxLen ∧ B ≤ g ∧ g < w.heap.size ∧ ∀ i (hi : i < l.length), w.cell? ⟨g, i, none⟩ = some (.int .i64 l[i]) ∧ w.frozen? ⟨g, i, none⟩ = false := by
  rcases h.2 with ⟨rfl, hn⟩ | ⟨g, cap, cur, rfl, hB, hg, hn, hm, hs, ht⟩
  · omega
  · refine ⟨g, cap, rfl, hn, hm, hB, (Array.getElem?_eq_some_iff.1 hg).1, fun i hi => ⟨?_, frozen_of_row w g i _ _ hg⟩⟩
    rw [cell_of_row w g i cur _ (0, 0) hg]
    have e : (l.map intV)[i]? = some (.int .i64 l[i]) := by rw [List.getElem?_map, List.getElem?_eq_getElem hi]; rfl
    rw [← ht, List.getElem?_take] at e
    split at e
    · simpa using e
    · cases e
theorem OwnI.take {w : World} {B g n cap : Nat} {l r : List Int} (h : OwnI w B (.slice (some ⟨g, 0, none⟩) n cap) (l ++ r)) : OwnI w B (.slice (some ⟨g, 0, none⟩) l.length cap) l := by
  refine ⟨by simp, ?_⟩
  rcases h.2 with ⟨e, _⟩ | ⟨g', cap', cur, e, hB, hg, hn, hm, hs, ht⟩
  · cases e
  · cases e
    refine .inr ⟨g, cap, cur, rfl, hB, hg, by rw [List.length_append] at hn; omega, hm, hs, ?_⟩
    have h1 : cur.toList.take ((l ++ r).length * 1) = (l ++ r).map intV := ht
    show cur.toList.take (l.length * 1) = l.map intV
    have h2 := congrArg (List.take l.length) h1
    rw [List.take_take, List.map_append, List.take_append_of_le_length (by simp), List.take_of_length_le (i := l.length) (by simp), List.length_append, Nat.min_eq_left (by omega)] at h2
    rw [Nat.mul_one]; exact h2
theorem OwnI.set {w : World} {B g n cap : Nat} {l : List Int} {t : Int} (h : OwnI w B (.slice (some ⟨g, 0, none⟩) n cap) (l ++ [t])) (z : Int) : OwnI (w.setCell ⟨g, l.length, none⟩ (.int .i64 z)) B (.slice (some ⟨g, 0, none⟩) n cap) (l ++ [z]) := by
  refine ⟨by simp, ?_⟩
  rcases h.2 with ⟨e, _⟩ | ⟨g', cap', cur, e, hB, hg, hn, hm, hs, ht⟩
  · cases e
  · cases e
    have en : (l ++ [t]).length = (l ++ [z]).length := by simp
    refine .inr ⟨g, cap, cur.setIfInBounds l.length (.int .i64 z), by rw [en], hB, heap_setCell_same w g l.length cur _ (.int .i64 z) hg, by rw [← en]; exact hn, hm, by rw [Array.size_setIfInBounds]; exact hs, ?_⟩
    have h1 : cur.toList.take ((l ++ [t]).length * 1) = (l ++ [t]).map intV := ht
    show (cur.setIfInBounds l.length (.int .i64 z)).toList.take ((l ++ [z]).length * 1) = (l ++ [z]).map intV
    rw [Array.toList_setIfInBounds, show (l ++ [z]).length * 1 = (l ++ [t]).length * 1 by simp, List.take_set, h1, List.map_append, List.map_append]
    have e : ∀ L : List Value, (L ++ [intV t]).set L.length (.int .i64 z) = L ++ [intV z] := fun L => by
      rw [List.set_append]; simp; rfl
    have := e (l.map intV)
    rw [List.length_map] at this
    exact this
theorem append_int_wp (w : World) {o : Oper} {a : Act} {K : Act → World → Prop} {Q : Exit → Act → World → Prop} (sl x : Operand)
    (ho : o.op = .call { callee := .builtin .append, args := #[sl, x], argTypes := #[26, 26] })
    (B : Nat) (v : Value) (l : List Int) (hs : a.eval sl = v) (hown : OwnI w B v l) (c : Int) (g : Nat) (hg : g = w.heap.size) (hx : a.eval x = .slice (some ⟨g, 0, none⟩) 1 1) (hlen : l.length ≤ 1000000) (hB : B ≤ w.heap.size)
    (h : ∀ v' w', OwnI w' B v' (l ++ [c]) → w.grownBy w' v.ownBlock → K (a.put o.dst v') w') : o.wp Try.prog a (w.alloc (.cells #[.int .i64 c] 3)) K Q := by
  obtain ⟨i0, hi, hz0, hz1, hz2⟩ := info_parts Try.infoInt
  subst hg
  refine wp_append_own _ sl x 26 ho B 3 i0 (.int .i64 0) 1 8 Try.underlying26 hi hz0 hz1 hz2 rfl (by decide) v l.length (l.map intV) hs (hown.alloc _) ⟨w.heap.size, 0, none⟩ 1 1 [intV c] hx rfl ?_ (fun u hu => by rw [List.mem_singleton.1 hu]; rfl) ?_ ?_ ?_ ?_
  · intro j u hj
    cases j with
    | zero =>
      cases hj
      have hadd : (⟨w.heap.size, 0, none⟩ : Addr).add 0 = ⟨w.heap.size, 0, none⟩ := by unfold Addr.add; rfl
      rw [hadd, cell_of_row _ w.heap.size 0 _ _ (0, 0) (heap_alloc_new w _)]; rfl
    | succ j => cases hj
  · unfold maxLen; omega
  · omega
  · simp; omega
  · intro v' w' hown' hgrow _
    refine h v' w' (by unfold OwnI; rw [List.length_append, List.map_append]; exact hown') ?_
    refine ⟨hgrow.os, hgrow.tape, hgrow.output, Nat.le_trans (by simp) hgrow.size, fun k hk hne => ?_⟩
    rw [hgrow.block k (by simp; omega) hne]
    exact Below.heap_alloc w _ k hk
namespace Pd
def nul : Cd.V := ⟨0, 0, 0, ⟨#[]⟩⟩
def orI (a b : Int) : Int := notI (andI (notI a) (notI b))
/-- what a node makes of a stack -/
def step (row : List Cd.V) (x : N) (st : List Int) : List Int :=
  if x.op = 11 then notI (st.headD 0) :: st.tail
  else if x.op = 9 then andI (st.headD 0) (st.tail.headD 0) :: st.tail.tail
  else if x.op = 10 then orI (st.headD 0) (st.tail.headD 0) :: st.tail.tail
  else leafV x (row.getD x.col.toNat nul) :: st
def stack (row : List Cd.V) : List N → List Int
  | [] => []
  | x :: r => step row x (stack row r)
def colsOk (l : List N) (n : Nat) : Bool := l.all fun x => decide (0 ≤ x.col) && decide (x.col < (n : Int))
/-- a row's truth -/
def evalI (l : List N) (row : List Cd.V) : Int := if whole l = false then -1 else if colsOk l row.length = false then -1 else (stack row l).headD 0
theorem colsOk_no {l : List N} {n k : Nat} (hk : k < l.length) (h : l[k].col < 0 ∨ (n : Int) ≤ l[k].col) : colsOk l n = false := by
  cases hc : colsOk l n with
  | false => rfl
  | true =>
    have := List.all_eq_true.1 hc l[k] (List.getElem_mem hk)
    simp at this
    omega
theorem colsOk_yes {l : List N} {n : Nat} (h : ∀ k (hk : k < l.length), 0 ≤ l[k].col ∧ l[k].col < (n : Int)) : colsOk l n = true := by
  apply List.all_eq_true.2
  intro x hx
  obtain ⟨k, hk, rfl⟩ := List.getElem_of_mem hx
  have := h k hk
  simp; omega
theorem notI_range {t : Int} (h : -1 ≤ t ∧ t ≤ 1) : -1 ≤ notI t ∧ notI t ≤ 1 := by unfold notI; split <;> omega
theorem andI_range (a b : Int) : -1 ≤ andI a b ∧ andI a b ≤ 1 := by unfold andI; split <;> (try split) <;> omega
theorem orI_range (a b : Int) : -1 ≤ orI a b ∧ orI a b ≤ 1 := notI_range (andI_range _ _)
theorem tr_range (b : Bool) : 0 ≤ tr b ∧ tr b ≤ 1 := by cases b <;> decide
theorem leafV_range (x : N) (y : Cd.V) : -1 ≤ leafV x y ∧ leafV x y ≤ 1 := by
  have h := tr_range
  unfold leafV
  split
  · have := h (decide (y.k = 0)); omega
  · split
    · have := h (!decide (y.k = 0)); omega
    · split
      · omega
      · have := h (opB x.op (Ky.cmp y x.v)); omega
theorem step_range {row : List Cd.V} {x : N} {st : List Int} (h : ∀ t ∈ st, -1 ≤ t ∧ t ≤ 1) : ∀ t ∈ step row x st, -1 ≤ t ∧ t ≤ 1 := by
  have hd : -1 ≤ st.headD 0 ∧ st.headD 0 ≤ 1 := by cases st with | nil => decide | cons a s => exact h a (List.mem_cons_self ..)
  have ht : ∀ t ∈ st.tail, -1 ≤ t ∧ t ≤ 1 := fun t ht => h t (List.mem_of_mem_tail ht)
  have htt : ∀ t ∈ st.tail.tail, -1 ≤ t ∧ t ≤ 1 := fun t h2 => ht t (List.mem_of_mem_tail h2)
  intro t hm
  unfold step at hm
  split at hm
  · rcases List.mem_cons.1 hm with rfl | hm
    · exact notI_range hd
    · exact ht t hm
  · split at hm
    · rcases List.mem_cons.1 hm with rfl | hm
      · exact andI_range _ _
      · exact htt t hm
    · split at hm
      · rcases List.mem_cons.1 hm with rfl | hm
        · exact orI_range _ _
        · exact htt t hm
      · rcases List.mem_cons.1 hm with rfl | hm
        · exact leafV_range _ _
        · exact h t hm
theorem stack_range (row : List Cd.V) (l : List N) : ∀ t ∈ stack row l, -1 ≤ t ∧ t ≤ 1 := by
  induction l with
  | nil => intro t h; cases h
  | cons x r ih => exact step_range ih
theorem ends_cons {k : Nat} {x : N} {r : List N} (h : ends k (x :: r) = some (x :: r).length) : ∃ m p : Nat, k = m + 1 ∧ parts x.op = (p : Int) ∧ ends (m + p) r = some r.length := by
  cases k with
  | zero => rw [ends_zero] at h; cases h
  | succ m =>
    unfold ends at h
    split at h
    · cases h
    · refine ⟨m, (parts x.op).toNat, rfl, by omega, ?_⟩
      cases he : ends (m + (parts x.op).toNat) r with
      | none => rw [he] at h; cases h
      | some n => rw [he] at h; cases h; rfl
theorem stack_len (row : List Cd.V) (l : List N) : ∀ k, ends k l = some l.length → (stack row l).length = k := by
  induction l with
  | nil =>
    intro k h
    cases k with
    | zero => rfl
    | succ k => cases h
  | cons x r ih =>
    intro k h
    obtain ⟨m, p, rfl, hp, hr⟩ := ends_cons h
    have hs := ih _ hr
    show (step row x (stack row r)).length = m + 1
    generalize stack row r = st at hs
    unfold step
    rcases parts_cases x.op with ⟨h1, _⟩ | ⟨h1, h2, h3⟩ | ⟨h1, h2⟩ | ⟨h1, h2⟩
    · omega
    · rw [if_neg (by omega), if_neg (by omega), if_neg (by omega), List.length_cons]; omega
    · have hp2 : p = 2 := by omega
      subst hp2
      match st, hs with
      | a :: b :: s, hs =>
        have : s.length = m := by simp at hs; omega
        rcases h2 with h2 | h2
        · rw [if_neg (by omega), if_pos h2]; simp; omega
        · rw [if_neg (by omega), if_neg (by omega), if_pos h2]; simp; omega
    · have hp1 : p = 1 := by omega
      subst hp1
      match st, hs with
      | a :: s, hs => rw [if_pos h2]; simp at hs ⊢; omega
theorem stack_le (row : List Cd.V) (l : List N) : (stack row l).length ≤ l.length := by
  induction l with
  | nil => exact Nat.le_refl _
  | cons x r ih =>
    show (step row x (stack row r)).length ≤ r.length + 1
    generalize stack row r = st at ih
    unfold step
    have h1 : st.tail.length ≤ st.length := by simp
    have h2 : st.tail.tail.length ≤ st.length := by simp; omega
    split
    · rw [List.length_cons]; omega
    · split
      · rw [List.length_cons]; omega
      · split <;> rw [List.length_cons] <;> omega
/-- what is wanted at each place of a whole condition -/
theorem ends_at {l : List N} (h : ends 1 l = some l.length) : ∀ j, j ≤ l.length → ∃ k, ends k (l.drop j) = some (l.drop j).length := by
  intro j
  induction j with
  | zero => intro _; exact ⟨1, h⟩
  | succ j ih =>
    intro hj
    obtain ⟨k, hk⟩ := ih (by omega)
    rw [List.drop_eq_getElem_cons (by omega)] at hk
    obtain ⟨m, p, _, _, hr⟩ := ends_cons hk
    exact ⟨_, hr⟩
theorem whole_ends {l : List N} (h : whole l = true) : ends 1 l = some l.length ∧ 0 < l.length ∧ l.length ≤ 40 := by
  unfold whole at h
  simp at h
  exact ⟨h.2.2, h.1, h.2.1⟩
/-- a place's node and the stack behind it -/
theorem at_node (row : List Cd.V) {l : List N} (h : whole l = true) {j : Nat} (hj : j < l.length) :
    (1 ≤ l[j].op ∧ l[j].op ≤ 8) ∨ (l[j].op = 11 ∧ ∃ t s, stack row (l.drop (j + 1)) = t :: s) ∨ ((l[j].op = 9 ∨ l[j].op = 10) ∧ ∃ a b s, stack row (l.drop (j + 1)) = a :: b :: s) := by
  obtain ⟨k, hk⟩ := ends_at (whole_ends h).1 j (by omega)
  rw [List.drop_eq_getElem_cons hj] at hk
  obtain ⟨m, p, rfl, hp, hr⟩ := ends_cons hk
  have hs := stack_len row _ _ hr
  generalize stack row (l.drop (j + 1)) = st at hs ⊢
  rcases parts_cases l[j].op with ⟨h1, _⟩ | ⟨h1, h2, h3⟩ | ⟨h1, h2⟩ | ⟨h1, h2⟩
  · omega
  · exact .inl ⟨h2, h3⟩
  · right; right
    refine ⟨h2, ?_⟩
    match st, hs with
    | a :: b :: s, _ => exact ⟨a, b, s, rfl⟩
    | [a], hs => simp at hs; omega
    | [], hs => simp at hs; omega
  · right; left
    refine ⟨h2, ?_⟩
    match st, hs with
    | a :: s, _ => exact ⟨a, s, rfl⟩
    | [], hs => simp at hs; omega
end Pd
end Go.Proofs.Ytmcneelapghfcaa

namespace Go.Proofs.Ytmcneelapghfcaa
open Go.RowKit

namespace Pd
inductive T where
  | leaf (x : N)
  | not (x : N) (t : T)
  | bin (x : N) (a b : T)
def T.ser : T → List N
  | .leaf x => [x]
  | .not x t => x :: t.ser
  | .bin x a b => x :: (a.ser ++ b.ser)
def T.ok : T → Prop
  | .leaf x => 1 ≤ x.op ∧ x.op ≤ 8
  | .not x t => x.op = 11 ∧ t.ok
  | .bin x a b => (x.op = 9 ∨ x.op = 10) ∧ a.ok ∧ b.ok
/-- the condition without Not; turned: its Not -/
def T.push : T → Bool → T
  | .leaf x, r => .leaf (if r then other x else x)
  | .not _ t, r => t.push (!r)
  | .bin x a b, r => .bin (if r then other x else x) (a.push r) (b.push r)
def T.ev (row : List Cd.V) : T → Int
  | .leaf x => leafV x (row.getD x.col.toNat nul)
  | .not _ t => notI (t.ev row)
  | .bin x a b => if x.op = 9 then andI (a.ev row) (b.ev row) else orI (a.ev row) (b.ev row)
theorem T.ser_pos (t : T) : 0 < t.ser.length := by cases t <;> simp [T.ser]
/-- so many conditions, one behind the other -/
theorem forest (l : List N) : ∀ k, ends k l = some l.length → ∃ ts : List T, ts.length = k ∧ (∀ t ∈ ts, t.ok) ∧ l = ts.flatMap T.ser := by
  induction l with
  | nil =>
    intro k h
    cases k with
    | zero => exact ⟨[], rfl, fun t ht => (List.not_mem_nil ht).elim, rfl⟩
    | succ k => cases h
  | cons x r ih =>
    intro k h
    obtain ⟨m, p, rfl, hp, hr⟩ := ends_cons h
    obtain ⟨ts, hl, hok, rfl⟩ := ih _ hr
    rcases parts_cases x.op with ⟨h1, _⟩ | ⟨h1, h2, h3⟩ | ⟨h1, h2⟩ | ⟨h1, h2⟩
    · omega
    · obtain rfl : p = 0 := by omega
      refine ⟨.leaf x :: ts, by simp; omega, fun t ht => ?_, rfl⟩
      rcases List.mem_cons.1 ht with rfl | ht
      · exact ⟨h2, h3⟩
      · exact hok t ht
    · obtain rfl : p = 2 := by omega
      match ts, hl with
      | a :: b :: ts, hl =>
        refine ⟨.bin x a b :: ts, by simp at hl ⊢; omega, fun t ht => ?_, by simp [T.ser]⟩
        rcases List.mem_cons.1 ht with rfl | ht
        · exact ⟨h2, hok a (by simp), hok b (by simp)⟩
        · exact hok t (by simp [ht])
    · obtain rfl : p = 1 := by omega
      match ts, hl with
      | a :: ts, hl =>
        refine ⟨.not x a :: ts, by simp at hl ⊢; omega, fun t ht => ?_, by simp [T.ser]⟩
        rcases List.mem_cons.1 ht with rfl | ht
        · exact ⟨h2, hok a (by simp)⟩
        · exact hok t (by simp [ht])
theorem tree {l : List N} (h : ends 1 l = some l.length) : ∃ t : T, t.ok ∧ l = t.ser := by
  obtain ⟨ts, hl, hok, e⟩ := forest l 1 h
  match ts, hl with
  | [t], _ => exact ⟨t, hok t (by simp), by simpa using e⟩
theorem ends_ser (t : T) (h : t.ok) : ∀ (k : Nat) (r : List N), ends (k + 1) (t.ser ++ r) = (ends k r).map (· + t.ser.length) := by
  induction t with
  | leaf x =>
    intro k r
    obtain ⟨h1, h2⟩ := h
    show ends (k + 1) (x :: r) = _
    have hp : parts x.op = 0 := by rcases parts_cases x.op with ⟨_, g⟩ | ⟨g, _⟩ | ⟨_, g⟩ | ⟨_, g⟩ <;> first | exact g | omega
    rw [ends, if_neg (by omega), hp]; rfl
  | not x t ih =>
    intro k r
    obtain ⟨h1, h2⟩ := h
    show ends (k + 1) (x :: (t.ser ++ r)) = _
    have hp : parts x.op = 1 := by rw [h1]; rfl
    rw [ends, if_neg (by omega), hp, show k + (1 : Int).toNat = k + 1 from rfl, ih h2]
    cases ends k r with
    | none => rfl
    | some n => show some (n + t.ser.length + 1) = some (n + (t.ser.length + 1)); rw [Nat.add_assoc]
  | bin x a b iha ihb =>
    intro k r
    obtain ⟨h1, h2, h3⟩ := h
    show ends (k + 1) (x :: (a.ser ++ b.ser ++ r)) = _
    have hp : parts x.op = 2 := by rcases h1 with h1 | h1 <;> rw [h1] <;> rfl
    rw [ends, if_neg (by omega), hp, show k + (2 : Int).toNat = (k + 1) + 1 from rfl, List.append_assoc, iha h2, ihb h3]
    cases ends k r with
    | none => rfl
    | some n =>
      show some (n + b.ser.length + a.ser.length + 1) = some (n + (a.ser ++ b.ser).length.succ)
      rw [List.length_append]; congr 1; omega
theorem ends_tree (t : T) (h : t.ok) : ends 1 t.ser = some t.ser.length := by
  have := ends_ser t h 0 []
  rw [List.append_nil] at this
  rw [this]; show some (0 + t.ser.length) = _; rw [Nat.zero_add]
theorem whole_tree {t : T} (h : t.ok) (hl : t.ser.length ≤ 40) : whole t.ser = true := by
  unfold whole
  rw [ends_tree t h, decide_eq_true t.ser_pos, decide_eq_true hl]; simp
theorem stack_ser (row : List Cd.V) (t : T) (h : t.ok) : ∀ r, stack row (t.ser ++ r) = t.ev row :: stack row r := by
  induction t with
  | leaf x =>
    intro r
    obtain ⟨h1, h2⟩ := h
    show Pd.step row x (stack row r) = _
    unfold Pd.step
    rw [if_neg (by omega), if_neg (by omega), if_neg (by omega)]; rfl
  | not x t ih =>
    intro r
    obtain ⟨h1, h2⟩ := h
    show Pd.step row x (stack row (t.ser ++ r)) = _
    rw [ih h2]
    unfold Pd.step
    rw [if_pos h1]; rfl
  | bin x a b iha ihb =>
    intro r
    obtain ⟨h1, h2, h3⟩ := h
    show Pd.step row x (stack row (a.ser ++ b.ser ++ r)) = _
    rw [List.append_assoc, iha h2, ihb h3]
    unfold Pd.step
    rcases h1 with h1 | h1
    · rw [if_neg (by omega), if_pos h1]
      show _ = (if x.op = 9 then _ else _) :: _
      rw [if_pos h1]; rfl
    · rw [if_neg (by omega), if_neg (by omega), if_pos h1]
      show _ = (if x.op = 9 then _ else _) :: _
      rw [if_neg (by omega)]; rfl
/-- the truth of a tree -/
theorem evalI_tree (row : List Cd.V) {t : T} (h : t.ok) (hl : t.ser.length ≤ 40) (hc : colsOk t.ser row.length = true) : evalI t.ser row = t.ev row := by
  unfold evalI
  rw [if_neg (by rw [whole_tree h hl]; decide), if_neg (by rw [hc]; decide)]
  have := stack_ser row t h []
  rw [List.append_nil] at this
  rw [this]; rfl
theorem T.ev_range (row : List Cd.V) (t : T) : -1 ≤ t.ev row ∧ t.ev row ≤ 1 := by
  induction t with
  | leaf x => exact leafV_range _ _
  | not x t ih => exact notI_range ih
  | bin x a b _ _ =>
    show -1 ≤ (if x.op = 9 then _ else _) ∧ (if x.op = 9 then _ else _) ≤ 1
    split
    · exact andI_range _ _
    · exact orI_range _ _
end Pd
end Go.Proofs.Ytmcneelapghfcaa
