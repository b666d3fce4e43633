/-
  Appending nodes that lie in memory to the call's own. No condition.
-/
import Derived.Test.YtfdehigepgeknaaPu
namespace Go.Proofs.Ytfdehigepgeknaa
open Go.RowKit Pd

theorem NsAt.at {w : World} {adr : Option Addr} {cap n : Nat} {l : List N} (h : NsAt w (.slice adr n cap) l) (hl : 0 < l.length) : n = l.length ∧ ∃ g off, adr = some ⟨g, off, none⟩ ∧ ∀ j u, (ncells l)[j]? = some u → w.cell? ⟨g, off + j, none⟩ = some u := by
  obtain ⟨adr', cap', e, hc⟩ := h
  cases e
  refine ⟨rfl, ?_⟩
  obtain ⟨g, off, rfl, _⟩ := hc 0 hl
  refine ⟨g, off, rfl, fun j u hj => ?_⟩
  have hjl : j < l.length * 6 := by
    have := (List.getElem?_eq_some_iff.1 hj).1
    rw [ncells_length] at this; exact this
  obtain ⟨q, r, rfl, hr⟩ : ∃ q r, j = q * 6 + r ∧ r < 6 := ⟨j / 6, j % 6, by omega, by omega⟩
  have hq : q < l.length := by omega
  obtain ⟨g', off', e, q0, q1, q2, q3, q4, q5⟩ := hc q hq
  cases e
  obtain ⟨g0, g1, g2, g3, g4, g5⟩ := ncells_get (List.getElem?_eq_getElem hq)
  have hr' : r = 0 ∨ r = 1 ∨ r = 2 ∨ r = 3 ∨ r = 4 ∨ r = 5 := by omega
  rcases hr' with rfl | rfl | rfl | rfl | rfl | rfl
  · rw [Nat.add_zero] at hj ⊢
    rw [g0] at hj; cases hj; exact q0
  · rw [g1] at hj; cases hj; rw [← Nat.add_assoc]; exact q1
  · rw [g2] at hj; cases hj; rw [← Nat.add_assoc]; exact q2
  · rw [g3] at hj; cases hj; rw [← Nat.add_assoc]; exact q3
  · rw [g4] at hj; cases hj; rw [← Nat.add_assoc]; exact q4
  · rw [g5] at hj; cases hj; rw [← Nat.add_assoc]; exact q5
/-- nodes of the call's own -/
def OwnN (w : World) (B : Nat) (v : Value) (l : List N) : Prop := w.ownsRow B 41 6 v l.length (ncells l)
theorem OwnN.below {w w' : World} {B : Nat} {v : Value} {l : List N} (h : OwnN w B v l) (hb : Below w.heap.size w w') : OwnN w' B v l := own_below h hb
theorem OwnN.at {w : World} {B : Nat} {v : Value} {l : List N} (h : OwnN w B v l) : NsAt w v l := NsAt.own h
theorem OwnN.new (w : World) (x : N) : OwnN (w.alloc (.cells #[.int .i64 x.op, .int .i64 x.col, .int .i64 x.v.k, .int .i64 x.v.n, .int .u64 (x.v.b : Int), .string x.v.s] 41)) w.heap.size (.slice (some ⟨w.heap.size, 0, none⟩) 1 1) [x] :=
  ⟨rfl, .inr ⟨w.heap.size, 1, _, rfl, Nat.le_refl _, heap_alloc_new w _, Nat.le_refl _, (show 1 ≤ maxLen by decide), rfl, rfl⟩⟩
theorem append_nodes (w : World) {ops : Array Oper} {rest : List Oper} {o : Oper} {a : Act} {Q : Exit → Act → World → Prop} (hgd : o.guard = none) (s x : Operand)
    (ho : o.op = .call { callee := .builtin .append, args := #[s, x], argTypes := #[22, 22] })
    (B : Nat) (v : Value) (l : List N) (hs : a.eval s = v) (hown : OwnN w B v l) (r : List N) (adr : Option Addr) (n cap : Nat) (hx : a.eval x = .slice adr n cap) (hr : NsAt w (.slice adr n cap) r) (h0 : 0 < r.length)
    (hlen : l.length + r.length ≤ 1000000) (hB : B ≤ w.heap.size)
    (hK : ∀ v' w', OwnN w' B v' (l ++ r) → w.grownBy w' v.ownBlock → wpList Try.prog ops Q rest (a.put o.dst v') w') : wpList Try.prog ops Q (o :: rest) a w := by
  obtain ⟨i0, hi, hz0, hz1, hz2⟩ := info_parts Try.infoNode
  obtain ⟨rfl, g, off, rfl, hc⟩ := hr.at h0
  refine wpList_append_own w hgd s x 22 ho B 41 i0 _ 6 56 Try.underlying22 hi hz0 hz1 hz2 rfl (by decide) v l.length (ncells l) hs hown ⟨g, off, none⟩ r.length cap (ncells r) hx (ncells_length r) ?_ (ncells_one_cell r) ?_ ?_ hB ?_
  · intro j u hj
    have hadd : (⟨g, off, none⟩ : Addr).add j = ⟨g, off + j, none⟩ := by unfold Addr.add; split <;> simp_all
    rw [hadd]; exact hc j u hj
  · unfold maxLen; omega
  · omega
  · intro v' w' hown' hgrow _
    exact hK v' w' (by unfold OwnN; rw [ncells_append, List.length_append]; exact hown') hgrow
end Go.Proofs.Ytfdehigepgeknaa
