/-
  The law of QueryPasses, plainly; nodes are put behind nodes. No condition.
-/
import Derived.Test.YtmcneelapghfcaaRa
import Derived.Test.YtmcneelapghfcaaBl
namespace Go.Proofs.Ytmcneelapghfcaa
open Go.RowKit Pd Qu

theorem append_nodes (w : World) {ops : Array Oper} {rest : List Oper} {o : Oper} {a : Act} {Q : Exit → Act → World → Prop} (hgd : o.guard = none) (s x : Operand)
    (ho : o.op = .call { callee := .builtin .append, args := #[s, x], argTypes := #[25, 25] })
    (B : Nat) (v : Value) (l : List N) (hs : a.eval s = v) (hown : OwnN w B v l) (r : List N) (adr : Option Addr) (n cap : Nat) (hx : a.eval x = .slice adr n cap) (hr : NsAt w (.slice adr n cap) r) (h0 : 0 < r.length)
    (hlen : l.length + r.length ≤ 1000000) (hB : B ≤ w.heap.size)
    (hK : ∀ v' w', OwnN w' B v' (l ++ r) → w.grownBy w' v.ownBlock → wpList Try.prog ops Q rest (a.put o.dst v') w') : wpList Try.prog ops Q (o :: rest) a w := by
  obtain ⟨i0, hi, hz0, hz1, hz2⟩ := info_parts Try.infoNode
  obtain ⟨rfl, g, off, rfl, hc⟩ := hr.at h0
  refine wpList_append_own w hgd s x 25 ho B 65 i0 _ 6 56 Try.underlying25 hi hz0 hz1 hz2 rfl (by decide) v l.length (ncells l) hs hown ⟨g, off, none⟩ r.length cap (ncells r) hx (ncells_length r) ?_ (ncells_one_cell r) ?_ ?_ hB ?_
  · intro j u hj
    have hadd : (⟨g, off, none⟩ : Addr).add j = ⟨g, off + j, none⟩ := by unfold Addr.add; split <;> simp_all
    rw [hadd]; exact hc j u hj
  · unfold maxLen; omega
  · omega
  · intro v' w' hown' hgrow _
    exact hK v' w' (by unfold OwnN; rw [ncells_append, List.length_append]; exact hown') hgrow
theorem own_sl7 {w : World} {B e s n : Nat} {v : Value} {xs : List Value} (h : w.ownsRow B e s v n xs) : ∃ a c, v = .slice a n c := by
  rcases h.2 with ⟨rfl, hn⟩ | ⟨g, cap, cur, rfl, _⟩
  · exact ⟨none, 0, by rw [hn]⟩
  · exact ⟨_, cap, rfl⟩
namespace Qu
theorem eval_one {l : List N} {row : List Cd.V} (h : evalI l row = 1) : whole l = true ∧ colsOk l row.length = true := by
  unfold evalI at h
  cases hw : whole l with
  | false => rw [if_pos hw] at h; cases h
  | true =>
    rw [if_neg (by rw [hw]; decide)] at h
    cases hc : colsOk l row.length with
    | false => rw [if_pos hc] at h; cases h
    | true => exact ⟨rfl, rfl⟩
/-- what passes does not pass its Not -/
theorem not_pass {l : List N} {row : List Cd.V} {x : N} (hx : x.op = 11) (hl : l.length ≤ 38) (h : evalI l row = 1) : evalI (x :: l) row ≠ 1 := by
  intro h2
  obtain ⟨hw, hc⟩ := eval_one h
  obtain ⟨_, hc2⟩ := eval_one h2
  obtain ⟨t, ht, rfl⟩ := tree (whole_ends hw).1
  have e1 := evalI_tree row ht (by omega) hc
  have e2 := evalI_tree row (t := .not x t) ⟨hx, ht⟩ (by show (x :: t.ser).length ≤ 40; rw [List.length_cons]; omega) hc2
  have e3 : evalI (x :: t.ser) row = notI (t.ev row) := e2
  rw [e3, ← e1, h] at h2
  cases h2
theorem push_pass {l p : List N} {row : List Cd.V} (hp : pushL l p) (h : evalI l row = 1) : 0 < p.length ∧ p.length ≤ 40 ∧ evalI p row = 1 ∧ ((∀ x ∈ l, x.v.s.size ≤ maxLen) → ∀ x ∈ p, x.v.s.size ≤ maxLen) := by
  obtain ⟨hw, hc⟩ := eval_one h
  rcases push_law hp with ⟨_, hf⟩ | ⟨h0, h1, _, _, _, he, _, hs⟩
  · rw [hw] at hf; cases hf
  · exact ⟨h0, h1, by rw [he row hc]; exact h, hs⟩
theorem nok_other {x : N} (h : Nok x) (h0 : 1 ≤ x.op) (h1 : x.op ≤ 10) : Nok (other x) := by
  obtain ⟨op, col, v⟩ := x
  simp only at h0 h1
  refine ⟨?_, h.2.1, h.2.2⟩
  show -9223372036854775808 ≤ otherOp op ∧ otherOp op ≤ 9223372036854775807
  obtain rfl | rfl | rfl | rfl | rfl | rfl | rfl | rfl | rfl | rfl : op = 1 ∨ op = 2 ∨ op = 3 ∨ op = 4 ∨ op = 5 ∨ op = 6 ∨ op = 7 ∨ op = 8 ∨ op = 9 ∨ op = 10 := by omega
  all_goals decide
theorem push_nok {l p : List N} (hp : pushL l p) (hk : ∀ x ∈ l, Nok x) : ∀ x ∈ p, Nok x := by
  rcases hp with ⟨_, rfl⟩ | ⟨t, ht, rfl, _, rfl⟩
  · exact fun x hx => absurd hx List.not_mem_nil
  · exact push_nodes Nok (fun x hx h0 h1 => nok_other hx h0 h1) t ht false hk
theorem pass_wh {q : Q} {row : List Cd.V} (h : 0 < q.wh.length) : passB q row = decide (evalI q.wh row = 1) := by
  unfold passB
  rw [decide_eq_false (by omega), Bool.false_or]
theorem proj_len (q : Q) (row : List Cd.V) : (projL q row).length = if q.cols.length = 0 then row.length else q.cols.length := by
  unfold projL
  split
  · rfl
  · rw [List.length_map]
end Qu
end Go.Proofs.Ytmcneelapghfcaa
