/-
  code's row of a reader: its contract. Condition: the text has at most 1000000000 bytes.
-/
import Derived.Test.YtimcmpcfnddioaaRd3
namespace Go.Proofs.Ytimcmpcfnddioaa
open Go.RowKit

theorem Try.infoValue : (Try.prog.info? 39).map (fun i => (i.zero, i.size, i.bytes)) = some (some (.agg #[.int .i64 0, .int .i64 0, .int .u64 0, .string ⟨#[]⟩]), 4, 40) := by kernel_rfl
/-- the values' cells, one behind the other -/
def vcells (l : List Cd.V) : List Value := l.flatMap fun v => [.int .i64 v.k, .int .i64 v.n, .int .u64 (v.b : Int), .string v.s]
theorem vcells_append (l r : List Cd.V) : vcells (l ++ r) = vcells l ++ vcells r := by simp [vcells]
theorem vcells_length (l : List Cd.V) : (vcells l).length = l.length * 4 := by
  induction l with
  | nil => rfl
  | cons s l ih => show (_ :: _ :: _ :: _ :: vcells l).length = _; simp [ih]; omega
theorem vcells_get {l : List Cd.V} {j : Nat} {s : Cd.V} (h : l[j]? = some s) : (vcells l)[j * 4]? = some (.int .i64 s.k) ∧ (vcells l)[j * 4 + 1]? = some (.int .i64 s.n) ∧ (vcells l)[j * 4 + 2]? = some (.int .u64 (s.b : Int)) ∧ (vcells l)[j * 4 + 3]? = some (.string s.s) := by
  induction l generalizing j with
  | nil => simp at h
  | cons x l ih =>
    show (_ :: _ :: _ :: _ :: vcells l)[j * 4]? = _ ∧ (_ :: _ :: _ :: _ :: vcells l)[j * 4 + 1]? = _ ∧ (_ :: _ :: _ :: _ :: vcells l)[j * 4 + 2]? = _ ∧ (_ :: _ :: _ :: _ :: vcells l)[j * 4 + 3]? = _
    cases j with
    | zero => simp at h; subst h; exact ⟨rfl, rfl, rfl, rfl⟩
    | succ j =>
      simp only [List.getElem?_cons_succ] at h
      rw [show (j + 1) * 4 = j * 4 + 1 + 1 + 1 + 1 from by omega, show j * 4 + 1 + 1 + 1 + 1 + 1 = (j * 4 + 1) + 1 + 1 + 1 + 1 from by omega, show j * 4 + 1 + 1 + 1 + 1 + 2 = (j * 4 + 2) + 1 + 1 + 1 + 1 from by omega, show j * 4 + 1 + 1 + 1 + 1 + 3 = (j * 4 + 3) + 1 + 1 + 1 + 1 from by omega]
      simp only [List.getElem?_cons_succ]
      exact ih h
theorem vcells_one_cell (l : List Cd.V) : ∀ u ∈ vcells l, u.oneCell' = true := by
  intro u hu
  obtain ⟨s, _, hs⟩ := List.mem_flatMap.1 hu
  simp at hs
  rcases hs with rfl | rfl | rfl | rfl <;> rfl
theorem VsAt.own {w : World} {B : Nat} {v : Value} {l : List Cd.V} (h : w.ownsRow B 39 4 v l.length (vcells l)) : VsAt w v l := by
  rcases h.2 with ⟨rfl, hn⟩ | ⟨g, cap, cur, rfl, hB, hg, hn, _, hs, ht⟩
  · exact ⟨none, 0, by rw [hn], fun k hk => by omega⟩
  · refine ⟨_, cap, rfl, fun k hk => ⟨g, 0, rfl, ?_⟩⟩
    have hc : ∀ i u, (vcells l)[i]? = some u → w.cell? ⟨g, 0 + i, none⟩ = some u := by
      intro i u hi
      rw [Nat.zero_add, cell_of_row w g i cur _ (0, 0) hg]
      rw [← ht, List.getElem?_take] at hi
      split at hi
      · simpa using hi
      · cases hi
    obtain ⟨g0, g1, g2, g3⟩ := vcells_get (List.getElem?_eq_getElem hk)
    exact ⟨hc _ _ g0, by rw [Nat.add_assoc]; exact hc _ _ g1, by rw [Nat.add_assoc]; exact hc _ _ g2, by rw [Nat.add_assoc]; exact hc _ _ g3⟩
theorem cell_four (w : World) (a b c d : Value) (t : TypeId) {g : Nat} (hg : g = w.heap.size) : ∀ j u, [a, b, c, d][j]? = some u → (w.alloc (.cells #[a, b, c, d] t)).cell? ((⟨g, 0, none⟩ : Addr).add j) = some u := by
  subst hg
  intro j u hj
  have hadd : (⟨w.heap.size, 0, none⟩ : Addr).add j = ⟨w.heap.size, j, none⟩ := by unfold Addr.add; split <;> simp_all
  rw [hadd, cell_of_row (w.alloc (.cells #[a, b, c, d] t)) w.heap.size j #[a, b, c, d] t (0, 0) (heap_alloc_new w _)]
  simpa using hj

/-- 'append(out, v)', out of the call's own, v in a block that has just been laid -/
theorem append_value (u : World) {ops : Array Oper} {rest : List Oper} {o : Oper} {a : Act} {Q : Exit → Act → World → Prop} (hgd : o.guard = none) (s x : Operand)
    (ho : o.op = .call { callee := .builtin .append, args := #[s, x], argTypes := #[22, 22] })
    (B : Nat) (v : Value) (l : List Cd.V) (hs : a.eval s = v) (hown : u.ownsRow B 39 4 v l.length (vcells l)) (p : Cd.V) (g : Nat) (hgz : g = u.heap.size) (hx : a.eval x = .slice (some ⟨g, 0, none⟩) 1 1)
    (hlen : l.length ≤ 1000000) (hB : B ≤ u.heap.size)
    (hK : ∀ v' w', w'.ownsRow B 39 4 v' (l ++ [p]).length (vcells (l ++ [p])) → u.grownBy w' v.ownBlock → wpList Try.prog ops Q rest (a.put o.dst v') w') :
    wpList Try.prog ops Q (o :: rest) a (u.alloc (.cells #[.int .i64 p.k, .int .i64 p.n, .int .u64 (p.b : Int), .string p.s] 39)) := by
  obtain ⟨i0, hi, hz0, hz1, hz2⟩ := info_parts Try.infoValue
  refine wpList_append_own _ hgd s x 22 ho B 39 i0 (.agg #[.int .i64 0, .int .i64 0, .int .u64 0, .string ⟨#[]⟩]) 4 40 Try.underlying22 hi hz0 hz1 hz2 rfl (by decide) v l.length (vcells l) hs (hown.alloc _) ⟨g, 0, none⟩ 1 1 (vcells [p]) hx rfl (cell_four u _ _ _ _ _ hgz) (vcells_one_cell [p]) ?_ ?_ ?_ ?_
  · unfold maxLen; omega
  · omega
  · simp; omega
  · intro v' w' hown' hgrow _
    refine hK v' w' (by rw [vcells_append, List.length_append]; exact hown') ?_
    refine ⟨hgrow.os, hgrow.tape, hgrow.output, Nat.le_trans (by simp) hgrow.size, fun k hk hne => ?_⟩
    rw [hgrow.block k (by simp; omega) hne]
    exact Below.heap_alloc u _ k hk

/-- behind some values: what the rest comes to -/
def joinRow (l : List Cd.V) : Cd.R (List Cd.V) → Cd.R (List Cd.V)
  | .error e => .error e
  | .ok (r, j) => .ok (l ++ r, j)
theorem join_next (s : ByteArray) (l : List Cd.V) (f j : Nat) : joinRow l (Cd.rowF s (f + 1) j) = match Cd.valueR s j with
    | .error e => .error e
    | .ok (v, m) => joinRow (l ++ [v]) (Cd.rowF s f m) := by
  show joinRow l (match Cd.valueR s j with | .error e => .error e | .ok (v, m) => match Cd.rowF s f m with | .error e => .error e | .ok (r, q) => .ok (v :: r, q)) = _
  cases Cd.valueR s j with
  | error e => rfl
  | ok p =>
    obtain ⟨v, m⟩ := p
    simp only
    cases Cd.rowF s f m with
    | error e => rfl
    | ok q => obtain ⟨r, q⟩ := q; simp [joinRow]

end Go.Proofs.Ytimcmpcfnddioaa
