/-
  Columns' cells, and an append of columns; what reads of a schema's bytes keep: lemmas. No condition.
-/
import Derived.Test.YtmgafcblbbbanaaScD
import Derived.Test.YtmgafcblbbbanaaRx5
import Derived.Test.YtmgafcblbbbanaaScW
namespace Go.Proofs.Ytmgafcblbbbanaa
open Go.RowKit

theorem Try.infoColumn : (Try.prog.info? 49).map (fun i => (i.zero, i.size, i.bytes)) = some (some (.agg #[.string ⟨#[]⟩, .int .i64 0, .bool false]), 3, 32) := by kernel_rfl
/-- the columns' cells, one behind the other -/
def ccells (l : List Sc.C) : List Value := l.flatMap fun c => [.string c.name, .int .i64 c.kind, .bool c.need]
theorem ccells_append (l r : List Sc.C) : ccells (l ++ r) = ccells l ++ ccells r := by simp [ccells]
theorem ccells_length (l : List Sc.C) : (ccells l).length = l.length * 3 := by
  induction l with
  | nil => rfl
  | cons s l ih => show (_ :: _ :: _ :: ccells l).length = _; simp [ih]; omega
theorem ccells_get {l : List Sc.C} {j : Nat} {s : Sc.C} (h : l[j]? = some s) : (ccells l)[j * 3]? = some (.string s.name) ∧ (ccells l)[j * 3 + 1]? = some (.int .i64 s.kind) ∧ (ccells l)[j * 3 + 2]? = some (.bool s.need) := by
  induction l generalizing j with
  | nil => simp at h
  | cons x l ih =>
    show (_ :: _ :: _ :: ccells l)[j * 3]? = _ ∧ (_ :: _ :: _ :: ccells l)[j * 3 + 1]? = _ ∧ (_ :: _ :: _ :: ccells l)[j * 3 + 2]? = _
    cases j with
    | zero => simp at h; subst h; exact ⟨rfl, rfl, rfl⟩
    | succ j =>
      simp only [List.getElem?_cons_succ] at h
      rw [show (j + 1) * 3 = j * 3 + 1 + 1 + 1 from by omega, show j * 3 + 1 + 1 + 1 + 1 = (j * 3 + 1) + 1 + 1 + 1 from by omega, show j * 3 + 1 + 1 + 1 + 2 = (j * 3 + 2) + 1 + 1 + 1 from by omega]
      simp only [List.getElem?_cons_succ]
      exact ih h
theorem ccells_one_cell (l : List Sc.C) : ∀ u ∈ ccells l, u.oneCell' = true := by
  intro u hu
  obtain ⟨s, _, hs⟩ := List.mem_flatMap.1 hu
  simp at hs
  rcases hs with rfl | rfl | rfl <;> rfl
theorem CsAt.own {w : World} {B : Nat} {v : Value} {l : List Sc.C} (h : w.ownsRow B 49 3 v l.length (ccells l)) : CsAt w v l := by
  rcases h.2 with ⟨rfl, hn⟩ | ⟨g, cap, cur, rfl, hB, hg, hn, hm, hs, ht⟩
  · exact ⟨none, 0, by rw [hn], by omega, by decide, fun k hk => by omega⟩
  · refine ⟨_, cap, rfl, hn, hm, fun k hk => ⟨g, 0, rfl, ?_⟩⟩
    have hc : ∀ i u, (ccells l)[i]? = some u → w.cell? ⟨g, 0 + i, none⟩ = some u := by
      intro i u hi
      rw [Nat.zero_add, cell_of_row w g i cur _ (0, 0) hg]
      rw [← ht, List.getElem?_take] at hi
      split at hi
      · simpa using hi
      · cases hi
    obtain ⟨g0, g1, g2⟩ := ccells_get (List.getElem?_eq_getElem hk)
    exact ⟨hc _ _ g0, by rw [Nat.add_assoc]; exact hc _ _ g1, by rw [Nat.add_assoc]; exact hc _ _ g2⟩
theorem cell_three (w : World) (a b c : Value) (t : TypeId) {g : Nat} (hg : g = w.heap.size) : ∀ j u, [a, b, c][j]? = some u → (w.alloc (.cells #[a, b, c] t)).cell? ((⟨g, 0, none⟩ : Addr).add j) = some u := by
  subst hg
  intro j u hj
  have hadd : (⟨w.heap.size, 0, none⟩ : Addr).add j = ⟨w.heap.size, j, none⟩ := by unfold Addr.add; split <;> simp_all
  rw [hadd, cell_of_row (w.alloc (.cells #[a, b, c] t)) w.heap.size j #[a, b, c] t (0, 0) (heap_alloc_new w _)]
  simpa using hj
/-- 'append(cols, c)', out of the call's own, c in a block that has just been laid -/
theorem append_col (u : World) {ops : Array Oper} {rest : List Oper} {o : Oper} {a : Act} {Q : Exit → Act → World → Prop} (hgd : o.guard = none) (s x : Operand)
    (ho : o.op = .call { callee := .builtin .append, args := #[s, x], argTypes := #[22, 22] })
    (B : Nat) (v : Value) (l : List Sc.C) (hs : a.eval s = v) (hown : u.ownsRow B 49 3 v l.length (ccells l)) (n : ByteArray) (k : Int) (d : Bool) (g : Nat) (hgz : g = u.heap.size) (hx : a.eval x = .slice (some ⟨g, 0, none⟩) 1 1)
    (hlen : l.length ≤ 1000000) (hB : B ≤ u.heap.size)
    (hK : ∀ v' w', w'.ownsRow B 49 3 v' (l ++ [(⟨n, k, d⟩ : Sc.C)]).length (ccells (l ++ [(⟨n, k, d⟩ : Sc.C)])) → u.grownBy w' v.ownBlock → wpList Try.prog ops Q rest (a.put o.dst v') w') :
    wpList Try.prog ops Q (o :: rest) a (u.alloc (.cells #[.string n, .int .i64 k, .bool d] 49)) := by
  obtain ⟨i0, hi, hz0, hz1, hz2⟩ := info_parts Try.infoColumn
  refine wpList_append_own _ hgd s x 22 ho B 49 i0 (.agg #[.string ⟨#[]⟩, .int .i64 0, .bool false]) 3 32 Try.underlying22 hi hz0 hz1 hz2 rfl (by decide) v l.length (ccells l) hs (hown.alloc _) ⟨g, 0, none⟩ 1 1 (ccells [(⟨n, k, d⟩ : Sc.C)]) hx rfl (cell_three u _ _ _ _ hgz) (ccells_one_cell _) ?_ ?_ ?_ ?_
  · unfold maxLen; omega
  · omega
  · simp; omega
  · intro v' w' hown' hgrow _
    refine hK v' w' (by rw [ccells_append, List.length_append]; exact hown') ?_
    refine ⟨hgrow.os, hgrow.tape, hgrow.output, Nat.le_trans (by simp) hgrow.size, fun k hk hne => ?_⟩
    rw [hgrow.block k (by simp; omega) hne]
    exact Below.heap_alloc u _ k hk
/-- 'min(n, m)' of two numbers that are not below 0 -/
theorem min_u64 (w : World) {ops : Array Oper} {rest : List Oper} {o : Oper} {a : Act} {Q : Exit → Act → World → Prop} (hg : o.guard = none) (x y : Operand) (ts : Array TypeId) (ho : o.op = .call { callee := .builtin .min, args := #[x, y], argTypes := ts })
    (n m : Nat) (M : Int) (hM : M = (m : Int)) (hx : a.eval x = .int .u64 (n : Int)) (hy : a.eval y = .int .u64 M) (hK : ∀ p : Nat, p ≤ m → Hid (p = min n m) → wpList Try.prog ops Q rest (a.put o.dst (.int .u64 (p : Int))) w) : wpList Try.prog ops Q (o :: rest) a w := by
  subst hM
  refine wpList_plain hg fun K hKK => ?_
  have hm : (if (m : Int) < (n : Int) then (m : Int) else (n : Int)) = ((min n m : Nat) : Int) := by split <;> omega
  have h2 : wpList Try.prog ops Q rest (a.put o.dst (.int .u64 (if (m : Int) < (n : Int) then (m : Int) else (n : Int)))) w := by
    rw [hm]; exact hK (min n m) (Nat.min_le_right _ _) rfl
  unfold Oper.wp
  simp [execOp, ho, resolve, invoke, builtin, hx, hy]
  exact hKK _ _ h2
theorem BS.upd {w w' : World} {g g0 : Nat} {n : ByteArray} {v : Value} {k : Int} (h : BS w g0 n v k) (hu : Upd g w w') (hne : g0 ≠ g) : BS w' g0 n v k := by
  show w'.heap[g0]? = _
  rw [hu.block g0 h.cells.2.2.2 (by simpa using hne)]; exact h
theorem BC.upd {w w' : World} {g g0 : Nat} {c : Sc.C} (h : BC w g0 c) (hu : Upd g w w') (hne : g0 ≠ g) : BC w' g0 c := by
  show w'.heap[g0]? = _
  rw [hu.block g0 h.cells.2.2.2 (by simpa using hne)]; exact h
theorem BS.setV {w : World} {g : Nat} {n : ByteArray} {v : Value} {k : Int} (h : BS w g n v k) (u : Value) : BS (w.setCell ⟨g, 1, none⟩ u) g n u k := heap_setCell_same w g 1 _ _ u h
theorem BS.setO {w : World} {g r o : Nat} {n : ByteArray} {v u : Value} {k : Int} (h : BS w g n v k) (hne : r ≠ g) : BS (w.setCell ⟨r, o, none⟩ u) g n v k :=
  (heap_setCell_other w ⟨r, o, none⟩ g u (by simpa [eq_comm] using hne)).trans h
theorem BC.setD {w : World} {g : Nat} {n : ByteArray} {k : Int} {d : Bool} (h : BC w g ⟨n, k, d⟩) (u : Bool) : BC (w.setCell ⟨g, 2, none⟩ (.bool u)) g ⟨n, k, u⟩ := heap_setCell_same w g 2 _ _ (.bool u) h
theorem BS.grown {w w' : World} {g : Nat} {r : Option Nat} {n : ByteArray} {v : Value} {k : Int} (h : BS w g n v k) (hg : w.grownBy w' r) (hne : some g ≠ r) : BS w' g n v k := by
  show w'.heap[g]? = _
  rw [hg.block g h.cells.2.2.2 hne]; exact h
theorem Rdr.grown {w w' : World} {g : Nat} {r : Option Nat} {s : ByteArray} {i : Nat} {e : Int} (h : Rdr w g s i e) (hg : w.grownBy w' r) (hne : some g ≠ r) : Rdr w' g s i e := by
  show w'.heap[g]? = _
  rw [hg.block g h.cells.2.2.2.2.2 hne]; exact h
/-- texts and numbers that are read -/
theorem top_text {s : ByteArray} {i j : Nat} {er e : Int} {t : ByteArray} (h : Cd.top ⟨#[]⟩ (Cd.textR s 1000000) i er = (t, j, e)) : t.size ≤ 1000000 ∧ (e = 0 → er = 0 ∧ i < s.size) := by
  unfold Cd.top at h
  split at h
  · cases h; exact ⟨by show 0 ≤ _; omega, fun h => absurd h (by assumption)⟩
  · rename_i h0
    cases hf : Cd.textR s 1000000 i with
    | error x =>
      rw [hf] at h
      cases h
      have := Cd.text_errs 1000000 s i _ hf
      exact ⟨by show 0 ≤ _; omega, fun h => by omega⟩
    | ok p =>
      obtain ⟨y, m⟩ := p
      rw [hf] at h
      cases h
      obtain ⟨q1, _, q2, q3⟩ := Cd.text_inv hf
      exact ⟨q1, fun _ => ⟨by omega, by omega⟩⟩
theorem top_uint {s : ByteArray} {i j : Nat} {er e : Int} {n : Nat} (h : Cd.top 0 (Cd.uintR s.data.toList) i er = (n, j, e)) : n < 18446744073709551616 ∧ (e = 0 → er = 0) := by
  unfold Cd.top at h
  split at h
  · cases h; exact ⟨by decide, fun h => absurd h (by assumption)⟩
  · rename_i h0
    cases hf : Cd.uintR s.data.toList i with
    | error x => rw [hf] at h; cases h; exact ⟨by decide, fun _ => by omega⟩
    | ok p =>
      obtain ⟨y, m⟩ := p
      rw [hf] at h
      cases h
      exact ⟨(Cd.uint_inv hf).1, fun _ => by omega⟩
/-- what Decode leaves -/
def DecP (b : ByteArray) (w : World) (e : Ending) (w' : World) : Prop :=
  ∃ (s : Sc.S) (v : Value) (er : Int), e = .returned (.tuple #[sv s v, .int .i64 er]) ∧ CsAt w' v s.cols ∧ Sok s ∧ Below w.heap.size w w' ∧
    ((er = 0 ∧ Sc.right s = true ∧ b = bstr (Sc.encode s)) ∨ (er = 7 ∧ s = ⟨⟨#[]⟩, [], 0⟩ ∧ ∀ t, Sc.right t = true → b ≠ bstr (Sc.encode t)))
end Go.Proofs.Ytmgafcblbbbanaa
