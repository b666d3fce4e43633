/-
  Changes in a row of the call's own; what Decode leaves. No condition.
-/
import Derived.Test.YtmmegicaeaifaaaGa
namespace Go.Proofs.Ytmmegicaeaifaaa
open Go.RowKit Fr

/-- the cells of changes whose rows and columns lie elsewhere -/
def hcells (L : List (Ch × Value × Value)) : List Value := L.flatMap fun x => [.int .i64 x.1.op, .string x.1.table, x.2.1, .int .i64 x.1.fr, .int .i64 x.1.to, .string x.1.df.name, x.2.2, .int .i64 x.1.df.keys]
theorem hcells_append (l r : List (Ch × Value × Value)) : hcells (l ++ r) = hcells l ++ hcells r := by simp [hcells]
theorem hcells_length (l : List (Ch × Value × Value)) : (hcells l).length = l.length * 8 := by
  induction l with
  | nil => rfl
  | cons s l ih => show (_ :: _ :: _ :: _ :: _ :: _ :: _ :: _ :: hcells l).length = _; simp [ih]; omega
theorem hcells_get {l : List (Ch × Value × Value)} {j : Nat} {s : Ch × Value × Value} (h : l[j]? = some s) : (hcells l)[j * 8]? = some (.int .i64 s.1.op) ∧ (hcells l)[j * 8 + 1]? = some (.string s.1.table) ∧ (hcells l)[j * 8 + 2]? = some s.2.1 ∧ (hcells l)[j * 8 + 3]? = some (.int .i64 s.1.fr) ∧ (hcells l)[j * 8 + 4]? = some (.int .i64 s.1.to) ∧
    (hcells l)[j * 8 + 5]? = some (.string s.1.df.name) ∧ (hcells l)[j * 8 + 6]? = some s.2.2 ∧ (hcells l)[j * 8 + 7]? = some (.int .i64 s.1.df.keys) := by
  induction l generalizing j with
  | nil => simp at h
  | cons x l ih =>
    have e : hcells (x :: l) = [.int .i64 x.1.op, .string x.1.table, x.2.1, .int .i64 x.1.fr, .int .i64 x.1.to, .string x.1.df.name, x.2.2, .int .i64 x.1.df.keys] ++ hcells l := rfl
    cases j with
    | zero => simp at h; subst h; exact ⟨rfl, rfl, rfl, rfl, rfl, rfl, rfl, rfl⟩
    | succ j =>
      simp only [List.getElem?_cons_succ] at h
      have g : ∀ i, (hcells (x :: l))[(j + 1) * 8 + i]? = (hcells l)[j * 8 + i]? := by
        intro i
        rw [e, List.getElem?_append_right (by simp; omega)]
        congr 1; simp; omega
      have := ih h
      exact ⟨(g 0).trans this.1, (g 1).trans this.2.1, (g 2).trans this.2.2.1, (g 3).trans this.2.2.2.1, (g 4).trans this.2.2.2.2.1, (g 5).trans this.2.2.2.2.2.1, (g 6).trans this.2.2.2.2.2.2.1, (g 7).trans this.2.2.2.2.2.2.2⟩
/-- a change's row and columns, each of the call's own -/
structure In (w : World) (B : Nat) (x : Ch × Value × Value) : Prop where
  row : w.ownsRow B 59 4 x.2.1 x.1.row.length (vcells x.1.row)
  col : w.ownsRow B 88 3 x.2.2 x.1.df.cols.length (ccells x.1.df.cols)
theorem In.upd {w w' : World} {B g : Nat} {x : Ch × Value × Value} (h : In w B x) (hu : Upd g w w') (hg : g < B) : In w' B x := ⟨own_upd h.row hu hg, own_upd h.col hu hg⟩
theorem In.keep {w w' : World} {B : Nat} {x : Ch × Value × Value} (h : In w B x) (hb : Below w.heap.size w w') : In w' B x := ⟨own_keep h.row hb, own_keep h.col hb⟩
theorem In.setO {w : World} {B r o : Nat} {u : Value} {x : Ch × Value × Value} (h : In w B x) (hr : r < B) : In (w.setCell ⟨r, o, none⟩ u) B x := ⟨own_setO h.row hr, own_setO h.col hr⟩
theorem own_other {w w' : World} {B e e' size n q : Nat} {v : Value} {xs : List Value} {cur : Array Value} (h : w.ownsRow B e size v n xs) (hq : w.heap[q]? = some (.cells cur e' (0, 0))) (hne : e ≠ e') (gr : w.grownBy w' (some q)) : w'.ownsRow B e size v n xs := by
  refine h.kept (row := some q) gr (.inr (fun hv => ?_))
  rcases h.2 with ⟨rfl, _⟩ | ⟨g, cap, cur', rfl, _, hg, _⟩
  · cases hv
  · have : g = q := by injection hv
    subst this
    rw [hq] at hg
    injection hg with hg
    injection hg with _ he _
    exact hne he.symm
theorem In.grow {w w' : World} {B q : Nat} {x : Ch × Value × Value} {cur : Array Value} (h : In w B x) (hq : w.heap[q]? = some (.cells cur 32 (0, 0))) (gr : w.grownBy w' (some q)) : In w' B x := ⟨own_other h.row hq (by decide) gr, own_other h.col hq (by decide) gr⟩
/-- changes of the call's own -/
def OwnH (w : World) (B : Nat) (v : Value) (L : List (Ch × Value × Value)) : Prop := w.ownsRow B 32 8 v L.length (hcells L) ∧ ∀ x ∈ L, In w B x
theorem OwnH.nil (w : World) (B : Nat) : OwnH w B (.slice none 0 0) [] := ⟨World.ownsRow_nil _ _ _ _, fun _ hx => absurd hx List.not_mem_nil⟩
theorem OwnH.upd {w w' : World} {B g : Nat} {v : Value} {L : List (Ch × Value × Value)} (h : OwnH w B v L) (hu : Upd g w w') (hg : g < B) : OwnH w' B v L := ⟨own_upd h.1 hu hg, fun x hx => (h.2 x hx).upd hu hg⟩
theorem OwnH.keep {w w' : World} {B : Nat} {v : Value} {L : List (Ch × Value × Value)} (h : OwnH w B v L) (hb : Below w.heap.size w w') : OwnH w' B v L := ⟨own_keep h.1 hb, fun x hx => (h.2 x hx).keep hb⟩
theorem OwnH.setO {w : World} {B r o : Nat} {u v : Value} {L : List (Ch × Value × Value)} (h : OwnH w B v L) (hr : r < B) : OwnH (w.setCell ⟨r, o, none⟩ u) B v L := ⟨own_setO h.1 hr, fun x hx => (h.2 x hx).setO hr⟩
theorem OwnH.at {w : World} {B : Nat} {v : Value} {L : List (Ch × Value × Value)} (h : OwnH w B v L) : HsAt w v (L.map (·.1)) := by
  rcases h.1.2 with ⟨rfl, hn⟩ | ⟨g, cap, cur, rfl, hB, hg, hn, _, hs, ht⟩
  · exact ⟨none, 0, by rw [List.length_map, hn], fun k hk => by rw [List.length_map] at hk; omega⟩
  · refine ⟨_, cap, by rw [List.length_map], fun k hk => ?_⟩
    rw [List.length_map] at hk
    have hc : ∀ i u, (hcells L)[i]? = some u → w.cell? ⟨g, 0 + i, none⟩ = some u := by
      intro i u hi
      rw [Nat.zero_add, cell_of_row w g i cur _ (0, 0) hg]
      rw [← ht, List.getElem?_take] at hi
      split at hi
      · simpa using hi
      · cases hi
    obtain ⟨g0, g1, g2, g3, g4, g5, g6, g7⟩ := hcells_get (List.getElem?_eq_getElem hk)
    have hin := h.2 L[k] (List.getElem_mem hk)
    rw [List.getElem_map]
    exact ⟨g, 0, _, _, rfl, hc _ _ g0, by rw [Nat.add_assoc]; exact hc _ _ g1, by rw [Nat.add_assoc]; exact hc _ _ g2, by rw [Nat.add_assoc]; exact hc _ _ g3, by rw [Nat.add_assoc]; exact hc _ _ g4, by rw [Nat.add_assoc]; exact hc _ _ g5, by rw [Nat.add_assoc]; exact hc _ _ g6, by rw [Nat.add_assoc]; exact hc _ _ g7, VsAt.own hin.row, CsAt.own hin.col⟩
theorem Try.infoChange : (Try.prog.info? 32).map (fun i => (i.zero, i.size, i.bytes)) = some (some (.agg #[.int .i64 0, .string ⟨#[]⟩, .slice none 0 0, .int .i64 0, .int .i64 0, .string ⟨#[]⟩, .slice none 0 0, .int .i64 0]), 8, 112) := by kernel_rfl
theorem cell_eight (w : World) (c : Array Value) (t : TypeId) {g : Nat} (hg : g = w.heap.size) : ∀ j u, c.toList[j]? = some u → (w.alloc (.cells c t)).cell? ((⟨g, 0, none⟩ : Addr).add j) = some u := by
  subst hg
  intro j u hj
  have hadd : (⟨w.heap.size, 0, none⟩ : Addr).add j = ⟨w.heap.size, j, none⟩ := by unfold Addr.add; split <;> simp_all
  rw [hadd, cell_of_row (w.alloc (.cells c t)) w.heap.size j c t (0, 0) (heap_alloc_new w _)]
  simpa using hj
theorem hcells_one_cell {w : World} {B : Nat} (x : Ch × Value × Value) (h : In w B x) : ∀ u ∈ hcells [x], u.oneCell' = true := by
  obtain ⟨a1, n1, e1⟩ := vs_slc (VsAt.own h.row)
  obtain ⟨a2, n2, e2⟩ := (CsAt.own h.col).slc
  obtain ⟨c, vr, vc⟩ := x
  simp only at e1 e2
  subst e1 e2
  intro u hu
  simp [hcells] at hu
  rcases hu with rfl | rfl | rfl | rfl | rfl | rfl | rfl | rfl <;> rfl
/-- a change is put behind them -/
theorem append_ch_wp (w : World) {W : World} {o : Oper} {a : Act} {K : Act → World → Prop} {Q : Exit → Act → World → Prop} (sl x : Operand)
    (ho : o.op = .call { callee := .builtin .append, args := #[sl, x], argTypes := #[22, 22] })
    (B : Nat) (v : Value) (L : List (Ch × Value × Value)) (hs : a.eval sl = v) (hown : OwnH w B v L) (c : Ch × Value × Value) (hin : In w B c) (g : Nat) (hg : g = w.heap.size) (hx : a.eval x = .slice (some ⟨g, 0, none⟩) 1 1) (hlen : L.length ≤ 1000000) (hB : B ≤ w.heap.size)
    (hW : W = w.alloc (.cells #[.int .i64 c.1.op, .string c.1.table, c.2.1, .int .i64 c.1.fr, .int .i64 c.1.to, .string c.1.df.name, c.2.2, .int .i64 c.1.df.keys] 32))
    (h : ∀ v' w', OwnH w' B v' (L ++ [c]) → w.grownBy w' v.ownBlock → K (a.put o.dst v') w') : o.wp Try.prog a W K Q := by
  subst hW
  obtain ⟨i0, hi, hz0, hz1, hz2⟩ := info_parts Try.infoChange
  subst hg
  refine wp_append_own _ sl x 22 ho B 32 i0 _ 8 112 Try.underlying22 hi hz0 hz1 hz2 rfl (by decide) v L.length (hcells L) hs (hown.1.alloc _) ⟨w.heap.size, 0, none⟩ 1 1 (hcells [c]) hx rfl (cell_eight w _ _ rfl) (hcells_one_cell c hin) ?_ ?_ ?_ ?_
  · unfold maxLen; omega
  · omega
  · simp; omega
  · intro v' w' hown' hgrow _
    have gr : w.grownBy w' v.ownBlock := ⟨hgrow.os, hgrow.tape, hgrow.output, Nat.le_trans (by simp) hgrow.size, fun k hk hne => by
      rw [hgrow.block k (by simp; omega) hne]
      exact Below.heap_alloc w _ k hk⟩
    have hins : ∀ y, In w B y → In w' B y := by
      intro y hy
      rcases hown.1.2 with ⟨rfl, _⟩ | ⟨g, cap, cur, rfl, _, hg, _⟩
      · exact ⟨hy.row.kept (row := none) gr (Classical.em _), hy.col.kept (row := none) gr (Classical.em _)⟩
      · exact hy.grow hg gr
    refine h v' w' ⟨by rw [hcells_append, List.length_append]; exact hown', fun y hy => ?_⟩ gr
    rcases List.mem_append.1 hy with hy | hy
    · exact hins y (hown.2 y hy)
    · rw [List.mem_singleton.1 hy]; exact hins c hin
/-- what Decode leaves -/
def DecT (b : ByteArray) (w : World) (e : Ending) (w' : World) : Prop :=
  ∃ (t : Tx) (v : Value) (er : Int), e = .returned (.tuple #[tv t v, .int .i64 er]) ∧ HsAt w' v t.cs ∧ Hok t.cs ∧ Below w.heap.size w w' ∧
    ((er = 0 ∧ body t ≠ [] ∧ b = bstr (body t)) ∨ (er = 7 ∧ t = noT ∧ ∀ t', Hok t'.cs → body t' ≠ [] → b ≠ bstr (body t')))
theorem decR_nil : decR ⟨#[]⟩ = (⟨0, 0, []⟩, 8) := rfl
/-- nothing is read where nothing was wrong, and yet the body is another one -/
theorem dec_none {b : ByteArray} {t : Tx} {e : Int} (hd : decR b = (t, e)) (h : e ≠ 0 ∨ bstr (body t) ≠ b) : ∀ t', Hok t'.cs → body t' ≠ [] → b ≠ bstr (body t') := by
  intro t' hk hb he
  have := decR_body (fun c hc => (hk.2 c hc).1) hb he
  rw [hd] at this
  injection this with h1 h2
  rcases h with h | h
  · exact h h2
  · exact h (by rw [h1]; exact he.symm)
theorem dec_some {b : ByteArray} {t : Tx} {e : Int} (hd : decR b = (t, e)) (h : e = 0) (hb : bstr (body t) = b) : body t ≠ [] := by
  intro h0
  rw [h0] at hb
  have hb' : b = ⟨#[]⟩ := hb.symm
  subst hb'
  rw [decR_nil] at hd
  injection hd with _ h2
  subst h2
  cases h
theorem dec_zero {b : ByteArray} {t : Tx} {e : Int} (hk : Hok t.cs) (hd : decR b = (t, e)) (hb : bstr (body t) = b) (h0 : b ≠ ⟨#[]⟩) : e = 0 ∧ body t ≠ [] := by
  have hn : body t ≠ [] := by
    intro h
    rw [h] at hb
    exact h0 hb.symm
  have := decR_body (fun c hc => (hk.2 c hc).1) hn hb.symm
  rw [hd] at this
  injection this with _ h2
  exact ⟨h2, hn⟩
end Go.Proofs.Ytmmegicaeaifaaa
