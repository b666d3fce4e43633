/-
  A query that is being read, in memory; what Decode leaves. No condition.
-/
import Derived.Test.YtmcneelapghfcaaRg
namespace Go.Proofs.Ytmcneelapghfcaa
open Go.RowKit Pd Qu

/-- nodes of the call's own -/
def OwN (w : World) (B : Nat) (v : Value) (l : List N) : Prop := w.ownsRow B 65 6 v l.length (ncells l)
theorem OwN.nil (w : World) (B : Nat) : OwN w B (.slice none 0 0) [] := World.ownsRow_nil _ _ _ _
theorem OwN.slc {w : World} {B : Nat} {v : Value} {l : List N} (h : OwN w B v l) : ∃ adr cap, v = .slice adr l.length cap := by
  rcases h.2 with ⟨rfl, hn⟩ | ⟨g, cap, cur, rfl, _⟩
  · exact ⟨none, 0, by rw [hn]⟩
  · exact ⟨_, cap, rfl⟩
theorem OwnV.slc {w : World} {B : Nat} {v : Value} {l : List Cd.V} (h : w.ownsRow B 36 4 v l.length (vcells l)) : ∃ adr cap, v = .slice adr l.length cap := vs_slc (VsAt.own h)
theorem IsAt.own {w : World} {B : Nat} {v : Value} {l : List Int} (h : OwnI w B v l) : IsAt w v l := by
  by_cases h0 : 0 < l.length
  · obtain ⟨g, cap, rfl, _, _, _, _, hc⟩ := h.ex h0
    exact ⟨_, cap, rfl, fun k hk => ⟨g, 0, rfl, by rw [Nat.zero_add]; exact (hc k hk).1⟩⟩
  · obtain ⟨adr, cap, rfl⟩ := h.slc
    exact ⟨adr, cap, rfl, fun k hk => absurd hk (by omega)⟩
theorem Try.infoNodeX : (Try.prog.info? 65).map (fun i => (i.zero, i.size, i.bytes)) = some (some (.agg #[.int .i64 0, .int .i64 0, .int .i64 0, .int .i64 0, .int .u64 0, .string ⟨#[]⟩]), 6, 56) := by kernel_rfl
theorem cell_sixX (w : World) (c : Array Value) (t : TypeId) {g : Nat} (hg : g = w.heap.size) : ∀ j u, c.toList[j]? = some u → (w.alloc (.cells c t)).cell? ((⟨g, 0, none⟩ : Addr).add j) = some u := by
  subst hg
  intro j u hj
  have hadd : (⟨w.heap.size, 0, none⟩ : Addr).add j = ⟨w.heap.size, j, none⟩ := by unfold Addr.add; split <;> simp_all
  rw [hadd, cell_of_row (w.alloc (.cells c t)) w.heap.size j c t (0, 0) (heap_alloc_new w _)]
  simpa using hj
/-- a node is put behind them -/
theorem append_node_wp (w : World) {W : World} {o : Oper} {a : Act} {K : Act → World → Prop} {Q : Exit → Act → World → Prop} (sl x : Operand)
    (ho : o.op = .call { callee := .builtin .append, args := #[sl, x], argTypes := #[25, 25] })
    (B : Nat) (v : Value) (l : List N) (hs : a.eval sl = v) (hown : OwN w B v l) (c : N) (g : Nat) (hg : g = w.heap.size) (hx : a.eval x = .slice (some ⟨g, 0, none⟩) 1 1) (hlen : l.length ≤ 1000000) (hB : B ≤ w.heap.size)
    (hW : W = w.alloc (.cells #[.int .i64 c.op, .int .i64 c.col, .int .i64 c.v.k, .int .i64 c.v.n, .int .u64 (c.v.b : Int), .string c.v.s] 65))
    (h : ∀ v' w', OwN w' B v' (l ++ [c]) → w.grownBy w' v.ownBlock → K (a.put o.dst v') w') : o.wp Try.prog a W K Q := by
  subst hW
  obtain ⟨i0, hi, hz0, hz1, hz2⟩ := info_parts Try.infoNodeX
  subst hg
  refine wp_append_own _ sl x 25 ho B 65 i0 _ 6 56 Try.underlying25 hi hz0 hz1 hz2 rfl (by decide) v l.length (ncells l) hs (hown.alloc _) ⟨w.heap.size, 0, none⟩ 1 1 (ncells [c]) hx rfl (cell_sixX w _ _ rfl) (fun y hy => ncells_one_cell [c] y hy) ?_ ?_ ?_ ?_
  · unfold maxLen; omega
  · omega
  · simp; omega
  · intro v' w' hown' hgrow _
    refine h v' w' (by unfold OwN; rw [ncells_append, List.length_append]; exact hown') ?_
    refine ⟨hgrow.os, hgrow.tape, hgrow.output, Nat.le_trans (by simp) hgrow.size, fun k hk hne => ?_⟩
    rw [hgrow.block k (by simp; omega) hne]
    exact Below.heap_alloc w _ k hk
theorem append_node_in (w : World) {W : World} {ops : Array Oper} {rest : List Oper} {o : Oper} {a : Act} {Q : Exit → Act → World → Prop} (hgd : o.guard = none) (sl x : Operand)
    (ho : o.op = .call { callee := .builtin .append, args := #[sl, x], argTypes := #[25, 25] })
    (B : Nat) (v : Value) (l : List N) (hs : a.eval sl = v) (hown : OwN w B v l) (c : N) (g : Nat) (hg : g = w.heap.size) (hx : a.eval x = .slice (some ⟨g, 0, none⟩) 1 1) (hlen : l.length ≤ 1000000) (hB : B ≤ w.heap.size)
    (hW : W = w.alloc (.cells #[.int .i64 c.op, .int .i64 c.col, .int .i64 c.v.k, .int .i64 c.v.n, .int .u64 (c.v.b : Int), .string c.v.s] 65))
    (h : ∀ v' w', OwN w' B v' (l ++ [c]) → w.grownBy w' v.ownBlock → wpList Try.prog ops Q rest (a.put o.dst v') w') : wpList Try.prog ops Q (o :: rest) a W := by
  subst hW
  obtain ⟨i0, hi, hz0, hz1, hz2⟩ := info_parts Try.infoNodeX
  subst hg
  refine wpList_append_own _ hgd sl x 25 ho B 65 i0 _ 6 56 Try.underlying25 hi hz0 hz1 hz2 rfl (by decide) v l.length (ncells l) hs (hown.alloc _) ⟨w.heap.size, 0, none⟩ 1 1 (ncells [c]) hx rfl (cell_sixX w _ _ rfl) (fun y hy => ncells_one_cell [c] y hy) ?_ ?_ ?_ ?_
  · unfold maxLen; omega
  · omega
  · simp; omega
  · intro v' w' hown' hgrow _
    refine h v' w' (by unfold OwN; rw [ncells_append, List.length_append]; exact hown') ?_
    refine ⟨hgrow.os, hgrow.tape, hgrow.output, Nat.le_trans (by simp) hgrow.size, fun k hk hne => ?_⟩
    rw [hgrow.block k (by simp; omega) hne]
    exact Below.heap_alloc w _ k hk
/-- the zero cells of a query -/
def zq : Array Value := #[.int .i64 0, .string ⟨#[]⟩, .slice none 0 0, .int .i64 0, .int .i64 0, .int .i64 0, .int .i64 0, .slice none 0 0, .slice none 0 0, .int .i64 0, .bool false]
/-- the query that is read (its block C), its result's block, the reader (g), the key's row (between B and C, as it was in wC) -/
structure RQ (t T : TypeId) (w0 wC : World) (g B C : Nat) (s : ByteArray) (cs : Array Value) (i : Nat) (er : Int) (w : World) : Prop where
  bel : Below w0.heap.size w0 w
  rd : w.heap[g]? = some (.cells #[.string s, .int .i64 (i : Int), .int .i64 er] t (0, 0))
  blk : Var w C cs T
  res : Var w w0.heap.size zq T
  old : ∀ k, B ≤ k → k < C → w.heap[k]? = wC.heap[k]?
  gl : w0.heap.size < g
  gB : g < B
  BC : B ≤ C
section
variable {t T : TypeId} {w0 wC w w' : World} {g B C : Nat} {s : ByteArray} {cs : Array Value} {i i' : Nat} {er er' : Int}
theorem RQ.lt (h : RQ t T w0 wC g B C s cs i er w) : C < w.heap.size := h.blk.lt
theorem RQ.call (h : RQ t T w0 wC g B C s cs i er w) (u : Upd g w w') (r : w'.heap[g]? = some (.cells #[.string s, .int .i64 (i' : Int), .int .i64 er'] t (0, 0))) : RQ t T w0 wC g B C s cs i' er' w' :=
  ⟨Upd.below h.bel u (Nat.le_of_lt h.gl) h.bel.size, r, h.blk.upd u (by have := h.gB; have := h.BC; omega), h.res.upd u (by have := h.gl; omega), fun k h1 h2 => (u.block k (by have := h.lt; omega) (by have := h.gB; simp; omega)).trans (h.old k h1 h2), h.gl, h.gB, h.BC⟩
theorem RQ.keep (h : RQ t T w0 wC g B C s cs i er w) (b : Below w.heap.size w w') : RQ t T w0 wC g B C s cs i er w' := h.call (Upd.of b) (keepBlock h.rd b)
theorem RQ.set (h : RQ t T w0 wC g B C s cs i er w) (o : Nat) (v : Value) : RQ t T w0 wC g B C s (cs.setIfInBounds o v) i er (w.setCell ⟨C, o, none⟩ v) :=
  ⟨h.bel.setCell (p := ⟨C, o, none⟩) (by have := h.gl; have := h.gB; have := h.BC; show _ ≤ C; omega) v, (heap_setCell_other w ⟨C, o, none⟩ g v (by have := h.gB; have := h.BC; simp; omega)).trans h.rd, h.blk.set o v, h.res.setO v (by have := h.gl; have := h.gB; have := h.BC; omega), fun k h1 h2 => (heap_setCell_other w ⟨C, o, none⟩ k v (by simp; omega)).trans (h.old k h1 h2), h.gl, h.gB, h.BC⟩
theorem RQ.grow (h : RQ t T w0 wC g B C s cs i er w) {r : Option Nat} (gr : w.grownBy w' r) (hr : ∀ q, r = some q → C < q) : RQ t T w0 wC g B C s cs i er w' := by
  have hg := h.gl
  have hb := h.gB
  have hc := h.BC
  have hT := h.lt
  have kp : ∀ k, k ≤ C → w'.heap[k]? = w.heap[k]? := fun k hk => gr.block k (by omega) (fun e => by have := hr k e.symm; omega)
  exact ⟨Below.grown h.bel gr h.bel.size (fun q e => by have := hr q e; omega), (kp _ (by omega)).trans h.rd, (kp _ (Nat.le_refl _)).trans h.blk, (kp _ (by omega)).trans h.res, fun k h1 h2 => (kp k (by omega)).trans (h.old k h1 h2), hg, hb, hc⟩
theorem RQ.key (h : RQ t T w0 wC g B C s cs i er w) (hC : wC.heap.size = C) {v : Value} {e n size : Nat} {xs : List Value} (ho : wC.ownsRow B e size v n xs) : w.ownsRow B e size v n xs := by
  refine ⟨ho.1, ?_⟩
  rcases ho.2 with hn | ⟨g', cap, cur, rfl, hB, hg, rest⟩
  · exact .inl hn
  · have := (Array.getElem?_eq_some_iff.1 hg).1
    exact .inr ⟨g', cap, cur, rfl, hB, (h.old g' hB (by omega)).trans hg, rest⟩
end
theorem own_type {w w' : World} {B e e' size n q : Nat} {v : Value} {xs : List Value} {cur : Array Value} (h : w.ownsRow B e size v n xs) (hq : w.heap[q]? = some (.cells cur e' (0, 0))) (hne : e ≠ e') (gr : w.grownBy w' (some q)) : w'.ownsRow B e size v n xs := by
  refine h.kept (row := some q) gr (.inr (fun hv => ?_))
  rcases h.2 with ⟨rfl, _⟩ | ⟨g, cap, cur', rfl, _, hg, _⟩
  · cases hv
  · have : g = q := by injection hv
    subst this
    rw [hq] at hg
    injection hg with hg
    injection hg with _ he _
    exact hne he.symm
/-- nodes stay where numbers of the call's own grow -/
theorem OwN.other {w w' : World} {B : Nat} {v u : Value} {l : List N} {m : List Int} (h : OwN w B v l) (hi : OwnI w B u m) (gr : w.grownBy w' u.ownBlock) : OwN w' B v l := by
  rcases hi.2 with ⟨rfl, _⟩ | ⟨g, cap, cur, rfl, _, hg, _⟩
  · exact h.kept (row := none) gr (Classical.em _)
  · exact own_type h hg (by decide) gr
theorem idxp_0 (a b c d : Value) (w : World) : (Instr.index 90 (.agg #[a, b, c, d]) (.int .i64 0)).run Try.prog w = .ok a w := by
  simp [Instr.index, run_underlying Try.underlying90, asIntOf, go_sem]
theorem idxp_1 (a b c d : Value) (w : World) : (Instr.index 90 (.agg #[a, b, c, d]) (.int .i64 1)).run Try.prog w = .ok b w := by
  simp [Instr.index, run_underlying Try.underlying90, asIntOf, go_sem]
theorem idxp_2 (a b c d : Value) (w : World) : (Instr.index 90 (.agg #[a, b, c, d]) (.int .i64 2)).run Try.prog w = .ok c w := by
  simp [Instr.index, run_underlying Try.underlying90, asIntOf, go_sem]
theorem idxp_3 (a b c d : Value) (w : World) : (Instr.index 90 (.agg #[a, b, c, d]) (.int .i64 3)).run Try.prog w = .ok d w := by
  simp [Instr.index, run_underlying Try.underlying90, asIntOf, go_sem]
theorem nul_ok : Vok nul := ⟨i64_0, by decide, by show (ByteArray.mk #[]).size ≤ maxLen; decide⟩
namespace Qu
/-- a query that was read -/
structure Small (q : Q) : Prop where
  ok : Qok q
  tab : q.table.size ≤ 1000000
  key : q.key.length ≤ 1000
  wh : q.wh.length ≤ 1001
  cols : q.cols.length ≤ 1001
theorem small_no : Small noQ := ⟨⟨i64_0, by show (ByteArray.mk #[]).size ≤ maxLen; decide, fun x hx => absurd hx List.not_mem_nil, i64_0, i64_0, i64_0, i64_0, fun x hx => absurd hx List.not_mem_nil, fun x hx => absurd hx List.not_mem_nil, i64_0, Nat.zero_le _, Nat.zero_le _, Nat.zero_le _⟩, Nat.zero_le _, Nat.zero_le _, Nat.zero_le _, Nat.zero_le _⟩
end Qu
/-- what is so of the query, of what was wrong -/
def DecE (b : ByteArray) (q : Q) (er : Int) : Prop := (er = 0 ∧ enc q ≠ [] ∧ b = bstr (enc q)) ∨ (er = 7 ∧ q = noQ ∧ ∀ q', Qok q' → q'.table.size ≤ 1000000 → enc q' ≠ [] → b ≠ bstr (enc q'))
/-- what Decode leaves -/
def DecT (b : ByteArray) (w : World) (e : Ending) (w' : World) : Prop :=
  ∃ (q : Q) (vk vw vc : Value) (er : Int), e = .returned (.tuple #[qv q vk vw vc, .int .i64 er]) ∧ QIn w' q vk vw vc ∧ Small q ∧ Below w.heap.size w w' ∧ DecE b q er
/-- nothing is read where something was wrong, or where the bytes are other ones -/
theorem dec_none {D : Nat → Bool} (h0 : D 0 = false) (h1 : D 1 = true) {b : ByteArray} {q : Q} {e : Int} (hd : decR D b = (q, e)) (h : e ≠ 0 ∨ bstr (enc q) ≠ b) : ∀ q', Qok q' → q'.table.size ≤ 1000000 → enc q' ≠ [] → b ≠ bstr (enc q') := by
  intro q' hk ht hn he
  have := decR_back h0 h1 hk ht hn he
  rw [hd] at this
  injection this with h2 h3
  rcases h with h | h
  · exact h h3
  · exact h (by rw [h2]; exact he.symm)
theorem dec_some {D : Nat → Bool} {b : ByteArray} {q : Q} {e : Int} (hd : decR D b = (q, e)) (h : e = 0) (hb : bstr (enc q) = b) : enc q ≠ [] := by
  intro h0
  rw [h0] at hb
  have hb' : b = ⟨#[]⟩ := hb.symm
  subst hb'
  have h8 := decR_empty D
  rw [hd] at h8
  subst h
  cases h8
/-- what has the same bytes is the same -/
theorem enc_inj {q u : Q} (hk : Qok q) (hk' : Qok u) (ht : q.table.size ≤ 1000000) (ht' : u.table.size ≤ 1000000) (h : enc q ≠ []) (he : bstr (enc q) = bstr (enc u)) (h' : enc u ≠ []) : q = u := by
  have a := decR_back (D := fun n => decide (0 < n)) rfl rfl hk ht h (rfl : bstr (enc q) = bstr (enc q))
  have d := decR_back (D := fun n => decide (0 < n)) rfl rfl hk' ht' h' he
  rw [a] at d
  injection d with d _
/-- both Decodes tell the same -/
theorem dec_pair {b : ByteArray} {q u : Q} {e f : Int} (hk : Qok q) (hk' : Qok u) (ht : q.table.size ≤ 1000000) (ht' : u.table.size ≤ 1000000) (h : DecE b q e) (h' : DecE b u f) : q = u ∧ e = f := by
  rcases h with ⟨h1, h2, h3⟩ | ⟨h1, h2, h3⟩
  · rcases h' with ⟨g1, g2, g3⟩ | ⟨_, _, g3⟩
    · exact ⟨enc_inj hk hk' ht ht' h2 (by rw [← h3, ← g3]) g2, by rw [h1, g1]⟩
    · exact absurd h3 (g3 q hk ht h2)
  · rcases h' with ⟨_, g2, g3⟩ | ⟨g1, g2, _⟩
    · exact absurd g3 (h3 u hk' ht' g2)
    · exact ⟨by rw [h2, g2], by rw [h1, g1]⟩
end Go.Proofs.Ytmcneelapghfcaa
