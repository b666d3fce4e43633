/-
  memoirref11.add: its contract. Condition: at most 1000000 spans.
-/
import Derived.Test.YtghgiifclocddaaSpanP
import Derived.Maps.AppendAt
namespace Go.Proofs.Ytghgiifclocddaa
open Go.RowKit

/-- 'append(out, s)', out of the call's own, s in a block that has just been laid; where the new slice lies -/
theorem append_span_at (u : World) {ops : Array Oper} {rest : List Oper} {o : Oper} {a : Act} {Q : Exit → Act → World → Prop} (hgd : o.guard = none) (s x : Operand)
    (ho : o.op = .call { callee := .builtin .append, args := #[s, x], argTypes := #[29, 29] })
    (B : Nat) (v : Value) (l : List Sp.Span) (hs : a.eval s = v) (hown : u.ownsRow B 23 2 v l.length (scells l)) (p q : Int) (g : Nat) (hgz : g = u.heap.size) (hx : a.eval x = .slice (some ⟨g, 0, none⟩) 1 1)
    (hlen : l.length ≤ 1000000) (hB : B ≤ u.heap.size)
    (hK : ∀ v' w', w'.ownsRow B 23 2 v' (l ++ [(p, q)]).length (scells (l ++ [(p, q)])) → u.grownBy w' v.ownBlock → (∀ z, v'.ownBlock = some z → v.ownBlock = some z ∨ u.heap.size < z) → wpList Try.prog ops Q rest (a.put o.dst v') w') :
    wpList Try.prog ops Q (o :: rest) a (u.alloc (.cells #[.int .i64 p, .int .i64 q] 23)) := by
  obtain ⟨i0, hi, hz0, hz1, hz2⟩ := info_parts Try.infoSpan
  refine wpList_append_own_at _ hgd s x 29 ho B 23 i0 (.agg #[.int .i64 0, .int .i64 0]) 2 16 Try.underlying29 hi hz0 hz1 hz2 rfl (by decide) v l.length (scells l) hs (hown.alloc _) ⟨g, 0, none⟩ 1 1 [.int .i64 p, .int .i64 q] hx rfl (cell_two_of hgz) ?_ ?_ ?_ ?_ ?_
  · intro w hw; simp at hw; rcases hw with rfl | rfl <;> rfl
  · unfold maxLen; omega
  · omega
  · simp; omega
  · intro v' w' hown' hgrow _ hat
    refine hK v' w' (by rw [scells_append, scells_one, List.length_append]; exact hown') ?_ ?_
    · refine ⟨hgrow.os, hgrow.tape, hgrow.output, Nat.le_trans (by simp) hgrow.size, fun k hk hne => ?_⟩
      rw [hgrow.block k (by simp; omega) hne]
      exact Below.heap_alloc u _ k hk
    · intro z hz
      rcases hat with e | e
      · exact .inl (by rw [← e]; exact hz)
      · rw [e] at hz; simp at hz; exact .inr (by omega)

/-- what a round of 'add' keeps -/
def AddAt (B : Nat) (wr : World) (v5 v6 : Value) (c : List Sp.Span × List Sp.Span × Sp.Span) : Prop :=
  wr.heap[B]? = some (.cells #[.int .i64 c.2.2.1, .int .i64 c.2.2.2] 23 (0, 0)) ∧ wr.ownsRow (B + 1) 23 2 v5 c.1.length (scells c.1) ∧
  wr.ownsRow (B + 1) 23 2 v6 c.2.1.length (scells c.2.1) ∧ ∀ q, v5.ownBlock = some q → v6.ownBlock ≠ some q
theorem AddAt.below {B : Nat} {wr w' : World} {v5 v6 : Value} {c : List Sp.Span × List Sp.Span × Sp.Span} (h : AddAt B wr v5 v6 c) (hb : Below wr.heap.size wr w') : AddAt B w' v5 v6 c :=
  ⟨keepBlock h.1 hb, own_below h.2.1 hb, own_below h.2.2.1 hb, h.2.2.2⟩
theorem AddAt.set {B : Nat} {wr : World} {v5 v6 : Value} {c : List Sp.Span × List Sp.Span × Sp.Span} (h : AddAt B wr v5 v6 c) (p q : Int) :
    AddAt B ((wr.setCell ⟨B, 0, none⟩ (.int .i64 p)).setCell ⟨B, 1, none⟩ (.int .i64 q)) v5 v6 (c.1, c.2.1, (p, q)) := by
  have k1 := heap_setCell_same wr B 0 _ _ (.int .i64 p) h.1
  have k2 := heap_setCell_same _ B 1 _ _ (.int .i64 q) k1
  refine ⟨k2, ?_, ?_, h.2.2.2⟩
  · refine ⟨h.2.1.1, ?_⟩
    rcases h.2.1.2 with h1 | ⟨g, cap, cur, q1, q2, hg, q3⟩
    · exact .inl h1
    · exact .inr ⟨g, cap, cur, q1, q2, by rw [heap_setCell_other _ ⟨B, 1, none⟩ g _ (by simp; omega), heap_setCell_other _ ⟨B, 0, none⟩ g _ (by simp; omega)]; exact hg, q3⟩
  · refine ⟨h.2.2.1.1, ?_⟩
    rcases h.2.2.1.2 with h1 | ⟨g, cap, cur, q1, q2, hg, q3⟩
    · exact .inl h1
    · exact .inr ⟨g, cap, cur, q1, q2, by rw [heap_setCell_other _ ⟨B, 1, none⟩ g _ (by simp; omega), heap_setCell_other _ ⟨B, 0, none⟩ g _ (by simp; omega)]; exact hg, q3⟩
theorem AddAt.ahead {B : Nat} {wr w' : World} {v5 v6 v5' : Value} {c : List Sp.Span × List Sp.Span × Sp.Span} {x : Sp.Span} (h : AddAt B wr v5 v6 c) (hown : w'.ownsRow (B + 1) 23 2 v5' (c.1 ++ [x]).length (scells (c.1 ++ [x])))
    (hg : wr.grownBy w' v5.ownBlock) (hat : ∀ z, v5'.ownBlock = some z → v5.ownBlock = some z ∨ wr.heap.size < z) : AddAt B w' v5' v6 (c.1 ++ [x], c.2.1, c.2.2) := by
  refine ⟨?_, hown, h.2.2.1.kept hg ?_, fun q hq => ?_⟩
  · show w'.heap[B]? = _
    rw [hg.block B (Array.getElem?_eq_some_iff.1 h.1).1 (fun e => by have := (h.2.1.lt B e.symm).1; omega)]; exact h.1
  · cases hv : v6.ownBlock with
    | none => exact .inl rfl
    | some z => exact .inr fun e => h.2.2.2 z e.symm hv
  · rcases hat q hq with e | e
    · exact h.2.2.2 q e
    · intro e2
      have := (h.2.2.1.lt q e2).2
      omega
theorem AddAt.behind {B : Nat} {wr w' : World} {v5 v6 v6' : Value} {c : List Sp.Span × List Sp.Span × Sp.Span} {x : Sp.Span} (h : AddAt B wr v5 v6 c) (hown : w'.ownsRow (B + 1) 23 2 v6' (c.2.1 ++ [x]).length (scells (c.2.1 ++ [x])))
    (hg : wr.grownBy w' v6.ownBlock) (hat : ∀ z, v6'.ownBlock = some z → v6.ownBlock = some z ∨ wr.heap.size < z) : AddAt B w' v5 v6' (c.1, c.2.1 ++ [x], c.2.2) := by
  refine ⟨?_, h.2.1.kept hg ?_, hown, fun q hq e2 => ?_⟩
  · show w'.heap[B]? = _
    rw [hg.block B (Array.getElem?_eq_some_iff.1 h.1).1 (fun e => by have := (h.2.2.1.lt B e.symm).1; omega)]; exact h.1
  · cases hv : v5.ownBlock with
    | none => exact .inl rfl
    | some z => exact .inr fun e => h.2.2.2 z hv e.symm
  · rcases hat q e2 with e | e
    · exact h.2.2.2 q hq e
    · have := (h.2.1.lt q hq).2
      omega
theorem astep_length (l : List Sp.Span) : ∀ (c : List Sp.Span × List Sp.Span × Sp.Span), (l.foldl Sp.astep c).1.length + (l.foldl Sp.astep c).2.1.length ≤ c.1.length + c.2.1.length + l.length := by
  induction l with
  | nil => intro c; simp
  | cons x l ih =>
    intro c
    have := ih (Sp.astep c x)
    have h2 : (Sp.astep c x).1.length + (Sp.astep c x).2.1.length ≤ c.1.length + c.2.1.length + 1 := by
      unfold Sp.astep
      split
      · simp
      · split <;> simp <;> omega
    simp only [List.foldl_cons, List.length_cons]
    omega
/-- the cells of a block of two -/
theorem two_of {w : World} {g : Nat} {a b : Int} (h : w.heap[g]? = some (.cells #[.int .i64 a, .int .i64 b] 23 (0, 0))) : w.cell? ⟨g, 0, none⟩ = some (.int .i64 a) ∧ w.cell? ⟨g, 1, none⟩ = some (.int .i64 b) ∧ w.frozen? ⟨g, 0, none⟩ = false ∧ w.frozen? ⟨g, 1, none⟩ = false ∧ g < w.heap.size :=
  ⟨cell_of_row w g 0 _ _ _ h, cell_of_row w g 1 _ _ _ h, frozen_of_row w g 0 _ _ h, frozen_of_row w g 1 _ _ h, (Array.getElem?_eq_some_iff.1 h).1⟩

set_option maxRecDepth 100000 in
set_option maxHeartbeats 3200000 in
theorem add_any (v : Value) (l : List Sp.Span) (sa sb : Int) (w : World) (hv : SpansAt w v l) (hl : l.length ≤ 100000) :
    Calls Try.prog 28 #[v, .agg #[.int .i64 sa, .int .i64 sb]] w fun e w' => (∃ v', e = .returned v' ∧ w'.ownsRow w.heap.size 23 2 v' (Sp.add l (sa, sb)).length (scells (Sp.add l (sa, sb)))) ∧ Below w.heap.size w w' := by
  unfold Sp.add
  have hat0 : AddAt w.heap.size (w.alloc (.cells #[.int .i64 sa, .int .i64 sb] 23)) (.slice none 0 0) (.slice none 0 0) ([], [], (sa, sb)) :=
    ⟨heap_alloc_new w _, World.ownsRow_nil _ _ _ _, World.ownsRow_nil _ _ _ _, fun q hq => by cases hq⟩
  have hlv : v = .slice none 0 0 ∨ True := .inr trivial
  obtain ⟨adr, cap, rfl, hcells⟩ : ∃ adr cap, v = .slice adr l.length cap ∧ (∀ k (hk : k < l.length), ∃ g off, adr = some ⟨g, off, none⟩ ∧ g < w.heap.size ∧ w.cell? ⟨g, off + k * 2, none⟩ = some (.int .i64 l[k].1) ∧ w.cell? ⟨g, off + k * 2 + 1, none⟩ = some (.int .i64 l[k].2)) := by
    rcases hv with ⟨rfl, ao, cap, rfl⟩ | ⟨g, off, cap, rfl, hlt, hc⟩
    · exact ⟨ao, cap, rfl, fun k hk => by simp at hk⟩
    · exact ⟨_, cap, rfl, fun k hk => ⟨g, off, rfl, hlt, (hc k l[k] (List.getElem?_eq_getElem hk)).1, (hc k l[k] (List.getElem?_eq_getElem hk)).2⟩⟩
  have HC := hid hcells
  clear hcells hv hlv
  go_enter Try.func28, Try.ntmps28
  go_wp2_with fail
  have hB0 := hba w (.cells #[.int .i64 sa, .int .i64 sb] 23)
  go_loopw [5, 6, 7] (fun v5 v6 i wr => ∃ k : Nat, k ≤ l.length ∧ i = .int .i64 k ∧ AddAt w.heap.size wr v5 v6 ((l.take k).foldl Sp.astep ([], [], (sa, sb))) ∧ Below w.heap.size w wr) (fun _ _ i _ => l.length - (intOf i).toNat)
  case atStart => exact ⟨0, by omega, rfl, hat0, hB0⟩
  case round =>
    obtain ⟨k, hk, rfl, hat, hbel⟩ := hrel
    clear hat0 hB0
    by_cases hlk : k < l.length
    · obtain ⟨g, off, rfl, hlt, q1, q2⟩ := HC.out k hlk
      have HS := hid (foldl_snoc Sp.astep ([], [], (sa, sb)) l k hlk)
      have hcl := astep_length (l.take k) ([], [], (sa, sb))
      rw [List.length_take] at hcl
      simp only [List.length_nil] at hcl
      generalize l[k] = x at q1 q2 HS
      generalize (l.take k).foldl Sp.astep ([], [], (sa, sb)) = c at hat HS hcl
      obtain ⟨xa, xb⟩ := x
      obtain ⟨ca, cb, ⟨ua, ub⟩⟩ := c
      simp only at q1 q2 hcl
      have hlk' : (k : Int) < l.length := by omega
      have hk0 : (0 : Int) ≤ (k : Int) := by omega
      have hAT := hid hat
      clear hat
      obtain ⟨w4, rfl⟩ : ∃ w4 : World, w4 = wr := ⟨_, rfl⟩
      go_wp2_with fail
      obtain ⟨w5, hw5⟩ : ∃ w5, w4.drew = w5 := ⟨_, rfl⟩
      have h45 : Below w4.heap.size w4 w5 := hw5 ▸ (Below.refl _ _).drew
      have hB5 := bnext hbel h45
      have hAT5 := hid (hAT.out.below h45)
      have q15 := hkeep (hkeep q1 hbel) h45
      have q25 := hkeep (hkeep q2 hbel) h45
      obtain ⟨b1, b2, _, _, b3⟩ := two_of hAT5.out.1
      simp only at b1 b2
      have hq5 : g < w5.heap.size := World.block_lt_of_cell? w5 _ q15
      have mk5 : ∀ W, Below w5.heap.size w5 W → (fun W => Below w5.heap.size w5 W ∧ W.cell? ⟨w.heap.size, 0, none⟩ = some (.int .i64 ua) ∧ W.cell? ⟨w.heap.size, 1, none⟩ = some (.int .i64 ub) ∧ W.cell? ⟨g, off + k * 2, none⟩ = some (.int .i64 xa) ∧ W.cell? ⟨g, off + k * 2 + 1, none⟩ = some (.int .i64 xb)) W := fun W h => ⟨h, (h.cell b3).trans b1, (h.cell b3).trans b2, (h.cell (p := ⟨g, off + k * 2, none⟩) hq5).trans q15, (h.cell (p := ⟨g, off + k * 2 + 1, none⟩) hq5).trans q25⟩
      have hjoin := fun W => joinR_any ua ub xa xb W
      generalize hjo : Sp.join (ua, ub) (xa, xb) = jo at hjoin
      have HJ : Hid (∀ W, Calls Try.prog 13 #[.agg #[.int .i64 ua, .int .i64 ub], .agg #[.int .i64 xa, .int .i64 xb]] W fun e w' => e = .returned (.tuple #[.agg #[.int .i64 (Sp.fst jo).1, .int .i64 (Sp.fst jo).2], .bool jo.isSome]) ∧ Below W.heap.size W w') := hjoin
      have HJO := hid hjo
      clear hjoin hjo hlk q1 q2 h45 hAT
      generalize hje : Sp.fst jo = j at HJ
      have HJE := hid hje
      clear hje
      obtain ⟨ja, jb⟩ := j
      simp only at HJ
      refine wp_region_held_drew (S := (fun W => Below w5.heap.size w5 W ∧ W.cell? ⟨w.heap.size, 0, none⟩ = some (.int .i64 ua) ∧ W.cell? ⟨w.heap.size, 1, none⟩ = some (.int .i64 ub) ∧ W.cell? ⟨g, off + k * 2, none⟩ = some (.int .i64 xa) ∧ W.cell? ⟨g, off + k * 2 + 1, none⟩ = some (.int .i64 xb))) (by kernel_rfl) (by rw [hw5]; exact mk5 _ (Below.refl _ _)) (fun hS5 => ?_)
      rw [hw5] at hS5 ⊢
      clear hw5 hbel b1 b2
      refine wpAnyH_take (i := 0) (oi := ({ dst := some 17, op := Op.load 23 (Operand.tmp 3), type := 23, pos := "ref.go:67", after := #[], guard := none } : Oper)) (v := ?_) rfl (by kernel_rfl) (by kernel_rfl) (by kernel_rfl) (fun _ _ _ h => h) (Or.inl ⟨by rfl, ?_⟩) hS5 ?_
      rotate_left
      · intro w hSw; (try dsimp only at hSw); go_simp; (try with_reducible rfl)
      simp only [Act.put, List.setIfInBounds_toArray, List.set_cons_zero, List.set_cons_succ]
      refine wpAnyH_take (i := 1) (oi := ({ dst := some 18, op := Op.move (Operand.tmp 0), type := 29, pos := "ref.go:67", after := #[], guard := none } : Oper)) (v := ?_) rfl (by kernel_rfl) (by kernel_rfl) (by kernel_rfl) (fun _ _ _ h => h) (Or.inl ⟨by rfl, ?_⟩) hS5 ?_
      rotate_left
      · intro w hSw; (try dsimp only at hSw); go_simp; (try with_reducible rfl)
      simp only [Act.put, List.setIfInBounds_toArray, List.set_cons_zero, List.set_cons_succ]
      refine wpAnyH_take (i := 2) (oi := ({ dst := some 19, op := Op.move (Operand.tmp 7), type := 3, pos := "ref.go:67", after := #[], guard := none } : Oper)) (v := ?_) rfl (by kernel_rfl) (by kernel_rfl) (by kernel_rfl) (fun _ _ _ h => h) (Or.inl ⟨by rfl, ?_⟩) hS5 ?_
      rotate_left
      · intro w hSw; (try dsimp only at hSw); go_simp; (try with_reducible rfl)
      simp only [Act.put, List.setIfInBounds_toArray, List.set_cons_zero, List.set_cons_succ]
      refine wpAnyH_take (i := 3) (oi := ({ dst := some 20, op := Op.indexAddr 29 (Operand.tmp 18) (Operand.tmp 19), type := 0, pos := "ref.go:67", after := #[{ on := 1, ground := Ground.data }, { on := 2, ground := Ground.data }], guard := none } : Oper)) (v := ?_) rfl (by kernel_rfl) (by kernel_rfl) (by kernel_rfl) (fun _ _ _ h => h) (Or.inl ⟨by rfl, ?_⟩) hS5 ?_
      rotate_left
      · intro w hSw; (try dsimp only at hSw); go_simp; (try with_reducible rfl)
      simp only [Act.put, List.setIfInBounds_toArray, List.set_cons_zero, List.set_cons_succ]
      refine wpAnyH_take (i := 4) (oi := ({ dst := some 21, op := Op.load 23 (Operand.tmp 20), type := 23, pos := "ref.go:67", after := #[{ on := 3, ground := Ground.data }], guard := none } : Oper)) (v := ?_) rfl (by kernel_rfl) (by kernel_rfl) (by kernel_rfl) (fun _ _ _ h => h) (Or.inl ⟨by rfl, ?_⟩) hS5 ?_
      rotate_left
      · intro w hSw; (try dsimp only at hSw); go_simp; (try with_reducible rfl)
      simp only [Act.put, List.setIfInBounds_toArray, List.set_cons_zero, List.set_cons_succ]
      refine wpAnyH_ready (rs := [5, 9]) (by kernel_rfl) (by simp) ?_
      refine AllReadyH.cons (o := ({ dst := some 22, op := Op.call { callee := Callee.value (Operand.func 13), args := #[Operand.tmp 17, Operand.tmp 21], argTypes := #[23, 23] }, type := 24, pos := "ref.go:67", after := #[{ on := 0, ground := Ground.data }, { on := 4, ground := Ground.data }], guard := none } : Oper)) rfl (fun K hK => ?_) (AllReadyH.cons (o := ({ dst := some 8, op := Op.alloc 23, type := 0, pos := "ref.go:67", after := #[], guard := none } : Oper)) rfl (fun K hK => ?_) AllReadyH.nil)
      · go_simp
        refine (HJ.out _).mono ?_; rintro e w6 ⟨rfl, hb⟩
        go_wp2_with fail
        refine hK.out _ _ (mk5 _ (hnext hS5.1 hb)) (fun hS6 => ?_)
        clear hK K
        (try simp only [Act.put, List.setIfInBounds_toArray, List.set_cons_zero, List.set_cons_succ])
        clear hb
        refine wpAnyH_take (i := 6) (oi := ({ dst := some 16, op := Op.move (Operand.tmp 22), type := 24, pos := "ref.go:67", after := #[{ on := 5, ground := Ground.data }], guard := none } : Oper)) (v := ?_) rfl (by kernel_rfl) (by kernel_rfl) (by kernel_rfl) (fun _ _ _ h => h) (Or.inl ⟨by rfl, ?_⟩) hS6 ?_
        rotate_left
        · intro w hSw; (try dsimp only at hSw); go_simp; (try with_reducible rfl)
        simp only [Act.put, List.setIfInBounds_toArray, List.set_cons_zero, List.set_cons_succ]
        refine wpAnyH_take (i := 7) (oi := ({ dst := some 23, op := Op.extract (Operand.tmp 16) 0, type := 23, pos := "ref.go:67", after := #[{ on := 6, ground := Ground.data }], guard := none } : Oper)) (v := ?_) rfl (by kernel_rfl) (by kernel_rfl) (by kernel_rfl) (fun _ _ _ h => h) (Or.inl ⟨by rfl, ?_⟩) hS6 ?_
        rotate_left
        · intro w hSw; (try dsimp only at hSw); go_simp; (try with_reducible rfl)
        simp only [Act.put, List.setIfInBounds_toArray, List.set_cons_zero, List.set_cons_succ]
        refine wpAnyH_take (i := 8) (oi := ({ dst := some 24, op := Op.extract (Operand.tmp 16) 1, type := 4, pos := "ref.go:67", after := #[{ on := 6, ground := Ground.data }, { on := 10, ground := Ground.gcOnly Departure.lateStores }], guard := none } : Oper)) (v := ?_) rfl (by kernel_rfl) (by kernel_rfl) (by kernel_rfl) (fun _ _ _ h => h) (Or.inl ⟨by rfl, ?_⟩) hS6 ?_
        rotate_left
        · intro w hSw; (try dsimp only at hSw); go_simp; (try with_reducible rfl)
        simp only [Act.put, List.setIfInBounds_toArray, List.set_cons_zero, List.set_cons_succ]
        refine wpAnyH_ready (rs := [9]) (by kernel_rfl) (by simp) ?_
        refine AllReadyH.cons (o := ({ dst := some 8, op := Op.alloc 23, type := 0, pos := "ref.go:67", after := #[], guard := none } : Oper)) rfl (fun K hK => ?_) AllReadyH.nil
        go_simp
        refine hK.out _ _ (mk5 _ (hS6.1.alloc hS6.1.size _)) (fun hS7 => ?_)
        clear hK K
        (try simp only [Act.put, List.setIfInBounds_toArray, List.set_cons_zero, List.set_cons_succ])
        have hN_7 : (w6.alloc (.cells #[.int .i64 0, .int .i64 0] 23)).heap[w6.heap.size]? = some (.cells #[.int .i64 0, .int .i64 0] 23 (0, 0)) := heap_alloc_new w6 _
        have hge : w5.heap.size ≤ w6.heap.size := hS6.1.size
        generalize w6.alloc (.cells #[.int .i64 0, .int .i64 0] 23) = w7 at *
        refine wpAnyH_ready (rs := [10]) (by kernel_rfl) (by simp) ?_
        refine AllReadyH.cons (o := ({ dst := none, op := Op.store 23 (Operand.tmp 8) (Operand.tmp 23), type := 0, pos := "ref.go:67", after := #[{ on := 9, ground := Ground.data }, { on := 7, ground := Ground.data }, { on := 5, ground := Ground.chain }, { on := 0, ground := Ground.phase }, { on := 1, ground := Ground.phase }, { on := 2, ground := Ground.phase }, { on := 3, ground := Ground.phase }, { on := 4, ground := Ground.phase }, { on := 5, ground := Ground.phase }, { on := 6, ground := Ground.phase }, { on := 7, ground := Ground.phase }, { on := 8, ground := Ground.textOnly Departure.lateStores }, { on := 9, ground := Ground.phase }], guard := none } : Oper)) rfl (fun K hK => ?_) AllReadyH.nil
        obtain ⟨e1, e2, e3, e4, e5⟩ := two_of hN_7
        go_simp
        have hN2 := heap_setCell_same _ w6.heap.size 1 _ _ (.int .i64 jb) (heap_setCell_same w7 w6.heap.size 0 _ _ (.int .i64 ja) hN_7)
        have hB7 := (hS7.1.setCell (p := ⟨w6.heap.size, 0, none⟩) hge (.int .i64 ja)).setCell (p := ⟨w6.heap.size, 1, none⟩) hge (.int .i64 jb)
        refine hK.out _ _ (mk5 _ hB7) (fun hS8 => ?_)
        clear hK K
        (try simp only [Act.put, List.setIfInBounds_toArray, List.set_cons_zero, List.set_cons_succ])
        clear e1 e2 e3 e4 e5 hB7
        generalize (w7.setCell ⟨w6.heap.size, 0, none⟩ (.int .i64 ja)).setCell ⟨w6.heap.size, 1, none⟩ (.int .i64 jb) = w8 at *
        refine wpAnyH_take (i := 11) (oi := ({ dst := some 9, op := Op.assign (Operand.tmp 24), type := 4, pos := "ref.go:67", after := #[{ on := 8, ground := Ground.data }, { on := 10, ground := Ground.chain }, { on := 0, ground := Ground.phase }, { on := 1, ground := Ground.phase }, { on := 2, ground := Ground.phase }, { on := 3, ground := Ground.phase }, { on := 4, ground := Ground.phase }, { on := 5, ground := Ground.phase }, { on := 6, ground := Ground.phase }, { on := 7, ground := Ground.phase }, { on := 8, ground := Ground.phase }, { on := 9, ground := Ground.phase }, { on := 10, ground := Ground.phase }], guard := none } : Oper)) (v := ?_) rfl (by kernel_rfl) (by kernel_rfl) (by kernel_rfl) (fun _ _ _ h => h) (Or.inl ⟨by rfl, ?_⟩) hS8 ?_
        rotate_left
        · intro w hSw; (try dsimp only at hSw); go_simp; (try with_reducible rfl)
        simp only [Act.put, List.setIfInBounds_toArray, List.set_cons_zero, List.set_cons_succ]
        refine wpAnyH_done (by kernel_rfl) ?_ _
        have hN : w8.heap[w6.heap.size]? = some (.cells #[.int .i64 ja, .int .i64 jb] 23 (0, 0)) := hN2
        have hB9 := bnext hB5 hS8.1
        have hAT9 := hid (hAT5.out.below hS8.1)
        obtain ⟨_, z1, z2, z3, z4⟩ := hS8
        obtain ⟨y1, y2, _, _, _⟩ := two_of hN
        have hne : w6.heap.size ≠ w.heap.size := by omega
        generalize w6.heap.size = gj at *
        generalize w8 = w9 at *
        clear hN hN2
        cases jo with
        | some jj =>
          have HM : Hid (Sp.astep (ca, cb, (ua, ub)) (xa, xb) = (ca, cb, (ja, jb))) := by
            show _ = _
            unfold Sp.astep
            simp only
            rw [HJO.out, ← HJE.out]; rfl
          simp only [Option.isSome_some]
          obtain ⟨x1, x2, x3, x4, x5⟩ := two_of hAT9.out.1
          simp only at x1 x2
          go_wp2_with fail
          go_roundw
          case rel => exact ⟨k + 1, by omega, by go_num, by rw [HS.out, HM.out]; exact hAT9.out.set ja jb, (hB9.setCell (p := ⟨w.heap.size, 0, none⟩) (Nat.le_refl _) _).setCell (p := ⟨w.heap.size, 1, none⟩) (Nat.le_refl _) _⟩
          case measure => simp [intOf]; omega
        | none =>
          simp only [Option.isSome_none]
          by_cases hxu : xa < ua
          · have HM : Hid (Sp.astep (ca, cb, (ua, ub)) (xa, xb) = (ca ++ [(xa, xb)], cb, (ua, ub))) := by
              show _ = _
              unfold Sp.astep
              simp only
              rw [HJO.out]
              simp only [hxu, if_true]
            go_wp2_with fail
            go_quiet (fail)
            have hATq := hid (hAT9.out.below (hdrewN (Below.refl _ _) nq))
            have hBq := hdrewN hB9 nq
            have z3q : (w9.drewN nq).cell? ⟨g, off + k * 2, none⟩ = some (.int .i64 xa) := z3
            have z4q : (w9.drewN nq).cell? ⟨g, off + k * 2 + 1, none⟩ = some (.int .i64 xb) := z4
            have b3q := (two_of hATq.out.1).2.2.2.2
            clear z1 z2 z3 z4 y1 y2 hAT9 hB9
            generalize w9.drewN nq = wq at *
            go_wp2_with (first | (at_builtin; refine append_span_at _ rfl _ _ rfl (w.heap.size + 1) _ ca rfl hATq.out.2.1 _ _ _ (by first | rfl | (simp; done)) rfl (by omega) (by omega) ?_; intro v8 w8 hown8 hgrow8 hat8; have hAT8 := hid (hATq.out.ahead hown8 hgrow8 hat8); have hB8 := hBq.grown hgrow8 hBq.size (fun q hq => Nat.le_of_succ_le (hATq.out.2.1.lt q hq).1); clear hown8 hgrow8 hat8))
            go_roundw
            case rel => exact ⟨k + 1, by omega, by go_num, by rw [HS.out, HM.out]; exact hAT8.out, hB8⟩
            case measure => simp [intOf]; omega
          · have HM : Hid (Sp.astep (ca, cb, (ua, ub)) (xa, xb) = (ca, cb ++ [(xa, xb)], (ua, ub))) := by
              show _ = _
              unfold Sp.astep
              simp only
              rw [HJO.out]
              simp only [hxu, if_false]
            go_wp2_with fail
            go_quiet (fail)
            have hATq := hid (hAT9.out.below (hdrewN (Below.refl _ _) nq))
            have hBq := hdrewN hB9 nq
            have z3q : (w9.drewN nq).cell? ⟨g, off + k * 2, none⟩ = some (.int .i64 xa) := z3
            have z4q : (w9.drewN nq).cell? ⟨g, off + k * 2 + 1, none⟩ = some (.int .i64 xb) := z4
            have b3q := (two_of hATq.out.1).2.2.2.2
            clear z1 z2 z3 z4 y1 y2 hAT9 hB9
            generalize w9.drewN nq = wq at *
            go_wp2_with (first | (at_builtin; refine append_span_at _ rfl _ _ rfl (w.heap.size + 1) _ cb rfl hATq.out.2.2.1 _ _ _ (by first | rfl | (simp; done)) rfl (by omega) (by omega) ?_; intro v8 w8 hown8 hgrow8 hat8; have hAT8 := hid (hATq.out.behind hown8 hgrow8 hat8); have hB8 := hBq.grown hgrow8 hBq.size (fun q hq => Nat.le_of_succ_le (hATq.out.2.2.1.lt q hq).1); clear hown8 hgrow8 hat8))
            go_roundw
            case rel => exact ⟨k + 1, by omega, by go_num, by rw [HS.out, HM.out]; exact hAT8.out, hB8⟩
            case measure => simp [intOf]; omega
      · go_simp
        refine hK.out _ _ (mk5 _ (hS5.1.alloc hS5.1.size _)) (fun hS6 => ?_)
        clear hK K
        (try simp only [Act.put, List.setIfInBounds_toArray, List.set_cons_zero, List.set_cons_succ])
        have hN_6 : (w5.alloc (.cells #[.int .i64 0, .int .i64 0] 23)).heap[w5.heap.size]? = some (.cells #[.int .i64 0, .int .i64 0] 23 (0, 0)) := heap_alloc_new w5 _
        have hge : w5.heap.size ≤ w5.heap.size := hS5.1.size
        generalize w5.alloc (.cells #[.int .i64 0, .int .i64 0] 23) = w6 at *
        refine wpAnyH_ready (rs := [5]) (by kernel_rfl) (by simp) ?_
        refine AllReadyH.cons (o := ({ dst := some 22, op := Op.call { callee := Callee.value (Operand.func 13), args := #[Operand.tmp 17, Operand.tmp 21], argTypes := #[23, 23] }, type := 24, pos := "ref.go:67", after := #[{ on := 0, ground := Ground.data }, { on := 4, ground := Ground.data }], guard := none } : Oper)) rfl (fun K hK => ?_) AllReadyH.nil
        go_simp
        refine (HJ.out _).mono ?_; rintro e w7 ⟨rfl, hb⟩
        go_wp2_with fail
        refine hK.out _ _ (mk5 _ (hnext hS6.1 hb)) (fun hS7 => ?_)
        clear hK K
        (try simp only [Act.put, List.setIfInBounds_toArray, List.set_cons_zero, List.set_cons_succ])
        have hN_7 := keepBlock hN_6 hb
        clear hb
        refine wpAnyH_take (i := 6) (oi := ({ dst := some 16, op := Op.move (Operand.tmp 22), type := 24, pos := "ref.go:67", after := #[{ on := 5, ground := Ground.data }], guard := none } : Oper)) (v := ?_) rfl (by kernel_rfl) (by kernel_rfl) (by kernel_rfl) (fun _ _ _ h => h) (Or.inl ⟨by rfl, ?_⟩) hS7 ?_
        rotate_left
        · intro w hSw; (try dsimp only at hSw); go_simp; (try with_reducible rfl)
        simp only [Act.put, List.setIfInBounds_toArray, List.set_cons_zero, List.set_cons_succ]
        refine wpAnyH_take (i := 7) (oi := ({ dst := some 23, op := Op.extract (Operand.tmp 16) 0, type := 23, pos := "ref.go:67", after := #[{ on := 6, ground := Ground.data }], guard := none } : Oper)) (v := ?_) rfl (by kernel_rfl) (by kernel_rfl) (by kernel_rfl) (fun _ _ _ h => h) (Or.inl ⟨by rfl, ?_⟩) hS7 ?_
        rotate_left
        · intro w hSw; (try dsimp only at hSw); go_simp; (try with_reducible rfl)
        simp only [Act.put, List.setIfInBounds_toArray, List.set_cons_zero, List.set_cons_succ]
        refine wpAnyH_take (i := 8) (oi := ({ dst := some 24, op := Op.extract (Operand.tmp 16) 1, type := 4, pos := "ref.go:67", after := #[{ on := 6, ground := Ground.data }, { on := 10, ground := Ground.gcOnly Departure.lateStores }], guard := none } : Oper)) (v := ?_) rfl (by kernel_rfl) (by kernel_rfl) (by kernel_rfl) (fun _ _ _ h => h) (Or.inl ⟨by rfl, ?_⟩) hS7 ?_
        rotate_left
        · intro w hSw; (try dsimp only at hSw); go_simp; (try with_reducible rfl)
        simp only [Act.put, List.setIfInBounds_toArray, List.set_cons_zero, List.set_cons_succ]
        refine wpAnyH_ready (rs := [10]) (by kernel_rfl) (by simp) ?_
        refine AllReadyH.cons (o := ({ dst := none, op := Op.store 23 (Operand.tmp 8) (Operand.tmp 23), type := 0, pos := "ref.go:67", after := #[{ on := 9, ground := Ground.data }, { on := 7, ground := Ground.data }, { on := 5, ground := Ground.chain }, { on := 0, ground := Ground.phase }, { on := 1, ground := Ground.phase }, { on := 2, ground := Ground.phase }, { on := 3, ground := Ground.phase }, { on := 4, ground := Ground.phase }, { on := 5, ground := Ground.phase }, { on := 6, ground := Ground.phase }, { on := 7, ground := Ground.phase }, { on := 8, ground := Ground.textOnly Departure.lateStores }, { on := 9, ground := Ground.phase }], guard := none } : Oper)) rfl (fun K hK => ?_) AllReadyH.nil
        obtain ⟨e1, e2, e3, e4, e5⟩ := two_of hN_7
        go_simp
        have hN2 := heap_setCell_same _ w5.heap.size 1 _ _ (.int .i64 jb) (heap_setCell_same w7 w5.heap.size 0 _ _ (.int .i64 ja) hN_7)
        have hB7 := (hS7.1.setCell (p := ⟨w5.heap.size, 0, none⟩) hge (.int .i64 ja)).setCell (p := ⟨w5.heap.size, 1, none⟩) hge (.int .i64 jb)
        refine hK.out _ _ (mk5 _ hB7) (fun hS8 => ?_)
        clear hK K
        (try simp only [Act.put, List.setIfInBounds_toArray, List.set_cons_zero, List.set_cons_succ])
        clear e1 e2 e3 e4 e5 hB7
        generalize (w7.setCell ⟨w5.heap.size, 0, none⟩ (.int .i64 ja)).setCell ⟨w5.heap.size, 1, none⟩ (.int .i64 jb) = w8 at *
        refine wpAnyH_take (i := 11) (oi := ({ dst := some 9, op := Op.assign (Operand.tmp 24), type := 4, pos := "ref.go:67", after := #[{ on := 8, ground := Ground.data }, { on := 10, ground := Ground.chain }, { on := 0, ground := Ground.phase }, { on := 1, ground := Ground.phase }, { on := 2, ground := Ground.phase }, { on := 3, ground := Ground.phase }, { on := 4, ground := Ground.phase }, { on := 5, ground := Ground.phase }, { on := 6, ground := Ground.phase }, { on := 7, ground := Ground.phase }, { on := 8, ground := Ground.phase }, { on := 9, ground := Ground.phase }, { on := 10, ground := Ground.phase }], guard := none } : Oper)) (v := ?_) rfl (by kernel_rfl) (by kernel_rfl) (by kernel_rfl) (fun _ _ _ h => h) (Or.inl ⟨by rfl, ?_⟩) hS8 ?_
        rotate_left
        · intro w hSw; (try dsimp only at hSw); go_simp; (try with_reducible rfl)
        simp only [Act.put, List.setIfInBounds_toArray, List.set_cons_zero, List.set_cons_succ]
        refine wpAnyH_done (by kernel_rfl) ?_ _
        have hN : w8.heap[w5.heap.size]? = some (.cells #[.int .i64 ja, .int .i64 jb] 23 (0, 0)) := hN2
        have hB9 := bnext hB5 hS8.1
        have hAT9 := hid (hAT5.out.below hS8.1)
        obtain ⟨_, z1, z2, z3, z4⟩ := hS8
        obtain ⟨y1, y2, _, _, _⟩ := two_of hN
        have hne : w5.heap.size ≠ w.heap.size := by omega
        generalize w5.heap.size = gj at *
        generalize w8 = w9 at *
        clear hN hN2
        cases jo with
        | some jj =>
          have HM : Hid (Sp.astep (ca, cb, (ua, ub)) (xa, xb) = (ca, cb, (ja, jb))) := by
            show _ = _
            unfold Sp.astep
            simp only
            rw [HJO.out, ← HJE.out]; rfl
          simp only [Option.isSome_some]
          obtain ⟨x1, x2, x3, x4, x5⟩ := two_of hAT9.out.1
          simp only at x1 x2
          go_wp2_with fail
          go_roundw
          case rel => exact ⟨k + 1, by omega, by go_num, by rw [HS.out, HM.out]; exact hAT9.out.set ja jb, (hB9.setCell (p := ⟨w.heap.size, 0, none⟩) (Nat.le_refl _) _).setCell (p := ⟨w.heap.size, 1, none⟩) (Nat.le_refl _) _⟩
          case measure => simp [intOf]; omega
        | none =>
          simp only [Option.isSome_none]
          by_cases hxu : xa < ua
          · have HM : Hid (Sp.astep (ca, cb, (ua, ub)) (xa, xb) = (ca ++ [(xa, xb)], cb, (ua, ub))) := by
              show _ = _
              unfold Sp.astep
              simp only
              rw [HJO.out]
              simp only [hxu, if_true]
            go_wp2_with fail
            go_quiet (fail)
            have hATq := hid (hAT9.out.below (hdrewN (Below.refl _ _) nq))
            have hBq := hdrewN hB9 nq
            have z3q : (w9.drewN nq).cell? ⟨g, off + k * 2, none⟩ = some (.int .i64 xa) := z3
            have z4q : (w9.drewN nq).cell? ⟨g, off + k * 2 + 1, none⟩ = some (.int .i64 xb) := z4
            have b3q := (two_of hATq.out.1).2.2.2.2
            clear z1 z2 z3 z4 y1 y2 hAT9 hB9
            generalize w9.drewN nq = wq at *
            go_wp2_with (first | (at_builtin; refine append_span_at _ rfl _ _ rfl (w.heap.size + 1) _ ca rfl hATq.out.2.1 _ _ _ (by first | rfl | (simp; done)) rfl (by omega) (by omega) ?_; intro v8 w8 hown8 hgrow8 hat8; have hAT8 := hid (hATq.out.ahead hown8 hgrow8 hat8); have hB8 := hBq.grown hgrow8 hBq.size (fun q hq => Nat.le_of_succ_le (hATq.out.2.1.lt q hq).1); clear hown8 hgrow8 hat8))
            go_roundw
            case rel => exact ⟨k + 1, by omega, by go_num, by rw [HS.out, HM.out]; exact hAT8.out, hB8⟩
            case measure => simp [intOf]; omega
          · have HM : Hid (Sp.astep (ca, cb, (ua, ub)) (xa, xb) = (ca, cb ++ [(xa, xb)], (ua, ub))) := by
              show _ = _
              unfold Sp.astep
              simp only
              rw [HJO.out]
              simp only [hxu, if_false]
            go_wp2_with fail
            go_quiet (fail)
            have hATq := hid (hAT9.out.below (hdrewN (Below.refl _ _) nq))
            have hBq := hdrewN hB9 nq
            have z3q : (w9.drewN nq).cell? ⟨g, off + k * 2, none⟩ = some (.int .i64 xa) := z3
            have z4q : (w9.drewN nq).cell? ⟨g, off + k * 2 + 1, none⟩ = some (.int .i64 xb) := z4
            have b3q := (two_of hATq.out.1).2.2.2.2
            clear z1 z2 z3 z4 y1 y2 hAT9 hB9
            generalize w9.drewN nq = wq at *
            go_wp2_with (first | (at_builtin; refine append_span_at _ rfl _ _ rfl (w.heap.size + 1) _ cb rfl hATq.out.2.2.1 _ _ _ (by first | rfl | (simp; done)) rfl (by omega) (by omega) ?_; intro v8 w8 hown8 hgrow8 hat8; have hAT8 := hid (hATq.out.behind hown8 hgrow8 hat8); have hB8 := hBq.grown hgrow8 hBq.size (fun q hq => Nat.le_of_succ_le (hATq.out.2.2.1.lt q hq).1); clear hown8 hgrow8 hat8))
            go_roundw
            case rel => exact ⟨k + 1, by omega, by go_num, by rw [HS.out, HM.out]; exact hAT8.out, hB8⟩
            case measure => simp [intOf]; omega
    · have hkl : k = l.length := by omega
      subst hkl
      rw [List.take_length] at hat
      have hcl := astep_length l ([], [], (sa, sb))
      simp only [List.length_nil] at hcl
      generalize hcc : l.foldl Sp.astep ([], [], (sa, sb)) = c at hat hcl
      have HCC := hid hcc
      clear hcc
      obtain ⟨ca, cb, ⟨ua, ub⟩⟩ := c
      simp only at hcl
      obtain ⟨b1, b2, _, _, b3⟩ := two_of hat.1
      simp only at b1 b2
      have hAT := hid hat
      clear hat hk hlk
      go_wp2_with (first
        | (at_builtin; refine append_span_at _ rfl _ _ rfl (w.heap.size + 1) _ ca rfl hAT.out.2.1 _ _ _ (by first | rfl | (simp; done)) rfl (by omega) (by omega) ?_; intro v8 w8 hown8 hgrow8 hat8; have hAT8 := hid (hAT.out.ahead hown8 hgrow8 hat8); have hB8 := hbel.grown hgrow8 hbel.size (fun q hq => Nat.le_of_succ_le (hAT.out.2.1.lt q hq).1); clear hown8 hgrow8 hat8)
        | (at_builtin; refine append_spans _ rfl _ _ rfl (w.heap.size + 1) _ _ rfl hAT8.out.2.1 _ _ _ rfl hAT8.out.2.2.1 (by simp; omega) (two_of hAT8.out.1).2.2.2.2 ?_; intro v9 w9 hown9 hgrow9; have hB9 := hB8.grown hgrow9 hB8.size (fun q hq => Nat.le_of_succ_le (hAT8.out.2.1.lt q hq).1)))
      go_ret
      rw [HCC.out]
      exact ⟨⟨_, rfl, own_mono hown9 (Nat.le_succ _)⟩, hB9⟩
end Go.Proofs.Ytghgiifclocddaa
