/-
  Contracts and laws of the layers below, put together: Pu Ap Pv. Conditions: where they are named.
-/
import Derived.Test.YtmcneelapghfcaaBb
import Derived.OneCell
import Derived.Laws.EntriesVeiled

namespace Go.Proofs.Ytmcneelapghfcaa
open Go.RowKit Pd

theorem Try.infoNode : (Try.prog.info? 65).map (fun i => (i.zero, i.size, i.bytes)) = some (some (.agg #[.int .i64 0, .int .i64 0, .int .i64 0, .int .i64 0, .int .u64 0, .string ⟨#[]⟩]), 6, 56) := by kernel_rfl
theorem cell_six (w : World) (c : Array Value) (t : TypeId) {g : Nat} (hg : g = w.heap.size) : ∀ j u, c.toList[j]? = some u → (w.alloc (.cells c t)).cell? ((⟨g, 0, none⟩ : Addr).add j) = some u := by
  subst hg
  intro j u hj
  have hadd : (⟨w.heap.size, 0, none⟩ : Addr).add j = ⟨w.heap.size, j, none⟩ := by unfold Addr.add; split <;> simp_all
  rw [hadd, cell_of_row (w.alloc (.cells c t)) w.heap.size j c t (0, 0) (heap_alloc_new w _)]
  simpa using hj
/-- 'append(out, x)', out of the call's own, x in a block that has just been laid -/
theorem append_node (u : World) {ops : Array Oper} {rest : List Oper} {o : Oper} {a : Act} {Q : Exit → Act → World → Prop} (hgd : o.guard = none) (s x : Operand)
    (ho : o.op = .call { callee := .builtin .append, args := #[s, x], argTypes := #[25, 25] })
    (B : Nat) (v : Value) (l : List N) (hs : a.eval s = v) (hown : u.ownsRow B 65 6 v l.length (ncells l)) (p : N) (g : Nat) (hgz : g = u.heap.size) (hx : a.eval x = .slice (some ⟨g, 0, none⟩) 1 1)
    (hlen : l.length ≤ 1000000) (hB : B ≤ u.heap.size)
    (hK : ∀ v' w', w'.ownsRow B 65 6 v' (l ++ [p]).length (ncells (l ++ [p])) → u.grownBy w' v.ownBlock → wpList Try.prog ops Q rest (a.put o.dst v') w') :
    wpList Try.prog ops Q (o :: rest) a (u.alloc (.cells #[.int .i64 p.op, .int .i64 p.col, .int .i64 p.v.k, .int .i64 p.v.n, .int .u64 (p.v.b : Int), .string p.v.s] 65)) := by
  obtain ⟨i0, hi, hz0, hz1, hz2⟩ := info_parts Try.infoNode
  refine wpList_append_own _ hgd s x 25 ho B 65 i0 _ 6 56 Try.underlying25 hi hz0 hz1 hz2 rfl (by decide) v l.length (ncells l) hs (hown.alloc _) ⟨g, 0, none⟩ 1 1 (ncells [p]) hx rfl (cell_six u _ _ hgz) (fun y hy => ncells_one_cell [p] y hy) ?_ ?_ ?_ ?_
  · unfold maxLen; omega
  · omega
  · simp; omega
  · intro v' w' hown' hgrow _
    refine hK v' w' (by rw [ncells_append, List.length_append]; exact hown') ?_
    refine ⟨hgrow.os, hgrow.tape, hgrow.output, Nat.le_trans (by simp) hgrow.size, fun k hk hne => ?_⟩
    rw [hgrow.block k (by simp; omega) hne]
    exact Below.heap_alloc u _ k hk
def turnV (B : Nat) : Value := .func (.func 62) #[] #[.pointer (some ⟨B, 0, none⟩), .pointer (some ⟨B + 2, 0, none⟩), .pointer (some ⟨B + 1, 0, none⟩)]
/-- what Push has while it turns: its nodes, its closure, what is put out -/
structure TA (w0 : World) (v : Value) (w : World) (out : List N) : Prop where
  below : Below w0.heap.size w0 w
  bl : w.heap[w0.heap.size]? = some (.cells #[v] 25 (0, 0))
  bo : ∃ o, w.heap[w0.heap.size + 1]? = some (.cells #[o] 25 (0, 0)) ∧ w.ownsRow (w0.heap.size + 3) 65 6 o out.length (ncells out)
  bt : w.heap[w0.heap.size + 2]? = some (.cells #[turnV w0.heap.size] 103 (0, 0))
theorem TA.lt {w0 w : World} {v : Value} {out : List N} (h : TA w0 v w out) : w0.heap.size + 3 ≤ w.heap.size := (Array.getElem?_eq_some_iff.1 h.bt).1
theorem TA.keep {w0 w w' : World} {v : Value} {out : List N} (h : TA w0 v w out) (hb : Below w.heap.size w w') : TA w0 v w' out := by
  obtain ⟨o, h1, h2⟩ := h.bo
  exact ⟨hnext h.below hb, keepBlock h.bl hb, ⟨o, keepBlock h1 hb, own_below h2 hb⟩, keepBlock h.bt hb⟩
/-- a block that is not among them is written -/
theorem TA.upd {w0 w w' : World} {v : Value} {out : List N} {g : Nat} (h : TA w0 v w out) (hu : Upd g w w') (hg : w0.heap.size + 3 ≤ g) (ho : ∀ o, w.heap[w0.heap.size + 1]? = some (.cells #[o] 25 (0, 0)) → o.ownBlock ≠ some g) : TA w0 v w' out := by
  have hl := h.lt
  obtain ⟨o, h1, h2⟩ := h.bo
  refine ⟨Upd.below h.below hu (by omega) (by omega), (hu.block _ (by omega) (fun e => by injection e; omega)).trans h.bl, ⟨o, (hu.block _ (by omega) (fun e => by injection e; omega)).trans h1, h2.kept hu (.inr ?_)⟩, (hu.block _ (by omega) (fun e => by injection e; omega)).trans h.bt⟩
  exact fun e => ho o h1 e
/-- a node is put out -/
theorem TA.put {w0 u w7 : World} {v o v2 : Value} {out : List N} {y : N} (h : TA w0 v u out) (h1 : u.heap[w0.heap.size + 1]? = some (.cells #[o] 25 (0, 0))) (h2 : u.ownsRow (w0.heap.size + 3) 65 6 o out.length (ncells out))
    (own2 : w7.ownsRow (w0.heap.size + 3) 65 6 v2 (out ++ [y]).length (ncells (out ++ [y]))) (gr : u.grownBy w7 o.ownBlock) : TA w0 v (w7.setCell ⟨w0.heap.size + 1, 0, none⟩ v2) (out ++ [y]) := by
  have hl := h.lt
  have hq : ∀ q, o.ownBlock = some q → w0.heap.size + 3 ≤ q := fun q e => (World.ownsRow.lt h2 q e).1
  have hq2 : ∀ q, v2.ownBlock = some q → w0.heap.size + 3 ≤ q := fun q e => (World.ownsRow.lt own2 q e).1
  have keep : ∀ k, k < w0.heap.size + 3 → w7.heap[k]? = u.heap[k]? := fun k hk => gr.block k (by omega) (fun e => by have := hq k e.symm; omega)
  refine ⟨(Below.grown h.below gr (by omega) (fun q e => by have := hq q e; omega)).setCell (Nat.le_succ _) _, ?_, ⟨v2, ?_, ?_⟩, ?_⟩
  · rw [heap_setCell_other _ _ _ _ (by simp), keep _ (by omega)]; exact h.bl
  · exact heap_setCell_same w7 _ 0 #[o] _ v2 ((keep _ (by omega)).trans h1)
  · exact ownsRow_setCell_other own2 (fun e => by have := hq2 _ e; simp at this) _
  · rw [heap_setCell_other _ _ _ _ (by simp), keep _ (by omega)]; exact h.bt
theorem own_slc {w : World} {B e size n : Nat} {v : Value} {xs : List Value} (h : w.ownsRow B e size v n xs) : ∃ adr cap, v = .slice adr n cap := by
  rcases h.2 with ⟨rfl, hn⟩ | ⟨g, cap, cur, rfl, _⟩
  · exact ⟨none, 0, by rw [hn]⟩
  · exact ⟨_, cap, rfl⟩
theorem after_put {w0 u w7 : World} {v o : Value} {out : List N} {gx : Nat} {x : N} (h : TA w0 v u out) (h1 : u.heap[w0.heap.size + 1]? = some (.cells #[o] 25 (0, 0))) (h2 : u.ownsRow (w0.heap.size + 3) 65 6 o out.length (ncells out)) (gr : u.grownBy w7 o.ownBlock)
    (hx : BN 65 u gx x) (hq : ∀ q, o.ownBlock = some q → q < gx) : w7.cell? ⟨w0.heap.size + 1, 0, none⟩ = some o ∧ w7.frozen? ⟨w0.heap.size + 1, 0, none⟩ = false ∧ BN 65 w7 gx x ∧ w0.heap.size + 1 < w7.heap.size := by
  have hl := h.lt
  have hb : w7.heap[w0.heap.size + 1]? = some (.cells #[o] 25 (0, 0)) := (gr.block _ (by omega) (fun e => by have := (World.ownsRow.lt h2 _ e.symm).1; omega)).trans h1
  refine ⟨cell_of_row w7 _ 0 _ _ _ hb, frozen_of_row w7 _ 0 _ _ hb, (gr.block _ (Array.getElem?_eq_some_iff.1 hx).1 (fun e => by have := hq _ e.symm; omega)).trans hx, by have := gr.size; omega⟩
theorem BN.set6 {w : World} {g : Nat} {x : N} (h : BN 65 w g x) (y : N) : BN 65 ((((((w.setCell ⟨g, 0, none⟩ (.int .i64 y.op)).setCell ⟨g, 1, none⟩ (.int .i64 y.col)).setCell ⟨g, 2, none⟩ (.int .i64 y.v.k)).setCell ⟨g, 3, none⟩ (.int .i64 y.v.n)).setCell ⟨g, 4, none⟩ (.int .u64 (y.v.b : Int))).setCell ⟨g, 5, none⟩ (.string y.v.s)) g y :=
  heap_setCell_same _ g 5 _ _ _ (heap_setCell_same _ g 4 _ _ _ (heap_setCell_same _ g 3 _ _ _ (heap_setCell_same _ g 2 _ _ _ (heap_setCell_same _ g 1 _ _ _ (heap_setCell_same w g 0 _ _ _ h)))))
theorem upd_set (g o : Nat) (w : World) (v : Value) : Upd g w (w.setCell ⟨g, o, none⟩ v) := ⟨rfl, rfl, rfl, by simp, fun k _ hk => heap_setCell_other w ⟨g, o, none⟩ k v (fun e => hk (congrArg some e))⟩
theorem upd_set6 (w : World) (g : Nat) (a b c d e f : Value) : Upd g w ((((((w.setCell ⟨g, 0, none⟩ a).setCell ⟨g, 1, none⟩ b).setCell ⟨g, 2, none⟩ c).setCell ⟨g, 3, none⟩ d).setCell ⟨g, 4, none⟩ e).setCell ⟨g, 5, none⟩ f) :=
  (upd_set g 0 w a).trans ((upd_set g 1 _ b).trans ((upd_set g 2 _ c).trans ((upd_set g 3 _ d).trans ((upd_set g 4 _ e).trans (upd_set g 5 _ f)))))
namespace Pd
theorem parts_leaf {op : Int} (h0 : 1 ≤ op) (h1 : op ≤ 8) : parts op = 0 := by rcases parts_cases op with ⟨_, g⟩ | ⟨g, _⟩ | ⟨_, g⟩ | ⟨_, g⟩ <;> first | exact g | omega
theorem other_leaf {op : Int} (h0 : 1 ≤ op) (h1 : op ≤ 8) : 1 ≤ otherOp op ∧ otherOp op ≤ 8 := by
  obtain rfl | rfl | rfl | rfl | rfl | rfl | rfl | rfl : op = 1 ∨ op = 2 ∨ op = 3 ∨ op = 4 ∨ op = 5 ∨ op = 6 ∨ op = 7 ∨ op = 8 := by omega
  all_goals decide
theorem parts_leaf' {op : Int} (h0 : 1 ≤ op) (h1 : op ≤ 8) : parts (otherOp op) = 0 := parts_leaf (other_leaf h0 h1).1 (other_leaf h0 h1).2
theorem push_len (t : T) : ∀ r, (t.push r).ser.length ≤ t.ser.length := by
  induction t with
  | leaf x => intro r; exact Nat.le_refl _
  | not x t ih => intro r; have := ih (!r); show _ ≤ t.ser.length + 1; show (t.push (!r)).ser.length ≤ _; omega
  | bin x a b iha ihb =>
    intro r
    have := iha r
    have := ihb r
    show ((a.push r).ser ++ (b.push r).ser).length + 1 ≤ (a.ser ++ b.ser).length + 1
    rw [List.length_append, List.length_append]; omega
theorem parts_bin {op : Int} (h : op = 9 ∨ op = 10) : parts op = 2 := by rcases h with rfl | rfl <;> rfl
theorem parts_bin' {op : Int} (h : op = 9 ∨ op = 10) : parts (otherOp op) = 2 := by rcases h with rfl | rfl <;> rfl
end Pd
set_option maxRecDepth 100000 in
set_option maxHeartbeats 6400000 in
theorem turn_any (w0 : World) (v : Value) (l : List N) (hv : NsAt w0 v l) (hl : l.length ≤ 1000000) (t : T) : t.ok → ∀ (r : Bool) (i : Nat) (rest : List N) (w : World) (out : List N), l.drop i = t.ser ++ rest → TA w0 v w out → out.length + t.ser.length ≤ 1000000 →
    Calls Try.prog 62 #[.int .i64 (i : Int), .bool r, .pointer (some ⟨w0.heap.size, 0, none⟩), .pointer (some ⟨w0.heap.size + 2, 0, none⟩), .pointer (some ⟨w0.heap.size + 1, 0, none⟩)] w fun e w' => e = .returned (.int .i64 ((i + t.ser.length : Nat) : Int)) ∧ TA w0 v w' (out ++ (t.push r).ser) := by
  induction t with
  | leaf x =>
    intro hok r i rest w out hdrop hta hlen
    have HLE : Hid (out.length + 1 ≤ 1000000) := hlen
    clear hlen
    cases r with
    | false =>
      have HTA := hid hta
      have hlt := hta.lt
      have hil : i < l.length := by
        have h1 := congrArg List.length hdrop
        rw [List.length_drop] at h1
        simp [T.ser] at h1; omega
      have hil' : (i : Int) < (l.length : Int) := by omega
      have hi0 : (0 : Int) ≤ (i : Int) := by omega
      have hi1 : IntKind.i64.wrap ((i : Int) + 1) = ((i + 1 : Nat) : Int) := by rw [IntKind.wrap_i64]; omega
      have hxi : l[i] = x := by
        have h1 := hdrop
        rw [List.drop_eq_getElem_cons hil] at h1
        exact (List.cons.inj h1).1
      have hdr : l.drop (i + 1) = rest := by
        have h1 := hdrop
        rw [List.drop_eq_getElem_cons hil] at h1
        first | exact (List.cons.inj h1).2 | exact (List.cons.inj h1).2.trans (List.append_assoc _ _ _)
      have HDR := hid hdr
      obtain ⟨adr, cap, rfl, hc⟩ := hv
      obtain ⟨g, off, rfl, q0, q1, q2, q3, q4, q5⟩ := hc i hil
      rw [hxi] at q0 q1 q2 q3 q4 q5
      replace q0 := hkeep q0 hta.below
      replace q1 := hkeep q1 hta.below
      replace q2 := hkeep q2 hta.below
      replace q3 := hkeep q3 hta.below
      replace q4 := hkeep q4 hta.below
      replace q5 := hkeep q5 hta.below
      have HC := hid hc
      have pl := cell_of_row w _ 0 _ _ _ hta.bl
      have pt := cell_of_row w _ 0 _ _ _ hta.bt
      obtain ⟨o, hbo, hown⟩ := hta.bo
      have po := cell_of_row w _ 0 _ _ _ hbo
      have HBO := hid hbo
      have HOW := hid hown
      simp only [List.getElem?_toArray, List.getElem?_cons_zero] at pl pt po
      unfold turnV at pt
      clear hc hta hdrop hdr hxi
      obtain ⟨hx0, hx1⟩ := hok
      have n11 : (x.op == 11) = false := by rw [beq_eq_false_iff_ne]; omega
      have hpp : parts x.op = 0 := parts_leaf hx0 hx1
      have cp := hid (fun W => parts_any x.op W)
      rw [hpp] at cp
      clear hpp
      have HB1 := hid (BN.new 65 w x)
      have HT1 := hid (HTA.out.keep (hba w (.cells #[.int .i64 x.op, .int .i64 x.col, .int .i64 x.v.k, .int .i64 x.v.n, .int .u64 (x.v.b : Int), .string x.v.s] 65)))
      have HO1 := hid (hown.alloc (.cells #[.int .i64 x.op, .int .i64 x.col, .int .i64 x.v.k, .int .i64 x.v.n, .int .u64 (x.v.b : Int), .string x.v.s] 65))
      have HBO1 := hid (keepBlock hbo (hba w (.cells #[.int .i64 x.op, .int .i64 x.col, .int .i64 x.v.k, .int .i64 x.v.n, .int .u64 (x.v.b : Int), .string x.v.s] 65)))
      have HQ : Hid (∀ q, o.ownBlock = some q → q < w.heap.size) := fun q e => (World.ownsRow.lt hown q e).2
      clear hbo hown
      have hne : w.heap.size ≠ w0.heap.size + 1 := by omega
      have hne' : w0.heap.size + 1 ≠ w.heap.size := by omega
      have g0 : w0.heap.size < w.heap.size := by omega
      have g1 : w0.heap.size + 1 < w.heap.size := by omega
      have g2 : w0.heap.size + 2 < w.heap.size := by omega
      clear hx0 hx1
      go_enter Try.func62, Try.ntmps62
      go_wp2_with (at_builtin; go_loud (refine append_node _ rfl _ _ rfl (w0.heap.size + 3) _ out rfl HO1.out x _ (by simp) rfl (by have := HLE.out; omega) HT1.out.lt ?_; intro v2 w7 own2 gr2; have HP := hid (HT1.out.put HBO1.out HO1.out own2 gr2); obtain ⟨po7, pf7, BX7, pz7⟩ := after_put HT1.out HBO1.out HO1.out gr2 HB1.out HQ.out; obtain ⟨ad2, cp2, e2⟩ := own_slc own2; rw [List.length_append, List.length_singleton] at e2; subst e2; obtain ⟨x0, x1, x2, x3, x4, x5, xf0, xf1, xf2, xf3, xf4, xf5, xl⟩ := BX7.cells; clear own2 gr2 BX7))
      refine (cp.out _).mono ?_; rintro e w9 ⟨rfl, rfl⟩
      clear po7 pf7 pz7 x0 x1 x2 x3 x4 x5 xf0 xf1 xf2 xf3 xf4 xf5 xl HT1 HO1 HBO1 HB1
      go_wp2_with fail
      go_loopw [33, 0] (fun c iv wr => c = .int .i64 0 ∧ iv = .int .i64 ((i + 1 : Nat) : Int) ∧ TA w0 (.slice (some ⟨g, off, none⟩) l.length cap) wr (out ++ [x])) (fun _ _ _ => 0)
      case atStart => exact ⟨rfl, rfl, HP.out⟩
      case round =>
        obtain ⟨rfl, rfl, hta2⟩ := hrel
        have HT2 := hid hta2
        clear hta2
        go_wp2_with fail
        go_ret
        exact ⟨rfl, HT2.out⟩
    | true =>
      have HTA := hid hta
      have hlt := hta.lt
      have hil : i < l.length := by
        have h1 := congrArg List.length hdrop
        rw [List.length_drop] at h1
        simp [T.ser] at h1; omega
      have hil' : (i : Int) < (l.length : Int) := by omega
      have hi0 : (0 : Int) ≤ (i : Int) := by omega
      have hi1 : IntKind.i64.wrap ((i : Int) + 1) = ((i + 1 : Nat) : Int) := by rw [IntKind.wrap_i64]; omega
      have hxi : l[i] = x := by
        have h1 := hdrop
        rw [List.drop_eq_getElem_cons hil] at h1
        exact (List.cons.inj h1).1
      have hdr : l.drop (i + 1) = rest := by
        have h1 := hdrop
        rw [List.drop_eq_getElem_cons hil] at h1
        first | exact (List.cons.inj h1).2 | exact (List.cons.inj h1).2.trans (List.append_assoc _ _ _)
      have HDR := hid hdr
      obtain ⟨adr, cap, rfl, hc⟩ := hv
      obtain ⟨g, off, rfl, q0, q1, q2, q3, q4, q5⟩ := hc i hil
      rw [hxi] at q0 q1 q2 q3 q4 q5
      replace q0 := hkeep q0 hta.below
      replace q1 := hkeep q1 hta.below
      replace q2 := hkeep q2 hta.below
      replace q3 := hkeep q3 hta.below
      replace q4 := hkeep q4 hta.below
      replace q5 := hkeep q5 hta.below
      have HC := hid hc
      have pl := cell_of_row w _ 0 _ _ _ hta.bl
      have pt := cell_of_row w _ 0 _ _ _ hta.bt
      obtain ⟨o, hbo, hown⟩ := hta.bo
      have po := cell_of_row w _ 0 _ _ _ hbo
      have HBO := hid hbo
      have HOW := hid hown
      simp only [List.getElem?_toArray, List.getElem?_cons_zero] at pl pt po
      unfold turnV at pt
      clear hc hta hdrop hdr hxi
      obtain ⟨hx0, hx1⟩ := hok
      have n11 : (x.op == 11) = false := by rw [beq_eq_false_iff_ne]; omega
      have hpp : parts (other x).op = 0 := parts_leaf' hx0 hx1
      have cp := hid (fun W => parts_any (other x).op W)
      rw [hpp] at cp
      clear hpp
      have HB1 := hid (BN.new 65 w x)
      have HT1 := hid (HTA.out.keep (hba w (.cells #[.int .i64 x.op, .int .i64 x.col, .int .i64 x.v.k, .int .i64 x.v.n, .int .u64 (x.v.b : Int), .string x.v.s] 65)))
      have HO1 := hid (hown.alloc (.cells #[.int .i64 x.op, .int .i64 x.col, .int .i64 x.v.k, .int .i64 x.v.n, .int .u64 (x.v.b : Int), .string x.v.s] 65))
      have HBO1 := hid (keepBlock hbo (hba w (.cells #[.int .i64 x.op, .int .i64 x.col, .int .i64 x.v.k, .int .i64 x.v.n, .int .u64 (x.v.b : Int), .string x.v.s] 65)))
      have HQ : Hid (∀ q, o.ownBlock = some q → q < w.heap.size) := fun q e => (World.ownsRow.lt hown q e).2
      clear hbo hown
      have hne : w.heap.size ≠ w0.heap.size + 1 := by omega
      have hne' : w0.heap.size + 1 ≠ w.heap.size := by omega
      have g0 : w0.heap.size < w.heap.size := by omega
      have g1 : w0.heap.size + 1 < w.heap.size := by omega
      have g2 : w0.heap.size + 2 < w.heap.size := by omega
      have co0 := fun W => other_any x hx0 (by omega) W
      unfold nv at co0
      have co := hid co0
      clear co0
      clear hx0 hx1
      go_enter Try.func62, Try.ntmps62
      go_wp2_with fail
      refine (co.out _).mono ?_; rintro e w5 ⟨rfl, b5⟩
      have HB5 := hid (HB1.out.keep b5)
      have HT5 := hid (HT1.out.keep b5)
      have HO5 : Hid (w5.ownsRow (w0.heap.size + 3) 65 6 o out.length (ncells out)) := own_below HO1.out b5
      have HBO5 := hid (keepBlock HBO1.out b5)
      have U6 := hid (upd_set6 w5 w.heap.size (.int .i64 (other x).op) (.int .i64 (other x).col) (.int .i64 (other x).v.k) (.int .i64 (other x).v.n) (.int .u64 ((other x).v.b : Int)) (.string (other x).v.s))
      have HB6 := hid (HB5.out.set6 (other x))
      have HT6 := hid (HT5.out.upd U6.out (by omega) (fun o' ho' e' => by rw [HBO5.out] at ho'; cases ho'; have := HQ.out _ e'; omega))
      have HO6 := hid (HO5.out.kept U6.out (.inr (fun e' => by have := HQ.out _ e'; omega)))
      have HBO6 := hid ((U6.out.block _ (by have := HT5.out.lt; omega) (fun e' => by injection e'; omega)).trans HBO5.out)
      have hw5 : w.heap.size < w5.heap.size := (Array.getElem?_eq_some_iff.1 HB5.out).1
      have g51 : w0.heap.size + 1 < w5.heap.size := by omega
      have po5 := cell_of_row w5 _ 0 _ _ _ HBO5.out
      simp only [List.getElem?_toArray, List.getElem?_cons_zero] at po5
      obtain ⟨y0, y1, y2, y3, y4, y5, yf0, yf1, yf2, yf3, yf4, yf5, yl⟩ := HB5.out.cells
      clear b5 HB1 HT1 HO1 HBO1 HB5 HT5 HO5 HBO5 U6
      go_wp2_with (at_builtin; go_loud (refine append_node _ rfl _ _ rfl (w0.heap.size + 3) _ out rfl HO6.out (other x) _ (by simp) rfl (by have := HLE.out; omega) HT6.out.lt ?_; intro v2 w7 own2 gr2; have HP := hid (HT6.out.put HBO6.out HO6.out own2 gr2); obtain ⟨po7, pf7, BX7, pz7⟩ := after_put HT6.out HBO6.out HO6.out gr2 HB6.out HQ.out; obtain ⟨ad2, cp2, e2⟩ := own_slc own2; rw [List.length_append, List.length_singleton] at e2; subst e2; obtain ⟨x0, x1, x2, x3, x4, x5, xf0, xf1, xf2, xf3, xf4, xf5, xl⟩ := BX7.cells; clear own2 gr2 BX7))
      refine (cp.out _).mono ?_; rintro e w9 ⟨rfl, rfl⟩
      clear po7 pf7 pz7 x0 x1 x2 x3 x4 x5 xf0 xf1 xf2 xf3 xf4 xf5 xl HT6 HO6 HBO6 HB6
      go_wp2_with fail
      go_loopw [33, 0] (fun c iv wr => c = .int .i64 0 ∧ iv = .int .i64 ((i + 1 : Nat) : Int) ∧ TA w0 (.slice (some ⟨g, off, none⟩) l.length cap) wr (out ++ [(other x)])) (fun _ _ _ => 0)
      case atStart => exact ⟨rfl, rfl, HP.out⟩
      case round =>
        obtain ⟨rfl, rfl, hta2⟩ := hrel
        have HT2 := hid hta2
        clear hta2
        go_wp2_with fail
        go_ret
        exact ⟨rfl, HT2.out⟩
  | not x t ih =>
    intro hok r i rest w out hdrop hta hlen
    have HLE : Hid (out.length + (t.ser.length + 1) ≤ 1000000) := hlen
    clear hlen
    cases r with
    | false =>
      have HTA := hid hta
      have hlt := hta.lt
      have hil : i < l.length := by
        have h1 := congrArg List.length hdrop
        rw [List.length_drop] at h1
        simp [T.ser] at h1; omega
      have hil' : (i : Int) < (l.length : Int) := by omega
      have hi0 : (0 : Int) ≤ (i : Int) := by omega
      have hi1 : IntKind.i64.wrap ((i : Int) + 1) = ((i + 1 : Nat) : Int) := by rw [IntKind.wrap_i64]; omega
      have hxi : l[i] = x := by
        have h1 := hdrop
        rw [List.drop_eq_getElem_cons hil] at h1
        exact (List.cons.inj h1).1
      have hdr : l.drop (i + 1) = t.ser ++ rest := by
        have h1 := hdrop
        rw [List.drop_eq_getElem_cons hil] at h1
        first | exact (List.cons.inj h1).2 | exact (List.cons.inj h1).2.trans (List.append_assoc _ _ _)
      have HDR := hid hdr
      obtain ⟨adr, cap, rfl, hc⟩ := hv
      obtain ⟨g, off, rfl, q0, q1, q2, q3, q4, q5⟩ := hc i hil
      rw [hxi] at q0 q1 q2 q3 q4 q5
      replace q0 := hkeep q0 hta.below
      replace q1 := hkeep q1 hta.below
      replace q2 := hkeep q2 hta.below
      replace q3 := hkeep q3 hta.below
      replace q4 := hkeep q4 hta.below
      replace q5 := hkeep q5 hta.below
      have HC := hid hc
      have pl := cell_of_row w _ 0 _ _ _ hta.bl
      have pt := cell_of_row w _ 0 _ _ _ hta.bt
      obtain ⟨o, hbo, hown⟩ := hta.bo
      have po := cell_of_row w _ 0 _ _ _ hbo
      have HBO := hid hbo
      have HOW := hid hown
      simp only [List.getElem?_toArray, List.getElem?_cons_zero] at pl pt po
      unfold turnV at pt
      clear hc hta hdrop hdr hxi
      obtain ⟨hop, hokt⟩ := hok
      have n11 : (x.op == 11) = true := by rw [hop]; rfl
      have HT1 := hid (HTA.out.keep (hba w (.cells #[.int .i64 x.op, .int .i64 x.col, .int .i64 x.v.k, .int .i64 x.v.n, .int .u64 (x.v.b : Int), .string x.v.s] 65)))
      have g0 : w0.heap.size < w.heap.size := by omega
      have g1 : w0.heap.size + 1 < w.heap.size := by omega
      have g2 : w0.heap.size + 2 < w.heap.size := by omega
      have HDT : Hid (l.drop (i + 1) = t.ser ++ rest) := HDR.out
      have HLT : Hid (out.length + t.ser.length ≤ 1000000) := by have := HLE.out; show _ ≤ _; omega
      clear hbo hown hop
      have ct := hid (ih hokt true (i + 1) rest _ out HDT.out HT1.out HLT.out)
      go_enter Try.func62, Try.ntmps62
      go_wp2_with fail
      refine ct.out.mono ?_; rintro e w5 ⟨rfl, hta3⟩
      have HT3 := hid hta3
      clear hta3
      go_wp2_with fail
      go_ret
      refine ⟨?_, HT3.out⟩
      show _ = Ending.returned (.int .i64 ((i + (t.ser.length + 1) : Nat) : Int))
      rw [show i + (t.ser.length + 1) = i + 1 + t.ser.length by omega]
      first | rfl | exact ret_eq (by omega)
    | true =>
      have HTA := hid hta
      have hlt := hta.lt
      have hil : i < l.length := by
        have h1 := congrArg List.length hdrop
        rw [List.length_drop] at h1
        simp [T.ser] at h1; omega
      have hil' : (i : Int) < (l.length : Int) := by omega
      have hi0 : (0 : Int) ≤ (i : Int) := by omega
      have hi1 : IntKind.i64.wrap ((i : Int) + 1) = ((i + 1 : Nat) : Int) := by rw [IntKind.wrap_i64]; omega
      have hxi : l[i] = x := by
        have h1 := hdrop
        rw [List.drop_eq_getElem_cons hil] at h1
        exact (List.cons.inj h1).1
      have hdr : l.drop (i + 1) = t.ser ++ rest := by
        have h1 := hdrop
        rw [List.drop_eq_getElem_cons hil] at h1
        first | exact (List.cons.inj h1).2 | exact (List.cons.inj h1).2.trans (List.append_assoc _ _ _)
      have HDR := hid hdr
      obtain ⟨adr, cap, rfl, hc⟩ := hv
      obtain ⟨g, off, rfl, q0, q1, q2, q3, q4, q5⟩ := hc i hil
      rw [hxi] at q0 q1 q2 q3 q4 q5
      replace q0 := hkeep q0 hta.below
      replace q1 := hkeep q1 hta.below
      replace q2 := hkeep q2 hta.below
      replace q3 := hkeep q3 hta.below
      replace q4 := hkeep q4 hta.below
      replace q5 := hkeep q5 hta.below
      have HC := hid hc
      have pl := cell_of_row w _ 0 _ _ _ hta.bl
      have pt := cell_of_row w _ 0 _ _ _ hta.bt
      obtain ⟨o, hbo, hown⟩ := hta.bo
      have po := cell_of_row w _ 0 _ _ _ hbo
      have HBO := hid hbo
      have HOW := hid hown
      simp only [List.getElem?_toArray, List.getElem?_cons_zero] at pl pt po
      unfold turnV at pt
      clear hc hta hdrop hdr hxi
      obtain ⟨hop, hokt⟩ := hok
      have n11 : (x.op == 11) = true := by rw [hop]; rfl
      have HT1 := hid (HTA.out.keep (hba w (.cells #[.int .i64 x.op, .int .i64 x.col, .int .i64 x.v.k, .int .i64 x.v.n, .int .u64 (x.v.b : Int), .string x.v.s] 65)))
      have g0 : w0.heap.size < w.heap.size := by omega
      have g1 : w0.heap.size + 1 < w.heap.size := by omega
      have g2 : w0.heap.size + 2 < w.heap.size := by omega
      have HDT : Hid (l.drop (i + 1) = t.ser ++ rest) := HDR.out
      have HLT : Hid (out.length + t.ser.length ≤ 1000000) := by have := HLE.out; show _ ≤ _; omega
      clear hbo hown hop
      have ct := hid (ih hokt false (i + 1) rest _ out HDT.out HT1.out HLT.out)
      go_enter Try.func62, Try.ntmps62
      go_wp2_with fail
      refine ct.out.mono ?_; rintro e w5 ⟨rfl, hta3⟩
      have HT3 := hid hta3
      clear hta3
      go_wp2_with fail
      go_ret
      refine ⟨?_, HT3.out⟩
      show _ = Ending.returned (.int .i64 ((i + (t.ser.length + 1) : Nat) : Int))
      rw [show i + (t.ser.length + 1) = i + 1 + t.ser.length by omega]
      first | rfl | exact ret_eq (by omega)
  | bin x a b iha ihb =>
    intro hok r i rest w out hdrop hta hlen
    have HLE : Hid (out.length + ((a.ser ++ b.ser).length + 1) ≤ 1000000) := hlen
    clear hlen
    rw [List.length_append] at HLE
    cases r with
    | false =>
      have HTA := hid hta
      have hlt := hta.lt
      have hil : i < l.length := by
        have h1 := congrArg List.length hdrop
        rw [List.length_drop] at h1
        simp [T.ser] at h1; omega
      have hil' : (i : Int) < (l.length : Int) := by omega
      have hi0 : (0 : Int) ≤ (i : Int) := by omega
      have hi1 : IntKind.i64.wrap ((i : Int) + 1) = ((i + 1 : Nat) : Int) := by rw [IntKind.wrap_i64]; omega
      have hxi : l[i] = x := by
        have h1 := hdrop
        rw [List.drop_eq_getElem_cons hil] at h1
        exact (List.cons.inj h1).1
      have hdr : l.drop (i + 1) = a.ser ++ (b.ser ++ rest) := by
        have h1 := hdrop
        rw [List.drop_eq_getElem_cons hil] at h1
        first | exact (List.cons.inj h1).2 | exact (List.cons.inj h1).2.trans (List.append_assoc _ _ _)
      have HDR := hid hdr
      obtain ⟨adr, cap, rfl, hc⟩ := hv
      obtain ⟨g, off, rfl, q0, q1, q2, q3, q4, q5⟩ := hc i hil
      rw [hxi] at q0 q1 q2 q3 q4 q5
      replace q0 := hkeep q0 hta.below
      replace q1 := hkeep q1 hta.below
      replace q2 := hkeep q2 hta.below
      replace q3 := hkeep q3 hta.below
      replace q4 := hkeep q4 hta.below
      replace q5 := hkeep q5 hta.below
      have HC := hid hc
      have pl := cell_of_row w _ 0 _ _ _ hta.bl
      have pt := cell_of_row w _ 0 _ _ _ hta.bt
      obtain ⟨o, hbo, hown⟩ := hta.bo
      have po := cell_of_row w _ 0 _ _ _ hbo
      have HBO := hid hbo
      have HOW := hid hown
      simp only [List.getElem?_toArray, List.getElem?_cons_zero] at pl pt po
      unfold turnV at pt
      clear hc hta hdrop hdr hxi
      obtain ⟨hop, hoka, hokb⟩ := hok
      have hx0 : 1 ≤ x.op := by rcases hop with h | h <;> omega
      have hx1 : x.op ≤ 10 := by rcases hop with h | h <;> omega
      have n11 : (x.op == 11) = false := by rw [beq_eq_false_iff_ne]; omega
      have hpp : parts x.op = 2 := parts_bin hop
      have cp := hid (fun W => parts_any x.op W)
      rw [hpp] at cp
      clear hpp
      have HB1 := hid (BN.new 65 w x)
      have HT1 := hid (HTA.out.keep (hba w (.cells #[.int .i64 x.op, .int .i64 x.col, .int .i64 x.v.k, .int .i64 x.v.n, .int .u64 (x.v.b : Int), .string x.v.s] 65)))
      have HO1 := hid (hown.alloc (.cells #[.int .i64 x.op, .int .i64 x.col, .int .i64 x.v.k, .int .i64 x.v.n, .int .u64 (x.v.b : Int), .string x.v.s] 65))
      have HBO1 := hid (keepBlock hbo (hba w (.cells #[.int .i64 x.op, .int .i64 x.col, .int .i64 x.v.k, .int .i64 x.v.n, .int .u64 (x.v.b : Int), .string x.v.s] 65)))
      have HQ : Hid (∀ q, o.ownBlock = some q → q < w.heap.size) := fun q e => (World.ownsRow.lt hown q e).2
      clear hbo hown
      have hne : w.heap.size ≠ w0.heap.size + 1 := by omega
      have hne' : w0.heap.size + 1 ≠ w.heap.size := by omega
      have g0 : w0.heap.size < w.heap.size := by omega
      have g1 : w0.heap.size + 1 < w.heap.size := by omega
      have g2 : w0.heap.size + 2 < w.heap.size := by omega
      clear hx0 hx1
      go_enter Try.func62, Try.ntmps62
      go_wp2_with (at_builtin; go_loud (refine append_node _ rfl _ _ rfl (w0.heap.size + 3) _ out rfl HO1.out x _ (by simp) rfl (by have := HLE.out; omega) HT1.out.lt ?_; intro v2 w7 own2 gr2; have HP := hid (HT1.out.put HBO1.out HO1.out own2 gr2); obtain ⟨po7, pf7, BX7, pz7⟩ := after_put HT1.out HBO1.out HO1.out gr2 HB1.out HQ.out; obtain ⟨ad2, cp2, e2⟩ := own_slc own2; rw [List.length_append, List.length_singleton] at e2; subst e2; obtain ⟨x0, x1, x2, x3, x4, x5, xf0, xf1, xf2, xf3, xf4, xf5, xl⟩ := BX7.cells; clear own2 gr2 BX7))
      refine (cp.out _).mono ?_; rintro e w9 ⟨rfl, rfl⟩
      clear po7 pf7 pz7 x0 x1 x2 x3 x4 x5 xf0 xf1 xf2 xf3 xf4 xf5 xl HT1 HO1 HBO1 HB1
      go_wp2_with fail
      obtain ⟨j1, hj1⟩ : ∃ j1, i + 1 + a.ser.length = j1 := ⟨_, rfl⟩
      obtain ⟨j2, hj2⟩ : ∃ j2, j1 + b.ser.length = j2 := ⟨_, rfl⟩
      have HDA : Hid (l.drop (i + 1) = a.ser ++ (b.ser ++ rest)) := HDR.out
      have HDB : Hid (l.drop j1 = b.ser ++ rest) := by
        show _ = _
        rw [← hj1, ← List.drop_drop, HDR.out, List.drop_left]
      have HJ : Hid (j2 = i + (1 + (a.ser.length + b.ser.length))) := by show _ = _; omega
      have HLA : Hid ((out ++ [x]).length + a.ser.length ≤ 1000000) := by have := HLE.out; show _ ≤ _; simp; omega
      have HLB : Hid ((out ++ [x] ++ (a.push false).ser).length + b.ser.length ≤ 1000000) := by have := HLE.out; have h2 := push_len a false; show _ ≤ _; simp; omega
      have HJ1 := hid hj1
      have HJ2 := hid hj2
      clear hj1 hj2
      generalize hA : (a.push false).ser = A at *
      generalize hB : (b.push false).ser = B at *
      go_loopw [33, 0] (fun c iv wr => ∃ k : Nat, c = .int .i64 (k : Int) ∧ ((k = 0 ∧ iv = .int .i64 ((i + 1 : Nat) : Int) ∧ TA w0 (.slice (some ⟨g, off, none⟩) l.length cap) wr (out ++ [x])) ∨ (k = 1 ∧ iv = .int .i64 (j1 : Int) ∧ TA w0 (.slice (some ⟨g, off, none⟩) l.length cap) wr (out ++ [x] ++ A)) ∨ (k = 2 ∧ iv = .int .i64 (j2 : Int) ∧ TA w0 (.slice (some ⟨g, off, none⟩) l.length cap) wr (out ++ [x] ++ A ++ B)))) (fun c _ _ => 2 - (intOf c).toNat)
      case atStart => exact ⟨0, rfl, .inl ⟨rfl, rfl, HP.out⟩⟩
      case round =>
        obtain ⟨k, rfl, hk⟩ := hrel
        obtain ⟨w4, rfl⟩ : ∃ w4 : World, w4 = wr := ⟨_, rfl⟩
        rcases hk with ⟨rfl, rfl, hta2⟩ | ⟨rfl, rfl, hta2⟩ | ⟨rfl, rfl, hta2⟩
        · have pt2 := cell_of_row w4 _ 0 _ _ _ hta2.bt
          simp only [List.getElem?_toArray, List.getElem?_cons_zero] at pt2
          unfold turnV at pt2
          have ca := hid (iha hoka false (i + 1) (b.ser ++ rest) w4 (out ++ [x]) HDA.out hta2 HLA.out)
          rw [hA, show i + 1 + a.ser.length = j1 from HJ1.out] at ca
          clear hta2
          go_wp2_with fail
          refine ca.out.mono ?_; rintro e w5 ⟨rfl, hta3⟩
          have HT3 := hid hta3
          clear hta3 pt2
          go_wp2_with fail
          go_roundw
          case rel => exact ⟨1, by first | rfl | go_num, .inr (.inl ⟨rfl, rfl, HT3.out⟩)⟩
          case measure => simp [intOf]
        · have pt2 := cell_of_row w4 _ 0 _ _ _ hta2.bt
          simp only [List.getElem?_toArray, List.getElem?_cons_zero] at pt2
          unfold turnV at pt2
          have ca := hid (ihb hokb false j1 rest w4 (out ++ [x] ++ A) HDB.out hta2 HLB.out)
          rw [hB, show j1 + b.ser.length = j2 from HJ2.out] at ca
          clear hta2
          go_wp2_with fail
          refine ca.out.mono ?_; rintro e w5 ⟨rfl, hta3⟩
          have HT3 := hid hta3
          clear hta3 pt2
          go_wp2_with fail
          go_roundw
          case rel => exact ⟨2, by first | rfl | go_num, .inr (.inr ⟨rfl, rfl, HT3.out⟩)⟩
          case measure => simp [intOf]
        · have HT2 := hid hta2
          clear hta2
          go_wp2_with fail
          go_ret
          refine ⟨?_, ?_⟩
          · rw [HJ.out]
            show _ = Ending.returned (.int .i64 ((i + (a.ser ++ b.ser).length.succ : Nat) : Int))
            rw [List.length_append, show 1 + (a.ser.length + b.ser.length) = (a.ser.length + b.ser.length).succ by omega]
            first | rfl | exact ret_eq (by omega)
          · have h3 := HT2.out
            rw [← hA, ← hB, List.append_assoc, List.append_assoc] at h3
            exact h3
    | true =>
      have HTA := hid hta
      have hlt := hta.lt
      have hil : i < l.length := by
        have h1 := congrArg List.length hdrop
        rw [List.length_drop] at h1
        simp [T.ser] at h1; omega
      have hil' : (i : Int) < (l.length : Int) := by omega
      have hi0 : (0 : Int) ≤ (i : Int) := by omega
      have hi1 : IntKind.i64.wrap ((i : Int) + 1) = ((i + 1 : Nat) : Int) := by rw [IntKind.wrap_i64]; omega
      have hxi : l[i] = x := by
        have h1 := hdrop
        rw [List.drop_eq_getElem_cons hil] at h1
        exact (List.cons.inj h1).1
      have hdr : l.drop (i + 1) = a.ser ++ (b.ser ++ rest) := by
        have h1 := hdrop
        rw [List.drop_eq_getElem_cons hil] at h1
        first | exact (List.cons.inj h1).2 | exact (List.cons.inj h1).2.trans (List.append_assoc _ _ _)
      have HDR := hid hdr
      obtain ⟨adr, cap, rfl, hc⟩ := hv
      obtain ⟨g, off, rfl, q0, q1, q2, q3, q4, q5⟩ := hc i hil
      rw [hxi] at q0 q1 q2 q3 q4 q5
      replace q0 := hkeep q0 hta.below
      replace q1 := hkeep q1 hta.below
      replace q2 := hkeep q2 hta.below
      replace q3 := hkeep q3 hta.below
      replace q4 := hkeep q4 hta.below
      replace q5 := hkeep q5 hta.below
      have HC := hid hc
      have pl := cell_of_row w _ 0 _ _ _ hta.bl
      have pt := cell_of_row w _ 0 _ _ _ hta.bt
      obtain ⟨o, hbo, hown⟩ := hta.bo
      have po := cell_of_row w _ 0 _ _ _ hbo
      have HBO := hid hbo
      have HOW := hid hown
      simp only [List.getElem?_toArray, List.getElem?_cons_zero] at pl pt po
      unfold turnV at pt
      clear hc hta hdrop hdr hxi
      obtain ⟨hop, hoka, hokb⟩ := hok
      have hx0 : 1 ≤ x.op := by rcases hop with h | h <;> omega
      have hx1 : x.op ≤ 10 := by rcases hop with h | h <;> omega
      have n11 : (x.op == 11) = false := by rw [beq_eq_false_iff_ne]; omega
      have hpp : parts (other x).op = 2 := parts_bin' hop
      have cp := hid (fun W => parts_any (other x).op W)
      rw [hpp] at cp
      clear hpp
      have HB1 := hid (BN.new 65 w x)
      have HT1 := hid (HTA.out.keep (hba w (.cells #[.int .i64 x.op, .int .i64 x.col, .int .i64 x.v.k, .int .i64 x.v.n, .int .u64 (x.v.b : Int), .string x.v.s] 65)))
      have HO1 := hid (hown.alloc (.cells #[.int .i64 x.op, .int .i64 x.col, .int .i64 x.v.k, .int .i64 x.v.n, .int .u64 (x.v.b : Int), .string x.v.s] 65))
      have HBO1 := hid (keepBlock hbo (hba w (.cells #[.int .i64 x.op, .int .i64 x.col, .int .i64 x.v.k, .int .i64 x.v.n, .int .u64 (x.v.b : Int), .string x.v.s] 65)))
      have HQ : Hid (∀ q, o.ownBlock = some q → q < w.heap.size) := fun q e => (World.ownsRow.lt hown q e).2
      clear hbo hown
      have hne : w.heap.size ≠ w0.heap.size + 1 := by omega
      have hne' : w0.heap.size + 1 ≠ w.heap.size := by omega
      have g0 : w0.heap.size < w.heap.size := by omega
      have g1 : w0.heap.size + 1 < w.heap.size := by omega
      have g2 : w0.heap.size + 2 < w.heap.size := by omega
      have co0 := fun W => other_any x hx0 (by omega) W
      unfold nv at co0
      have co := hid co0
      clear co0
      clear hx0 hx1
      go_enter Try.func62, Try.ntmps62
      go_wp2_with fail
      refine (co.out _).mono ?_; rintro e w5 ⟨rfl, b5⟩
      have HB5 := hid (HB1.out.keep b5)
      have HT5 := hid (HT1.out.keep b5)
      have HO5 : Hid (w5.ownsRow (w0.heap.size + 3) 65 6 o out.length (ncells out)) := own_below HO1.out b5
      have HBO5 := hid (keepBlock HBO1.out b5)
      have U6 := hid (upd_set6 w5 w.heap.size (.int .i64 (other x).op) (.int .i64 (other x).col) (.int .i64 (other x).v.k) (.int .i64 (other x).v.n) (.int .u64 ((other x).v.b : Int)) (.string (other x).v.s))
      have HB6 := hid (HB5.out.set6 (other x))
      have HT6 := hid (HT5.out.upd U6.out (by omega) (fun o' ho' e' => by rw [HBO5.out] at ho'; cases ho'; have := HQ.out _ e'; omega))
      have HO6 := hid (HO5.out.kept U6.out (.inr (fun e' => by have := HQ.out _ e'; omega)))
      have HBO6 := hid ((U6.out.block _ (by have := HT5.out.lt; omega) (fun e' => by injection e'; omega)).trans HBO5.out)
      have hw5 : w.heap.size < w5.heap.size := (Array.getElem?_eq_some_iff.1 HB5.out).1
      have g51 : w0.heap.size + 1 < w5.heap.size := by omega
      have po5 := cell_of_row w5 _ 0 _ _ _ HBO5.out
      simp only [List.getElem?_toArray, List.getElem?_cons_zero] at po5
      obtain ⟨y0, y1, y2, y3, y4, y5, yf0, yf1, yf2, yf3, yf4, yf5, yl⟩ := HB5.out.cells
      clear b5 HB1 HT1 HO1 HBO1 HB5 HT5 HO5 HBO5 U6
      go_wp2_with (at_builtin; go_loud (refine append_node _ rfl _ _ rfl (w0.heap.size + 3) _ out rfl HO6.out (other x) _ (by simp) rfl (by have := HLE.out; omega) HT6.out.lt ?_; intro v2 w7 own2 gr2; have HP := hid (HT6.out.put HBO6.out HO6.out own2 gr2); obtain ⟨po7, pf7, BX7, pz7⟩ := after_put HT6.out HBO6.out HO6.out gr2 HB6.out HQ.out; obtain ⟨ad2, cp2, e2⟩ := own_slc own2; rw [List.length_append, List.length_singleton] at e2; subst e2; obtain ⟨x0, x1, x2, x3, x4, x5, xf0, xf1, xf2, xf3, xf4, xf5, xl⟩ := BX7.cells; clear own2 gr2 BX7))
      refine (cp.out _).mono ?_; rintro e w9 ⟨rfl, rfl⟩
      clear po7 pf7 pz7 x0 x1 x2 x3 x4 x5 xf0 xf1 xf2 xf3 xf4 xf5 xl HT6 HO6 HBO6 HB6
      go_wp2_with fail
      obtain ⟨j1, hj1⟩ : ∃ j1, i + 1 + a.ser.length = j1 := ⟨_, rfl⟩
      obtain ⟨j2, hj2⟩ : ∃ j2, j1 + b.ser.length = j2 := ⟨_, rfl⟩
      have HDA : Hid (l.drop (i + 1) = a.ser ++ (b.ser ++ rest)) := HDR.out
      have HDB : Hid (l.drop j1 = b.ser ++ rest) := by
        show _ = _
        rw [← hj1, ← List.drop_drop, HDR.out, List.drop_left]
      have HJ : Hid (j2 = i + (1 + (a.ser.length + b.ser.length))) := by show _ = _; omega
      have HLA : Hid ((out ++ [(other x)]).length + a.ser.length ≤ 1000000) := by have := HLE.out; show _ ≤ _; simp; omega
      have HLB : Hid ((out ++ [(other x)] ++ (a.push true).ser).length + b.ser.length ≤ 1000000) := by have := HLE.out; have h2 := push_len a true; show _ ≤ _; simp; omega
      have HJ1 := hid hj1
      have HJ2 := hid hj2
      clear hj1 hj2
      generalize hA : (a.push true).ser = A at *
      generalize hB : (b.push true).ser = B at *
      go_loopw [33, 0] (fun c iv wr => ∃ k : Nat, c = .int .i64 (k : Int) ∧ ((k = 0 ∧ iv = .int .i64 ((i + 1 : Nat) : Int) ∧ TA w0 (.slice (some ⟨g, off, none⟩) l.length cap) wr (out ++ [(other x)])) ∨ (k = 1 ∧ iv = .int .i64 (j1 : Int) ∧ TA w0 (.slice (some ⟨g, off, none⟩) l.length cap) wr (out ++ [(other x)] ++ A)) ∨ (k = 2 ∧ iv = .int .i64 (j2 : Int) ∧ TA w0 (.slice (some ⟨g, off, none⟩) l.length cap) wr (out ++ [(other x)] ++ A ++ B)))) (fun c _ _ => 2 - (intOf c).toNat)
      case atStart => exact ⟨0, rfl, .inl ⟨rfl, rfl, HP.out⟩⟩
      case round =>
        obtain ⟨k, rfl, hk⟩ := hrel
        obtain ⟨w4, rfl⟩ : ∃ w4 : World, w4 = wr := ⟨_, rfl⟩
        rcases hk with ⟨rfl, rfl, hta2⟩ | ⟨rfl, rfl, hta2⟩ | ⟨rfl, rfl, hta2⟩
        · have pt2 := cell_of_row w4 _ 0 _ _ _ hta2.bt
          simp only [List.getElem?_toArray, List.getElem?_cons_zero] at pt2
          unfold turnV at pt2
          have ca := hid (iha hoka true (i + 1) (b.ser ++ rest) w4 (out ++ [(other x)]) HDA.out hta2 HLA.out)
          rw [hA, show i + 1 + a.ser.length = j1 from HJ1.out] at ca
          clear hta2
          go_wp2_with fail
          refine ca.out.mono ?_; rintro e w5 ⟨rfl, hta3⟩
          have HT3 := hid hta3
          clear hta3 pt2
          go_wp2_with fail
          go_roundw
          case rel => exact ⟨1, by first | rfl | go_num, .inr (.inl ⟨rfl, rfl, HT3.out⟩)⟩
          case measure => simp [intOf]
        · have pt2 := cell_of_row w4 _ 0 _ _ _ hta2.bt
          simp only [List.getElem?_toArray, List.getElem?_cons_zero] at pt2
          unfold turnV at pt2
          have ca := hid (ihb hokb true j1 rest w4 (out ++ [(other x)] ++ A) HDB.out hta2 HLB.out)
          rw [hB, show j1 + b.ser.length = j2 from HJ2.out] at ca
          clear hta2
          go_wp2_with fail
          refine ca.out.mono ?_; rintro e w5 ⟨rfl, hta3⟩
          have HT3 := hid hta3
          clear hta3 pt2
          go_wp2_with fail
          go_roundw
          case rel => exact ⟨2, by first | rfl | go_num, .inr (.inr ⟨rfl, rfl, HT3.out⟩)⟩
          case measure => simp [intOf]
        · have HT2 := hid hta2
          clear hta2
          go_wp2_with fail
          go_ret
          refine ⟨?_, ?_⟩
          · rw [HJ.out]
            show _ = Ending.returned (.int .i64 ((i + (a.ser ++ b.ser).length.succ : Nat) : Int))
            rw [List.length_append, show 1 + (a.ser.length + b.ser.length) = (a.ser.length + b.ser.length).succ by omega]
            first | rfl | exact ret_eq (by omega)
          · have h3 := HT2.out
            rw [← hA, ← hB, List.append_assoc, List.append_assoc] at h3
            exact h3
end Go.Proofs.Ytmcneelapghfcaa

namespace Go.Proofs.Ytmcneelapghfcaa
open Go.RowKit Pd

theorem NsAt.at {w : World} {adr : Option Addr} {cap n : Nat} {l : List N} (h : NsAt w (.slice adr n cap) l) (hl : 0 < l.length) : n = l.length ∧ ∃ g off, adr = some ⟨g, off, none⟩ ∧ ∀ j u, (ncells l)[j]? = some u → w.cell? ⟨g, off + j, none⟩ = some u := by
  obtain ⟨adr', cap', e, hc⟩ := h
  cases e
  refine ⟨rfl, ?_⟩
  obtain ⟨g, off, rfl, _⟩ := hc 0 hl
  refine ⟨g, off, rfl, fun j u hj => ?_⟩
  have hjl : j < l.length * 6 := by
    have := (List.getElem?_eq_some_iff.1 hj).1
    rw [ncells_length] at this; exact this
  obtain ⟨q, r, rfl, hr⟩ : ∃ q r, j = q * 6 + r ∧ r < 6 := ⟨j / 6, j % 6, by omega, by omega⟩
  have hq : q < l.length := by omega
  obtain ⟨g', off', e, q0, q1, q2, q3, q4, q5⟩ := hc q hq
  cases e
  obtain ⟨g0, g1, g2, g3, g4, g5⟩ := ncells_get (List.getElem?_eq_getElem hq)
  have hr' : r = 0 ∨ r = 1 ∨ r = 2 ∨ r = 3 ∨ r = 4 ∨ r = 5 := by omega
  rcases hr' with rfl | rfl | rfl | rfl | rfl | rfl
  · rw [Nat.add_zero] at hj ⊢
    rw [g0] at hj; cases hj; exact q0
  · rw [g1] at hj; cases hj; rw [← Nat.add_assoc]; exact q1
  · rw [g2] at hj; cases hj; rw [← Nat.add_assoc]; exact q2
  · rw [g3] at hj; cases hj; rw [← Nat.add_assoc]; exact q3
  · rw [g4] at hj; cases hj; rw [← Nat.add_assoc]; exact q4
  · rw [g5] at hj; cases hj; rw [← Nat.add_assoc]; exact q5
/-- nodes of the call's own -/
def OwnN (w : World) (B : Nat) (v : Value) (l : List N) : Prop := w.ownsRow B 65 6 v l.length (ncells l)
theorem OwnN.below {w w' : World} {B : Nat} {v : Value} {l : List N} (h : OwnN w B v l) (hb : Below w.heap.size w w') : OwnN w' B v l := own_below h hb
theorem OwnN.at {w : World} {B : Nat} {v : Value} {l : List N} (h : OwnN w B v l) : NsAt w v l := NsAt.own h
theorem OwnN.new (w : World) (x : N) : OwnN (w.alloc (.cells #[.int .i64 x.op, .int .i64 x.col, .int .i64 x.v.k, .int .i64 x.v.n, .int .u64 (x.v.b : Int), .string x.v.s] 65)) w.heap.size (.slice (some ⟨w.heap.size, 0, none⟩) 1 1) [x] :=
  ⟨rfl, .inr ⟨w.heap.size, 1, _, rfl, Nat.le_refl _, heap_alloc_new w _, Nat.le_refl _, (show 1 ≤ maxLen by decide), rfl, rfl⟩⟩
end Go.Proofs.Ytmcneelapghfcaa

namespace Go.Proofs.Ytmcneelapghfcaa
open Go.RowKit Pd

/-- the condition without Not, of nodes -/
def Pd.pushL (l : List N) (p : List N) : Prop := (whole l = false ∧ p = []) ∨ ∃ t : T, t.ok ∧ l = t.ser ∧ whole l = true ∧ p = (t.push false).ser
set_option maxRecDepth 100000 in
set_option maxHeartbeats 6400000 in
theorem push_any (v : Value) (l : List N) (w : World) (hv : NsAt w v l) (hl : l.length ≤ 1000000) : Calls Try.prog 26 #[v] w fun e w' => ∃ v' p, e = .returned v' ∧ w'.ownsRow w.heap.size 65 6 v' p.length (ncells p) ∧ pushL l p ∧ Below w.heap.size w w' := by
  have HW := hid (fun W h => whole_any v l W h hl)
  have HV := hid hv
  have hb1 := hid (hba w (.cells #[v] 25))
  obtain ⟨adr, cap, rfl⟩ := hv.slc
  clear hv
  have hb1c := cell_of_row (w.alloc (.cells #[.slice adr l.length cap] 25)) w.heap.size 0 _ _ (0, 0) (heap_alloc_new w _)
  cases hw : whole l with
  | false =>
    have cw0 := HW.out _ (HV.out.below (hba w (.cells #[.slice adr l.length cap] 25)))
    rw [hw] at cw0
    have cw := hid cw0
    have HE := hid hw
    clear cw0 hw HW
    go_enter Try.func26, Try.ntmps26
    go_wp2_with fail
    refine cw.out.mono ?_; rintro e w1 ⟨rfl, rfl⟩
    go_wp2_with fail
    go_ret
    exact ⟨_, [], rfl, World.ownsRow_nil _ _ _ _, .inl ⟨HE.out, rfl⟩, hb1.out⟩
  | true =>
    obtain ⟨t, ht, hlt⟩ := tree (whole_ends hw).1
    have cw0 := HW.out _ (HV.out.below (hba w (.cells #[.slice adr l.length cap] 25)))
    rw [hw] at cw0
    have cw := hid cw0
    have HE := hid hw
    have HT := hid ht
    have HL := hid hlt
    have hser : t.ser.length ≤ 1000000 := by rw [← hlt]; exact hl
    have HS := hid hser
    clear cw0 hw HW ht hlt hser
    have h3 : (((w.alloc (.cells #[.slice adr l.length cap] 25)).alloc (.cells #[.slice none 0 0] 25)).alloc (.cells #[.nilFunc] 103)).heap[w.heap.size + 1 + 1]? = some (.cells #[.nilFunc] 103 (0, 0)) := by
      have h := heap_alloc_new ((w.alloc (.cells #[.slice adr l.length cap] 25)).alloc (.cells #[.slice none 0 0] 25)) (.cells #[.nilFunc] 103)
      rwa [show ((w.alloc (.cells #[.slice adr l.length cap] 25)).alloc (.cells #[.slice none 0 0] 25)).heap.size = w.heap.size + 1 + 1 by simp] at h
    have c3 := cell_of_row _ _ 0 _ _ _ h3
    have f3 := frozen_of_row _ _ 0 _ _ h3
    simp only [List.getElem?_toArray, List.getElem?_cons_zero] at c3
    have hTA : TA w (.slice adr l.length cap) (((w.alloc (.cells #[.slice adr l.length cap] 25)).alloc (.cells #[.slice none 0 0] 25)).alloc (.cells #[turnV w.heap.size] 103)) [] := by
      refine ⟨hnext (hba w _) (hnext (hba _ _) (hba _ _)), keepBlock (keepBlock (heap_alloc_new w _) (hba _ _)) (hba _ _), ⟨.slice none 0 0, ?_, World.ownsRow_nil _ _ _ _⟩, ?_⟩
      · have h := heap_alloc_new (w.alloc (.cells #[.slice adr l.length cap] 25)) (.cells #[.slice none 0 0] 25)
        rw [show (w.alloc (.cells #[.slice adr l.length cap] 25)).heap.size = w.heap.size + 1 by simp] at h
        exact keepBlock h (hba _ _)
      · have h := heap_alloc_new ((w.alloc (.cells #[.slice adr l.length cap] 25)).alloc (.cells #[.slice none 0 0] 25)) (.cells #[turnV w.heap.size] 103)
        rwa [show ((w.alloc (.cells #[.slice adr l.length cap] 25)).alloc (.cells #[.slice none 0 0] 25)).heap.size = w.heap.size + 2 by simp] at h
    have cta := hid (turn_any w _ l HV.out hl t HT.out false 0 [] _ [] (by rw [List.drop_zero, List.append_nil]; exact HL.out) hTA (by simpa using HS.out))
    unfold turnV at cta
    rw [show ((0 : Nat) : Int) = 0 from rfl] at cta
    clear hTA h3
    go_enter Try.func26, Try.ntmps26
    go_wp2_with fail
    refine cw.out.mono ?_; rintro e w1 ⟨rfl, rfl⟩
    go_wp2_with fail
    refine (cta.out).mono ?_; rintro e w5 ⟨rfl, hta⟩
    have HTA := hid hta
    obtain ⟨o, hbo, hown⟩ := hta.bo
    have po := cell_of_row w5 _ 0 _ _ _ hbo
    simp only [List.getElem?_toArray, List.getElem?_cons_zero] at po
    have HOW := hid hown
    clear hta hbo hown
    go_wp2_with fail
    go_ret
    exact ⟨_, _, rfl, own_base HOW.out (by omega), .inr ⟨t, HT.out, HL.out, HE.out, rfl⟩, HTA.out.below⟩
end Go.Proofs.Ytmcneelapghfcaa
