/-
  code's try: its contracts, and those of what it defers. No condition.
-/
import Derived.Test.YtmgafcblbbbanaaRd4
import Derived.Defers
import Derived.Recover
import Derived.Laws.Pointers
namespace Go.Proofs.Ytmgafcblbbbanaa
open Go.RowKit

theorem wp_named {P : Program} {c : Code} {Q : Exit → Act → World → Prop} {a : Act} {w : World} (h : ∀ Q', Hid (Q' = Q) → c.wp P Q' a w) : c.wp P Q a w := h Q rfl
theorem frame23 (a b c v : Value) : #[a, b, c] ++ (Array.replicate 20 undef).setIfInBounds 4 v = #[a, b, c, undef, undef, undef, undef, v, undef, undef, undef, undef, undef, undef, undef, undef, undef, undef, undef, undef, undef, undef, undef] := by
  apply Array.ext'
  simp [List.replicate]
/-- all blocks below B but the block g are as they were -/
structure UB (B g : Nat) (w w' : World) : Prop where
  os : w'.os = w.os
  tape : w'.tape = w.tape
  output : w'.output = w.output
  size : w.heap.size ≤ w'.heap.size
  block : ∀ k, k < B → k ≠ g → w'.heap[k]? = w.heap[k]?
theorem UB.refl (B g : Nat) (w : World) : UB B g w w := ⟨rfl, rfl, rfl, Nat.le_refl _, fun _ _ _ => rfl⟩
theorem UB.trans {B g : Nat} {a b c : World} (h : UB B g a b) (k : UB B g b c) : UB B g a c :=
  ⟨k.os.trans h.os, k.tape.trans h.tape, k.output.trans h.output, Nat.le_trans h.size k.size, fun i hi hn => (k.block i hi hn).trans (h.block i hi hn)⟩
theorem UB.of {B g : Nat} {a b : World} (h : Below B a b) : UB B g a b := ⟨h.os, h.tape, h.output, h.size, fun i hi _ => h.block i hi⟩
theorem UB.upd {B g : Nat} {a b : World} (h : Upd g a b) (hB : B ≤ a.heap.size) : UB B g a b := ⟨h.os, h.tape, h.output, h.size, fun i hi hn => h.block i (Nat.lt_of_lt_of_le hi hB) (by simpa using hn)⟩
theorem UB.set {B g r o : Nat} (w : World) (v : Value) (hr : B ≤ r ∨ r = g) : UB B g w (w.setCell ⟨r, o, none⟩ v) := by
  have hb : Below r w (w.setCell ⟨r, o, none⟩ v) := (Below.refl r w).setCell (p := ⟨r, o, none⟩) (Nat.le_refl _) v
  exact ⟨hb.os, hb.tape, hb.output, hb.size, fun i hi hn => heap_setCell_other w ⟨r, o, none⟩ i v (by simp; omega)⟩
theorem UB.toUpd {g : Nat} {w w' : World} (h : UB w.heap.size g w w') : Upd g w w' := ⟨h.os, h.tape, h.output, h.size, fun i hi hn => h.block i hi (by simpa using hn)⟩
theorem cset {W : World} {q : Addr} {v u : Value} {b o : Nat} (h : W.cell? q = some v) (hne : q.block ≠ b) : (W.setCell ⟨b, o, none⟩ u).cell? q = some v :=
  (World.cell?_of_block (heap_setCell_other W ⟨b, o, none⟩ q.block u (by simpa using hne))).trans h
theorem Rdr.setE {w : World} {g : Nat} {s : ByteArray} {i : Nat} {er : Int} (h : Rdr w g s i er) (e : Int) : Rdr (w.setCell ⟨g, 2, none⟩ (.int .i64 e)) g s i e := heap_setCell_same w g 2 _ _ (.int .i64 e) h
theorem Rdr.setI {w : World} {g : Nat} {s : ByteArray} {i : Nat} {er : Int} (h : Rdr w g s i er) (j : Nat) : Rdr (w.setCell ⟨g, 1, none⟩ (.int .i64 (j : Int))) g s j er := heap_setCell_same w g 1 _ _ (.int .i64 (j : Int)) h
/-- a variable of the call's own -/
def Var (w : World) (b : Nat) (cs : Array Value) (t : TypeId) : Prop := w.heap[b]? = some (.cells cs t (0, 0))
theorem Var.setO {w : World} {b r o : Nat} {cs : Array Value} {t : TypeId} (h : Var w b cs t) (v : Value) (hne : r ≠ b) : Var (w.setCell ⟨r, o, none⟩ v) b cs t :=
  (heap_setCell_other w ⟨r, o, none⟩ b v (by simpa [eq_comm] using hne)).trans h
theorem Var.keep {w w' : World} {b : Nat} {cs : Array Value} {t : TypeId} (h : Var w b cs t) (hb : Below w.heap.size w w') : Var w' b cs t := keepBlock h hb
theorem Var.upd {w w' : World} {b g : Nat} {cs : Array Value} {t : TypeId} (h : Var w b cs t) (hb : Upd g w w') (hne : b ≠ g) : Var w' b cs t :=
  (hb.block b (Array.getElem?_eq_some_iff.1 h).1 (by simpa using hne)).trans h
theorem Var.lt {w : World} {b : Nat} {cs : Array Value} {t : TypeId} (h : Var w b cs t) : b < w.heap.size := (Array.getElem?_eq_some_iff.1 h).1
theorem Var.cell {w : World} {b : Nat} {cs : Array Value} {t : TypeId} (h : Var w b cs t) (o : Nat) : w.cell? ⟨b, o, none⟩ = cs[o]? := cell_of_row w b o _ _ _ h
theorem Var.free {w : World} {b : Nat} {cs : Array Value} {t : TypeId} (h : Var w b cs t) (o : Nat) : w.frozen? ⟨b, o, none⟩ = false := frozen_of_row w b o _ _ h
theorem Var.set {w : World} {b : Nat} {cs : Array Value} {t : TypeId} (h : Var w b cs t) (o : Nat) (v : Value) : Var (w.setCell ⟨b, o, none⟩ v) b (cs.setIfInBounds o v) t := heap_setCell_same w b o _ _ v h

theorem idle_uint64 (p x r : Addr) (w : World) :
    CallsD Try.prog 57 #[.pointer (some p), .pointer (some x), .pointer (some r)] .returning w fun e u' w' => e = .returned (.tuple #[]) ∧ u' = .returning ∧ w' = w := by
  refine callsD_of_wpS Try.func57 rfl fun c₀ cs hu => ?_
  apply wpS_seq
  apply wpS_region
  simp [wpOpsS, go_sem, recoverD, hu, Try.ntmps57, Exit.thenS]
  rw [frame23]
  refine wpS_of_wp (wp_named fun Q' hQ => ?_)
  have HU := hid hu
  clear hu
  go_wp2
  rw [hQ.out]
  have hu := HU.out
  clear HU hQ
  cases c₀
  simp_all [bodyPostS, results, Try.results57]

set_option maxRecDepth 100000 in
set_option maxHeartbeats 1600000 in
theorem catch_uint64 (e : Int) (bp bx br g B : Nat) (s : ByteArray) (i j : Nat) (er : Int) (w : World) (hp : Var w bp #[.int .i64 (i : Int)] 3) (hx : Var w bx #[.int .u64 0] 44) (hr : Var w br #[.pointer (some ⟨g, 0, none⟩)] 56) (hR : Rdr w g s j er)
    (hpx : bp ≠ bx) (hrx : br ≠ bx) (hpg : bp ≠ g) (hxg : bx ≠ g) (hrg : br ≠ g) (hBx : B ≤ bx) (hBw : B ≤ w.heap.size) :
    CallsD Try.prog 57 #[.pointer (some ⟨bp, 0, none⟩), .pointer (some ⟨bx, 0, none⟩), .pointer (some ⟨br, 0, none⟩)] (.panicking ({ v := fault e, recovered := false } :: [])) w fun e' u' w' =>
      e' = .returned (.tuple #[]) ∧ u' = .panicking ({ v := fault e, recovered := true } :: []) ∧ UB B g w w' ∧ Var w' bx #[.int .u64 0] 44 ∧ Rdr w' g s i e := by
  refine callsD_of_wpS Try.func57 rfl fun c₀ cs hu => ?_
  apply wpS_seq
  apply wpS_region
  unfold fault at hu ⊢
  simp [wpOpsS, go_sem, recoverD, hu, Try.ntmps57, Exit.thenS]
  rw [frame23]
  refine wpS_of_wp (wp_named fun Q' hQ => ?_)
  have HU := hid hu
  clear hu
  have hta : ∀ W : World, (Instr.typeAssert (.iface 78 (.agg #[.int .i64 e])) 20 78 true).run Try.prog W = .ok (.tuple #[.agg #[.int .i64 e], .bool true]) W := fun _ => by kernel_rfl
  go_wp2
  clear hta
  have hw0 := hba w (.cells #[.int .i64 e] 78)
  have hw1 := hw0
  have hn1 : (w.alloc (.cells #[.int .i64 e] 78)).cell? ⟨w.heap.size, 0, none⟩ = some (.int .i64 e) := by simp
  have hwg : w.heap.size ≠ g := by have := hR.cells.2.2.2.2.2; omega
  have hwx : w.heap.size ≠ bx := by have := hx.lt; omega
  have hX1 := hx.keep hw1
  have hP1 := (hp.keep hw1).cell 0
  have hRR1 := (hr.keep hw1).cell 0
  have hR1 := hR.keep hw1
  have hU1 : UB B g w (w.alloc (.cells #[.int .i64 e] 78)) := UB.of (hw1.mono hBw)
  refine wp_region_noPanic ?_
  refine wp_region_held_drew (S := (fun W => W.cell? ⟨br, 0, none⟩ = some (.pointer (some ⟨g, 0, none⟩)) ∧ W.cell? ⟨bp, 0, none⟩ = some (.int .i64 (i : Int)) ∧ W.cell? ⟨w.heap.size, 0, none⟩ = some (.int .i64 e))) (by kernel_rfl) ⟨hRR1, hP1, hn1⟩ (fun hS1 => ?_)
  replace hU1 := hU1.trans (UB.of (Below.refl B (w.alloc (.cells #[.int .i64 e] 78))).drew)
  replace hX1 : Var (w.alloc (.cells #[.int .i64 e] 78)).drew bx #[.int .u64 0] 44 := hX1
  replace hR1 : Rdr (w.alloc (.cells #[.int .i64 e] 78)).drew g s j er := hR1
  clear hw1 hw0 hn1 hP1 hRR1 hx hp hr hR
  generalize (w.alloc (.cells #[.int .i64 e] 78)).drew = w1 at *
  refine wpAnyH_take (i := 0) (oi := ({ dst := some 13, op := Op.load 56 (Operand.tmp 2), type := 56, pos := "code.go:94", after := #[], guard := none } : Oper)) (v := ?_) rfl (by kernel_rfl) (by kernel_rfl) (by kernel_rfl) (fun _ _ _ h => h) (Or.inl ⟨by rfl, ?_⟩) hS1 ?_
  rotate_left
  · intro w hSw; (try dsimp only at hSw); go_simp; (try with_reducible rfl)
  simp only [Act.put, List.setIfInBounds_toArray, List.set_cons_zero, List.set_cons_succ]
  refine wpAnyH_take (i := 1) (oi := ({ dst := some 14, op := Op.load 56 (Operand.tmp 2), type := 56, pos := "code.go:94", after := #[], guard := none } : Oper)) (v := ?_) rfl (by kernel_rfl) (by kernel_rfl) (by kernel_rfl) (fun _ _ _ h => h) (Or.inl ⟨by rfl, ?_⟩) hS1 ?_
  rotate_left
  · intro w hSw; (try dsimp only at hSw); go_simp; (try with_reducible rfl)
  simp only [Act.put, List.setIfInBounds_toArray, List.set_cons_zero, List.set_cons_succ]
  refine wpAnyH_take (i := 2) (oi := ({ dst := some 15, op := Op.move (Operand.tmp 5), type := 44, pos := "code.go:94", after := #[], guard := none } : Oper)) (v := ?_) rfl (by kernel_rfl) (by kernel_rfl) (by kernel_rfl) (fun _ _ _ h => h) (Or.inl ⟨by rfl, ?_⟩) hS1 ?_
  rotate_left
  · intro w hSw; (try dsimp only at hSw); go_simp; (try with_reducible rfl)
  simp only [Act.put, List.setIfInBounds_toArray, List.set_cons_zero, List.set_cons_succ]
  refine wpAnyH_take (i := 3) (oi := ({ dst := some 16, op := Op.load 3 (Operand.tmp 0), type := 3, pos := "code.go:94", after := #[], guard := none } : Oper)) (v := ?_) rfl (by kernel_rfl) (by kernel_rfl) (by kernel_rfl) (fun _ _ _ h => h) (Or.inl ⟨by rfl, ?_⟩) hS1 ?_
  rotate_left
  · intro w hSw; (try dsimp only at hSw); go_simp; (try with_reducible rfl)
  simp only [Act.put, List.setIfInBounds_toArray, List.set_cons_zero, List.set_cons_succ]
  refine wpAnyH_take (i := 4) (oi := ({ dst := some 17, op := Op.fieldAddr 78 (Operand.tmp 4) 0, type := 0, pos := "code.go:94", after := #[{ on := 9, ground := Ground.gcOnly Departure.lateStores }], guard := none } : Oper)) (v := ?_) rfl (by kernel_rfl) (by kernel_rfl) (by kernel_rfl) (fun _ _ _ h => h) (Or.inl ⟨by rfl, ?_⟩) hS1 ?_
  rotate_left
  · intro w hSw; (try dsimp only at hSw); go_simp; (try with_reducible rfl)
  simp only [Act.put, List.setIfInBounds_toArray, List.set_cons_zero, List.set_cons_succ]
  refine wpAnyH_take (i := 5) (oi := ({ dst := some 18, op := Op.load 33 (Operand.tmp 17), type := 33, pos := "code.go:94", after := #[{ on := 4, ground := Ground.data }, { on := 9, ground := Ground.gcOnly Departure.lateStores }], guard := none } : Oper)) (v := ?_) rfl (by kernel_rfl) (by kernel_rfl) (by kernel_rfl) (fun _ _ _ h => h) (Or.inl ⟨by rfl, ?_⟩) hS1 ?_
  rotate_left
  · intro w hSw; (try dsimp only at hSw); go_simp; (try with_reducible rfl)
  simp only [Act.put, List.setIfInBounds_toArray, List.set_cons_zero, List.set_cons_succ]
  refine wpAnyH_ready (rs := [6]) (by kernel_rfl) (by simp) ?_
  refine AllReadyH.cons (o := ({ dst := none, op := Op.store 44 (Operand.tmp 1) (Operand.tmp 15), type := 0, pos := "code.go:94", after := #[{ on := 2, ground := Ground.data }, { on := 0, ground := Ground.phase }, { on := 1, ground := Ground.phase }, { on := 2, ground := Ground.phase }, { on := 3, ground := Ground.phase }, { on := 4, ground := Ground.textOnly Departure.lateStores }, { on := 5, ground := Ground.textOnly Departure.lateStores }], guard := none } : Oper)) rfl (fun K hK => ?_) AllReadyH.nil
  obtain ⟨r0, r1, r2, r3, r4, _⟩ := hR1.cells
  have x0 : w1.cell? ⟨bx, 0, none⟩ = some (.int .u64 0) := hX1.cell 0
  have y0 := hX1.free 0
  go_simp
  have hR2 := (hR1.setO (o := 0) (.int .u64 0) hxg)
  have hX2 : Var (w1.setCell ⟨bx, 0, none⟩ (.int .u64 0)) bx #[.int .u64 0] 44 := (hX1.set 0 (.int .u64 0))
  have hU2 := (hU1.trans (UB.set (o := 0) _ (.int .u64 0) (.inl hBx)))
  refine hK.out _ _ ⟨(cset (o := 0) (u := (.int .u64 0)) hS1.1 hrx), (cset (o := 0) (u := (.int .u64 0)) hS1.2.1 hpx), (cset (o := 0) (u := (.int .u64 0)) hS1.2.2 hwx)⟩ (fun hS2 => ?_)
  clear hK K
  (try simp only [Act.put, List.setIfInBounds_toArray, List.set_cons_zero, List.set_cons_succ])
  clear r0 r1 r2 r3 r4 x0 y0 hR1 hX1 hU1 hS1
  generalize (w1.setCell ⟨bx, 0, none⟩ (.int .u64 0)) = w2 at *
  refine wpAnyH_take (i := 7) (oi := ({ dst := some 19, op := Op.nilCheck (Operand.tmp 13), type := 0, pos := "code.go:94", after := #[{ on := 0, ground := Ground.data }, { on := 0, ground := Ground.phase }, { on := 1, ground := Ground.phase }, { on := 2, ground := Ground.phase }, { on := 3, ground := Ground.phase }, { on := 4, ground := Ground.textOnly Departure.lateStores }, { on := 5, ground := Ground.textOnly Departure.lateStores }, { on := 6, ground := Ground.phase }], guard := none } : Oper)) (v := ?_) rfl (by kernel_rfl) (by kernel_rfl) (by kernel_rfl) (fun _ _ _ h => h) (Or.inl ⟨by rfl, ?_⟩) hS2 ?_
  rotate_left
  · intro w hSw; (try dsimp only at hSw); go_simp; (try with_reducible rfl)
  simp only [Act.put, List.setIfInBounds_toArray, List.set_cons_zero, List.set_cons_succ]
  refine wpAnyH_take (i := 8) (oi := ({ dst := some 20, op := Op.fieldAddr 68 (Operand.tmp 19) 1, type := 0, pos := "code.go:94", after := #[{ on := 7, ground := Ground.data }, { on := 0, ground := Ground.phase }, { on := 1, ground := Ground.phase }, { on := 2, ground := Ground.phase }, { on := 3, ground := Ground.phase }, { on := 4, ground := Ground.textOnly Departure.lateStores }, { on := 5, ground := Ground.textOnly Departure.lateStores }, { on := 6, ground := Ground.phase }], guard := none } : Oper)) (v := ?_) rfl (by kernel_rfl) (by kernel_rfl) (by kernel_rfl) (fun _ _ _ h => h) (Or.inl ⟨by rfl, ?_⟩) hS2 ?_
  rotate_left
  · intro w hSw; (try dsimp only at hSw); go_simp; (try with_reducible rfl)
  simp only [Act.put, List.setIfInBounds_toArray, List.set_cons_zero, List.set_cons_succ]
  refine wpAnyH_ready (rs := [9]) (by kernel_rfl) (by simp) ?_
  refine AllReadyH.cons (o := ({ dst := none, op := Op.store 3 (Operand.tmp 20) (Operand.tmp 16), type := 0, pos := "code.go:94", after := #[{ on := 8, ground := Ground.data }, { on := 3, ground := Ground.data }, { on := 6, ground := Ground.chain }, { on := 0, ground := Ground.phase }, { on := 1, ground := Ground.phase }, { on := 2, ground := Ground.phase }, { on := 3, ground := Ground.phase }, { on := 4, ground := Ground.textOnly Departure.lateStores }, { on := 5, ground := Ground.textOnly Departure.lateStores }, { on := 6, ground := Ground.phase }], guard := none } : Oper)) rfl (fun K hK => ?_) AllReadyH.nil
  obtain ⟨r0, r1, r2, r3, r4, _⟩ := hR2.cells
  have x0 : w2.cell? ⟨bx, 0, none⟩ = some (.int .u64 0) := hX2.cell 0
  have y0 := hX2.free 0
  go_simp
  have hR3 := (hR2.setI i)
  have hX3 : Var (w2.setCell ⟨g, 1, none⟩ (.int .i64 (i : Int))) bx #[.int .u64 0] 44 := (hX2.setO (o := 1) (.int .i64 (i : Int)) (Ne.symm hxg))
  have hU3 := (hU2.trans (UB.set (o := 1) _ (.int .i64 (i : Int)) (.inr rfl)))
  refine hK.out _ _ ⟨(cset (o := 1) (u := .int .i64 (i : Int)) hS2.1 hrg), (cset (o := 1) (u := .int .i64 (i : Int)) hS2.2.1 hpg), (cset (o := 1) (u := .int .i64 (i : Int)) hS2.2.2 hwg)⟩ (fun hS3 => ?_)
  clear hK K
  (try simp only [Act.put, List.setIfInBounds_toArray, List.set_cons_zero, List.set_cons_succ])
  clear r0 r1 r2 r3 r4 x0 y0 hR2 hX2 hU2 hS2
  generalize (w2.setCell ⟨g, 1, none⟩ (.int .i64 (i : Int))) = w3 at *
  refine wpAnyH_take (i := 10) (oi := ({ dst := some 21, op := Op.nilCheck (Operand.tmp 14), type := 0, pos := "code.go:94", after := #[{ on := 1, ground := Ground.data }, { on := 0, ground := Ground.phase }, { on := 1, ground := Ground.phase }, { on := 2, ground := Ground.phase }, { on := 3, ground := Ground.phase }, { on := 4, ground := Ground.phase }, { on := 5, ground := Ground.phase }, { on := 6, ground := Ground.phase }, { on := 7, ground := Ground.phase }, { on := 8, ground := Ground.phase }, { on := 9, ground := Ground.phase }], guard := none } : Oper)) (v := ?_) rfl (by kernel_rfl) (by kernel_rfl) (by kernel_rfl) (fun _ _ _ h => h) (Or.inl ⟨by rfl, ?_⟩) hS3 ?_
  rotate_left
  · intro w hSw; (try dsimp only at hSw); go_simp; (try with_reducible rfl)
  simp only [Act.put, List.setIfInBounds_toArray, List.set_cons_zero, List.set_cons_succ]
  refine wpAnyH_take (i := 11) (oi := ({ dst := some 22, op := Op.fieldAddr 68 (Operand.tmp 21) 2, type := 0, pos := "code.go:94", after := #[{ on := 10, ground := Ground.data }, { on := 0, ground := Ground.phase }, { on := 1, ground := Ground.phase }, { on := 2, ground := Ground.phase }, { on := 3, ground := Ground.phase }, { on := 4, ground := Ground.phase }, { on := 5, ground := Ground.phase }, { on := 6, ground := Ground.phase }, { on := 7, ground := Ground.phase }, { on := 8, ground := Ground.phase }, { on := 9, ground := Ground.phase }], guard := none } : Oper)) (v := ?_) rfl (by kernel_rfl) (by kernel_rfl) (by kernel_rfl) (fun _ _ _ h => h) (Or.inl ⟨by rfl, ?_⟩) hS3 ?_
  rotate_left
  · intro w hSw; (try dsimp only at hSw); go_simp; (try with_reducible rfl)
  simp only [Act.put, List.setIfInBounds_toArray, List.set_cons_zero, List.set_cons_succ]
  refine wpAnyH_ready (rs := [12]) (by kernel_rfl) (by simp) ?_
  refine AllReadyH.cons (o := ({ dst := none, op := Op.store 33 (Operand.tmp 22) (Operand.tmp 18), type := 0, pos := "code.go:94", after := #[{ on := 11, ground := Ground.data }, { on := 5, ground := Ground.data }, { on := 9, ground := Ground.chain }, { on := 0, ground := Ground.phase }, { on := 1, ground := Ground.phase }, { on := 2, ground := Ground.phase }, { on := 3, ground := Ground.phase }, { on := 4, ground := Ground.phase }, { on := 5, ground := Ground.phase }, { on := 6, ground := Ground.phase }, { on := 7, ground := Ground.phase }, { on := 8, ground := Ground.phase }, { on := 9, ground := Ground.phase }], guard := none } : Oper)) rfl (fun K hK => ?_) AllReadyH.nil
  obtain ⟨r0, r1, r2, r3, r4, _⟩ := hR3.cells
  have x0 : w3.cell? ⟨bx, 0, none⟩ = some (.int .u64 0) := hX3.cell 0
  have y0 := hX3.free 0
  go_simp
  have hR4 := (hR3.setE e)
  have hX4 : Var (w3.setCell ⟨g, 2, none⟩ (.int .i64 e)) bx #[.int .u64 0] 44 := (hX3.setO (o := 2) (.int .i64 e) (Ne.symm hxg))
  have hU4 := (hU3.trans (UB.set (o := 2) _ (.int .i64 e) (.inr rfl)))
  refine hK.out _ _ ⟨(cset (o := 2) (u := .int .i64 e) hS3.1 hrg), (cset (o := 2) (u := .int .i64 e) hS3.2.1 hpg), (cset (o := 2) (u := .int .i64 e) hS3.2.2 hwg)⟩ (fun hS4 => ?_)
  clear hK K
  (try simp only [Act.put, List.setIfInBounds_toArray, List.set_cons_zero, List.set_cons_succ])
  clear r0 r1 r2 r3 r4 x0 y0 hR3 hX3 hU3 hS3
  generalize (w3.setCell ⟨g, 2, none⟩ (.int .i64 e)) = w4 at *
  refine wpAnyH_done (by kernel_rfl) ?_ _
  refine NoPanic.normal ?_
  rw [show Exit.inBlock 0 Q' Exit.normal = Q' Exit.normal from rfl]
  rw [hQ.out]
  have hu := HU.out
  have hfin := And.intro hU4 (And.intro hX4 hR4)
  clear HU hQ
  cases c₀
  simp_all [bodyPostS, results, Try.results57]

theorem idle_string (p x r : Addr) (w : World) :
    CallsD Try.prog 56 #[.pointer (some p), .pointer (some x), .pointer (some r)] .returning w fun e u' w' => e = .returned (.tuple #[]) ∧ u' = .returning ∧ w' = w := by
  refine callsD_of_wpS Try.func56 rfl fun c₀ cs hu => ?_
  apply wpS_seq
  apply wpS_region
  simp [wpOpsS, go_sem, recoverD, hu, Try.ntmps56, Exit.thenS]
  rw [frame23]
  refine wpS_of_wp (wp_named fun Q' hQ => ?_)
  have HU := hid hu
  clear hu
  go_wp2
  rw [hQ.out]
  have hu := HU.out
  clear HU hQ
  cases c₀
  simp_all [bodyPostS, results, Try.results56]

set_option maxRecDepth 100000 in
set_option maxHeartbeats 1600000 in
theorem catch_string (e : Int) (bp bx br g B : Nat) (s : ByteArray) (i j : Nat) (er : Int) (w : World) (hp : Var w bp #[.int .i64 (i : Int)] 3) (hx : Var w bx #[.string ⟨#[]⟩] 9) (hr : Var w br #[.pointer (some ⟨g, 0, none⟩)] 56) (hR : Rdr w g s j er)
    (hpx : bp ≠ bx) (hrx : br ≠ bx) (hpg : bp ≠ g) (hxg : bx ≠ g) (hrg : br ≠ g) (hBx : B ≤ bx) (hBw : B ≤ w.heap.size) :
    CallsD Try.prog 56 #[.pointer (some ⟨bp, 0, none⟩), .pointer (some ⟨bx, 0, none⟩), .pointer (some ⟨br, 0, none⟩)] (.panicking ({ v := fault e, recovered := false } :: [])) w fun e' u' w' =>
      e' = .returned (.tuple #[]) ∧ u' = .panicking ({ v := fault e, recovered := true } :: []) ∧ UB B g w w' ∧ Var w' bx #[.string ⟨#[]⟩] 9 ∧ Rdr w' g s i e := by
  refine callsD_of_wpS Try.func56 rfl fun c₀ cs hu => ?_
  apply wpS_seq
  apply wpS_region
  unfold fault at hu ⊢
  simp [wpOpsS, go_sem, recoverD, hu, Try.ntmps56, Exit.thenS]
  rw [frame23]
  refine wpS_of_wp (wp_named fun Q' hQ => ?_)
  have HU := hid hu
  clear hu
  have hta : ∀ W : World, (Instr.typeAssert (.iface 78 (.agg #[.int .i64 e])) 20 78 true).run Try.prog W = .ok (.tuple #[.agg #[.int .i64 e], .bool true]) W := fun _ => by kernel_rfl
  go_wp2
  clear hta
  have hw0 := hba w (.cells #[.int .i64 e] 78)
  have hw1 := hw0
  have hn1 : (w.alloc (.cells #[.int .i64 e] 78)).cell? ⟨w.heap.size, 0, none⟩ = some (.int .i64 e) := by simp
  have hwg : w.heap.size ≠ g := by have := hR.cells.2.2.2.2.2; omega
  have hwx : w.heap.size ≠ bx := by have := hx.lt; omega
  have hX1 := hx.keep hw1
  have hP1 := (hp.keep hw1).cell 0
  have hRR1 := (hr.keep hw1).cell 0
  have hR1 := hR.keep hw1
  have hU1 : UB B g w (w.alloc (.cells #[.int .i64 e] 78)) := UB.of (hw1.mono hBw)
  refine wp_region_noPanic ?_
  refine wp_region_held_drew (S := (fun W => W.cell? ⟨br, 0, none⟩ = some (.pointer (some ⟨g, 0, none⟩)) ∧ W.cell? ⟨bp, 0, none⟩ = some (.int .i64 (i : Int)) ∧ W.cell? ⟨w.heap.size, 0, none⟩ = some (.int .i64 e))) (by kernel_rfl) ⟨hRR1, hP1, hn1⟩ (fun hS1 => ?_)
  replace hU1 := hU1.trans (UB.of (Below.refl B (w.alloc (.cells #[.int .i64 e] 78))).drew)
  replace hX1 : Var (w.alloc (.cells #[.int .i64 e] 78)).drew bx #[.string ⟨#[]⟩] 9 := hX1
  replace hR1 : Rdr (w.alloc (.cells #[.int .i64 e] 78)).drew g s j er := hR1
  clear hw1 hw0 hn1 hP1 hRR1 hx hp hr hR
  generalize (w.alloc (.cells #[.int .i64 e] 78)).drew = w1 at *
  refine wpAnyH_take (i := 0) (oi := ({ dst := some 13, op := Op.load 56 (Operand.tmp 2), type := 56, pos := "code.go:94", after := #[], guard := none } : Oper)) (v := ?_) rfl (by kernel_rfl) (by kernel_rfl) (by kernel_rfl) (fun _ _ _ h => h) (Or.inl ⟨by rfl, ?_⟩) hS1 ?_
  rotate_left
  · intro w hSw; (try dsimp only at hSw); go_simp; (try with_reducible rfl)
  simp only [Act.put, List.setIfInBounds_toArray, List.set_cons_zero, List.set_cons_succ]
  refine wpAnyH_take (i := 1) (oi := ({ dst := some 14, op := Op.load 56 (Operand.tmp 2), type := 56, pos := "code.go:94", after := #[], guard := none } : Oper)) (v := ?_) rfl (by kernel_rfl) (by kernel_rfl) (by kernel_rfl) (fun _ _ _ h => h) (Or.inl ⟨by rfl, ?_⟩) hS1 ?_
  rotate_left
  · intro w hSw; (try dsimp only at hSw); go_simp; (try with_reducible rfl)
  simp only [Act.put, List.setIfInBounds_toArray, List.set_cons_zero, List.set_cons_succ]
  refine wpAnyH_take (i := 2) (oi := ({ dst := some 15, op := Op.move (Operand.tmp 5), type := 9, pos := "code.go:94", after := #[], guard := none } : Oper)) (v := ?_) rfl (by kernel_rfl) (by kernel_rfl) (by kernel_rfl) (fun _ _ _ h => h) (Or.inl ⟨by rfl, ?_⟩) hS1 ?_
  rotate_left
  · intro w hSw; (try dsimp only at hSw); go_simp; (try with_reducible rfl)
  simp only [Act.put, List.setIfInBounds_toArray, List.set_cons_zero, List.set_cons_succ]
  refine wpAnyH_take (i := 3) (oi := ({ dst := some 16, op := Op.load 3 (Operand.tmp 0), type := 3, pos := "code.go:94", after := #[], guard := none } : Oper)) (v := ?_) rfl (by kernel_rfl) (by kernel_rfl) (by kernel_rfl) (fun _ _ _ h => h) (Or.inl ⟨by rfl, ?_⟩) hS1 ?_
  rotate_left
  · intro w hSw; (try dsimp only at hSw); go_simp; (try with_reducible rfl)
  simp only [Act.put, List.setIfInBounds_toArray, List.set_cons_zero, List.set_cons_succ]
  refine wpAnyH_take (i := 4) (oi := ({ dst := some 17, op := Op.fieldAddr 78 (Operand.tmp 4) 0, type := 0, pos := "code.go:94", after := #[{ on := 9, ground := Ground.gcOnly Departure.lateStores }], guard := none } : Oper)) (v := ?_) rfl (by kernel_rfl) (by kernel_rfl) (by kernel_rfl) (fun _ _ _ h => h) (Or.inl ⟨by rfl, ?_⟩) hS1 ?_
  rotate_left
  · intro w hSw; (try dsimp only at hSw); go_simp; (try with_reducible rfl)
  simp only [Act.put, List.setIfInBounds_toArray, List.set_cons_zero, List.set_cons_succ]
  refine wpAnyH_take (i := 5) (oi := ({ dst := some 18, op := Op.load 33 (Operand.tmp 17), type := 33, pos := "code.go:94", after := #[{ on := 4, ground := Ground.data }, { on := 9, ground := Ground.gcOnly Departure.lateStores }], guard := none } : Oper)) (v := ?_) rfl (by kernel_rfl) (by kernel_rfl) (by kernel_rfl) (fun _ _ _ h => h) (Or.inl ⟨by rfl, ?_⟩) hS1 ?_
  rotate_left
  · intro w hSw; (try dsimp only at hSw); go_simp; (try with_reducible rfl)
  simp only [Act.put, List.setIfInBounds_toArray, List.set_cons_zero, List.set_cons_succ]
  refine wpAnyH_ready (rs := [6]) (by kernel_rfl) (by simp) ?_
  refine AllReadyH.cons (o := ({ dst := none, op := Op.store 9 (Operand.tmp 1) (Operand.tmp 15), type := 0, pos := "code.go:94", after := #[{ on := 2, ground := Ground.data }, { on := 0, ground := Ground.phase }, { on := 1, ground := Ground.phase }, { on := 2, ground := Ground.phase }, { on := 3, ground := Ground.phase }, { on := 4, ground := Ground.textOnly Departure.lateStores }, { on := 5, ground := Ground.textOnly Departure.lateStores }], guard := none } : Oper)) rfl (fun K hK => ?_) AllReadyH.nil
  obtain ⟨r0, r1, r2, r3, r4, _⟩ := hR1.cells
  have x0 : w1.cell? ⟨bx, 0, none⟩ = some (.string ⟨#[]⟩) := hX1.cell 0
  have y0 := hX1.free 0
  go_simp
  have hR2 := (hR1.setO (o := 0) (.string ⟨#[]⟩) hxg)
  have hX2 : Var (w1.setCell ⟨bx, 0, none⟩ (.string ⟨#[]⟩)) bx #[.string ⟨#[]⟩] 9 := (hX1.set 0 (.string ⟨#[]⟩))
  have hU2 := (hU1.trans (UB.set (o := 0) _ (.string ⟨#[]⟩) (.inl hBx)))
  refine hK.out _ _ ⟨(cset (o := 0) (u := (.string ⟨#[]⟩)) hS1.1 hrx), (cset (o := 0) (u := (.string ⟨#[]⟩)) hS1.2.1 hpx), (cset (o := 0) (u := (.string ⟨#[]⟩)) hS1.2.2 hwx)⟩ (fun hS2 => ?_)
  clear hK K
  (try simp only [Act.put, List.setIfInBounds_toArray, List.set_cons_zero, List.set_cons_succ])
  clear r0 r1 r2 r3 r4 x0 y0 hR1 hX1 hU1 hS1
  generalize (w1.setCell ⟨bx, 0, none⟩ (.string ⟨#[]⟩)) = w2 at *
  refine wpAnyH_take (i := 7) (oi := ({ dst := some 19, op := Op.nilCheck (Operand.tmp 13), type := 0, pos := "code.go:94", after := #[{ on := 0, ground := Ground.data }, { on := 0, ground := Ground.phase }, { on := 1, ground := Ground.phase }, { on := 2, ground := Ground.phase }, { on := 3, ground := Ground.phase }, { on := 4, ground := Ground.textOnly Departure.lateStores }, { on := 5, ground := Ground.textOnly Departure.lateStores }, { on := 6, ground := Ground.phase }], guard := none } : Oper)) (v := ?_) rfl (by kernel_rfl) (by kernel_rfl) (by kernel_rfl) (fun _ _ _ h => h) (Or.inl ⟨by rfl, ?_⟩) hS2 ?_
  rotate_left
  · intro w hSw; (try dsimp only at hSw); go_simp; (try with_reducible rfl)
  simp only [Act.put, List.setIfInBounds_toArray, List.set_cons_zero, List.set_cons_succ]
  refine wpAnyH_take (i := 8) (oi := ({ dst := some 20, op := Op.fieldAddr 68 (Operand.tmp 19) 1, type := 0, pos := "code.go:94", after := #[{ on := 7, ground := Ground.data }, { on := 0, ground := Ground.phase }, { on := 1, ground := Ground.phase }, { on := 2, ground := Ground.phase }, { on := 3, ground := Ground.phase }, { on := 4, ground := Ground.textOnly Departure.lateStores }, { on := 5, ground := Ground.textOnly Departure.lateStores }, { on := 6, ground := Ground.phase }], guard := none } : Oper)) (v := ?_) rfl (by kernel_rfl) (by kernel_rfl) (by kernel_rfl) (fun _ _ _ h => h) (Or.inl ⟨by rfl, ?_⟩) hS2 ?_
  rotate_left
  · intro w hSw; (try dsimp only at hSw); go_simp; (try with_reducible rfl)
  simp only [Act.put, List.setIfInBounds_toArray, List.set_cons_zero, List.set_cons_succ]
  refine wpAnyH_ready (rs := [9]) (by kernel_rfl) (by simp) ?_
  refine AllReadyH.cons (o := ({ dst := none, op := Op.store 3 (Operand.tmp 20) (Operand.tmp 16), type := 0, pos := "code.go:94", after := #[{ on := 8, ground := Ground.data }, { on := 3, ground := Ground.data }, { on := 6, ground := Ground.chain }, { on := 0, ground := Ground.phase }, { on := 1, ground := Ground.phase }, { on := 2, ground := Ground.phase }, { on := 3, ground := Ground.phase }, { on := 4, ground := Ground.textOnly Departure.lateStores }, { on := 5, ground := Ground.textOnly Departure.lateStores }, { on := 6, ground := Ground.phase }], guard := none } : Oper)) rfl (fun K hK => ?_) AllReadyH.nil
  obtain ⟨r0, r1, r2, r3, r4, _⟩ := hR2.cells
  have x0 : w2.cell? ⟨bx, 0, none⟩ = some (.string ⟨#[]⟩) := hX2.cell 0
  have y0 := hX2.free 0
  go_simp
  have hR3 := (hR2.setI i)
  have hX3 : Var (w2.setCell ⟨g, 1, none⟩ (.int .i64 (i : Int))) bx #[.string ⟨#[]⟩] 9 := (hX2.setO (o := 1) (.int .i64 (i : Int)) (Ne.symm hxg))
  have hU3 := (hU2.trans (UB.set (o := 1) _ (.int .i64 (i : Int)) (.inr rfl)))
  refine hK.out _ _ ⟨(cset (o := 1) (u := .int .i64 (i : Int)) hS2.1 hrg), (cset (o := 1) (u := .int .i64 (i : Int)) hS2.2.1 hpg), (cset (o := 1) (u := .int .i64 (i : Int)) hS2.2.2 hwg)⟩ (fun hS3 => ?_)
  clear hK K
  (try simp only [Act.put, List.setIfInBounds_toArray, List.set_cons_zero, List.set_cons_succ])
  clear r0 r1 r2 r3 r4 x0 y0 hR2 hX2 hU2 hS2
  generalize (w2.setCell ⟨g, 1, none⟩ (.int .i64 (i : Int))) = w3 at *
  refine wpAnyH_take (i := 10) (oi := ({ dst := some 21, op := Op.nilCheck (Operand.tmp 14), type := 0, pos := "code.go:94", after := #[{ on := 1, ground := Ground.data }, { on := 0, ground := Ground.phase }, { on := 1, ground := Ground.phase }, { on := 2, ground := Ground.phase }, { on := 3, ground := Ground.phase }, { on := 4, ground := Ground.phase }, { on := 5, ground := Ground.phase }, { on := 6, ground := Ground.phase }, { on := 7, ground := Ground.phase }, { on := 8, ground := Ground.phase }, { on := 9, ground := Ground.phase }], guard := none } : Oper)) (v := ?_) rfl (by kernel_rfl) (by kernel_rfl) (by kernel_rfl) (fun _ _ _ h => h) (Or.inl ⟨by rfl, ?_⟩) hS3 ?_
  rotate_left
  · intro w hSw; (try dsimp only at hSw); go_simp; (try with_reducible rfl)
  simp only [Act.put, List.setIfInBounds_toArray, List.set_cons_zero, List.set_cons_succ]
  refine wpAnyH_take (i := 11) (oi := ({ dst := some 22, op := Op.fieldAddr 68 (Operand.tmp 21) 2, type := 0, pos := "code.go:94", after := #[{ on := 10, ground := Ground.data }, { on := 0, ground := Ground.phase }, { on := 1, ground := Ground.phase }, { on := 2, ground := Ground.phase }, { on := 3, ground := Ground.phase }, { on := 4, ground := Ground.phase }, { on := 5, ground := Ground.phase }, { on := 6, ground := Ground.phase }, { on := 7, ground := Ground.phase }, { on := 8, ground := Ground.phase }, { on := 9, ground := Ground.phase }], guard := none } : Oper)) (v := ?_) rfl (by kernel_rfl) (by kernel_rfl) (by kernel_rfl) (fun _ _ _ h => h) (Or.inl ⟨by rfl, ?_⟩) hS3 ?_
  rotate_left
  · intro w hSw; (try dsimp only at hSw); go_simp; (try with_reducible rfl)
  simp only [Act.put, List.setIfInBounds_toArray, List.set_cons_zero, List.set_cons_succ]
  refine wpAnyH_ready (rs := [12]) (by kernel_rfl) (by simp) ?_
  refine AllReadyH.cons (o := ({ dst := none, op := Op.store 33 (Operand.tmp 22) (Operand.tmp 18), type := 0, pos := "code.go:94", after := #[{ on := 11, ground := Ground.data }, { on := 5, ground := Ground.data }, { on := 9, ground := Ground.chain }, { on := 0, ground := Ground.phase }, { on := 1, ground := Ground.phase }, { on := 2, ground := Ground.phase }, { on := 3, ground := Ground.phase }, { on := 4, ground := Ground.phase }, { on := 5, ground := Ground.phase }, { on := 6, ground := Ground.phase }, { on := 7, ground := Ground.phase }, { on := 8, ground := Ground.phase }, { on := 9, ground := Ground.phase }], guard := none } : Oper)) rfl (fun K hK => ?_) AllReadyH.nil
  obtain ⟨r0, r1, r2, r3, r4, _⟩ := hR3.cells
  have x0 : w3.cell? ⟨bx, 0, none⟩ = some (.string ⟨#[]⟩) := hX3.cell 0
  have y0 := hX3.free 0
  go_simp
  have hR4 := (hR3.setE e)
  have hX4 : Var (w3.setCell ⟨g, 2, none⟩ (.int .i64 e)) bx #[.string ⟨#[]⟩] 9 := (hX3.setO (o := 2) (.int .i64 e) (Ne.symm hxg))
  have hU4 := (hU3.trans (UB.set (o := 2) _ (.int .i64 e) (.inr rfl)))
  refine hK.out _ _ ⟨(cset (o := 2) (u := .int .i64 e) hS3.1 hrg), (cset (o := 2) (u := .int .i64 e) hS3.2.1 hpg), (cset (o := 2) (u := .int .i64 e) hS3.2.2 hwg)⟩ (fun hS4 => ?_)
  clear hK K
  (try simp only [Act.put, List.setIfInBounds_toArray, List.set_cons_zero, List.set_cons_succ])
  clear r0 r1 r2 r3 r4 x0 y0 hR3 hX3 hU3 hS3
  generalize (w3.setCell ⟨g, 2, none⟩ (.int .i64 e)) = w4 at *
  refine wpAnyH_done (by kernel_rfl) ?_ _
  refine NoPanic.normal ?_
  rw [show Exit.inBlock 0 Q' Exit.normal = Q' Exit.normal from rfl]
  rw [hQ.out]
  have hu := HU.out
  have hfin := And.intro hU4 (And.intro hX4 hR4)
  clear HU hQ
  cases c₀
  simp_all [bodyPostS, results, Try.results56]

end Go.Proofs.Ytmgafcblbbbanaa
