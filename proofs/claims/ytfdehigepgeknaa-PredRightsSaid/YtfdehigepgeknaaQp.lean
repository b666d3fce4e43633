/-
  Plain of the statements of the conditions: its contract. Condition: at most 1000000 nodes.
-/
import Derived.Test.YtfdehigepgeknaaQr
import Derived.Test.YtfdehigepgeknaaAp
namespace Go.Proofs.Ytfdehigepgeknaa
open Go.RowKit Pd

theorem Try.infoRNode : (Try.prog.info? 44).map (fun i => (i.zero, i.size, i.bytes)) = some (some (.agg #[.int .i64 0, .int .i64 0, .int .i64 0, .int .i64 0, .int .u64 0, .string ⟨#[]⟩]), 6, 56) := by kernel_rfl
/-- the reference's nodes of the call's own -/
def OwnR (w : World) (B : Nat) (v : Value) (l : List N) : Prop := w.ownsRow B 44 6 v l.length (ncells l)
theorem OwnR.below {w w' : World} {B : Nat} {v : Value} {l : List N} (h : OwnR w B v l) (hb : Below w.heap.size w w') : OwnR w' B v l := own_below h hb
theorem OwnR.at {w : World} {B : Nat} {v : Value} {l : List N} (h : OwnR w B v l) : NsAt w v l := NsAt.own h
theorem OwnR.nil (w : World) (B : Nat) : OwnR w B (.slice none 0 0) [] := World.ownsRow_nil _ _ _ _
theorem append_ref_wp (w : World) {W : World} {o : Oper} {a : Act} {K : Act → World → Prop} {Q : Exit → Act → World → Prop} (sl x : Operand)
    (ho : o.op = .call { callee := .builtin .append, args := #[sl, x], argTypes := #[30, 30] })
    (B : Nat) (v : Value) (l : List N) (hs : a.eval sl = v) (hown : OwnR w B v l) (c : N) (g : Nat) (hg : g = w.heap.size) (hx : a.eval x = .slice (some ⟨g, 0, none⟩) 1 1) (hlen : l.length ≤ 1000000) (hB : B ≤ w.heap.size)
    (hW : W = w.alloc (.cells #[.int .i64 c.op, .int .i64 c.col, .int .i64 c.v.k, .int .i64 c.v.n, .int .u64 (c.v.b : Int), .string c.v.s] 44))
    (h : ∀ v' w', OwnR w' B v' (l ++ [c]) → w.grownBy w' v.ownBlock → K (a.put o.dst v') w') : o.wp Try.prog a W K Q := by
  subst hW
  obtain ⟨i0, hi, hz0, hz1, hz2⟩ := info_parts Try.infoRNode
  subst hg
  refine wp_append_own _ sl x 30 ho B 44 i0 _ 6 56 Try.underlying30 hi hz0 hz1 hz2 rfl (by decide) v l.length (ncells l) hs (hown.alloc _) ⟨w.heap.size, 0, none⟩ 1 1 (ncells [c]) hx rfl (cell_six w _ _ rfl) (fun y hy => ncells_one_cell [c] y hy) ?_ ?_ ?_ ?_
  · unfold maxLen; omega
  · omega
  · simp; omega
  · intro v' w' hown' hgrow _
    refine h v' w' (by unfold OwnR; rw [ncells_append, List.length_append]; exact hown') ?_
    refine ⟨hgrow.os, hgrow.tape, hgrow.output, Nat.le_trans (by simp) hgrow.size, fun k hk hne => ?_⟩
    rw [hgrow.block k (by simp; omega) hne]
    exact Below.heap_alloc w _ k hk
set_option maxRecDepth 100000 in
set_option maxHeartbeats 6400000 in
theorem plain_any (v : Value) (l : List N) (w : World) (hv : NsAt w v l) (hl : l.length ≤ 1000000) : Calls Try.prog 13 #[v] w fun e w' => ∃ v', e = .returned v' ∧ OwnR w' w.heap.size v' l ∧ Below w.heap.size w w' := by
  obtain ⟨adr, cap, rfl, hc⟩ := hv
  have HC := hid hc
  have HLL := hid hl
  clear hc
  go_enter Try.func13, Try.ntmps13
  go_wp2_with fail
  go_loopw [4, 3] (fun i o wr => ∃ (k : Nat) (o' : Value), k ≤ l.length ∧ i = .int .i64 (k : Int) ∧ o = o' ∧ OwnR wr w.heap.size o' (l.take k) ∧ Below w.heap.size w wr) (fun i _ _ => l.length - (intOf i).toNat)
  case atStart => exact ⟨0, _, by omega, rfl, rfl, OwnR.nil _ _, Below.refl _ _⟩
  case round =>
    obtain ⟨k, o', hk, rfl, rfl, hown, hbel⟩ := hrel
    obtain ⟨w4, rfl⟩ : ∃ w4 : World, w4 = wr := ⟨_, rfl⟩
    have hk0 : (0 : Int) ≤ (k : Int) := by omega
    by_cases hkl : k < l.length
    · have hkl' : (k : Int) < (l.length : Int) := by omega
      obtain ⟨g, off, rfl, q0, q1, q2, q3, q4, q5⟩ := HC.out k hkl
      have HNX : Hid (l.take k ++ [l[k]] = l.take (k + 1)) := (take_next l k hkl).symm
      generalize l[k] = x at q0 q1 q2 q3 q4 q5 HNX
      obtain ⟨op, col, ⟨xk, xn, xb, xs⟩⟩ := x
      simp only at q0 q1 q2 q3 q4 q5
      go_wp2_with fail
      refine wp_region_held_drew (S := fun _ => True) (by kernel_rfl) trivial (fun hS => ?_)
      obtain ⟨w20, hw20⟩ : ∃ w20, w4.drew = w20 := ⟨_, rfl⟩
      have hd20 : Below w4.heap.size w4 w20 := hw20 ▸ (Below.refl _ _).drew
      rw [hw20]
      have B20 := hid (hnext hbel hd20)
      have O20 := hid (OwnR.below hown hd20)
      have HSZ : Hid (w.heap.size ≤ w20.heap.size) := B20.out.size
      replace q0 := hkeep q0 (hnext hbel hd20)
      replace q1 := hkeep q1 (hnext hbel hd20)
      replace q2 := hkeep q2 (hnext hbel hd20)
      replace q3 := hkeep q3 (hnext hbel hd20)
      replace q4 := hkeep q4 (hnext hbel hd20)
      replace q5 := hkeep q5 (hnext hbel hd20)
      clear hd20 hw20 hbel hown
      refine wpAnyH_take (i := 0) (oi := ({ dst := some 11, op := Op.move (Operand.tmp 3), type := 30, pos := "law.go:14", after := #[], guard := none } : Oper)) (v := ?_) rfl (by kernel_rfl) (by kernel_rfl) (by kernel_rfl) (fun _ _ _ h => h) (Or.inl ⟨by rfl, ?_⟩) hS ?_
      rotate_left
      · intro w hSw; (try dsimp only at hSw); go_simp; (try with_reducible rfl)
      simp only [Act.put, List.setIfInBounds_toArray, List.set_cons_zero, List.set_cons_succ]
      refine wpAnyH_take (i := 1) (oi := ({ dst := some 12, op := Op.move (Operand.tmp 0), type := 22, pos := "law.go:14", after := #[], guard := none } : Oper)) (v := ?_) rfl (by kernel_rfl) (by kernel_rfl) (by kernel_rfl) (fun _ _ _ h => h) (Or.inl ⟨by rfl, ?_⟩) hS ?_
      rotate_left
      · intro w hSw; (try dsimp only at hSw); go_simp; (try with_reducible rfl)
      simp only [Act.put, List.setIfInBounds_toArray, List.set_cons_zero, List.set_cons_succ]
      refine wpAnyH_take (i := 2) (oi := ({ dst := some 13, op := Op.move (Operand.tmp 4), type := 3, pos := "law.go:14", after := #[], guard := none } : Oper)) (v := ?_) rfl (by kernel_rfl) (by kernel_rfl) (by kernel_rfl) (fun _ _ _ h => h) (Or.inl ⟨by rfl, ?_⟩) hS ?_
      rotate_left
      · intro w hSw; (try dsimp only at hSw); go_simp; (try with_reducible rfl)
      simp only [Act.put, List.setIfInBounds_toArray, List.set_cons_zero, List.set_cons_succ]
      refine wpAnyH_take (i := 3) (oi := ({ dst := some 14, op := Op.indexAddr 22 (Operand.tmp 12) (Operand.tmp 13), type := 0, pos := "law.go:14", after := #[{ on := 1, ground := Ground.data }, { on := 2, ground := Ground.data }], guard := none } : Oper)) (v := ?_) rfl (by kernel_rfl) (by kernel_rfl) (by kernel_rfl) (fun _ _ _ h => h) (Or.inl ⟨by rfl, ?_⟩) hS ?_
      rotate_left
      · intro w hSw; (try dsimp only at hSw); go_simp; (try with_reducible rfl)
      simp only [Act.put, List.setIfInBounds_toArray, List.set_cons_zero, List.set_cons_succ]
      refine wpAnyH_take (i := 4) (oi := ({ dst := some 15, op := Op.fieldAddr 41 (Operand.tmp 14) 0, type := 0, pos := "law.go:14", after := #[{ on := 3, ground := Ground.data }], guard := none } : Oper)) (v := ?_) rfl (by kernel_rfl) (by kernel_rfl) (by kernel_rfl) (fun _ _ _ h => h) (Or.inl ⟨by rfl, ?_⟩) hS ?_
      rotate_left
      · intro w hSw; (try dsimp only at hSw); go_simp; (try with_reducible rfl)
      simp only [Act.put, List.setIfInBounds_toArray, List.set_cons_zero, List.set_cons_succ]
      refine wpAnyH_take (i := 6) (oi := ({ dst := some 17, op := Op.move (Operand.tmp 0), type := 22, pos := "law.go:14", after := #[], guard := none } : Oper)) (v := ?_) rfl (by kernel_rfl) (by kernel_rfl) (by kernel_rfl) (fun _ _ _ h => h) (Or.inl ⟨by rfl, ?_⟩) hS ?_
      rotate_left
      · intro w hSw; (try dsimp only at hSw); go_simp; (try with_reducible rfl)
      simp only [Act.put, List.setIfInBounds_toArray, List.set_cons_zero, List.set_cons_succ]
      refine wpAnyH_take (i := 7) (oi := ({ dst := some 18, op := Op.move (Operand.tmp 4), type := 3, pos := "law.go:14", after := #[], guard := none } : Oper)) (v := ?_) rfl (by kernel_rfl) (by kernel_rfl) (by kernel_rfl) (fun _ _ _ h => h) (Or.inl ⟨by rfl, ?_⟩) hS ?_
      rotate_left
      · intro w hSw; (try dsimp only at hSw); go_simp; (try with_reducible rfl)
      simp only [Act.put, List.setIfInBounds_toArray, List.set_cons_zero, List.set_cons_succ]
      refine wpAnyH_take (i := 8) (oi := ({ dst := some 19, op := Op.indexAddr 22 (Operand.tmp 17) (Operand.tmp 18), type := 0, pos := "law.go:14", after := #[{ on := 6, ground := Ground.data }, { on := 7, ground := Ground.data }], guard := none } : Oper)) (v := ?_) rfl (by kernel_rfl) (by kernel_rfl) (by kernel_rfl) (fun _ _ _ h => h) (Or.inl ⟨by rfl, ?_⟩) hS ?_
      rotate_left
      · intro w hSw; (try dsimp only at hSw); go_simp; (try with_reducible rfl)
      simp only [Act.put, List.setIfInBounds_toArray, List.set_cons_zero, List.set_cons_succ]
      refine wpAnyH_take (i := 9) (oi := ({ dst := some 20, op := Op.fieldAddr 41 (Operand.tmp 19) 1, type := 0, pos := "law.go:14", after := #[{ on := 8, ground := Ground.data }], guard := none } : Oper)) (v := ?_) rfl (by kernel_rfl) (by kernel_rfl) (by kernel_rfl) (fun _ _ _ h => h) (Or.inl ⟨by rfl, ?_⟩) hS ?_
      rotate_left
      · intro w hSw; (try dsimp only at hSw); go_simp; (try with_reducible rfl)
      simp only [Act.put, List.setIfInBounds_toArray, List.set_cons_zero, List.set_cons_succ]
      refine wpAnyH_take (i := 11) (oi := ({ dst := some 22, op := Op.move (Operand.tmp 0), type := 22, pos := "law.go:14", after := #[], guard := none } : Oper)) (v := ?_) rfl (by kernel_rfl) (by kernel_rfl) (by kernel_rfl) (fun _ _ _ h => h) (Or.inl ⟨by rfl, ?_⟩) hS ?_
      rotate_left
      · intro w hSw; (try dsimp only at hSw); go_simp; (try with_reducible rfl)
      simp only [Act.put, List.setIfInBounds_toArray, List.set_cons_zero, List.set_cons_succ]
      refine wpAnyH_take (i := 12) (oi := ({ dst := some 23, op := Op.move (Operand.tmp 4), type := 3, pos := "law.go:14", after := #[], guard := none } : Oper)) (v := ?_) rfl (by kernel_rfl) (by kernel_rfl) (by kernel_rfl) (fun _ _ _ h => h) (Or.inl ⟨by rfl, ?_⟩) hS ?_
      rotate_left
      · intro w hSw; (try dsimp only at hSw); go_simp; (try with_reducible rfl)
      simp only [Act.put, List.setIfInBounds_toArray, List.set_cons_zero, List.set_cons_succ]
      refine wpAnyH_take (i := 13) (oi := ({ dst := some 24, op := Op.indexAddr 22 (Operand.tmp 22) (Operand.tmp 23), type := 0, pos := "law.go:14", after := #[{ on := 11, ground := Ground.data }, { on := 12, ground := Ground.data }], guard := none } : Oper)) (v := ?_) rfl (by kernel_rfl) (by kernel_rfl) (by kernel_rfl) (fun _ _ _ h => h) (Or.inl ⟨by rfl, ?_⟩) hS ?_
      rotate_left
      · intro w hSw; (try dsimp only at hSw); go_simp; (try with_reducible rfl)
      simp only [Act.put, List.setIfInBounds_toArray, List.set_cons_zero, List.set_cons_succ]
      refine wpAnyH_take (i := 14) (oi := ({ dst := some 25, op := Op.fieldAddr 41 (Operand.tmp 24) 2, type := 0, pos := "law.go:14", after := #[{ on := 13, ground := Ground.data }], guard := none } : Oper)) (v := ?_) rfl (by kernel_rfl) (by kernel_rfl) (by kernel_rfl) (fun _ _ _ h => h) (Or.inl ⟨by rfl, ?_⟩) hS ?_
      rotate_left
      · intro w hSw; (try dsimp only at hSw); go_simp; (try with_reducible rfl)
      simp only [Act.put, List.setIfInBounds_toArray, List.set_cons_zero, List.set_cons_succ]
      refine wpAnyH_ready (rs := [5, 10, 15]) (by kernel_rfl) (by simp) ?_
      refine AllReadyH.cons (o := ({ dst := some 16, op := Op.load 3 (Operand.tmp 15), type := 3, pos := "law.go:14", after := #[{ on := 4, ground := Ground.data }], guard := none } : Oper)) rfl (fun K hK => ?_) (AllReadyH.cons (o := ({ dst := some 21, op := Op.load 3 (Operand.tmp 20), type := 3, pos := "law.go:14", after := #[{ on := 9, ground := Ground.data }], guard := none } : Oper)) rfl (fun K hK => ?_) (AllReadyH.cons (o := ({ dst := some 26, op := Op.load 39 (Operand.tmp 25), type := 39, pos := "law.go:14", after := #[{ on := 14, ground := Ground.data }], guard := none } : Oper)) rfl (fun K hK => ?_) AllReadyH.nil))
      · go_simp
        refine hK.out _ _ trivial (fun _ => ?_)
        clear hK K
        (try simp only [Act.put, List.setIfInBounds_toArray, List.set_cons_zero, List.set_cons_succ])
        refine wpAnyH_ready (rs := [10, 15]) (by kernel_rfl) (by simp) ?_
        refine AllReadyH.cons (o := ({ dst := some 21, op := Op.load 3 (Operand.tmp 20), type := 3, pos := "law.go:14", after := #[{ on := 9, ground := Ground.data }], guard := none } : Oper)) rfl (fun K hK => ?_) (AllReadyH.cons (o := ({ dst := some 26, op := Op.load 39 (Operand.tmp 25), type := 39, pos := "law.go:14", after := #[{ on := 14, ground := Ground.data }], guard := none } : Oper)) rfl (fun K hK => ?_) AllReadyH.nil)
        · go_simp
          refine hK.out _ _ trivial (fun _ => ?_)
          clear hK K
          (try simp only [Act.put, List.setIfInBounds_toArray, List.set_cons_zero, List.set_cons_succ])
          refine wpAnyH_ready (rs := [15]) (by kernel_rfl) (by simp) ?_
          refine AllReadyH.cons (o := ({ dst := some 26, op := Op.load 39 (Operand.tmp 25), type := 39, pos := "law.go:14", after := #[{ on := 14, ground := Ground.data }], guard := none } : Oper)) rfl (fun K hK => ?_) AllReadyH.nil
          go_simp
          refine hK.out _ _ trivial (fun _ => ?_)
          clear hK K
          (try simp only [Act.put, List.setIfInBounds_toArray, List.set_cons_zero, List.set_cons_succ])
          refine wpAnyH_take (i := 16) (oi := ({ dst := some 27, op := Op.build 44 #[(0, Operand.tmp 16), (1, Operand.tmp 21), (2, Operand.tmp 26)], type := 44, pos := "law.go:14", after := #[{ on := 5, ground := Ground.data }, { on := 10, ground := Ground.data }, { on := 15, ground := Ground.data }], guard := none } : Oper)) (v := ?_) rfl (by kernel_rfl) (by kernel_rfl) (by kernel_rfl) (fun _ _ _ h => h) (Or.inl ⟨by rfl, ?_⟩) hS ?_
          rotate_left
          · intro w hSw; (try dsimp only at hSw); go_simp; (try with_reducible rfl)
          simp only [Act.put, List.setIfInBounds_toArray, List.set_cons_zero, List.set_cons_succ]
          refine wpAnyH_ready (rs := [17]) (by kernel_rfl) (by simp) ?_
          refine AllReadyH.cons (o := ({ dst := some 28, op := Op.buildSlice 30 1 #[(0, Operand.tmp 27)], type := 30, pos := "law.go:14", after := #[{ on := 16, ground := Ground.data }], guard := none } : Oper)) rfl (fun K hK => ?_) AllReadyH.nil
          go_simp
          refine hK.out _ _ trivial (fun _ => ?_)
          clear hK K
          (try simp only [Act.put, List.setIfInBounds_toArray, List.set_cons_zero, List.set_cons_succ])
          refine wpAnyH_ready (rs := [18]) (by kernel_rfl) (by simp) ?_
          refine AllReadyH.cons (o := ({ dst := some 29, op := Op.call { callee := Callee.builtin Builtin.append, args := #[Operand.tmp 11, Operand.tmp 28], argTypes := #[30, 30] }, type := 30, pos := "law.go:14", after := #[{ on := 0, ground := Ground.data }, { on := 17, ground := Ground.data }], guard := none } : Oper)) rfl (fun K hK => ?_) AllReadyH.nil
          refine append_ref_wp w20 _ _ rfl w.heap.size _ (l.take k) rfl O20.out ⟨op, col, ⟨xk, xn, xb, xs⟩⟩ _ rfl rfl (by have := HLL.out; simp; omega) HSZ.out rfl ?_
          intro v2 w7 own2 gr2
          have O7 := hid own2
          have B7 := hid (Below.grown B20.out gr2 HSZ.out (fun q e => (World.ownsRow.lt O20.out q e).1))
          clear own2 gr2
          refine hK.out _ _ trivial (fun _ => ?_)
          clear hK K
          (try simp only [Act.put, List.setIfInBounds_toArray, List.set_cons_zero, List.set_cons_succ])
          refine wpAnyH_take (i := 19) (oi := ({ dst := some 3, op := Op.assign (Operand.tmp 29), type := 30, pos := "law.go:14", after := #[{ on := 18, ground := Ground.data }, { on := 18, ground := Ground.chain }, { on := 0, ground := Ground.phase }, { on := 1, ground := Ground.phase }, { on := 2, ground := Ground.phase }, { on := 3, ground := Ground.phase }, { on := 4, ground := Ground.phase }, { on := 5, ground := Ground.phase }, { on := 6, ground := Ground.phase }, { on := 7, ground := Ground.phase }, { on := 8, ground := Ground.phase }, { on := 9, ground := Ground.phase }, { on := 10, ground := Ground.phase }, { on := 11, ground := Ground.phase }, { on := 12, ground := Ground.phase }, { on := 13, ground := Ground.phase }, { on := 14, ground := Ground.phase }, { on := 15, ground := Ground.phase }, { on := 16, ground := Ground.phase }, { on := 17, ground := Ground.phase }, { on := 18, ground := Ground.phase }], guard := none } : Oper)) (v := ?_) rfl (by kernel_rfl) (by kernel_rfl) (by kernel_rfl) (fun _ _ _ h => h) (Or.inl ⟨by rfl, ?_⟩) hS ?_
          rotate_left
          · intro w hSw; (try dsimp only at hSw); go_simp; (try with_reducible rfl)
          simp only [Act.put, List.setIfInBounds_toArray, List.set_cons_zero, List.set_cons_succ]
          refine wpAnyH_done (by kernel_rfl) ?_ _
          go_wp2_with fail
          go_roundw
          case rel => exact ⟨k + 1, v2, by omega, by first | rfl | go_num, rfl, HNX.out ▸ O7.out, B7.out⟩
          case measure => simp [intOf] <;> omega
        · go_simp
          refine hK.out _ _ trivial (fun _ => ?_)
          clear hK K
          (try simp only [Act.put, List.setIfInBounds_toArray, List.set_cons_zero, List.set_cons_succ])
          refine wpAnyH_ready (rs := [10]) (by kernel_rfl) (by simp) ?_
          refine AllReadyH.cons (o := ({ dst := some 21, op := Op.load 3 (Operand.tmp 20), type := 3, pos := "law.go:14", after := #[{ on := 9, ground := Ground.data }], guard := none } : Oper)) rfl (fun K hK => ?_) AllReadyH.nil
          go_simp
          refine hK.out _ _ trivial (fun _ => ?_)
          clear hK K
          (try simp only [Act.put, List.setIfInBounds_toArray, List.set_cons_zero, List.set_cons_succ])
          refine wpAnyH_take (i := 16) (oi := ({ dst := some 27, op := Op.build 44 #[(0, Operand.tmp 16), (1, Operand.tmp 21), (2, Operand.tmp 26)], type := 44, pos := "law.go:14", after := #[{ on := 5, ground := Ground.data }, { on := 10, ground := Ground.data }, { on := 15, ground := Ground.data }], guard := none } : Oper)) (v := ?_) rfl (by kernel_rfl) (by kernel_rfl) (by kernel_rfl) (fun _ _ _ h => h) (Or.inl ⟨by rfl, ?_⟩) hS ?_
          rotate_left
          · intro w hSw; (try dsimp only at hSw); go_simp; (try with_reducible rfl)
          simp only [Act.put, List.setIfInBounds_toArray, List.set_cons_zero, List.set_cons_succ]
          refine wpAnyH_ready (rs := [17]) (by kernel_rfl) (by simp) ?_
          refine AllReadyH.cons (o := ({ dst := some 28, op := Op.buildSlice 30 1 #[(0, Operand.tmp 27)], type := 30, pos := "law.go:14", after := #[{ on := 16, ground := Ground.data }], guard := none } : Oper)) rfl (fun K hK => ?_) AllReadyH.nil
          go_simp
          refine hK.out _ _ trivial (fun _ => ?_)
          clear hK K
          (try simp only [Act.put, List.setIfInBounds_toArray, List.set_cons_zero, List.set_cons_succ])
          refine wpAnyH_ready (rs := [18]) (by kernel_rfl) (by simp) ?_
          refine AllReadyH.cons (o := ({ dst := some 29, op := Op.call { callee := Callee.builtin Builtin.append, args := #[Operand.tmp 11, Operand.tmp 28], argTypes := #[30, 30] }, type := 30, pos := "law.go:14", after := #[{ on := 0, ground := Ground.data }, { on := 17, ground := Ground.data }], guard := none } : Oper)) rfl (fun K hK => ?_) AllReadyH.nil
          refine append_ref_wp w20 _ _ rfl w.heap.size _ (l.take k) rfl O20.out ⟨op, col, ⟨xk, xn, xb, xs⟩⟩ _ rfl rfl (by have := HLL.out; simp; omega) HSZ.out rfl ?_
          intro v2 w7 own2 gr2
          have O7 := hid own2
          have B7 := hid (Below.grown B20.out gr2 HSZ.out (fun q e => (World.ownsRow.lt O20.out q e).1))
          clear own2 gr2
          refine hK.out _ _ trivial (fun _ => ?_)
          clear hK K
          (try simp only [Act.put, List.setIfInBounds_toArray, List.set_cons_zero, List.set_cons_succ])
          refine wpAnyH_take (i := 19) (oi := ({ dst := some 3, op := Op.assign (Operand.tmp 29), type := 30, pos := "law.go:14", after := #[{ on := 18, ground := Ground.data }, { on := 18, ground := Ground.chain }, { on := 0, ground := Ground.phase }, { on := 1, ground := Ground.phase }, { on := 2, ground := Ground.phase }, { on := 3, ground := Ground.phase }, { on := 4, ground := Ground.phase }, { on := 5, ground := Ground.phase }, { on := 6, ground := Ground.phase }, { on := 7, ground := Ground.phase }, { on := 8, ground := Ground.phase }, { on := 9, ground := Ground.phase }, { on := 10, ground := Ground.phase }, { on := 11, ground := Ground.phase }, { on := 12, ground := Ground.phase }, { on := 13, ground := Ground.phase }, { on := 14, ground := Ground.phase }, { on := 15, ground := Ground.phase }, { on := 16, ground := Ground.phase }, { on := 17, ground := Ground.phase }, { on := 18, ground := Ground.phase }], guard := none } : Oper)) (v := ?_) rfl (by kernel_rfl) (by kernel_rfl) (by kernel_rfl) (fun _ _ _ h => h) (Or.inl ⟨by rfl, ?_⟩) hS ?_
          rotate_left
          · intro w hSw; (try dsimp only at hSw); go_simp; (try with_reducible rfl)
          simp only [Act.put, List.setIfInBounds_toArray, List.set_cons_zero, List.set_cons_succ]
          refine wpAnyH_done (by kernel_rfl) ?_ _
          go_wp2_with fail
          go_roundw
          case rel => exact ⟨k + 1, v2, by omega, by first | rfl | go_num, rfl, HNX.out ▸ O7.out, B7.out⟩
          case measure => simp [intOf] <;> omega
      · go_simp
        refine hK.out _ _ trivial (fun _ => ?_)
        clear hK K
        (try simp only [Act.put, List.setIfInBounds_toArray, List.set_cons_zero, List.set_cons_succ])
        refine wpAnyH_ready (rs := [5, 15]) (by kernel_rfl) (by simp) ?_
        refine AllReadyH.cons (o := ({ dst := some 16, op := Op.load 3 (Operand.tmp 15), type := 3, pos := "law.go:14", after := #[{ on := 4, ground := Ground.data }], guard := none } : Oper)) rfl (fun K hK => ?_) (AllReadyH.cons (o := ({ dst := some 26, op := Op.load 39 (Operand.tmp 25), type := 39, pos := "law.go:14", after := #[{ on := 14, ground := Ground.data }], guard := none } : Oper)) rfl (fun K hK => ?_) AllReadyH.nil)
        · go_simp
          refine hK.out _ _ trivial (fun _ => ?_)
          clear hK K
          (try simp only [Act.put, List.setIfInBounds_toArray, List.set_cons_zero, List.set_cons_succ])
          refine wpAnyH_ready (rs := [15]) (by kernel_rfl) (by simp) ?_
          refine AllReadyH.cons (o := ({ dst := some 26, op := Op.load 39 (Operand.tmp 25), type := 39, pos := "law.go:14", after := #[{ on := 14, ground := Ground.data }], guard := none } : Oper)) rfl (fun K hK => ?_) AllReadyH.nil
          go_simp
          refine hK.out _ _ trivial (fun _ => ?_)
          clear hK K
          (try simp only [Act.put, List.setIfInBounds_toArray, List.set_cons_zero, List.set_cons_succ])
          refine wpAnyH_take (i := 16) (oi := ({ dst := some 27, op := Op.build 44 #[(0, Operand.tmp 16), (1, Operand.tmp 21), (2, Operand.tmp 26)], type := 44, pos := "law.go:14", after := #[{ on := 5, ground := Ground.data }, { on := 10, ground := Ground.data }, { on := 15, ground := Ground.data }], guard := none } : Oper)) (v := ?_) rfl (by kernel_rfl) (by kernel_rfl) (by kernel_rfl) (fun _ _ _ h => h) (Or.inl ⟨by rfl, ?_⟩) hS ?_
          rotate_left
          · intro w hSw; (try dsimp only at hSw); go_simp; (try with_reducible rfl)
          simp only [Act.put, List.setIfInBounds_toArray, List.set_cons_zero, List.set_cons_succ]
          refine wpAnyH_ready (rs := [17]) (by kernel_rfl) (by simp) ?_
          refine AllReadyH.cons (o := ({ dst := some 28, op := Op.buildSlice 30 1 #[(0, Operand.tmp 27)], type := 30, pos := "law.go:14", after := #[{ on := 16, ground := Ground.data }], guard := none } : Oper)) rfl (fun K hK => ?_) AllReadyH.nil
          go_simp
          refine hK.out _ _ trivial (fun _ => ?_)
          clear hK K
          (try simp only [Act.put, List.setIfInBounds_toArray, List.set_cons_zero, List.set_cons_succ])
          refine wpAnyH_ready (rs := [18]) (by kernel_rfl) (by simp) ?_
          refine AllReadyH.cons (o := ({ dst := some 29, op := Op.call { callee := Callee.builtin Builtin.append, args := #[Operand.tmp 11, Operand.tmp 28], argTypes := #[30, 30] }, type := 30, pos := "law.go:14", after := #[{ on := 0, ground := Ground.data }, { on := 17, ground := Ground.data }], guard := none } : Oper)) rfl (fun K hK => ?_) AllReadyH.nil
          refine append_ref_wp w20 _ _ rfl w.heap.size _ (l.take k) rfl O20.out ⟨op, col, ⟨xk, xn, xb, xs⟩⟩ _ rfl rfl (by have := HLL.out; simp; omega) HSZ.out rfl ?_
          intro v2 w7 own2 gr2
          have O7 := hid own2
          have B7 := hid (Below.grown B20.out gr2 HSZ.out (fun q e => (World.ownsRow.lt O20.out q e).1))
          clear own2 gr2
          refine hK.out _ _ trivial (fun _ => ?_)
          clear hK K
          (try simp only [Act.put, List.setIfInBounds_toArray, List.set_cons_zero, List.set_cons_succ])
          refine wpAnyH_take (i := 19) (oi := ({ dst := some 3, op := Op.assign (Operand.tmp 29), type := 30, pos := "law.go:14", after := #[{ on := 18, ground := Ground.data }, { on := 18, ground := Ground.chain }, { on := 0, ground := Ground.phase }, { on := 1, ground := Ground.phase }, { on := 2, ground := Ground.phase }, { on := 3, ground := Ground.phase }, { on := 4, ground := Ground.phase }, { on := 5, ground := Ground.phase }, { on := 6, ground := Ground.phase }, { on := 7, ground := Ground.phase }, { on := 8, ground := Ground.phase }, { on := 9, ground := Ground.phase }, { on := 10, ground := Ground.phase }, { on := 11, ground := Ground.phase }, { on := 12, ground := Ground.phase }, { on := 13, ground := Ground.phase }, { on := 14, ground := Ground.phase }, { on := 15, ground := Ground.phase }, { on := 16, ground := Ground.phase }, { on := 17, ground := Ground.phase }, { on := 18, ground := Ground.phase }], guard := none } : Oper)) (v := ?_) rfl (by kernel_rfl) (by kernel_rfl) (by kernel_rfl) (fun _ _ _ h => h) (Or.inl ⟨by rfl, ?_⟩) hS ?_
          rotate_left
          · intro w hSw; (try dsimp only at hSw); go_simp; (try with_reducible rfl)
          simp only [Act.put, List.setIfInBounds_toArray, List.set_cons_zero, List.set_cons_succ]
          refine wpAnyH_done (by kernel_rfl) ?_ _
          go_wp2_with fail
          go_roundw
          case rel => exact ⟨k + 1, v2, by omega, by first | rfl | go_num, rfl, HNX.out ▸ O7.out, B7.out⟩
          case measure => simp [intOf] <;> omega
        · go_simp
          refine hK.out _ _ trivial (fun _ => ?_)
          clear hK K
          (try simp only [Act.put, List.setIfInBounds_toArray, List.set_cons_zero, List.set_cons_succ])
          refine wpAnyH_ready (rs := [5]) (by kernel_rfl) (by simp) ?_
          refine AllReadyH.cons (o := ({ dst := some 16, op := Op.load 3 (Operand.tmp 15), type := 3, pos := "law.go:14", after := #[{ on := 4, ground := Ground.data }], guard := none } : Oper)) rfl (fun K hK => ?_) AllReadyH.nil
          go_simp
          refine hK.out _ _ trivial (fun _ => ?_)
          clear hK K
          (try simp only [Act.put, List.setIfInBounds_toArray, List.set_cons_zero, List.set_cons_succ])
          refine wpAnyH_take (i := 16) (oi := ({ dst := some 27, op := Op.build 44 #[(0, Operand.tmp 16), (1, Operand.tmp 21), (2, Operand.tmp 26)], type := 44, pos := "law.go:14", after := #[{ on := 5, ground := Ground.data }, { on := 10, ground := Ground.data }, { on := 15, ground := Ground.data }], guard := none } : Oper)) (v := ?_) rfl (by kernel_rfl) (by kernel_rfl) (by kernel_rfl) (fun _ _ _ h => h) (Or.inl ⟨by rfl, ?_⟩) hS ?_
          rotate_left
          · intro w hSw; (try dsimp only at hSw); go_simp; (try with_reducible rfl)
          simp only [Act.put, List.setIfInBounds_toArray, List.set_cons_zero, List.set_cons_succ]
          refine wpAnyH_ready (rs := [17]) (by kernel_rfl) (by simp) ?_
          refine AllReadyH.cons (o := ({ dst := some 28, op := Op.buildSlice 30 1 #[(0, Operand.tmp 27)], type := 30, pos := "law.go:14", after := #[{ on := 16, ground := Ground.data }], guard := none } : Oper)) rfl (fun K hK => ?_) AllReadyH.nil
          go_simp
          refine hK.out _ _ trivial (fun _ => ?_)
          clear hK K
          (try simp only [Act.put, List.setIfInBounds_toArray, List.set_cons_zero, List.set_cons_succ])
          refine wpAnyH_ready (rs := [18]) (by kernel_rfl) (by simp) ?_
          refine AllReadyH.cons (o := ({ dst := some 29, op := Op.call { callee := Callee.builtin Builtin.append, args := #[Operand.tmp 11, Operand.tmp 28], argTypes := #[30, 30] }, type := 30, pos := "law.go:14", after := #[{ on := 0, ground := Ground.data }, { on := 17, ground := Ground.data }], guard := none } : Oper)) rfl (fun K hK => ?_) AllReadyH.nil
          refine append_ref_wp w20 _ _ rfl w.heap.size _ (l.take k) rfl O20.out ⟨op, col, ⟨xk, xn, xb, xs⟩⟩ _ rfl rfl (by have := HLL.out; simp; omega) HSZ.out rfl ?_
          intro v2 w7 own2 gr2
          have O7 := hid own2
          have B7 := hid (Below.grown B20.out gr2 HSZ.out (fun q e => (World.ownsRow.lt O20.out q e).1))
          clear own2 gr2
          refine hK.out _ _ trivial (fun _ => ?_)
          clear hK K
          (try simp only [Act.put, List.setIfInBounds_toArray, List.set_cons_zero, List.set_cons_succ])
          refine wpAnyH_take (i := 19) (oi := ({ dst := some 3, op := Op.assign (Operand.tmp 29), type := 30, pos := "law.go:14", after := #[{ on := 18, ground := Ground.data }, { on := 18, ground := Ground.chain }, { on := 0, ground := Ground.phase }, { on := 1, ground := Ground.phase }, { on := 2, ground := Ground.phase }, { on := 3, ground := Ground.phase }, { on := 4, ground := Ground.phase }, { on := 5, ground := Ground.phase }, { on := 6, ground := Ground.phase }, { on := 7, ground := Ground.phase }, { on := 8, ground := Ground.phase }, { on := 9, ground := Ground.phase }, { on := 10, ground := Ground.phase }, { on := 11, ground := Ground.phase }, { on := 12, ground := Ground.phase }, { on := 13, ground := Ground.phase }, { on := 14, ground := Ground.phase }, { on := 15, ground := Ground.phase }, { on := 16, ground := Ground.phase }, { on := 17, ground := Ground.phase }, { on := 18, ground := Ground.phase }], guard := none } : Oper)) (v := ?_) rfl (by kernel_rfl) (by kernel_rfl) (by kernel_rfl) (fun _ _ _ h => h) (Or.inl ⟨by rfl, ?_⟩) hS ?_
          rotate_left
          · intro w hSw; (try dsimp only at hSw); go_simp; (try with_reducible rfl)
          simp only [Act.put, List.setIfInBounds_toArray, List.set_cons_zero, List.set_cons_succ]
          refine wpAnyH_done (by kernel_rfl) ?_ _
          go_wp2_with fail
          go_roundw
          case rel => exact ⟨k + 1, v2, by omega, by first | rfl | go_num, rfl, HNX.out ▸ O7.out, B7.out⟩
          case measure => simp [intOf] <;> omega
      · go_simp
        refine hK.out _ _ trivial (fun _ => ?_)
        clear hK K
        (try simp only [Act.put, List.setIfInBounds_toArray, List.set_cons_zero, List.set_cons_succ])
        refine wpAnyH_ready (rs := [5, 10]) (by kernel_rfl) (by simp) ?_
        refine AllReadyH.cons (o := ({ dst := some 16, op := Op.load 3 (Operand.tmp 15), type := 3, pos := "law.go:14", after := #[{ on := 4, ground := Ground.data }], guard := none } : Oper)) rfl (fun K hK => ?_) (AllReadyH.cons (o := ({ dst := some 21, op := Op.load 3 (Operand.tmp 20), type := 3, pos := "law.go:14", after := #[{ on := 9, ground := Ground.data }], guard := none } : Oper)) rfl (fun K hK => ?_) AllReadyH.nil)
        · go_simp
          refine hK.out _ _ trivial (fun _ => ?_)
          clear hK K
          (try simp only [Act.put, List.setIfInBounds_toArray, List.set_cons_zero, List.set_cons_succ])
          refine wpAnyH_ready (rs := [10]) (by kernel_rfl) (by simp) ?_
          refine AllReadyH.cons (o := ({ dst := some 21, op := Op.load 3 (Operand.tmp 20), type := 3, pos := "law.go:14", after := #[{ on := 9, ground := Ground.data }], guard := none } : Oper)) rfl (fun K hK => ?_) AllReadyH.nil
          go_simp
          refine hK.out _ _ trivial (fun _ => ?_)
          clear hK K
          (try simp only [Act.put, List.setIfInBounds_toArray, List.set_cons_zero, List.set_cons_succ])
          refine wpAnyH_take (i := 16) (oi := ({ dst := some 27, op := Op.build 44 #[(0, Operand.tmp 16), (1, Operand.tmp 21), (2, Operand.tmp 26)], type := 44, pos := "law.go:14", after := #[{ on := 5, ground := Ground.data }, { on := 10, ground := Ground.data }, { on := 15, ground := Ground.data }], guard := none } : Oper)) (v := ?_) rfl (by kernel_rfl) (by kernel_rfl) (by kernel_rfl) (fun _ _ _ h => h) (Or.inl ⟨by rfl, ?_⟩) hS ?_
          rotate_left
          · intro w hSw; (try dsimp only at hSw); go_simp; (try with_reducible rfl)
          simp only [Act.put, List.setIfInBounds_toArray, List.set_cons_zero, List.set_cons_succ]
          refine wpAnyH_ready (rs := [17]) (by kernel_rfl) (by simp) ?_
          refine AllReadyH.cons (o := ({ dst := some 28, op := Op.buildSlice 30 1 #[(0, Operand.tmp 27)], type := 30, pos := "law.go:14", after := #[{ on := 16, ground := Ground.data }], guard := none } : Oper)) rfl (fun K hK => ?_) AllReadyH.nil
          go_simp
          refine hK.out _ _ trivial (fun _ => ?_)
          clear hK K
          (try simp only [Act.put, List.setIfInBounds_toArray, List.set_cons_zero, List.set_cons_succ])
          refine wpAnyH_ready (rs := [18]) (by kernel_rfl) (by simp) ?_
          refine AllReadyH.cons (o := ({ dst := some 29, op := Op.call { callee := Callee.builtin Builtin.append, args := #[Operand.tmp 11, Operand.tmp 28], argTypes := #[30, 30] }, type := 30, pos := "law.go:14", after := #[{ on := 0, ground := Ground.data }, { on := 17, ground := Ground.data }], guard := none } : Oper)) rfl (fun K hK => ?_) AllReadyH.nil
          refine append_ref_wp w20 _ _ rfl w.heap.size _ (l.take k) rfl O20.out ⟨op, col, ⟨xk, xn, xb, xs⟩⟩ _ rfl rfl (by have := HLL.out; simp; omega) HSZ.out rfl ?_
          intro v2 w7 own2 gr2
          have O7 := hid own2
          have B7 := hid (Below.grown B20.out gr2 HSZ.out (fun q e => (World.ownsRow.lt O20.out q e).1))
          clear own2 gr2
          refine hK.out _ _ trivial (fun _ => ?_)
          clear hK K
          (try simp only [Act.put, List.setIfInBounds_toArray, List.set_cons_zero, List.set_cons_succ])
          refine wpAnyH_take (i := 19) (oi := ({ dst := some 3, op := Op.assign (Operand.tmp 29), type := 30, pos := "law.go:14", after := #[{ on := 18, ground := Ground.data }, { on := 18, ground := Ground.chain }, { on := 0, ground := Ground.phase }, { on := 1, ground := Ground.phase }, { on := 2, ground := Ground.phase }, { on := 3, ground := Ground.phase }, { on := 4, ground := Ground.phase }, { on := 5, ground := Ground.phase }, { on := 6, ground := Ground.phase }, { on := 7, ground := Ground.phase }, { on := 8, ground := Ground.phase }, { on := 9, ground := Ground.phase }, { on := 10, ground := Ground.phase }, { on := 11, ground := Ground.phase }, { on := 12, ground := Ground.phase }, { on := 13, ground := Ground.phase }, { on := 14, ground := Ground.phase }, { on := 15, ground := Ground.phase }, { on := 16, ground := Ground.phase }, { on := 17, ground := Ground.phase }, { on := 18, ground := Ground.phase }], guard := none } : Oper)) (v := ?_) rfl (by kernel_rfl) (by kernel_rfl) (by kernel_rfl) (fun _ _ _ h => h) (Or.inl ⟨by rfl, ?_⟩) hS ?_
          rotate_left
          · intro w hSw; (try dsimp only at hSw); go_simp; (try with_reducible rfl)
          simp only [Act.put, List.setIfInBounds_toArray, List.set_cons_zero, List.set_cons_succ]
          refine wpAnyH_done (by kernel_rfl) ?_ _
          go_wp2_with fail
          go_roundw
          case rel => exact ⟨k + 1, v2, by omega, by first | rfl | go_num, rfl, HNX.out ▸ O7.out, B7.out⟩
          case measure => simp [intOf] <;> omega
        · go_simp
          refine hK.out _ _ trivial (fun _ => ?_)
          clear hK K
          (try simp only [Act.put, List.setIfInBounds_toArray, List.set_cons_zero, List.set_cons_succ])
          refine wpAnyH_ready (rs := [5]) (by kernel_rfl) (by simp) ?_
          refine AllReadyH.cons (o := ({ dst := some 16, op := Op.load 3 (Operand.tmp 15), type := 3, pos := "law.go:14", after := #[{ on := 4, ground := Ground.data }], guard := none } : Oper)) rfl (fun K hK => ?_) AllReadyH.nil
          go_simp
          refine hK.out _ _ trivial (fun _ => ?_)
          clear hK K
          (try simp only [Act.put, List.setIfInBounds_toArray, List.set_cons_zero, List.set_cons_succ])
          refine wpAnyH_take (i := 16) (oi := ({ dst := some 27, op := Op.build 44 #[(0, Operand.tmp 16), (1, Operand.tmp 21), (2, Operand.tmp 26)], type := 44, pos := "law.go:14", after := #[{ on := 5, ground := Ground.data }, { on := 10, ground := Ground.data }, { on := 15, ground := Ground.data }], guard := none } : Oper)) (v := ?_) rfl (by kernel_rfl) (by kernel_rfl) (by kernel_rfl) (fun _ _ _ h => h) (Or.inl ⟨by rfl, ?_⟩) hS ?_
          rotate_left
          · intro w hSw; (try dsimp only at hSw); go_simp; (try with_reducible rfl)
          simp only [Act.put, List.setIfInBounds_toArray, List.set_cons_zero, List.set_cons_succ]
          refine wpAnyH_ready (rs := [17]) (by kernel_rfl) (by simp) ?_
          refine AllReadyH.cons (o := ({ dst := some 28, op := Op.buildSlice 30 1 #[(0, Operand.tmp 27)], type := 30, pos := "law.go:14", after := #[{ on := 16, ground := Ground.data }], guard := none } : Oper)) rfl (fun K hK => ?_) AllReadyH.nil
          go_simp
          refine hK.out _ _ trivial (fun _ => ?_)
          clear hK K
          (try simp only [Act.put, List.setIfInBounds_toArray, List.set_cons_zero, List.set_cons_succ])
          refine wpAnyH_ready (rs := [18]) (by kernel_rfl) (by simp) ?_
          refine AllReadyH.cons (o := ({ dst := some 29, op := Op.call { callee := Callee.builtin Builtin.append, args := #[Operand.tmp 11, Operand.tmp 28], argTypes := #[30, 30] }, type := 30, pos := "law.go:14", after := #[{ on := 0, ground := Ground.data }, { on := 17, ground := Ground.data }], guard := none } : Oper)) rfl (fun K hK => ?_) AllReadyH.nil
          refine append_ref_wp w20 _ _ rfl w.heap.size _ (l.take k) rfl O20.out ⟨op, col, ⟨xk, xn, xb, xs⟩⟩ _ rfl rfl (by have := HLL.out; simp; omega) HSZ.out rfl ?_
          intro v2 w7 own2 gr2
          have O7 := hid own2
          have B7 := hid (Below.grown B20.out gr2 HSZ.out (fun q e => (World.ownsRow.lt O20.out q e).1))
          clear own2 gr2
          refine hK.out _ _ trivial (fun _ => ?_)
          clear hK K
          (try simp only [Act.put, List.setIfInBounds_toArray, List.set_cons_zero, List.set_cons_succ])
          refine wpAnyH_take (i := 19) (oi := ({ dst := some 3, op := Op.assign (Operand.tmp 29), type := 30, pos := "law.go:14", after := #[{ on := 18, ground := Ground.data }, { on := 18, ground := Ground.chain }, { on := 0, ground := Ground.phase }, { on := 1, ground := Ground.phase }, { on := 2, ground := Ground.phase }, { on := 3, ground := Ground.phase }, { on := 4, ground := Ground.phase }, { on := 5, ground := Ground.phase }, { on := 6, ground := Ground.phase }, { on := 7, ground := Ground.phase }, { on := 8, ground := Ground.phase }, { on := 9, ground := Ground.phase }, { on := 10, ground := Ground.phase }, { on := 11, ground := Ground.phase }, { on := 12, ground := Ground.phase }, { on := 13, ground := Ground.phase }, { on := 14, ground := Ground.phase }, { on := 15, ground := Ground.phase }, { on := 16, ground := Ground.phase }, { on := 17, ground := Ground.phase }, { on := 18, ground := Ground.phase }], guard := none } : Oper)) (v := ?_) rfl (by kernel_rfl) (by kernel_rfl) (by kernel_rfl) (fun _ _ _ h => h) (Or.inl ⟨by rfl, ?_⟩) hS ?_
          rotate_left
          · intro w hSw; (try dsimp only at hSw); go_simp; (try with_reducible rfl)
          simp only [Act.put, List.setIfInBounds_toArray, List.set_cons_zero, List.set_cons_succ]
          refine wpAnyH_done (by kernel_rfl) ?_ _
          go_wp2_with fail
          go_roundw
          case rel => exact ⟨k + 1, v2, by omega, by first | rfl | go_num, rfl, HNX.out ▸ O7.out, B7.out⟩
          case measure => simp [intOf] <;> omega
    · obtain rfl : k = l.length := by omega
      rw [List.take_length] at hown
      clear hkl
      go_wp2_with fail
      go_ret
      exact ⟨_, rfl, hown, hbel⟩
end Go.Proofs.Ytfdehigepgeknaa
