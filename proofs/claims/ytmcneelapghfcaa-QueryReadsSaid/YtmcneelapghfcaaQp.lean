/-
  Contracts and laws of the layers below, put together: Qp. Conditions: where they are named.
-/
import Derived.Test.YtmcneelapghfcaaQe
import Derived.Test.YtmcneelapghfcaaBp

namespace Go.Proofs.Ytmcneelapghfcaa
open Go.RowKit Pd

theorem Try.infoRNode : (Try.prog.info? 83).map (fun i => (i.zero, i.size, i.bytes)) = some (some (.agg #[.int .i64 0, .int .i64 0, .int .i64 0, .int .i64 0, .int .u64 0, .string ⟨#[]⟩]), 6, 56) := by kernel_rfl
/-- the reference's nodes of the call's own -/
def OwnR (w : World) (B : Nat) (v : Value) (l : List N) : Prop := w.ownsRow B 83 6 v l.length (ncells l)
theorem OwnR.below {w w' : World} {B : Nat} {v : Value} {l : List N} (h : OwnR w B v l) (hb : Below w.heap.size w w') : OwnR w' B v l := own_below h hb
theorem OwnR.at {w : World} {B : Nat} {v : Value} {l : List N} (h : OwnR w B v l) : NsAt w v l := NsAt.own h
theorem OwnR.nil (w : World) (B : Nat) : OwnR w B (.slice none 0 0) [] := World.ownsRow_nil _ _ _ _
theorem append_ref_wp (w : World) {W : World} {o : Oper} {a : Act} {K : Act → World → Prop} {Q : Exit → Act → World → Prop} (sl x : Operand)
    (ho : o.op = .call { callee := .builtin .append, args := #[sl, x], argTypes := #[37, 37] })
    (B : Nat) (v : Value) (l : List N) (hs : a.eval sl = v) (hown : OwnR w B v l) (c : N) (g : Nat) (hg : g = w.heap.size) (hx : a.eval x = .slice (some ⟨g, 0, none⟩) 1 1) (hlen : l.length ≤ 1000000) (hB : B ≤ w.heap.size)
    (hW : W = w.alloc (.cells #[.int .i64 c.op, .int .i64 c.col, .int .i64 c.v.k, .int .i64 c.v.n, .int .u64 (c.v.b : Int), .string c.v.s] 83))
    (h : ∀ v' w', OwnR w' B v' (l ++ [c]) → w.grownBy w' v.ownBlock → K (a.put o.dst v') w') : o.wp Try.prog a W K Q := by
  subst hW
  obtain ⟨i0, hi, hz0, hz1, hz2⟩ := info_parts Try.infoRNode
  subst hg
  refine wp_append_own _ sl x 37 ho B 83 i0 _ 6 56 Try.underlying37 hi hz0 hz1 hz2 rfl (by decide) v l.length (ncells l) hs (hown.alloc _) ⟨w.heap.size, 0, none⟩ 1 1 (ncells [c]) hx rfl (cell_six w _ _ rfl) (fun y hy => ncells_one_cell [c] y hy) ?_ ?_ ?_ ?_
  · unfold maxLen; omega
  · omega
  · simp; omega
  · intro v' w' hown' hgrow _
    refine h v' w' (by unfold OwnR; rw [ncells_append, List.length_append]; exact hown') ?_
    refine ⟨hgrow.os, hgrow.tape, hgrow.output, Nat.le_trans (by simp) hgrow.size, fun k hk hne => ?_⟩
    rw [hgrow.block k (by simp; omega) hne]
    exact Below.heap_alloc w _ k hk
set_option maxRecDepth 100000 in
set_option maxHeartbeats 6400000 in
theorem plain_any (v : Value) (l : List N) (w : World) (hv : NsAt w v l) (hl : l.length ≤ 1000000) : Calls Try.prog 27 #[v] w fun e w' => ∃ v', e = .returned v' ∧ OwnR w' w.heap.size v' l ∧ Below w.heap.size w w' := by
  obtain ⟨adr, cap, rfl, hc⟩ := hv
  have HC := hid hc
  have HLL := hid hl
  clear hc
  go_enter Try.func27, Try.ntmps27
  go_wp2_with fail
  go_loopw [4, 3] (fun i o wr => ∃ (k : Nat) (o' : Value), k ≤ l.length ∧ i = .int .i64 (k : Int) ∧ o = o' ∧ OwnR wr w.heap.size o' (l.take k) ∧ Below w.heap.size w wr) (fun i _ _ => l.length - (intOf i).toNat)
  case atStart => exact ⟨0, _, by omega, rfl, rfl, OwnR.nil _ _, Below.refl _ _⟩
  case round =>
    obtain ⟨k, o', hk, rfl, rfl, hown, hbel⟩ := hrel
    obtain ⟨w4, rfl⟩ : ∃ w4 : World, w4 = wr := ⟨_, rfl⟩
    have hk0 : (0 : Int) ≤ (k : Int) := by omega
    by_cases hkl : k < l.length
    · have hkl' : (k : Int) < (l.length : Int) := by omega
      obtain ⟨g, off, rfl, q0, q1, q2, q3, q4, q5⟩ := HC.out k hkl
      have HNX : Hid (l.take k ++ [l[k]] = l.take (k + 1)) := (take_next l k hkl).symm
      generalize l[k] = x at q0 q1 q2 q3 q4 q5 HNX
      obtain ⟨op, col, ⟨xk, xn, xb, xs⟩⟩ := x
      simp only at q0 q1 q2 q3 q4 q5
      go_wp2_with fail
      refine wp_region_held_drew (S := fun _ => True) (by kernel_rfl) trivial (fun hS => ?_)
      obtain ⟨w20, hw20⟩ : ∃ w20, w4.drew = w20 := ⟨_, rfl⟩
      have hd20 : Below w4.heap.size w4 w20 := hw20 ▸ (Below.refl _ _).drew
      rw [hw20]
      have B20 := hid (hnext hbel hd20)
      have O20 := hid (OwnR.below hown hd20)
      have HSZ : Hid (w.heap.size ≤ w20.heap.size) := B20.out.size
      replace q0 := hkeep q0 (hnext hbel hd20)
      replace q1 := hkeep q1 (hnext hbel hd20)
      replace q2 := hkeep q2 (hnext hbel hd20)
      replace q3 := hkeep q3 (hnext hbel hd20)
      replace q4 := hkeep q4 (hnext hbel hd20)
      replace q5 := hkeep q5 (hnext hbel hd20)
      clear hd20 hw20 hbel hown
      refine wT 0 hS ?_
      refine wT 1 hS ?_
      refine wT 2 hS ?_
      refine wT 3 hS ?_
      refine wT 4 hS ?_
      refine wT 6 hS ?_
      refine wT 7 hS ?_
      refine wT 8 hS ?_
      refine wT 9 hS ?_
      refine wT 11 hS ?_
      refine wT 12 hS ?_
      refine wT 13 hS ?_
      refine wT 14 hS ?_
      refine wpAnyH_ready (rs := [5, 10, 15]) (by kernel_rfl) (by simp) ?_
      refine wC (fun K hK => ?_) (wC (fun K hK => ?_) (wC (fun K hK => ?_) AllReadyH.nil))
      · go_simp
        refine hK.out _ _ trivial (fun _ => ?_)
        clear hK K
        (try simp only [Act.put, List.setIfInBounds_toArray, List.set_cons_zero, List.set_cons_succ])
        refine wpAnyH_ready (rs := [10, 15]) (by kernel_rfl) (by simp) ?_
        refine wC (fun K hK => ?_) (wC (fun K hK => ?_) AllReadyH.nil)
        · go_simp
          refine hK.out _ _ trivial (fun _ => ?_)
          clear hK K
          (try simp only [Act.put, List.setIfInBounds_toArray, List.set_cons_zero, List.set_cons_succ])
          refine wpAnyH_ready (rs := [15]) (by kernel_rfl) (by simp) ?_
          refine wC (fun K hK => ?_) AllReadyH.nil
          go_simp
          refine hK.out _ _ trivial (fun _ => ?_)
          clear hK K
          (try simp only [Act.put, List.setIfInBounds_toArray, List.set_cons_zero, List.set_cons_succ])
          refine wT 16 hS ?_
          refine wpAnyH_ready (rs := [17]) (by kernel_rfl) (by simp) ?_
          refine wC (fun K hK => ?_) AllReadyH.nil
          go_simp
          refine hK.out _ _ trivial (fun _ => ?_)
          clear hK K
          (try simp only [Act.put, List.setIfInBounds_toArray, List.set_cons_zero, List.set_cons_succ])
          refine wpAnyH_ready (rs := [18]) (by kernel_rfl) (by simp) ?_
          refine wC (fun K hK => ?_) AllReadyH.nil
          refine append_ref_wp w20 _ _ rfl w.heap.size _ (l.take k) rfl O20.out ⟨op, col, ⟨xk, xn, xb, xs⟩⟩ _ rfl rfl (by have := HLL.out; simp; omega) HSZ.out rfl ?_
          intro v2 w7 own2 gr2
          have O7 := hid own2
          have B7 := hid (Below.grown B20.out gr2 HSZ.out (fun q e => (World.ownsRow.lt O20.out q e).1))
          clear own2 gr2
          refine hK.out _ _ trivial (fun _ => ?_)
          clear hK K
          (try simp only [Act.put, List.setIfInBounds_toArray, List.set_cons_zero, List.set_cons_succ])
          refine wT 19 hS ?_
          refine wpAnyH_done (by kernel_rfl) ?_ _
          go_wp2_with fail
          go_roundw
          case rel => exact ⟨k + 1, v2, by omega, by first | rfl | go_num, rfl, HNX.out ▸ O7.out, B7.out⟩
          case measure => simp [intOf] <;> omega
        · go_simp
          refine hK.out _ _ trivial (fun _ => ?_)
          clear hK K
          (try simp only [Act.put, List.setIfInBounds_toArray, List.set_cons_zero, List.set_cons_succ])
          refine wpAnyH_ready (rs := [10]) (by kernel_rfl) (by simp) ?_
          refine wC (fun K hK => ?_) AllReadyH.nil
          go_simp
          refine hK.out _ _ trivial (fun _ => ?_)
          clear hK K
          (try simp only [Act.put, List.setIfInBounds_toArray, List.set_cons_zero, List.set_cons_succ])
          refine wT 16 hS ?_
          refine wpAnyH_ready (rs := [17]) (by kernel_rfl) (by simp) ?_
          refine wC (fun K hK => ?_) AllReadyH.nil
          go_simp
          refine hK.out _ _ trivial (fun _ => ?_)
          clear hK K
          (try simp only [Act.put, List.setIfInBounds_toArray, List.set_cons_zero, List.set_cons_succ])
          refine wpAnyH_ready (rs := [18]) (by kernel_rfl) (by simp) ?_
          refine wC (fun K hK => ?_) AllReadyH.nil
          refine append_ref_wp w20 _ _ rfl w.heap.size _ (l.take k) rfl O20.out ⟨op, col, ⟨xk, xn, xb, xs⟩⟩ _ rfl rfl (by have := HLL.out; simp; omega) HSZ.out rfl ?_
          intro v2 w7 own2 gr2
          have O7 := hid own2
          have B7 := hid (Below.grown B20.out gr2 HSZ.out (fun q e => (World.ownsRow.lt O20.out q e).1))
          clear own2 gr2
          refine hK.out _ _ trivial (fun _ => ?_)
          clear hK K
          (try simp only [Act.put, List.setIfInBounds_toArray, List.set_cons_zero, List.set_cons_succ])
          refine wT 19 hS ?_
          refine wpAnyH_done (by kernel_rfl) ?_ _
          go_wp2_with fail
          go_roundw
          case rel => exact ⟨k + 1, v2, by omega, by first | rfl | go_num, rfl, HNX.out ▸ O7.out, B7.out⟩
          case measure => simp [intOf] <;> omega
      · go_simp
        refine hK.out _ _ trivial (fun _ => ?_)
        clear hK K
        (try simp only [Act.put, List.setIfInBounds_toArray, List.set_cons_zero, List.set_cons_succ])
        refine wpAnyH_ready (rs := [5, 15]) (by kernel_rfl) (by simp) ?_
        refine wC (fun K hK => ?_) (wC (fun K hK => ?_) AllReadyH.nil)
        · go_simp
          refine hK.out _ _ trivial (fun _ => ?_)
          clear hK K
          (try simp only [Act.put, List.setIfInBounds_toArray, List.set_cons_zero, List.set_cons_succ])
          refine wpAnyH_ready (rs := [15]) (by kernel_rfl) (by simp) ?_
          refine wC (fun K hK => ?_) AllReadyH.nil
          go_simp
          refine hK.out _ _ trivial (fun _ => ?_)
          clear hK K
          (try simp only [Act.put, List.setIfInBounds_toArray, List.set_cons_zero, List.set_cons_succ])
          refine wT 16 hS ?_
          refine wpAnyH_ready (rs := [17]) (by kernel_rfl) (by simp) ?_
          refine wC (fun K hK => ?_) AllReadyH.nil
          go_simp
          refine hK.out _ _ trivial (fun _ => ?_)
          clear hK K
          (try simp only [Act.put, List.setIfInBounds_toArray, List.set_cons_zero, List.set_cons_succ])
          refine wpAnyH_ready (rs := [18]) (by kernel_rfl) (by simp) ?_
          refine wC (fun K hK => ?_) AllReadyH.nil
          refine append_ref_wp w20 _ _ rfl w.heap.size _ (l.take k) rfl O20.out ⟨op, col, ⟨xk, xn, xb, xs⟩⟩ _ rfl rfl (by have := HLL.out; simp; omega) HSZ.out rfl ?_
          intro v2 w7 own2 gr2
          have O7 := hid own2
          have B7 := hid (Below.grown B20.out gr2 HSZ.out (fun q e => (World.ownsRow.lt O20.out q e).1))
          clear own2 gr2
          refine hK.out _ _ trivial (fun _ => ?_)
          clear hK K
          (try simp only [Act.put, List.setIfInBounds_toArray, List.set_cons_zero, List.set_cons_succ])
          refine wT 19 hS ?_
          refine wpAnyH_done (by kernel_rfl) ?_ _
          go_wp2_with fail
          go_roundw
          case rel => exact ⟨k + 1, v2, by omega, by first | rfl | go_num, rfl, HNX.out ▸ O7.out, B7.out⟩
          case measure => simp [intOf] <;> omega
        · go_simp
          refine hK.out _ _ trivial (fun _ => ?_)
          clear hK K
          (try simp only [Act.put, List.setIfInBounds_toArray, List.set_cons_zero, List.set_cons_succ])
          refine wpAnyH_ready (rs := [5]) (by kernel_rfl) (by simp) ?_
          refine wC (fun K hK => ?_) AllReadyH.nil
          go_simp
          refine hK.out _ _ trivial (fun _ => ?_)
          clear hK K
          (try simp only [Act.put, List.setIfInBounds_toArray, List.set_cons_zero, List.set_cons_succ])
          refine wT 16 hS ?_
          refine wpAnyH_ready (rs := [17]) (by kernel_rfl) (by simp) ?_
          refine wC (fun K hK => ?_) AllReadyH.nil
          go_simp
          refine hK.out _ _ trivial (fun _ => ?_)
          clear hK K
          (try simp only [Act.put, List.setIfInBounds_toArray, List.set_cons_zero, List.set_cons_succ])
          refine wpAnyH_ready (rs := [18]) (by kernel_rfl) (by simp) ?_
          refine wC (fun K hK => ?_) AllReadyH.nil
          refine append_ref_wp w20 _ _ rfl w.heap.size _ (l.take k) rfl O20.out ⟨op, col, ⟨xk, xn, xb, xs⟩⟩ _ rfl rfl (by have := HLL.out; simp; omega) HSZ.out rfl ?_
          intro v2 w7 own2 gr2
          have O7 := hid own2
          have B7 := hid (Below.grown B20.out gr2 HSZ.out (fun q e => (World.ownsRow.lt O20.out q e).1))
          clear own2 gr2
          refine hK.out _ _ trivial (fun _ => ?_)
          clear hK K
          (try simp only [Act.put, List.setIfInBounds_toArray, List.set_cons_zero, List.set_cons_succ])
          refine wT 19 hS ?_
          refine wpAnyH_done (by kernel_rfl) ?_ _
          go_wp2_with fail
          go_roundw
          case rel => exact ⟨k + 1, v2, by omega, by first | rfl | go_num, rfl, HNX.out ▸ O7.out, B7.out⟩
          case measure => simp [intOf] <;> omega
      · go_simp
        refine hK.out _ _ trivial (fun _ => ?_)
        clear hK K
        (try simp only [Act.put, List.setIfInBounds_toArray, List.set_cons_zero, List.set_cons_succ])
        refine wpAnyH_ready (rs := [5, 10]) (by kernel_rfl) (by simp) ?_
        refine wC (fun K hK => ?_) (wC (fun K hK => ?_) AllReadyH.nil)
        · go_simp
          refine hK.out _ _ trivial (fun _ => ?_)
          clear hK K
          (try simp only [Act.put, List.setIfInBounds_toArray, List.set_cons_zero, List.set_cons_succ])
          refine wpAnyH_ready (rs := [10]) (by kernel_rfl) (by simp) ?_
          refine wC (fun K hK => ?_) AllReadyH.nil
          go_simp
          refine hK.out _ _ trivial (fun _ => ?_)
          clear hK K
          (try simp only [Act.put, List.setIfInBounds_toArray, List.set_cons_zero, List.set_cons_succ])
          refine wT 16 hS ?_
          refine wpAnyH_ready (rs := [17]) (by kernel_rfl) (by simp) ?_
          refine wC (fun K hK => ?_) AllReadyH.nil
          go_simp
          refine hK.out _ _ trivial (fun _ => ?_)
          clear hK K
          (try simp only [Act.put, List.setIfInBounds_toArray, List.set_cons_zero, List.set_cons_succ])
          refine wpAnyH_ready (rs := [18]) (by kernel_rfl) (by simp) ?_
          refine wC (fun K hK => ?_) AllReadyH.nil
          refine append_ref_wp w20 _ _ rfl w.heap.size _ (l.take k) rfl O20.out ⟨op, col, ⟨xk, xn, xb, xs⟩⟩ _ rfl rfl (by have := HLL.out; simp; omega) HSZ.out rfl ?_
          intro v2 w7 own2 gr2
          have O7 := hid own2
          have B7 := hid (Below.grown B20.out gr2 HSZ.out (fun q e => (World.ownsRow.lt O20.out q e).1))
          clear own2 gr2
          refine hK.out _ _ trivial (fun _ => ?_)
          clear hK K
          (try simp only [Act.put, List.setIfInBounds_toArray, List.set_cons_zero, List.set_cons_succ])
          refine wT 19 hS ?_
          refine wpAnyH_done (by kernel_rfl) ?_ _
          go_wp2_with fail
          go_roundw
          case rel => exact ⟨k + 1, v2, by omega, by first | rfl | go_num, rfl, HNX.out ▸ O7.out, B7.out⟩
          case measure => simp [intOf] <;> omega
        · go_simp
          refine hK.out _ _ trivial (fun _ => ?_)
          clear hK K
          (try simp only [Act.put, List.setIfInBounds_toArray, List.set_cons_zero, List.set_cons_succ])
          refine wpAnyH_ready (rs := [5]) (by kernel_rfl) (by simp) ?_
          refine wC (fun K hK => ?_) AllReadyH.nil
          go_simp
          refine hK.out _ _ trivial (fun _ => ?_)
          clear hK K
          (try simp only [Act.put, List.setIfInBounds_toArray, List.set_cons_zero, List.set_cons_succ])
          refine wT 16 hS ?_
          refine wpAnyH_ready (rs := [17]) (by kernel_rfl) (by simp) ?_
          refine wC (fun K hK => ?_) AllReadyH.nil
          go_simp
          refine hK.out _ _ trivial (fun _ => ?_)
          clear hK K
          (try simp only [Act.put, List.setIfInBounds_toArray, List.set_cons_zero, List.set_cons_succ])
          refine wpAnyH_ready (rs := [18]) (by kernel_rfl) (by simp) ?_
          refine wC (fun K hK => ?_) AllReadyH.nil
          refine append_ref_wp w20 _ _ rfl w.heap.size _ (l.take k) rfl O20.out ⟨op, col, ⟨xk, xn, xb, xs⟩⟩ _ rfl rfl (by have := HLL.out; simp; omega) HSZ.out rfl ?_
          intro v2 w7 own2 gr2
          have O7 := hid own2
          have B7 := hid (Below.grown B20.out gr2 HSZ.out (fun q e => (World.ownsRow.lt O20.out q e).1))
          clear own2 gr2
          refine hK.out _ _ trivial (fun _ => ?_)
          clear hK K
          (try simp only [Act.put, List.setIfInBounds_toArray, List.set_cons_zero, List.set_cons_succ])
          refine wT 19 hS ?_
          refine wpAnyH_done (by kernel_rfl) ?_ _
          go_wp2_with fail
          go_roundw
          case rel => exact ⟨k + 1, v2, by omega, by first | rfl | go_num, rfl, HNX.out ▸ O7.out, B7.out⟩
          case measure => simp [intOf] <;> omega
    · obtain rfl : k = l.length := by omega
      rw [List.take_length] at hown
      clear hkl
      go_wp2_with fail
      go_ret
      exact ⟨_, rfl, hown, hbel⟩
end Go.Proofs.Ytmcneelapghfcaa
