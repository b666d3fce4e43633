/-
  key.Prefix and the reference's: their contracts. Condition: the values can stand in memory.
-/
import Derived.Test.YtimcmpcfnddioaaKyX
import Derived.Test.YtimcmpcfnddioaaReg
namespace Go.Proofs.Ytimcmpcfnddioaa
open Go.RowKit

namespace Ky
def sameAt (p : Cd.V × Cd.V) : Bool := decide (p.1 = p.2) && p.1.right
/-- does one key begin another one? -/
def pre (a b : List Cd.V) : Bool := decide (a.length ≤ b.length) && (a.zip b).all sameAt
theorem pre_no {a b : List Cd.V} {k : Nat} (h1 : k < a.length) (h2 : k < b.length) (h : (decide (a[k] = b[k]) && a[k].right) = false) : pre a b = false := by
  have hm : (a[k], b[k]) ∈ a.zip b := by
    rw [← List.getElem_zip (h := by rw [List.length_zip]; omega)]
    exact List.getElem_mem _
  unfold pre
  rw [show (a.zip b).all sameAt = false from List.all_eq_false.2 ⟨_, hm, by unfold sameAt; rw [h]; decide⟩, Bool.and_false]
theorem pre_next {a b : List Cd.V} {k : Nat} (h1 : k < a.length) (h2 : k < b.length) (h0 : ((a.zip b).take k).all sameAt = true) (h : (decide (a[k] = b[k]) && a[k].right) = true) : ((a.zip b).take (k + 1)).all sameAt = true := by
  have hk : k < (a.zip b).length := by rw [List.length_zip]; omega
  rw [List.take_succ_eq_append_getElem hk, List.all_append, h0, List.getElem_zip]
  simp only [List.all_cons, List.all_nil, Bool.and_true, Bool.true_and]
  exact h
theorem pre_yes {a b : List Cd.V} (h : a.length ≤ b.length) (h0 : ((a.zip b).take a.length).all sameAt = true) : pre a b = true := by
  unfold pre
  rw [List.take_of_length_le (by rw [List.length_zip]; omega)] at h0
  rw [h0, decide_eq_true h]; rfl
theorem pre_short {a b : List Cd.V} (h : ¬ a.length ≤ b.length) : pre a b = false := by unfold pre; rw [decide_eq_false h]; rfl
end Ky
set_option maxRecDepth 100000 in
set_option maxHeartbeats 3200000 in
theorem prefix_any (v1 v2 : Value) (l r : List Cd.V) (w : World) (h1 : VsAt w v1 l) (h2 : VsAt w v2 r) (hok : ∀ x ∈ l, Vok x) (hl : l.length ≤ maxLen) (hr : r.length ≤ maxLen) :
    Calls Try.prog 16 #[v1, v2] w fun e w' => e = .returned (.bool (Ky.pre l r)) ∧ Below w.heap.size w w' := by
  obtain ⟨adr, cap, rfl, hc⟩ := h1
  obtain ⟨adr2, cap2, rfl, hc2⟩ := h2
  have HC := hid hc
  have HC2 := hid hc2
  have HOK := hid hok
  unfold maxLen at hl hr
  clear hc hc2 hok
  by_cases hlen : l.length ≤ r.length
  · have hlen' : ¬ (r.length : Int) < (l.length : Int) := by omega
    go_enter Try.func16, Try.ntmps16
    go_wp2_with fail
    go_loopw [13] (fun i wr => ∃ k : Nat, k ≤ l.length ∧ i = .int .i64 (k : Int) ∧ Hid (((l.zip r).take k).all Ky.sameAt = true) ∧ Below w.heap.size w wr) (fun i _ => l.length - (intOf i).toNat)
    case atStart => exact ⟨0, by omega, rfl, rfl, Below.refl _ _⟩
    case round =>
      obtain ⟨k, hk, rfl, htk, hbel⟩ := hrel
      obtain ⟨w4, rfl⟩ : ∃ w4 : World, w4 = wr := ⟨_, rfl⟩
      by_cases hlk : k < l.length
      · obtain ⟨g, off, rfl, q0, q1, q2, q3⟩ := HC.out k hlk
        obtain ⟨g2, off2, rfl, p0, p1, p2, p3⟩ := HC2.out k (by omega)
        have HNX := hid (Ky.pre_next hlk (Nat.lt_of_lt_of_le hlk hlen) htk.out)
        have HX := hid (Ky.pre_no hlk (Nat.lt_of_lt_of_le hlk hlen))
        obtain ⟨_, hxb, hs⟩ := HOK.out l[k] (List.getElem_mem hlk)
        generalize l[k] = x at q0 q1 q2 q3 HNX HX hs hxb
        generalize r[k]'(Nat.lt_of_lt_of_le hlk hlen) = y at p0 p1 p2 p3 HNX HX
        replace q0 := hkeep q0 hbel
        replace q1 := hkeep q1 hbel
        replace q2 := hkeep q2 hbel
        replace q3 := hkeep q3 hbel
        replace p0 := hkeep p0 hbel
        replace p1 := hkeep p1 hbel
        replace p2 := hkeep p2 hbel
        replace p3 := hkeep p3 hbel
        have hlk' : (k : Int) < l.length := by omega
        have hlk2 : (k : Int) < r.length := by omega
        have hk0 : (0 : Int) ≤ (k : Int) := by omega
        have cr0 := fun W => same_any x y hs W
        cases hsm : (decide (x = y) && x.right)
        · rw [hsm] at cr0
          have HN := hid (HX.out hsm)
          clear HX HNX hsm
          obtain ⟨xk, xn, xb, xs⟩ := x
          obtain ⟨yk, yn, yb, ys⟩ := y
          simp only at q0 q1 q2 q3 p0 p1 p2 p3 hs hxb
          unfold vv at cr0
          simp only at cr0
          have cr := hid cr0
          clear cr0
          go_wp2_with fail
          obtain ⟨w20, hw20⟩ : ∃ w20, (w4).drew = w20 := ⟨_, rfl⟩
          have hd20 : Below (w4).heap.size (w4) w20 := hw20 ▸ (Below.refl _ _).drew
          have mk20 : ∀ W, Below w20.heap.size w20 W → Below w20.heap.size w20 W ∧ W.cell? ⟨g, off + k * 4, none⟩ = some (.int .i64 xk) ∧ W.cell? ⟨g, off + k * 4 + 1, none⟩ = some (.int .i64 xn) ∧ W.cell? ⟨g, off + k * 4 + 2, none⟩ = some (.int .u64 (xb : Int)) ∧ W.cell? ⟨g, off + k * 4 + 3, none⟩ = some (.string xs) ∧ W.cell? ⟨g2, off2 + k * 4, none⟩ = some (.int .i64 yk) ∧ W.cell? ⟨g2, off2 + k * 4 + 1, none⟩ = some (.int .i64 yn) ∧ W.cell? ⟨g2, off2 + k * 4 + 2, none⟩ = some (.int .u64 (yb : Int)) ∧ W.cell? ⟨g2, off2 + k * 4 + 3, none⟩ = some (.string ys) := fun W h => ⟨h, hkeep (hkeep q0 hd20) h, hkeep (hkeep q1 hd20) h, hkeep (hkeep q2 hd20) h, hkeep (hkeep q3 hd20) h, hkeep (hkeep p0 hd20) h, hkeep (hkeep p1 hd20) h, hkeep (hkeep p2 hd20) h, hkeep (hkeep p3 hd20) h⟩
          refine wp_region_held_drew (S := (fun W => Below w20.heap.size w20 W ∧ W.cell? ⟨g, off + k * 4, none⟩ = some (.int .i64 xk) ∧ W.cell? ⟨g, off + k * 4 + 1, none⟩ = some (.int .i64 xn) ∧ W.cell? ⟨g, off + k * 4 + 2, none⟩ = some (.int .u64 (xb : Int)) ∧ W.cell? ⟨g, off + k * 4 + 3, none⟩ = some (.string xs) ∧ W.cell? ⟨g2, off2 + k * 4, none⟩ = some (.int .i64 yk) ∧ W.cell? ⟨g2, off2 + k * 4 + 1, none⟩ = some (.int .i64 yn) ∧ W.cell? ⟨g2, off2 + k * 4 + 2, none⟩ = some (.int .u64 (yb : Int)) ∧ W.cell? ⟨g2, off2 + k * 4 + 3, none⟩ = some (.string ys))) (by kernel_rfl) (by rw [hw20]; exact mk20 _ (Below.refl _ _)) (fun hS20 => ?_)
          rw [hw20] at hS20 ⊢
          clear hw20
          refine wpAnyH_take (i := 0) (oi := ({ dst := some 16, op := Op.move (Operand.tmp 0), type := 22, pos := "key.go:199", after := #[], guard := none } : Oper)) (v := ?_) rfl (by kernel_rfl) (by kernel_rfl) (by kernel_rfl) (fun _ _ _ h => h) (Or.inl ⟨by rfl, ?_⟩) hS20 ?_
          rotate_left
          · intro w hSw; (try dsimp only at hSw); go_simp; (try with_reducible rfl)
          simp only [Act.put, List.setIfInBounds_toArray, List.set_cons_zero, List.set_cons_succ]
          refine wpAnyH_take (i := 1) (oi := ({ dst := some 17, op := Op.move (Operand.tmp 5), type := 3, pos := "key.go:199", after := #[], guard := none } : Oper)) (v := ?_) rfl (by kernel_rfl) (by kernel_rfl) (by kernel_rfl) (fun _ _ _ h => h) (Or.inl ⟨by rfl, ?_⟩) hS20 ?_
          rotate_left
          · intro w hSw; (try dsimp only at hSw); go_simp; (try with_reducible rfl)
          simp only [Act.put, List.setIfInBounds_toArray, List.set_cons_zero, List.set_cons_succ]
          refine wpAnyH_take (i := 2) (oi := ({ dst := some 18, op := Op.indexAddr 22 (Operand.tmp 16) (Operand.tmp 17), type := 0, pos := "key.go:199", after := #[{ on := 0, ground := Ground.data }, { on := 1, ground := Ground.data }], guard := none } : Oper)) (v := ?_) rfl (by kernel_rfl) (by kernel_rfl) (by kernel_rfl) (fun _ _ _ h => h) (Or.inl ⟨by rfl, ?_⟩) hS20 ?_
          rotate_left
          · intro w hSw; (try dsimp only at hSw); go_simp; (try with_reducible rfl)
          simp only [Act.put, List.setIfInBounds_toArray, List.set_cons_zero, List.set_cons_succ]
          refine wpAnyH_take (i := 3) (oi := ({ dst := some 19, op := Op.load 39 (Operand.tmp 18), type := 39, pos := "key.go:199", after := #[{ on := 2, ground := Ground.data }], guard := none } : Oper)) (v := ?_) rfl (by kernel_rfl) (by kernel_rfl) (by kernel_rfl) (fun _ _ _ h => h) (Or.inl ⟨by rfl, ?_⟩) hS20 ?_
          rotate_left
          · intro w hSw; (try dsimp only at hSw); go_simp; (try with_reducible rfl)
          simp only [Act.put, List.setIfInBounds_toArray, List.set_cons_zero, List.set_cons_succ]
          refine wpAnyH_take (i := 4) (oi := ({ dst := some 20, op := Op.move (Operand.tmp 1), type := 22, pos := "key.go:199", after := #[], guard := none } : Oper)) (v := ?_) rfl (by kernel_rfl) (by kernel_rfl) (by kernel_rfl) (fun _ _ _ h => h) (Or.inl ⟨by rfl, ?_⟩) hS20 ?_
          rotate_left
          · intro w hSw; (try dsimp only at hSw); go_simp; (try with_reducible rfl)
          simp only [Act.put, List.setIfInBounds_toArray, List.set_cons_zero, List.set_cons_succ]
          refine wpAnyH_take (i := 5) (oi := ({ dst := some 21, op := Op.move (Operand.tmp 5), type := 3, pos := "key.go:199", after := #[], guard := none } : Oper)) (v := ?_) rfl (by kernel_rfl) (by kernel_rfl) (by kernel_rfl) (fun _ _ _ h => h) (Or.inl ⟨by rfl, ?_⟩) hS20 ?_
          rotate_left
          · intro w hSw; (try dsimp only at hSw); go_simp; (try with_reducible rfl)
          simp only [Act.put, List.setIfInBounds_toArray, List.set_cons_zero, List.set_cons_succ]
          refine wpAnyH_take (i := 6) (oi := ({ dst := some 22, op := Op.indexAddr 22 (Operand.tmp 20) (Operand.tmp 21), type := 0, pos := "key.go:199", after := #[{ on := 4, ground := Ground.data }, { on := 5, ground := Ground.data }], guard := none } : Oper)) (v := ?_) rfl (by kernel_rfl) (by kernel_rfl) (by kernel_rfl) (fun _ _ _ h => h) (Or.inl ⟨by rfl, ?_⟩) hS20 ?_
          rotate_left
          · intro w hSw; (try dsimp only at hSw); go_simp; (try with_reducible rfl)
          simp only [Act.put, List.setIfInBounds_toArray, List.set_cons_zero, List.set_cons_succ]
          refine wpAnyH_take (i := 7) (oi := ({ dst := some 23, op := Op.load 39 (Operand.tmp 22), type := 39, pos := "key.go:199", after := #[{ on := 6, ground := Ground.data }], guard := none } : Oper)) (v := ?_) rfl (by kernel_rfl) (by kernel_rfl) (by kernel_rfl) (fun _ _ _ h => h) (Or.inl ⟨by rfl, ?_⟩) hS20 ?_
          rotate_left
          · intro w hSw; (try dsimp only at hSw); go_simp; (try with_reducible rfl)
          simp only [Act.put, List.setIfInBounds_toArray, List.set_cons_zero, List.set_cons_succ]
          refine wpAnyH_ready (rs := [8]) (by kernel_rfl) (by simp) ?_
          refine AllReadyH.cons (o := ({ dst := some 24, op := Op.call { callee := Callee.value (Operand.func 30), args := #[Operand.tmp 19, Operand.tmp 23], argTypes := #[39, 39] }, type := 4, pos := "key.go:199", after := #[{ on := 3, ground := Ground.data }, { on := 7, ground := Ground.data }], guard := none } : Oper)) rfl (fun K hK => ?_) AllReadyH.nil
          go_simp
          refine (cr.out _).mono ?_; rintro e w21 ⟨rfl, hb21⟩
          go_wp2_with fail
          refine hK.out _ _ (mk20 _ (hnext hS20.1 hb21)) (fun hS21 => ?_)
          clear hK K
          (try simp only [Act.put, List.setIfInBounds_toArray, List.set_cons_zero, List.set_cons_succ])
          clear hb21 hS20
          refine wpAnyH_take (i := 9) (oi := ({ dst := some 25, op := Op.unOp UnOp.not 4 (Operand.tmp 24), type := 4, pos := "key.go:199", after := #[{ on := 8, ground := Ground.data }], guard := none } : Oper)) (v := ?_) rfl (by kernel_rfl) (by kernel_rfl) (by kernel_rfl) (fun _ _ _ h => h) (Or.inl ⟨by rfl, ?_⟩) hS21 ?_
          rotate_left
          · intro w hSw; (try dsimp only at hSw); go_simp; (try with_reducible rfl)
          simp only [Act.put, List.setIfInBounds_toArray, List.set_cons_zero, List.set_cons_succ]
          refine wpAnyH_done (by kernel_rfl) ?_ _
          go_wp2_with fail
          go_ret
          rw [HN.out]
          exact ⟨rfl, hnext (hnext hbel hd20) hS21.1⟩
        · rw [hsm] at cr0
          have HT := hid (HNX.out hsm)
          clear HX HNX hsm
          obtain ⟨xk, xn, xb, xs⟩ := x
          obtain ⟨yk, yn, yb, ys⟩ := y
          simp only at q0 q1 q2 q3 p0 p1 p2 p3 hs hxb
          unfold vv at cr0
          simp only at cr0
          have cr := hid cr0
          clear cr0
          go_wp2_with fail
          obtain ⟨w20, hw20⟩ : ∃ w20, (w4).drew = w20 := ⟨_, rfl⟩
          have hd20 : Below (w4).heap.size (w4) w20 := hw20 ▸ (Below.refl _ _).drew
          have mk20 : ∀ W, Below w20.heap.size w20 W → Below w20.heap.size w20 W ∧ W.cell? ⟨g, off + k * 4, none⟩ = some (.int .i64 xk) ∧ W.cell? ⟨g, off + k * 4 + 1, none⟩ = some (.int .i64 xn) ∧ W.cell? ⟨g, off + k * 4 + 2, none⟩ = some (.int .u64 (xb : Int)) ∧ W.cell? ⟨g, off + k * 4 + 3, none⟩ = some (.string xs) ∧ W.cell? ⟨g2, off2 + k * 4, none⟩ = some (.int .i64 yk) ∧ W.cell? ⟨g2, off2 + k * 4 + 1, none⟩ = some (.int .i64 yn) ∧ W.cell? ⟨g2, off2 + k * 4 + 2, none⟩ = some (.int .u64 (yb : Int)) ∧ W.cell? ⟨g2, off2 + k * 4 + 3, none⟩ = some (.string ys) := fun W h => ⟨h, hkeep (hkeep q0 hd20) h, hkeep (hkeep q1 hd20) h, hkeep (hkeep q2 hd20) h, hkeep (hkeep q3 hd20) h, hkeep (hkeep p0 hd20) h, hkeep (hkeep p1 hd20) h, hkeep (hkeep p2 hd20) h, hkeep (hkeep p3 hd20) h⟩
          refine wp_region_held_drew (S := (fun W => Below w20.heap.size w20 W ∧ W.cell? ⟨g, off + k * 4, none⟩ = some (.int .i64 xk) ∧ W.cell? ⟨g, off + k * 4 + 1, none⟩ = some (.int .i64 xn) ∧ W.cell? ⟨g, off + k * 4 + 2, none⟩ = some (.int .u64 (xb : Int)) ∧ W.cell? ⟨g, off + k * 4 + 3, none⟩ = some (.string xs) ∧ W.cell? ⟨g2, off2 + k * 4, none⟩ = some (.int .i64 yk) ∧ W.cell? ⟨g2, off2 + k * 4 + 1, none⟩ = some (.int .i64 yn) ∧ W.cell? ⟨g2, off2 + k * 4 + 2, none⟩ = some (.int .u64 (yb : Int)) ∧ W.cell? ⟨g2, off2 + k * 4 + 3, none⟩ = some (.string ys))) (by kernel_rfl) (by rw [hw20]; exact mk20 _ (Below.refl _ _)) (fun hS20 => ?_)
          rw [hw20] at hS20 ⊢
          clear hw20
          refine wpAnyH_take (i := 0) (oi := ({ dst := some 16, op := Op.move (Operand.tmp 0), type := 22, pos := "key.go:199", after := #[], guard := none } : Oper)) (v := ?_) rfl (by kernel_rfl) (by kernel_rfl) (by kernel_rfl) (fun _ _ _ h => h) (Or.inl ⟨by rfl, ?_⟩) hS20 ?_
          rotate_left
          · intro w hSw; (try dsimp only at hSw); go_simp; (try with_reducible rfl)
          simp only [Act.put, List.setIfInBounds_toArray, List.set_cons_zero, List.set_cons_succ]
          refine wpAnyH_take (i := 1) (oi := ({ dst := some 17, op := Op.move (Operand.tmp 5), type := 3, pos := "key.go:199", after := #[], guard := none } : Oper)) (v := ?_) rfl (by kernel_rfl) (by kernel_rfl) (by kernel_rfl) (fun _ _ _ h => h) (Or.inl ⟨by rfl, ?_⟩) hS20 ?_
          rotate_left
          · intro w hSw; (try dsimp only at hSw); go_simp; (try with_reducible rfl)
          simp only [Act.put, List.setIfInBounds_toArray, List.set_cons_zero, List.set_cons_succ]
          refine wpAnyH_take (i := 2) (oi := ({ dst := some 18, op := Op.indexAddr 22 (Operand.tmp 16) (Operand.tmp 17), type := 0, pos := "key.go:199", after := #[{ on := 0, ground := Ground.data }, { on := 1, ground := Ground.data }], guard := none } : Oper)) (v := ?_) rfl (by kernel_rfl) (by kernel_rfl) (by kernel_rfl) (fun _ _ _ h => h) (Or.inl ⟨by rfl, ?_⟩) hS20 ?_
          rotate_left
          · intro w hSw; (try dsimp only at hSw); go_simp; (try with_reducible rfl)
          simp only [Act.put, List.setIfInBounds_toArray, List.set_cons_zero, List.set_cons_succ]
          refine wpAnyH_take (i := 3) (oi := ({ dst := some 19, op := Op.load 39 (Operand.tmp 18), type := 39, pos := "key.go:199", after := #[{ on := 2, ground := Ground.data }], guard := none } : Oper)) (v := ?_) rfl (by kernel_rfl) (by kernel_rfl) (by kernel_rfl) (fun _ _ _ h => h) (Or.inl ⟨by rfl, ?_⟩) hS20 ?_
          rotate_left
          · intro w hSw; (try dsimp only at hSw); go_simp; (try with_reducible rfl)
          simp only [Act.put, List.setIfInBounds_toArray, List.set_cons_zero, List.set_cons_succ]
          refine wpAnyH_take (i := 4) (oi := ({ dst := some 20, op := Op.move (Operand.tmp 1), type := 22, pos := "key.go:199", after := #[], guard := none } : Oper)) (v := ?_) rfl (by kernel_rfl) (by kernel_rfl) (by kernel_rfl) (fun _ _ _ h => h) (Or.inl ⟨by rfl, ?_⟩) hS20 ?_
          rotate_left
          · intro w hSw; (try dsimp only at hSw); go_simp; (try with_reducible rfl)
          simp only [Act.put, List.setIfInBounds_toArray, List.set_cons_zero, List.set_cons_succ]
          refine wpAnyH_take (i := 5) (oi := ({ dst := some 21, op := Op.move (Operand.tmp 5), type := 3, pos := "key.go:199", after := #[], guard := none } : Oper)) (v := ?_) rfl (by kernel_rfl) (by kernel_rfl) (by kernel_rfl) (fun _ _ _ h => h) (Or.inl ⟨by rfl, ?_⟩) hS20 ?_
          rotate_left
          · intro w hSw; (try dsimp only at hSw); go_simp; (try with_reducible rfl)
          simp only [Act.put, List.setIfInBounds_toArray, List.set_cons_zero, List.set_cons_succ]
          refine wpAnyH_take (i := 6) (oi := ({ dst := some 22, op := Op.indexAddr 22 (Operand.tmp 20) (Operand.tmp 21), type := 0, pos := "key.go:199", after := #[{ on := 4, ground := Ground.data }, { on := 5, ground := Ground.data }], guard := none } : Oper)) (v := ?_) rfl (by kernel_rfl) (by kernel_rfl) (by kernel_rfl) (fun _ _ _ h => h) (Or.inl ⟨by rfl, ?_⟩) hS20 ?_
          rotate_left
          · intro w hSw; (try dsimp only at hSw); go_simp; (try with_reducible rfl)
          simp only [Act.put, List.setIfInBounds_toArray, List.set_cons_zero, List.set_cons_succ]
          refine wpAnyH_take (i := 7) (oi := ({ dst := some 23, op := Op.load 39 (Operand.tmp 22), type := 39, pos := "key.go:199", after := #[{ on := 6, ground := Ground.data }], guard := none } : Oper)) (v := ?_) rfl (by kernel_rfl) (by kernel_rfl) (by kernel_rfl) (fun _ _ _ h => h) (Or.inl ⟨by rfl, ?_⟩) hS20 ?_
          rotate_left
          · intro w hSw; (try dsimp only at hSw); go_simp; (try with_reducible rfl)
          simp only [Act.put, List.setIfInBounds_toArray, List.set_cons_zero, List.set_cons_succ]
          refine wpAnyH_ready (rs := [8]) (by kernel_rfl) (by simp) ?_
          refine AllReadyH.cons (o := ({ dst := some 24, op := Op.call { callee := Callee.value (Operand.func 30), args := #[Operand.tmp 19, Operand.tmp 23], argTypes := #[39, 39] }, type := 4, pos := "key.go:199", after := #[{ on := 3, ground := Ground.data }, { on := 7, ground := Ground.data }], guard := none } : Oper)) rfl (fun K hK => ?_) AllReadyH.nil
          go_simp
          refine (cr.out _).mono ?_; rintro e w21 ⟨rfl, hb21⟩
          go_wp2_with fail
          refine hK.out _ _ (mk20 _ (hnext hS20.1 hb21)) (fun hS21 => ?_)
          clear hK K
          (try simp only [Act.put, List.setIfInBounds_toArray, List.set_cons_zero, List.set_cons_succ])
          clear hb21 hS20
          refine wpAnyH_take (i := 9) (oi := ({ dst := some 25, op := Op.unOp UnOp.not 4 (Operand.tmp 24), type := 4, pos := "key.go:199", after := #[{ on := 8, ground := Ground.data }], guard := none } : Oper)) (v := ?_) rfl (by kernel_rfl) (by kernel_rfl) (by kernel_rfl) (fun _ _ _ h => h) (Or.inl ⟨by rfl, ?_⟩) hS21 ?_
          rotate_left
          · intro w hSw; (try dsimp only at hSw); go_simp; (try with_reducible rfl)
          simp only [Act.put, List.setIfInBounds_toArray, List.set_cons_zero, List.set_cons_succ]
          refine wpAnyH_done (by kernel_rfl) ?_ _
          go_wp2_with fail
          go_roundw
          case rel => exact ⟨k + 1, by omega, by go_num, HT, hnext (hnext hbel hd20) hS21.1⟩
          case measure => simp [intOf]; omega
      · obtain rfl : k = l.length := by omega
        have HE := hid (Ky.pre_yes hlen htk.out)
        go_wp2_with fail
        go_ret
        rw [HE.out]
        exact ⟨rfl, hbel⟩
  · have hlen' : (r.length : Int) < (l.length : Int) := by omega
    have HE := hid (Ky.pre_short hlen)
    clear hlen
    go_enter Try.func16, Try.ntmps16
    go_wp2_with fail
    go_ret
    rw [HE.out]
    exact ⟨rfl, Below.refl _ _⟩
set_option maxRecDepth 100000 in
set_option maxHeartbeats 3200000 in
theorem prefixR_any (v1 v2 : Value) (l r : List Cd.V) (w : World) (h1 : VsAt w v1 l) (h2 : VsAt w v2 r) (hok : ∀ x ∈ l, Vok x) (hl : l.length ≤ maxLen) (hr : r.length ≤ maxLen) :
    Calls Try.prog 17 #[v1, v2] w fun e w' => e = .returned (.bool (Ky.pre l r)) ∧ Below w.heap.size w w' := by
  obtain ⟨adr, cap, rfl, hc⟩ := h1
  obtain ⟨adr2, cap2, rfl, hc2⟩ := h2
  have HC := hid hc
  have HC2 := hid hc2
  have HOK := hid hok
  unfold maxLen at hl hr
  clear hc hc2 hok
  by_cases hlen : l.length ≤ r.length
  · have hlen' : ¬ (r.length : Int) < (l.length : Int) := by omega
    go_enter Try.func17, Try.ntmps17
    go_wp2_with fail
    go_loopw [5] (fun i wr => ∃ k : Nat, k ≤ l.length ∧ i = .int .i64 (k : Int) ∧ Hid (((l.zip r).take k).all Ky.sameAt = true) ∧ Below w.heap.size w wr) (fun i _ => l.length - (intOf i).toNat)
    case atStart => exact ⟨0, by omega, rfl, rfl, Below.refl _ _⟩
    case round =>
      obtain ⟨k, hk, rfl, htk, hbel⟩ := hrel
      obtain ⟨w4, rfl⟩ : ∃ w4 : World, w4 = wr := ⟨_, rfl⟩
      by_cases hlk : k < l.length
      · obtain ⟨g, off, rfl, q0, q1, q2, q3⟩ := HC.out k hlk
        obtain ⟨g2, off2, rfl, p0, p1, p2, p3⟩ := HC2.out k (by omega)
        have HNX := hid (Ky.pre_next hlk (Nat.lt_of_lt_of_le hlk hlen) htk.out)
        have HX := hid (Ky.pre_no hlk (Nat.lt_of_lt_of_le hlk hlen))
        obtain ⟨_, hxb, hs⟩ := HOK.out l[k] (List.getElem_mem hlk)
        generalize l[k] = x at q0 q1 q2 q3 HNX HX hs hxb
        generalize r[k]'(Nat.lt_of_lt_of_le hlk hlen) = y at p0 p1 p2 p3 HNX HX
        replace q0 := hkeep q0 hbel
        replace q1 := hkeep q1 hbel
        replace q2 := hkeep q2 hbel
        replace q3 := hkeep q3 hbel
        replace p0 := hkeep p0 hbel
        replace p1 := hkeep p1 hbel
        replace p2 := hkeep p2 hbel
        replace p3 := hkeep p3 hbel
        have hlk' : (k : Int) < l.length := by omega
        have hlk2 : (k : Int) < r.length := by omega
        have hk0 : (0 : Int) ≤ (k : Int) := by omega
        have hq0 := va_neq x.k x.n x.b x.s y.k y.n y.b y.s _ (v_beq x y)
        have cr0 := fun W => rightR_any x.k x.n x.b x.s hs hxb W
        unfold vv at hq0 cr0
        cases hd : decide (x = y)
        · rw [hd] at hq0
          have HN := hid (HX.out (by rw [hd]; rfl))
          clear HX HNX hd cr0
          obtain ⟨xk, xn, xb, xs⟩ := x
          obtain ⟨yk, yn, yb, ys⟩ := y
          simp only at q0 q1 q2 q3 p0 p1 p2 p3 hs hxb
          simp only at hq0
          go_wp2_with fail
          obtain ⟨w20, hw20⟩ : ∃ w20, (w4).drew = w20 := ⟨_, rfl⟩
          have hd20 : Below (w4).heap.size (w4) w20 := hw20 ▸ (Below.refl _ _).drew
          have mk20 : ∀ W, Below w20.heap.size w20 W → Below w20.heap.size w20 W ∧ W.cell? ⟨g, off + k * 4, none⟩ = some (.int .i64 xk) ∧ W.cell? ⟨g, off + k * 4 + 1, none⟩ = some (.int .i64 xn) ∧ W.cell? ⟨g, off + k * 4 + 2, none⟩ = some (.int .u64 (xb : Int)) ∧ W.cell? ⟨g, off + k * 4 + 3, none⟩ = some (.string xs) ∧ W.cell? ⟨g2, off2 + k * 4, none⟩ = some (.int .i64 yk) ∧ W.cell? ⟨g2, off2 + k * 4 + 1, none⟩ = some (.int .i64 yn) ∧ W.cell? ⟨g2, off2 + k * 4 + 2, none⟩ = some (.int .u64 (yb : Int)) ∧ W.cell? ⟨g2, off2 + k * 4 + 3, none⟩ = some (.string ys) := fun W h => ⟨h, hkeep (hkeep q0 hd20) h, hkeep (hkeep q1 hd20) h, hkeep (hkeep q2 hd20) h, hkeep (hkeep q3 hd20) h, hkeep (hkeep p0 hd20) h, hkeep (hkeep p1 hd20) h, hkeep (hkeep p2 hd20) h, hkeep (hkeep p3 hd20) h⟩
          refine wp_region_held_drew (S := (fun W => Below w20.heap.size w20 W ∧ W.cell? ⟨g, off + k * 4, none⟩ = some (.int .i64 xk) ∧ W.cell? ⟨g, off + k * 4 + 1, none⟩ = some (.int .i64 xn) ∧ W.cell? ⟨g, off + k * 4 + 2, none⟩ = some (.int .u64 (xb : Int)) ∧ W.cell? ⟨g, off + k * 4 + 3, none⟩ = some (.string xs) ∧ W.cell? ⟨g2, off2 + k * 4, none⟩ = some (.int .i64 yk) ∧ W.cell? ⟨g2, off2 + k * 4 + 1, none⟩ = some (.int .i64 yn) ∧ W.cell? ⟨g2, off2 + k * 4 + 2, none⟩ = some (.int .u64 (yb : Int)) ∧ W.cell? ⟨g2, off2 + k * 4 + 3, none⟩ = some (.string ys))) (by kernel_rfl) (by rw [hw20]; exact mk20 _ (Below.refl _ _)) (fun hS20 => ?_)
          rw [hw20] at hS20 ⊢
          clear hw20
          refine wpAnyH_take (i := 0) (oi := ({ dst := some 17, op := Op.move (Operand.tmp 0), type := 22, pos := "ref.go:144", after := #[], guard := none } : Oper)) (v := ?_) rfl (by kernel_rfl) (by kernel_rfl) (by kernel_rfl) (fun _ _ _ h => h) (Or.inl ⟨by rfl, ?_⟩) hS20 ?_
          rotate_left
          · intro w hSw; (try dsimp only at hSw); go_simp; (try with_reducible rfl)
          simp only [Act.put, List.setIfInBounds_toArray, List.set_cons_zero, List.set_cons_succ]
          refine wpAnyH_take (i := 1) (oi := ({ dst := some 18, op := Op.move (Operand.tmp 5), type := 3, pos := "ref.go:144", after := #[], guard := none } : Oper)) (v := ?_) rfl (by kernel_rfl) (by kernel_rfl) (by kernel_rfl) (fun _ _ _ h => h) (Or.inl ⟨by rfl, ?_⟩) hS20 ?_
          rotate_left
          · intro w hSw; (try dsimp only at hSw); go_simp; (try with_reducible rfl)
          simp only [Act.put, List.setIfInBounds_toArray, List.set_cons_zero, List.set_cons_succ]
          refine wpAnyH_take (i := 2) (oi := ({ dst := some 19, op := Op.indexAddr 22 (Operand.tmp 17) (Operand.tmp 18), type := 0, pos := "ref.go:144", after := #[{ on := 0, ground := Ground.data }, { on := 1, ground := Ground.data }], guard := none } : Oper)) (v := ?_) rfl (by kernel_rfl) (by kernel_rfl) (by kernel_rfl) (fun _ _ _ h => h) (Or.inl ⟨by rfl, ?_⟩) hS20 ?_
          rotate_left
          · intro w hSw; (try dsimp only at hSw); go_simp; (try with_reducible rfl)
          simp only [Act.put, List.setIfInBounds_toArray, List.set_cons_zero, List.set_cons_succ]
          refine wpAnyH_take (i := 3) (oi := ({ dst := some 20, op := Op.load 39 (Operand.tmp 19), type := 39, pos := "ref.go:144", after := #[{ on := 2, ground := Ground.data }], guard := none } : Oper)) (v := ?_) rfl (by kernel_rfl) (by kernel_rfl) (by kernel_rfl) (fun _ _ _ h => h) (Or.inl ⟨by rfl, ?_⟩) hS20 ?_
          rotate_left
          · intro w hSw; (try dsimp only at hSw); go_simp; (try with_reducible rfl)
          simp only [Act.put, List.setIfInBounds_toArray, List.set_cons_zero, List.set_cons_succ]
          refine wpAnyH_take (i := 4) (oi := ({ dst := some 21, op := Op.move (Operand.tmp 1), type := 22, pos := "ref.go:144", after := #[], guard := none } : Oper)) (v := ?_) rfl (by kernel_rfl) (by kernel_rfl) (by kernel_rfl) (fun _ _ _ h => h) (Or.inl ⟨by rfl, ?_⟩) hS20 ?_
          rotate_left
          · intro w hSw; (try dsimp only at hSw); go_simp; (try with_reducible rfl)
          simp only [Act.put, List.setIfInBounds_toArray, List.set_cons_zero, List.set_cons_succ]
          refine wpAnyH_take (i := 5) (oi := ({ dst := some 22, op := Op.move (Operand.tmp 5), type := 3, pos := "ref.go:144", after := #[], guard := none } : Oper)) (v := ?_) rfl (by kernel_rfl) (by kernel_rfl) (by kernel_rfl) (fun _ _ _ h => h) (Or.inl ⟨by rfl, ?_⟩) hS20 ?_
          rotate_left
          · intro w hSw; (try dsimp only at hSw); go_simp; (try with_reducible rfl)
          simp only [Act.put, List.setIfInBounds_toArray, List.set_cons_zero, List.set_cons_succ]
          refine wpAnyH_take (i := 6) (oi := ({ dst := some 23, op := Op.indexAddr 22 (Operand.tmp 21) (Operand.tmp 22), type := 0, pos := "ref.go:144", after := #[{ on := 4, ground := Ground.data }, { on := 5, ground := Ground.data }], guard := none } : Oper)) (v := ?_) rfl (by kernel_rfl) (by kernel_rfl) (by kernel_rfl) (fun _ _ _ h => h) (Or.inl ⟨by rfl, ?_⟩) hS20 ?_
          rotate_left
          · intro w hSw; (try dsimp only at hSw); go_simp; (try with_reducible rfl)
          simp only [Act.put, List.setIfInBounds_toArray, List.set_cons_zero, List.set_cons_succ]
          refine wpAnyH_take (i := 7) (oi := ({ dst := some 24, op := Op.load 39 (Operand.tmp 23), type := 39, pos := "ref.go:144", after := #[{ on := 6, ground := Ground.data }], guard := none } : Oper)) (v := ?_) rfl (by kernel_rfl) (by kernel_rfl) (by kernel_rfl) (fun _ _ _ h => h) (Or.inl ⟨by rfl, ?_⟩) hS20 ?_
          rotate_left
          · intro w hSw; (try dsimp only at hSw); go_simp; (try with_reducible rfl)
          simp only [Act.put, List.setIfInBounds_toArray, List.set_cons_zero, List.set_cons_succ]
          refine wpAnyH_take (i := 8) (oi := ({ dst := some 25, op := Op.binOp BinOp.neq 39 (Operand.tmp 20) (Operand.tmp 24) 39, type := 4, pos := "ref.go:144", after := #[{ on := 3, ground := Ground.data }, { on := 7, ground := Ground.data }], guard := none } : Oper)) (v := ?_) rfl (by kernel_rfl) (by kernel_rfl) (by kernel_rfl) (fun _ _ _ h => h) (Or.inl ⟨by rfl, ?_⟩) hS20 ?_
          rotate_left
          · intro w hSw; (try dsimp only at hSw); go_simp; (try with_reducible rfl)
          simp only [Act.put, List.setIfInBounds_toArray, List.set_cons_zero, List.set_cons_succ]
          refine wpAnyH_take (i := 9) (oi := ({ dst := some 26, op := Op.move (Operand.tmp 25), type := 4, pos := "ref.go:144", after := #[{ on := 8, ground := Ground.data }], guard := none } : Oper)) (v := ?_) rfl (by kernel_rfl) (by kernel_rfl) (by kernel_rfl) (fun _ _ _ h => h) (Or.inl ⟨by rfl, ?_⟩) hS20 ?_
          rotate_left
          · intro w hSw; (try dsimp only at hSw); go_simp; (try with_reducible rfl)
          simp only [Act.put, List.setIfInBounds_toArray, List.set_cons_zero, List.set_cons_succ]
          refine wpAnyH_take (i := 10) (oi := ({ dst := some 27, op := Op.move (Operand.tmp 0), type := 22, pos := "ref.go:144", after := #[{ on := 9, ground := Ground.guard }], guard := some (9, false) } : Oper)) (v := undef) rfl (by kernel_rfl) (by kernel_rfl) (by kernel_rfl) (fun _ _ _ h => h) (Or.inr ⟨by rfl, rfl⟩) hS20 ?_
          simp only [Act.put, List.setIfInBounds_toArray, List.set_cons_zero, List.set_cons_succ]
          refine wpAnyH_take (i := 11) (oi := ({ dst := some 28, op := Op.move (Operand.tmp 5), type := 3, pos := "ref.go:144", after := #[{ on := 9, ground := Ground.guard }], guard := some (9, false) } : Oper)) (v := undef) rfl (by kernel_rfl) (by kernel_rfl) (by kernel_rfl) (fun _ _ _ h => h) (Or.inr ⟨by rfl, rfl⟩) hS20 ?_
          simp only [Act.put, List.setIfInBounds_toArray, List.set_cons_zero, List.set_cons_succ]
          refine wpAnyH_take (i := 12) (oi := ({ dst := some 29, op := Op.indexAddr 22 (Operand.tmp 27) (Operand.tmp 28), type := 0, pos := "ref.go:144", after := #[{ on := 10, ground := Ground.data }, { on := 11, ground := Ground.data }, { on := 9, ground := Ground.guard }], guard := some (9, false) } : Oper)) (v := undef) rfl (by kernel_rfl) (by kernel_rfl) (by kernel_rfl) (fun _ _ _ h => h) (Or.inr ⟨by rfl, rfl⟩) hS20 ?_
          simp only [Act.put, List.setIfInBounds_toArray, List.set_cons_zero, List.set_cons_succ]
          refine wpAnyH_take (i := 13) (oi := ({ dst := some 30, op := Op.load 39 (Operand.tmp 29), type := 39, pos := "ref.go:144", after := #[{ on := 12, ground := Ground.data }, { on := 9, ground := Ground.guard }], guard := some (9, false) } : Oper)) (v := undef) rfl (by kernel_rfl) (by kernel_rfl) (by kernel_rfl) (fun _ _ _ h => h) (Or.inr ⟨by rfl, rfl⟩) hS20 ?_
          simp only [Act.put, List.setIfInBounds_toArray, List.set_cons_zero, List.set_cons_succ]
          refine wpAnyH_take (i := 14) (oi := ({ dst := some 31, op := Op.call { callee := Callee.value (Operand.func 31), args := #[Operand.tmp 30], argTypes := #[39] }, type := 4, pos := "ref.go:144", after := #[{ on := 13, ground := Ground.data }, { on := 9, ground := Ground.chain }, { on := 9, ground := Ground.guard }], guard := some (9, false) } : Oper)) (v := undef) rfl (by kernel_rfl) (by kernel_rfl) (by kernel_rfl) (fun _ _ _ h => h) (Or.inr ⟨by rfl, rfl⟩) hS20 ?_
          simp only [Act.put, List.setIfInBounds_toArray, List.set_cons_zero, List.set_cons_succ]
          refine wpAnyH_take (i := 15) (oi := ({ dst := some 32, op := Op.unOp UnOp.not 4 (Operand.tmp 31), type := 4, pos := "ref.go:144", after := #[{ on := 14, ground := Ground.data }, { on := 9, ground := Ground.guard }], guard := some (9, false) } : Oper)) (v := undef) rfl (by kernel_rfl) (by kernel_rfl) (by kernel_rfl) (fun _ _ _ h => h) (Or.inr ⟨by rfl, rfl⟩) hS20 ?_
          simp only [Act.put, List.setIfInBounds_toArray, List.set_cons_zero, List.set_cons_succ]
          refine wpAnyH_take (i := 16) (oi := ({ dst := some 33, op := Op.pick (Operand.tmp 26) (Operand.const (Value.bool true)) (Operand.tmp 32), type := 4, pos := "ref.go:144", after := #[{ on := 9, ground := Ground.data }, { on := 15, ground := Ground.data }], guard := none } : Oper)) (v := ?_) rfl (by kernel_rfl) (by kernel_rfl) (by kernel_rfl) (fun _ _ _ h => h) (Or.inl ⟨by rfl, ?_⟩) hS20 ?_
          rotate_left
          · intro w hSw; (try dsimp only at hSw); go_simp; (try with_reducible rfl)
          simp only [Act.put, List.setIfInBounds_toArray, List.set_cons_zero, List.set_cons_succ]
          refine wpAnyH_done (by kernel_rfl) ?_ _
          go_wp2_with fail
          go_ret
          rw [HN.out]
          exact ⟨rfl, hnext (hnext hbel hd20) hS20.1⟩
        · rw [hd] at hq0
          cases hrt : Va.right x.k x.n x.b x.s
          · rw [hrt] at cr0
            have HN := hid (HX.out (by rw [hd]; exact hrt))
            clear HX HNX hd hrt
            obtain ⟨xk, xn, xb, xs⟩ := x
            obtain ⟨yk, yn, yb, ys⟩ := y
            simp only at q0 q1 q2 q3 p0 p1 p2 p3 hs hxb
            simp only at hq0 cr0
            have cr := hid cr0
            clear cr0
            go_wp2_with fail
            obtain ⟨w20, hw20⟩ : ∃ w20, (w4).drew = w20 := ⟨_, rfl⟩
            have hd20 : Below (w4).heap.size (w4) w20 := hw20 ▸ (Below.refl _ _).drew
            have mk20 : ∀ W, Below w20.heap.size w20 W → Below w20.heap.size w20 W ∧ W.cell? ⟨g, off + k * 4, none⟩ = some (.int .i64 xk) ∧ W.cell? ⟨g, off + k * 4 + 1, none⟩ = some (.int .i64 xn) ∧ W.cell? ⟨g, off + k * 4 + 2, none⟩ = some (.int .u64 (xb : Int)) ∧ W.cell? ⟨g, off + k * 4 + 3, none⟩ = some (.string xs) ∧ W.cell? ⟨g2, off2 + k * 4, none⟩ = some (.int .i64 yk) ∧ W.cell? ⟨g2, off2 + k * 4 + 1, none⟩ = some (.int .i64 yn) ∧ W.cell? ⟨g2, off2 + k * 4 + 2, none⟩ = some (.int .u64 (yb : Int)) ∧ W.cell? ⟨g2, off2 + k * 4 + 3, none⟩ = some (.string ys) := fun W h => ⟨h, hkeep (hkeep q0 hd20) h, hkeep (hkeep q1 hd20) h, hkeep (hkeep q2 hd20) h, hkeep (hkeep q3 hd20) h, hkeep (hkeep p0 hd20) h, hkeep (hkeep p1 hd20) h, hkeep (hkeep p2 hd20) h, hkeep (hkeep p3 hd20) h⟩
            refine wp_region_held_drew (S := (fun W => Below w20.heap.size w20 W ∧ W.cell? ⟨g, off + k * 4, none⟩ = some (.int .i64 xk) ∧ W.cell? ⟨g, off + k * 4 + 1, none⟩ = some (.int .i64 xn) ∧ W.cell? ⟨g, off + k * 4 + 2, none⟩ = some (.int .u64 (xb : Int)) ∧ W.cell? ⟨g, off + k * 4 + 3, none⟩ = some (.string xs) ∧ W.cell? ⟨g2, off2 + k * 4, none⟩ = some (.int .i64 yk) ∧ W.cell? ⟨g2, off2 + k * 4 + 1, none⟩ = some (.int .i64 yn) ∧ W.cell? ⟨g2, off2 + k * 4 + 2, none⟩ = some (.int .u64 (yb : Int)) ∧ W.cell? ⟨g2, off2 + k * 4 + 3, none⟩ = some (.string ys))) (by kernel_rfl) (by rw [hw20]; exact mk20 _ (Below.refl _ _)) (fun hS20 => ?_)
            rw [hw20] at hS20 ⊢
            clear hw20
            refine wpAnyH_take (i := 0) (oi := ({ dst := some 17, op := Op.move (Operand.tmp 0), type := 22, pos := "ref.go:144", after := #[], guard := none } : Oper)) (v := ?_) rfl (by kernel_rfl) (by kernel_rfl) (by kernel_rfl) (fun _ _ _ h => h) (Or.inl ⟨by rfl, ?_⟩) hS20 ?_
            rotate_left
            · intro w hSw; (try dsimp only at hSw); go_simp; (try with_reducible rfl)
            simp only [Act.put, List.setIfInBounds_toArray, List.set_cons_zero, List.set_cons_succ]
            refine wpAnyH_take (i := 1) (oi := ({ dst := some 18, op := Op.move (Operand.tmp 5), type := 3, pos := "ref.go:144", after := #[], guard := none } : Oper)) (v := ?_) rfl (by kernel_rfl) (by kernel_rfl) (by kernel_rfl) (fun _ _ _ h => h) (Or.inl ⟨by rfl, ?_⟩) hS20 ?_
            rotate_left
            · intro w hSw; (try dsimp only at hSw); go_simp; (try with_reducible rfl)
            simp only [Act.put, List.setIfInBounds_toArray, List.set_cons_zero, List.set_cons_succ]
            refine wpAnyH_take (i := 2) (oi := ({ dst := some 19, op := Op.indexAddr 22 (Operand.tmp 17) (Operand.tmp 18), type := 0, pos := "ref.go:144", after := #[{ on := 0, ground := Ground.data }, { on := 1, ground := Ground.data }], guard := none } : Oper)) (v := ?_) rfl (by kernel_rfl) (by kernel_rfl) (by kernel_rfl) (fun _ _ _ h => h) (Or.inl ⟨by rfl, ?_⟩) hS20 ?_
            rotate_left
            · intro w hSw; (try dsimp only at hSw); go_simp; (try with_reducible rfl)
            simp only [Act.put, List.setIfInBounds_toArray, List.set_cons_zero, List.set_cons_succ]
            refine wpAnyH_take (i := 3) (oi := ({ dst := some 20, op := Op.load 39 (Operand.tmp 19), type := 39, pos := "ref.go:144", after := #[{ on := 2, ground := Ground.data }], guard := none } : Oper)) (v := ?_) rfl (by kernel_rfl) (by kernel_rfl) (by kernel_rfl) (fun _ _ _ h => h) (Or.inl ⟨by rfl, ?_⟩) hS20 ?_
            rotate_left
            · intro w hSw; (try dsimp only at hSw); go_simp; (try with_reducible rfl)
            simp only [Act.put, List.setIfInBounds_toArray, List.set_cons_zero, List.set_cons_succ]
            refine wpAnyH_take (i := 4) (oi := ({ dst := some 21, op := Op.move (Operand.tmp 1), type := 22, pos := "ref.go:144", after := #[], guard := none } : Oper)) (v := ?_) rfl (by kernel_rfl) (by kernel_rfl) (by kernel_rfl) (fun _ _ _ h => h) (Or.inl ⟨by rfl, ?_⟩) hS20 ?_
            rotate_left
            · intro w hSw; (try dsimp only at hSw); go_simp; (try with_reducible rfl)
            simp only [Act.put, List.setIfInBounds_toArray, List.set_cons_zero, List.set_cons_succ]
            refine wpAnyH_take (i := 5) (oi := ({ dst := some 22, op := Op.move (Operand.tmp 5), type := 3, pos := "ref.go:144", after := #[], guard := none } : Oper)) (v := ?_) rfl (by kernel_rfl) (by kernel_rfl) (by kernel_rfl) (fun _ _ _ h => h) (Or.inl ⟨by rfl, ?_⟩) hS20 ?_
            rotate_left
            · intro w hSw; (try dsimp only at hSw); go_simp; (try with_reducible rfl)
            simp only [Act.put, List.setIfInBounds_toArray, List.set_cons_zero, List.set_cons_succ]
            refine wpAnyH_take (i := 6) (oi := ({ dst := some 23, op := Op.indexAddr 22 (Operand.tmp 21) (Operand.tmp 22), type := 0, pos := "ref.go:144", after := #[{ on := 4, ground := Ground.data }, { on := 5, ground := Ground.data }], guard := none } : Oper)) (v := ?_) rfl (by kernel_rfl) (by kernel_rfl) (by kernel_rfl) (fun _ _ _ h => h) (Or.inl ⟨by rfl, ?_⟩) hS20 ?_
            rotate_left
            · intro w hSw; (try dsimp only at hSw); go_simp; (try with_reducible rfl)
            simp only [Act.put, List.setIfInBounds_toArray, List.set_cons_zero, List.set_cons_succ]
            refine wpAnyH_take (i := 7) (oi := ({ dst := some 24, op := Op.load 39 (Operand.tmp 23), type := 39, pos := "ref.go:144", after := #[{ on := 6, ground := Ground.data }], guard := none } : Oper)) (v := ?_) rfl (by kernel_rfl) (by kernel_rfl) (by kernel_rfl) (fun _ _ _ h => h) (Or.inl ⟨by rfl, ?_⟩) hS20 ?_
            rotate_left
            · intro w hSw; (try dsimp only at hSw); go_simp; (try with_reducible rfl)
            simp only [Act.put, List.setIfInBounds_toArray, List.set_cons_zero, List.set_cons_succ]
            refine wpAnyH_take (i := 8) (oi := ({ dst := some 25, op := Op.binOp BinOp.neq 39 (Operand.tmp 20) (Operand.tmp 24) 39, type := 4, pos := "ref.go:144", after := #[{ on := 3, ground := Ground.data }, { on := 7, ground := Ground.data }], guard := none } : Oper)) (v := ?_) rfl (by kernel_rfl) (by kernel_rfl) (by kernel_rfl) (fun _ _ _ h => h) (Or.inl ⟨by rfl, ?_⟩) hS20 ?_
            rotate_left
            · intro w hSw; (try dsimp only at hSw); go_simp; (try with_reducible rfl)
            simp only [Act.put, List.setIfInBounds_toArray, List.set_cons_zero, List.set_cons_succ]
            refine wpAnyH_take (i := 9) (oi := ({ dst := some 26, op := Op.move (Operand.tmp 25), type := 4, pos := "ref.go:144", after := #[{ on := 8, ground := Ground.data }], guard := none } : Oper)) (v := ?_) rfl (by kernel_rfl) (by kernel_rfl) (by kernel_rfl) (fun _ _ _ h => h) (Or.inl ⟨by rfl, ?_⟩) hS20 ?_
            rotate_left
            · intro w hSw; (try dsimp only at hSw); go_simp; (try with_reducible rfl)
            simp only [Act.put, List.setIfInBounds_toArray, List.set_cons_zero, List.set_cons_succ]
            refine wpAnyH_take (i := 10) (oi := ({ dst := some 27, op := Op.move (Operand.tmp 0), type := 22, pos := "ref.go:144", after := #[{ on := 9, ground := Ground.guard }], guard := some (9, false) } : Oper)) (v := ?_) rfl (by kernel_rfl) (by kernel_rfl) (by kernel_rfl) (fun _ _ _ h => h) (Or.inl ⟨by rfl, ?_⟩) hS20 ?_
            rotate_left
            · intro w hSw; (try dsimp only at hSw); go_simp; (try with_reducible rfl)
            simp only [Act.put, List.setIfInBounds_toArray, List.set_cons_zero, List.set_cons_succ]
            refine wpAnyH_take (i := 11) (oi := ({ dst := some 28, op := Op.move (Operand.tmp 5), type := 3, pos := "ref.go:144", after := #[{ on := 9, ground := Ground.guard }], guard := some (9, false) } : Oper)) (v := ?_) rfl (by kernel_rfl) (by kernel_rfl) (by kernel_rfl) (fun _ _ _ h => h) (Or.inl ⟨by rfl, ?_⟩) hS20 ?_
            rotate_left
            · intro w hSw; (try dsimp only at hSw); go_simp; (try with_reducible rfl)
            simp only [Act.put, List.setIfInBounds_toArray, List.set_cons_zero, List.set_cons_succ]
            refine wpAnyH_take (i := 12) (oi := ({ dst := some 29, op := Op.indexAddr 22 (Operand.tmp 27) (Operand.tmp 28), type := 0, pos := "ref.go:144", after := #[{ on := 10, ground := Ground.data }, { on := 11, ground := Ground.data }, { on := 9, ground := Ground.guard }], guard := some (9, false) } : Oper)) (v := ?_) rfl (by kernel_rfl) (by kernel_rfl) (by kernel_rfl) (fun _ _ _ h => h) (Or.inl ⟨by rfl, ?_⟩) hS20 ?_
            rotate_left
            · intro w hSw; (try dsimp only at hSw); go_simp; (try with_reducible rfl)
            simp only [Act.put, List.setIfInBounds_toArray, List.set_cons_zero, List.set_cons_succ]
            refine wpAnyH_take (i := 13) (oi := ({ dst := some 30, op := Op.load 39 (Operand.tmp 29), type := 39, pos := "ref.go:144", after := #[{ on := 12, ground := Ground.data }, { on := 9, ground := Ground.guard }], guard := some (9, false) } : Oper)) (v := ?_) rfl (by kernel_rfl) (by kernel_rfl) (by kernel_rfl) (fun _ _ _ h => h) (Or.inl ⟨by rfl, ?_⟩) hS20 ?_
            rotate_left
            · intro w hSw; (try dsimp only at hSw); go_simp; (try with_reducible rfl)
            simp only [Act.put, List.setIfInBounds_toArray, List.set_cons_zero, List.set_cons_succ]
            refine wpAnyH_ready (rs := [14]) (by kernel_rfl) (by simp) ?_
            refine AllReadyH.cons (o := ({ dst := some 31, op := Op.call { callee := Callee.value (Operand.func 31), args := #[Operand.tmp 30], argTypes := #[39] }, type := 4, pos := "ref.go:144", after := #[{ on := 13, ground := Ground.data }, { on := 9, ground := Ground.chain }, { on := 9, ground := Ground.guard }], guard := some (9, false) } : Oper)) rfl (fun K hK => ?_) AllReadyH.nil
            go_simp
            refine (cr.out _).mono ?_; rintro e w21 ⟨rfl, hb21⟩
            go_wp2_with fail
            refine hK.out _ _ (mk20 _ (hnext hS20.1 hb21)) (fun hS21 => ?_)
            clear hK K
            (try simp only [Act.put, List.setIfInBounds_toArray, List.set_cons_zero, List.set_cons_succ])
            clear hb21 hS20
            refine wpAnyH_take (i := 15) (oi := ({ dst := some 32, op := Op.unOp UnOp.not 4 (Operand.tmp 31), type := 4, pos := "ref.go:144", after := #[{ on := 14, ground := Ground.data }, { on := 9, ground := Ground.guard }], guard := some (9, false) } : Oper)) (v := ?_) rfl (by kernel_rfl) (by kernel_rfl) (by kernel_rfl) (fun _ _ _ h => h) (Or.inl ⟨by rfl, ?_⟩) hS21 ?_
            rotate_left
            · intro w hSw; (try dsimp only at hSw); go_simp; (try with_reducible rfl)
            simp only [Act.put, List.setIfInBounds_toArray, List.set_cons_zero, List.set_cons_succ]
            refine wpAnyH_take (i := 16) (oi := ({ dst := some 33, op := Op.pick (Operand.tmp 26) (Operand.const (Value.bool true)) (Operand.tmp 32), type := 4, pos := "ref.go:144", after := #[{ on := 9, ground := Ground.data }, { on := 15, ground := Ground.data }], guard := none } : Oper)) (v := ?_) rfl (by kernel_rfl) (by kernel_rfl) (by kernel_rfl) (fun _ _ _ h => h) (Or.inl ⟨by rfl, ?_⟩) hS21 ?_
            rotate_left
            · intro w hSw; (try dsimp only at hSw); go_simp; (try with_reducible rfl)
            simp only [Act.put, List.setIfInBounds_toArray, List.set_cons_zero, List.set_cons_succ]
            refine wpAnyH_done (by kernel_rfl) ?_ _
            go_wp2_with fail
            go_ret
            rw [HN.out]
            exact ⟨rfl, hnext (hnext hbel hd20) hS21.1⟩
          · rw [hrt] at cr0
            have HT := hid (HNX.out (by rw [hd]; exact hrt))
            clear HX HNX hd hrt
            obtain ⟨xk, xn, xb, xs⟩ := x
            obtain ⟨yk, yn, yb, ys⟩ := y
            simp only at q0 q1 q2 q3 p0 p1 p2 p3 hs hxb
            simp only at hq0 cr0
            have cr := hid cr0
            clear cr0
            go_wp2_with fail
            obtain ⟨w20, hw20⟩ : ∃ w20, (w4).drew = w20 := ⟨_, rfl⟩
            have hd20 : Below (w4).heap.size (w4) w20 := hw20 ▸ (Below.refl _ _).drew
            have mk20 : ∀ W, Below w20.heap.size w20 W → Below w20.heap.size w20 W ∧ W.cell? ⟨g, off + k * 4, none⟩ = some (.int .i64 xk) ∧ W.cell? ⟨g, off + k * 4 + 1, none⟩ = some (.int .i64 xn) ∧ W.cell? ⟨g, off + k * 4 + 2, none⟩ = some (.int .u64 (xb : Int)) ∧ W.cell? ⟨g, off + k * 4 + 3, none⟩ = some (.string xs) ∧ W.cell? ⟨g2, off2 + k * 4, none⟩ = some (.int .i64 yk) ∧ W.cell? ⟨g2, off2 + k * 4 + 1, none⟩ = some (.int .i64 yn) ∧ W.cell? ⟨g2, off2 + k * 4 + 2, none⟩ = some (.int .u64 (yb : Int)) ∧ W.cell? ⟨g2, off2 + k * 4 + 3, none⟩ = some (.string ys) := fun W h => ⟨h, hkeep (hkeep q0 hd20) h, hkeep (hkeep q1 hd20) h, hkeep (hkeep q2 hd20) h, hkeep (hkeep q3 hd20) h, hkeep (hkeep p0 hd20) h, hkeep (hkeep p1 hd20) h, hkeep (hkeep p2 hd20) h, hkeep (hkeep p3 hd20) h⟩
            refine wp_region_held_drew (S := (fun W => Below w20.heap.size w20 W ∧ W.cell? ⟨g, off + k * 4, none⟩ = some (.int .i64 xk) ∧ W.cell? ⟨g, off + k * 4 + 1, none⟩ = some (.int .i64 xn) ∧ W.cell? ⟨g, off + k * 4 + 2, none⟩ = some (.int .u64 (xb : Int)) ∧ W.cell? ⟨g, off + k * 4 + 3, none⟩ = some (.string xs) ∧ W.cell? ⟨g2, off2 + k * 4, none⟩ = some (.int .i64 yk) ∧ W.cell? ⟨g2, off2 + k * 4 + 1, none⟩ = some (.int .i64 yn) ∧ W.cell? ⟨g2, off2 + k * 4 + 2, none⟩ = some (.int .u64 (yb : Int)) ∧ W.cell? ⟨g2, off2 + k * 4 + 3, none⟩ = some (.string ys))) (by kernel_rfl) (by rw [hw20]; exact mk20 _ (Below.refl _ _)) (fun hS20 => ?_)
            rw [hw20] at hS20 ⊢
            clear hw20
            refine wpAnyH_take (i := 0) (oi := ({ dst := some 17, op := Op.move (Operand.tmp 0), type := 22, pos := "ref.go:144", after := #[], guard := none } : Oper)) (v := ?_) rfl (by kernel_rfl) (by kernel_rfl) (by kernel_rfl) (fun _ _ _ h => h) (Or.inl ⟨by rfl, ?_⟩) hS20 ?_
            rotate_left
            · intro w hSw; (try dsimp only at hSw); go_simp; (try with_reducible rfl)
            simp only [Act.put, List.setIfInBounds_toArray, List.set_cons_zero, List.set_cons_succ]
            refine wpAnyH_take (i := 1) (oi := ({ dst := some 18, op := Op.move (Operand.tmp 5), type := 3, pos := "ref.go:144", after := #[], guard := none } : Oper)) (v := ?_) rfl (by kernel_rfl) (by kernel_rfl) (by kernel_rfl) (fun _ _ _ h => h) (Or.inl ⟨by rfl, ?_⟩) hS20 ?_
            rotate_left
            · intro w hSw; (try dsimp only at hSw); go_simp; (try with_reducible rfl)
            simp only [Act.put, List.setIfInBounds_toArray, List.set_cons_zero, List.set_cons_succ]
            refine wpAnyH_take (i := 2) (oi := ({ dst := some 19, op := Op.indexAddr 22 (Operand.tmp 17) (Operand.tmp 18), type := 0, pos := "ref.go:144", after := #[{ on := 0, ground := Ground.data }, { on := 1, ground := Ground.data }], guard := none } : Oper)) (v := ?_) rfl (by kernel_rfl) (by kernel_rfl) (by kernel_rfl) (fun _ _ _ h => h) (Or.inl ⟨by rfl, ?_⟩) hS20 ?_
            rotate_left
            · intro w hSw; (try dsimp only at hSw); go_simp; (try with_reducible rfl)
            simp only [Act.put, List.setIfInBounds_toArray, List.set_cons_zero, List.set_cons_succ]
            refine wpAnyH_take (i := 3) (oi := ({ dst := some 20, op := Op.load 39 (Operand.tmp 19), type := 39, pos := "ref.go:144", after := #[{ on := 2, ground := Ground.data }], guard := none } : Oper)) (v := ?_) rfl (by kernel_rfl) (by kernel_rfl) (by kernel_rfl) (fun _ _ _ h => h) (Or.inl ⟨by rfl, ?_⟩) hS20 ?_
            rotate_left
            · intro w hSw; (try dsimp only at hSw); go_simp; (try with_reducible rfl)
            simp only [Act.put, List.setIfInBounds_toArray, List.set_cons_zero, List.set_cons_succ]
            refine wpAnyH_take (i := 4) (oi := ({ dst := some 21, op := Op.move (Operand.tmp 1), type := 22, pos := "ref.go:144", after := #[], guard := none } : Oper)) (v := ?_) rfl (by kernel_rfl) (by kernel_rfl) (by kernel_rfl) (fun _ _ _ h => h) (Or.inl ⟨by rfl, ?_⟩) hS20 ?_
            rotate_left
            · intro w hSw; (try dsimp only at hSw); go_simp; (try with_reducible rfl)
            simp only [Act.put, List.setIfInBounds_toArray, List.set_cons_zero, List.set_cons_succ]
            refine wpAnyH_take (i := 5) (oi := ({ dst := some 22, op := Op.move (Operand.tmp 5), type := 3, pos := "ref.go:144", after := #[], guard := none } : Oper)) (v := ?_) rfl (by kernel_rfl) (by kernel_rfl) (by kernel_rfl) (fun _ _ _ h => h) (Or.inl ⟨by rfl, ?_⟩) hS20 ?_
            rotate_left
            · intro w hSw; (try dsimp only at hSw); go_simp; (try with_reducible rfl)
            simp only [Act.put, List.setIfInBounds_toArray, List.set_cons_zero, List.set_cons_succ]
            refine wpAnyH_take (i := 6) (oi := ({ dst := some 23, op := Op.indexAddr 22 (Operand.tmp 21) (Operand.tmp 22), type := 0, pos := "ref.go:144", after := #[{ on := 4, ground := Ground.data }, { on := 5, ground := Ground.data }], guard := none } : Oper)) (v := ?_) rfl (by kernel_rfl) (by kernel_rfl) (by kernel_rfl) (fun _ _ _ h => h) (Or.inl ⟨by rfl, ?_⟩) hS20 ?_
            rotate_left
            · intro w hSw; (try dsimp only at hSw); go_simp; (try with_reducible rfl)
            simp only [Act.put, List.setIfInBounds_toArray, List.set_cons_zero, List.set_cons_succ]
            refine wpAnyH_take (i := 7) (oi := ({ dst := some 24, op := Op.load 39 (Operand.tmp 23), type := 39, pos := "ref.go:144", after := #[{ on := 6, ground := Ground.data }], guard := none } : Oper)) (v := ?_) rfl (by kernel_rfl) (by kernel_rfl) (by kernel_rfl) (fun _ _ _ h => h) (Or.inl ⟨by rfl, ?_⟩) hS20 ?_
            rotate_left
            · intro w hSw; (try dsimp only at hSw); go_simp; (try with_reducible rfl)
            simp only [Act.put, List.setIfInBounds_toArray, List.set_cons_zero, List.set_cons_succ]
            refine wpAnyH_take (i := 8) (oi := ({ dst := some 25, op := Op.binOp BinOp.neq 39 (Operand.tmp 20) (Operand.tmp 24) 39, type := 4, pos := "ref.go:144", after := #[{ on := 3, ground := Ground.data }, { on := 7, ground := Ground.data }], guard := none } : Oper)) (v := ?_) rfl (by kernel_rfl) (by kernel_rfl) (by kernel_rfl) (fun _ _ _ h => h) (Or.inl ⟨by rfl, ?_⟩) hS20 ?_
            rotate_left
            · intro w hSw; (try dsimp only at hSw); go_simp; (try with_reducible rfl)
            simp only [Act.put, List.setIfInBounds_toArray, List.set_cons_zero, List.set_cons_succ]
            refine wpAnyH_take (i := 9) (oi := ({ dst := some 26, op := Op.move (Operand.tmp 25), type := 4, pos := "ref.go:144", after := #[{ on := 8, ground := Ground.data }], guard := none } : Oper)) (v := ?_) rfl (by kernel_rfl) (by kernel_rfl) (by kernel_rfl) (fun _ _ _ h => h) (Or.inl ⟨by rfl, ?_⟩) hS20 ?_
            rotate_left
            · intro w hSw; (try dsimp only at hSw); go_simp; (try with_reducible rfl)
            simp only [Act.put, List.setIfInBounds_toArray, List.set_cons_zero, List.set_cons_succ]
            refine wpAnyH_take (i := 10) (oi := ({ dst := some 27, op := Op.move (Operand.tmp 0), type := 22, pos := "ref.go:144", after := #[{ on := 9, ground := Ground.guard }], guard := some (9, false) } : Oper)) (v := ?_) rfl (by kernel_rfl) (by kernel_rfl) (by kernel_rfl) (fun _ _ _ h => h) (Or.inl ⟨by rfl, ?_⟩) hS20 ?_
            rotate_left
            · intro w hSw; (try dsimp only at hSw); go_simp; (try with_reducible rfl)
            simp only [Act.put, List.setIfInBounds_toArray, List.set_cons_zero, List.set_cons_succ]
            refine wpAnyH_take (i := 11) (oi := ({ dst := some 28, op := Op.move (Operand.tmp 5), type := 3, pos := "ref.go:144", after := #[{ on := 9, ground := Ground.guard }], guard := some (9, false) } : Oper)) (v := ?_) rfl (by kernel_rfl) (by kernel_rfl) (by kernel_rfl) (fun _ _ _ h => h) (Or.inl ⟨by rfl, ?_⟩) hS20 ?_
            rotate_left
            · intro w hSw; (try dsimp only at hSw); go_simp; (try with_reducible rfl)
            simp only [Act.put, List.setIfInBounds_toArray, List.set_cons_zero, List.set_cons_succ]
            refine wpAnyH_take (i := 12) (oi := ({ dst := some 29, op := Op.indexAddr 22 (Operand.tmp 27) (Operand.tmp 28), type := 0, pos := "ref.go:144", after := #[{ on := 10, ground := Ground.data }, { on := 11, ground := Ground.data }, { on := 9, ground := Ground.guard }], guard := some (9, false) } : Oper)) (v := ?_) rfl (by kernel_rfl) (by kernel_rfl) (by kernel_rfl) (fun _ _ _ h => h) (Or.inl ⟨by rfl, ?_⟩) hS20 ?_
            rotate_left
            · intro w hSw; (try dsimp only at hSw); go_simp; (try with_reducible rfl)
            simp only [Act.put, List.setIfInBounds_toArray, List.set_cons_zero, List.set_cons_succ]
            refine wpAnyH_take (i := 13) (oi := ({ dst := some 30, op := Op.load 39 (Operand.tmp 29), type := 39, pos := "ref.go:144", after := #[{ on := 12, ground := Ground.data }, { on := 9, ground := Ground.guard }], guard := some (9, false) } : Oper)) (v := ?_) rfl (by kernel_rfl) (by kernel_rfl) (by kernel_rfl) (fun _ _ _ h => h) (Or.inl ⟨by rfl, ?_⟩) hS20 ?_
            rotate_left
            · intro w hSw; (try dsimp only at hSw); go_simp; (try with_reducible rfl)
            simp only [Act.put, List.setIfInBounds_toArray, List.set_cons_zero, List.set_cons_succ]
            refine wpAnyH_ready (rs := [14]) (by kernel_rfl) (by simp) ?_
            refine AllReadyH.cons (o := ({ dst := some 31, op := Op.call { callee := Callee.value (Operand.func 31), args := #[Operand.tmp 30], argTypes := #[39] }, type := 4, pos := "ref.go:144", after := #[{ on := 13, ground := Ground.data }, { on := 9, ground := Ground.chain }, { on := 9, ground := Ground.guard }], guard := some (9, false) } : Oper)) rfl (fun K hK => ?_) AllReadyH.nil
            go_simp
            refine (cr.out _).mono ?_; rintro e w21 ⟨rfl, hb21⟩
            go_wp2_with fail
            refine hK.out _ _ (mk20 _ (hnext hS20.1 hb21)) (fun hS21 => ?_)
            clear hK K
            (try simp only [Act.put, List.setIfInBounds_toArray, List.set_cons_zero, List.set_cons_succ])
            clear hb21 hS20
            refine wpAnyH_take (i := 15) (oi := ({ dst := some 32, op := Op.unOp UnOp.not 4 (Operand.tmp 31), type := 4, pos := "ref.go:144", after := #[{ on := 14, ground := Ground.data }, { on := 9, ground := Ground.guard }], guard := some (9, false) } : Oper)) (v := ?_) rfl (by kernel_rfl) (by kernel_rfl) (by kernel_rfl) (fun _ _ _ h => h) (Or.inl ⟨by rfl, ?_⟩) hS21 ?_
            rotate_left
            · intro w hSw; (try dsimp only at hSw); go_simp; (try with_reducible rfl)
            simp only [Act.put, List.setIfInBounds_toArray, List.set_cons_zero, List.set_cons_succ]
            refine wpAnyH_take (i := 16) (oi := ({ dst := some 33, op := Op.pick (Operand.tmp 26) (Operand.const (Value.bool true)) (Operand.tmp 32), type := 4, pos := "ref.go:144", after := #[{ on := 9, ground := Ground.data }, { on := 15, ground := Ground.data }], guard := none } : Oper)) (v := ?_) rfl (by kernel_rfl) (by kernel_rfl) (by kernel_rfl) (fun _ _ _ h => h) (Or.inl ⟨by rfl, ?_⟩) hS21 ?_
            rotate_left
            · intro w hSw; (try dsimp only at hSw); go_simp; (try with_reducible rfl)
            simp only [Act.put, List.setIfInBounds_toArray, List.set_cons_zero, List.set_cons_succ]
            refine wpAnyH_done (by kernel_rfl) ?_ _
            go_wp2_with fail
            go_roundw
            case rel => exact ⟨k + 1, by omega, by go_num, HT, hnext (hnext hbel hd20) hS21.1⟩
            case measure => simp [intOf]; omega
      · obtain rfl : k = l.length := by omega
        have HE := hid (Ky.pre_yes hlen htk.out)
        go_wp2_with fail
        go_ret
        rw [HE.out]
        exact ⟨rfl, hbel⟩
  · have hlen' : (r.length : Int) < (l.length : Int) := by omega
    have HE := hid (Ky.pre_short hlen)
    clear hlen
    go_enter Try.func17, Try.ntmps17
    go_wp2_with fail
    go_ret
    rw [HE.out]
    exact ⟨rfl, Below.refl _ _⟩
end Go.Proofs.Ytimcmpcfnddioaa
