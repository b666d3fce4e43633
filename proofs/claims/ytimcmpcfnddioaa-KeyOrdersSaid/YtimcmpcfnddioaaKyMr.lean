/-
  Which of two keys is ahead: key.Compare and the reference's: contracts. Condition: the values can stand in memory.
-/
import Derived.Test.YtimcmpcfnddioaaKyK
import Derived.Test.YtimcmpcfnddioaaReg
import Derived.Laws.Small
namespace Go.Proofs.Ytimcmpcfnddioaa
open Go.RowKit

set_option maxRecDepth 100000 in
set_option maxHeartbeats 3200000 in
theorem compR_any (v1 v2 : Value) (l r : List Cd.V) (w : World) (h1 : VsAt w v1 l) (h2 : VsAt w v2 r) (hok : ∀ x ∈ l, Vok x) (hok2 : ∀ x ∈ r, Vok x) (hl : l.length ≤ maxLen) (hr : r.length ≤ maxLen) :
    Calls Try.prog 15 #[v1, v2] w fun e w' => e = .returned (.int .i64 (Ky.comp Ky.cmpR l r)) ∧ Below w.heap.size w w' := by
  have cl := hid (fun W (h : VsAt W v1 l) => krightR_any v1 l W h (Vok.rok hok) (fun x hx => (hok x hx).2.1) hl)
  have c2 := hid (fun W (h : VsAt W v2 r) => krightR_any v2 r W h (Vok.rok hok2) (fun x hx => (hok2 x hx).2.1) hr)
  have VL := hid h1
  have VR := hid h2
  obtain ⟨adr, cap, rfl, hc⟩ := h1
  obtain ⟨adr2, cap2, rfl, hc2⟩ := h2
  have HC := hid hc
  have HC2 := hid hc2
  have HOK := hid hok
  have HOK2 := hid hok2
  unfold maxLen at hl hr
  clear hc hc2 hok hok2
  cases hrl : Ky.right l
  · rw [hrl] at cl
    have HE : Hid (Ky.comp Ky.cmpR l r = 0) := if_pos hrl
    clear hrl
    go_enter Try.func15, Try.ntmps15
    go_wp2_with fail
    refine (cl.out _ VL.out).mono ?_; rintro e w1 ⟨rfl, b1⟩
    go_wp2_with fail
    go_ret
    rw [HE.out]
    exact ⟨rfl, b1⟩
  cases hrr : Ky.right r
  · rw [hrl] at cl
    rw [hrr] at c2
    have HE : Hid (Ky.comp Ky.cmpR l r = 0) := by show _ = _; unfold Ky.comp; rw [if_neg (by rw [hrl]; decide), if_pos hrr]
    clear hrl hrr
    go_enter Try.func15, Try.ntmps15
    go_wp2_with fail
    refine (cl.out _ VL.out).mono ?_; rintro e w1 ⟨rfl, b1⟩
    go_wp2_with fail
    refine (c2.out _ (VR.out.below b1)).mono ?_; rintro e w2 ⟨rfl, b2⟩
    go_wp2_with fail
    go_ret
    rw [HE.out]
    exact ⟨rfl, hnext b1 b2⟩
  rw [hrl] at cl
  rw [hrr] at c2
  have HE : Hid (Ky.comp Ky.cmpR l r = Ky.cmpL Ky.cmpR l r) := by show _ = _; unfold Ky.comp; rw [if_neg (by rw [hrl]; decide), if_neg (by rw [hrr]; decide)]
  clear hrl hrr
  go_enter Try.func15, Try.ntmps15
  go_wp2_with fail
  refine (cl.out _ VL.out).mono ?_; rintro e w1 ⟨rfl, b1⟩
  go_wp2_with fail
  refine (c2.out _ (VR.out.below b1)).mono ?_; rintro e w2 ⟨rfl, b2⟩
  have b12 := hnext b1 b2
  clear b1 b2
  go_wp2_with fail
  go_loopw [5] (fun i wr => ∃ k : Nat, k ≤ l.length ∧ k ≤ r.length ∧ i = .int .i64 (k : Int) ∧ Hid (((l.zip r).take k).all (fun p => decide (Ky.cmpR p.1 p.2 = 0)) = true) ∧ Below w.heap.size w wr) (fun i _ => l.length - (intOf i).toNat)
  case atStart => exact ⟨0, by omega, by omega, rfl, rfl, b12⟩
  case round =>
    obtain ⟨k, hk, hk2, rfl, htk, hbel⟩ := hrel
    obtain ⟨w4, rfl⟩ : ∃ w4 : World, w4 = wr := ⟨_, rfl⟩
    by_cases hlk : k < l.length ∧ k < r.length
    · obtain ⟨hlk, hlr⟩ := hlk
      obtain ⟨g, off, rfl, q0, q1, q2, q3⟩ := HC.out k hlk
      obtain ⟨g2, off2, rfl, p0, p1, p2, p3⟩ := HC2.out k hlr
      have HNX := hid (Ky.cmpL_next hlk hlr htk.out)
      have HX := hid (Ky.cmpL_at hlk hlr htk.out)
      obtain ⟨_, hxb, hs⟩ := HOK.out l[k] (List.getElem_mem hlk)
      obtain ⟨_, hxb2, hs2⟩ := HOK2.out r[k] (List.getElem_mem hlr)
      generalize l[k] = x at q0 q1 q2 q3 HNX HX hs hxb
      generalize r[k] = y at p0 p1 p2 p3 HNX HX hs2 hxb2
      replace q0 := hkeep q0 hbel
      replace q1 := hkeep q1 hbel
      replace q2 := hkeep q2 hbel
      replace q3 := hkeep q3 hbel
      replace p0 := hkeep p0 hbel
      replace p1 := hkeep p1 hbel
      replace p2 := hkeep p2 hbel
      replace p3 := hkeep p3 hbel
      have hlk' : (k : Int) < l.length := by omega
      have hlk2 : (k : Int) < r.length := by omega
      have hk0 : (0 : Int) ≤ (k : Int) := by omega
      have cr0 := fun W => compareR_any x y hs hs2 hxb hxb2 W
      obtain ⟨c, hcc⟩ : ∃ c, Ky.cmpR x y = c := ⟨_, rfl⟩
      rw [hcc] at cr0 HX HNX
      by_cases hz : c = 0
      · subst hz
        have HT := hid (HNX.out rfl)
        clear HX HNX hcc
        obtain ⟨xk, xn, xb, xs⟩ := x
        obtain ⟨yk, yn, yb, ys⟩ := y
        simp only at q0 q1 q2 q3 p0 p1 p2 p3 hs hs2 hxb hxb2
        unfold vv at cr0
        simp only at cr0
        have cr := hid cr0
        clear cr0
        go_wp2_with fail
        obtain ⟨w20, hw20⟩ : ∃ w20, (w4).drew = w20 := ⟨_, rfl⟩
        have hd20 : Below (w4).heap.size (w4) w20 := hw20 ▸ (Below.refl _ _).drew
        have mk20 : ∀ W, Below w20.heap.size w20 W → Below w20.heap.size w20 W ∧ W.cell? ⟨g, off + k * 4, none⟩ = some (.int .i64 xk) ∧ W.cell? ⟨g, off + k * 4 + 1, none⟩ = some (.int .i64 xn) ∧ W.cell? ⟨g, off + k * 4 + 2, none⟩ = some (.int .u64 (xb : Int)) ∧ W.cell? ⟨g, off + k * 4 + 3, none⟩ = some (.string xs) ∧ W.cell? ⟨g2, off2 + k * 4, none⟩ = some (.int .i64 yk) ∧ W.cell? ⟨g2, off2 + k * 4 + 1, none⟩ = some (.int .i64 yn) ∧ W.cell? ⟨g2, off2 + k * 4 + 2, none⟩ = some (.int .u64 (yb : Int)) ∧ W.cell? ⟨g2, off2 + k * 4 + 3, none⟩ = some (.string ys) := fun W h => ⟨h, hkeep (hkeep q0 hd20) h, hkeep (hkeep q1 hd20) h, hkeep (hkeep q2 hd20) h, hkeep (hkeep q3 hd20) h, hkeep (hkeep p0 hd20) h, hkeep (hkeep p1 hd20) h, hkeep (hkeep p2 hd20) h, hkeep (hkeep p3 hd20) h⟩
        refine wp_region_held_drew (S := (fun W => Below w20.heap.size w20 W ∧ W.cell? ⟨g, off + k * 4, none⟩ = some (.int .i64 xk) ∧ W.cell? ⟨g, off + k * 4 + 1, none⟩ = some (.int .i64 xn) ∧ W.cell? ⟨g, off + k * 4 + 2, none⟩ = some (.int .u64 (xb : Int)) ∧ W.cell? ⟨g, off + k * 4 + 3, none⟩ = some (.string xs) ∧ W.cell? ⟨g2, off2 + k * 4, none⟩ = some (.int .i64 yk) ∧ W.cell? ⟨g2, off2 + k * 4 + 1, none⟩ = some (.int .i64 yn) ∧ W.cell? ⟨g2, off2 + k * 4 + 2, none⟩ = some (.int .u64 (yb : Int)) ∧ W.cell? ⟨g2, off2 + k * 4 + 3, none⟩ = some (.string ys))) (by kernel_rfl) (by rw [hw20]; exact mk20 _ (Below.refl _ _)) (fun hS20 => ?_)
        rw [hw20] at hS20 ⊢
        clear hw20
        refine wpAnyH_take (i := 0) (oi := ({ dst := some 27, op := Op.move (Operand.tmp 0), type := 22, pos := "ref.go:65", after := #[], guard := none } : Oper)) (v := ?_) rfl (by kernel_rfl) (by kernel_rfl) (by kernel_rfl) (fun _ _ _ h => h) (Or.inl ⟨by rfl, ?_⟩) hS20 ?_
        rotate_left
        · intro w hSw; (try dsimp only at hSw); go_simp; (try with_reducible rfl)
        simp only [Act.put, List.setIfInBounds_toArray, List.set_cons_zero, List.set_cons_succ]
        refine wpAnyH_take (i := 1) (oi := ({ dst := some 28, op := Op.move (Operand.tmp 5), type := 3, pos := "ref.go:65", after := #[], guard := none } : Oper)) (v := ?_) rfl (by kernel_rfl) (by kernel_rfl) (by kernel_rfl) (fun _ _ _ h => h) (Or.inl ⟨by rfl, ?_⟩) hS20 ?_
        rotate_left
        · intro w hSw; (try dsimp only at hSw); go_simp; (try with_reducible rfl)
        simp only [Act.put, List.setIfInBounds_toArray, List.set_cons_zero, List.set_cons_succ]
        refine wpAnyH_take (i := 2) (oi := ({ dst := some 29, op := Op.indexAddr 22 (Operand.tmp 27) (Operand.tmp 28), type := 0, pos := "ref.go:65", after := #[{ on := 0, ground := Ground.data }, { on := 1, ground := Ground.data }], guard := none } : Oper)) (v := ?_) rfl (by kernel_rfl) (by kernel_rfl) (by kernel_rfl) (fun _ _ _ h => h) (Or.inl ⟨by rfl, ?_⟩) hS20 ?_
        rotate_left
        · intro w hSw; (try dsimp only at hSw); go_simp; (try with_reducible rfl)
        simp only [Act.put, List.setIfInBounds_toArray, List.set_cons_zero, List.set_cons_succ]
        refine wpAnyH_take (i := 3) (oi := ({ dst := some 30, op := Op.load 39 (Operand.tmp 29), type := 39, pos := "ref.go:65", after := #[{ on := 2, ground := Ground.data }], guard := none } : Oper)) (v := ?_) rfl (by kernel_rfl) (by kernel_rfl) (by kernel_rfl) (fun _ _ _ h => h) (Or.inl ⟨by rfl, ?_⟩) hS20 ?_
        rotate_left
        · intro w hSw; (try dsimp only at hSw); go_simp; (try with_reducible rfl)
        simp only [Act.put, List.setIfInBounds_toArray, List.set_cons_zero, List.set_cons_succ]
        refine wpAnyH_take (i := 4) (oi := ({ dst := some 31, op := Op.move (Operand.tmp 1), type := 22, pos := "ref.go:65", after := #[], guard := none } : Oper)) (v := ?_) rfl (by kernel_rfl) (by kernel_rfl) (by kernel_rfl) (fun _ _ _ h => h) (Or.inl ⟨by rfl, ?_⟩) hS20 ?_
        rotate_left
        · intro w hSw; (try dsimp only at hSw); go_simp; (try with_reducible rfl)
        simp only [Act.put, List.setIfInBounds_toArray, List.set_cons_zero, List.set_cons_succ]
        refine wpAnyH_take (i := 5) (oi := ({ dst := some 32, op := Op.move (Operand.tmp 5), type := 3, pos := "ref.go:65", after := #[], guard := none } : Oper)) (v := ?_) rfl (by kernel_rfl) (by kernel_rfl) (by kernel_rfl) (fun _ _ _ h => h) (Or.inl ⟨by rfl, ?_⟩) hS20 ?_
        rotate_left
        · intro w hSw; (try dsimp only at hSw); go_simp; (try with_reducible rfl)
        simp only [Act.put, List.setIfInBounds_toArray, List.set_cons_zero, List.set_cons_succ]
        refine wpAnyH_take (i := 6) (oi := ({ dst := some 33, op := Op.indexAddr 22 (Operand.tmp 31) (Operand.tmp 32), type := 0, pos := "ref.go:65", after := #[{ on := 4, ground := Ground.data }, { on := 5, ground := Ground.data }], guard := none } : Oper)) (v := ?_) rfl (by kernel_rfl) (by kernel_rfl) (by kernel_rfl) (fun _ _ _ h => h) (Or.inl ⟨by rfl, ?_⟩) hS20 ?_
        rotate_left
        · intro w hSw; (try dsimp only at hSw); go_simp; (try with_reducible rfl)
        simp only [Act.put, List.setIfInBounds_toArray, List.set_cons_zero, List.set_cons_succ]
        refine wpAnyH_take (i := 7) (oi := ({ dst := some 34, op := Op.load 39 (Operand.tmp 33), type := 39, pos := "ref.go:65", after := #[{ on := 6, ground := Ground.data }], guard := none } : Oper)) (v := ?_) rfl (by kernel_rfl) (by kernel_rfl) (by kernel_rfl) (fun _ _ _ h => h) (Or.inl ⟨by rfl, ?_⟩) hS20 ?_
        rotate_left
        · intro w hSw; (try dsimp only at hSw); go_simp; (try with_reducible rfl)
        simp only [Act.put, List.setIfInBounds_toArray, List.set_cons_zero, List.set_cons_succ]
        refine wpAnyH_ready (rs := [8]) (by kernel_rfl) (by simp) ?_
        refine AllReadyH.cons (o := ({ dst := some 35, op := Op.call { callee := Callee.value (Operand.func 28), args := #[Operand.tmp 30, Operand.tmp 34], argTypes := #[39, 39] }, type := 3, pos := "ref.go:65", after := #[{ on := 3, ground := Ground.data }, { on := 7, ground := Ground.data }], guard := none } : Oper)) rfl (fun K hK => ?_) AllReadyH.nil
        go_simp
        refine (cr.out _).mono ?_; rintro e w21 ⟨rfl, hb21⟩
        go_wp2_with fail
        refine hK.out _ _ (mk20 _ (hnext hS20.1 hb21)) (fun hS21 => ?_)
        clear hK K
        (try simp only [Act.put, List.setIfInBounds_toArray, List.set_cons_zero, List.set_cons_succ])
        clear hb21 hS20
        refine wpAnyH_take (i := 9) (oi := ({ dst := some 6, op := Op.assign (Operand.tmp 35), type := 3, pos := "ref.go:65", after := #[{ on := 8, ground := Ground.data }, { on := 8, ground := Ground.chain }, { on := 0, ground := Ground.phase }, { on := 1, ground := Ground.phase }, { on := 2, ground := Ground.phase }, { on := 3, ground := Ground.phase }, { on := 4, ground := Ground.phase }, { on := 5, ground := Ground.phase }, { on := 6, ground := Ground.phase }, { on := 7, ground := Ground.phase }, { on := 8, ground := Ground.phase }], guard := none } : Oper)) (v := ?_) rfl (by kernel_rfl) (by kernel_rfl) (by kernel_rfl) (fun _ _ _ h => h) (Or.inl ⟨by rfl, ?_⟩) hS21 ?_
        rotate_left
        · intro w hSw; (try dsimp only at hSw); go_simp; (try with_reducible rfl)
        simp only [Act.put, List.setIfInBounds_toArray, List.set_cons_zero, List.set_cons_succ]
        refine wpAnyH_done (by kernel_rfl) ?_ _
        go_wp2_with fail
        go_roundw
        case rel => exact ⟨k + 1, by omega, by omega, by go_num, HT, hnext (hnext hbel hd20) hS21.1⟩
        case measure => simp [intOf]; omega
      · have HN := hid (HX.out hz)
        have hzn : (c != 0) = true := by rw [bne_iff_ne]; exact hz
        have hzn2 : (c == 0) = false := by rw [beq_eq_false_iff_ne]; exact hz
        clear HX HNX hcc
        obtain ⟨xk, xn, xb, xs⟩ := x
        obtain ⟨yk, yn, yb, ys⟩ := y
        simp only at q0 q1 q2 q3 p0 p1 p2 p3 hs hs2 hxb hxb2
        unfold vv at cr0
        simp only at cr0
        have cr := hid cr0
        clear cr0
        go_wp2_with fail
        obtain ⟨w20, hw20⟩ : ∃ w20, (w4).drew = w20 := ⟨_, rfl⟩
        have hd20 : Below (w4).heap.size (w4) w20 := hw20 ▸ (Below.refl _ _).drew
        have mk20 : ∀ W, Below w20.heap.size w20 W → Below w20.heap.size w20 W ∧ W.cell? ⟨g, off + k * 4, none⟩ = some (.int .i64 xk) ∧ W.cell? ⟨g, off + k * 4 + 1, none⟩ = some (.int .i64 xn) ∧ W.cell? ⟨g, off + k * 4 + 2, none⟩ = some (.int .u64 (xb : Int)) ∧ W.cell? ⟨g, off + k * 4 + 3, none⟩ = some (.string xs) ∧ W.cell? ⟨g2, off2 + k * 4, none⟩ = some (.int .i64 yk) ∧ W.cell? ⟨g2, off2 + k * 4 + 1, none⟩ = some (.int .i64 yn) ∧ W.cell? ⟨g2, off2 + k * 4 + 2, none⟩ = some (.int .u64 (yb : Int)) ∧ W.cell? ⟨g2, off2 + k * 4 + 3, none⟩ = some (.string ys) := fun W h => ⟨h, hkeep (hkeep q0 hd20) h, hkeep (hkeep q1 hd20) h, hkeep (hkeep q2 hd20) h, hkeep (hkeep q3 hd20) h, hkeep (hkeep p0 hd20) h, hkeep (hkeep p1 hd20) h, hkeep (hkeep p2 hd20) h, hkeep (hkeep p3 hd20) h⟩
        refine wp_region_held_drew (S := (fun W => Below w20.heap.size w20 W ∧ W.cell? ⟨g, off + k * 4, none⟩ = some (.int .i64 xk) ∧ W.cell? ⟨g, off + k * 4 + 1, none⟩ = some (.int .i64 xn) ∧ W.cell? ⟨g, off + k * 4 + 2, none⟩ = some (.int .u64 (xb : Int)) ∧ W.cell? ⟨g, off + k * 4 + 3, none⟩ = some (.string xs) ∧ W.cell? ⟨g2, off2 + k * 4, none⟩ = some (.int .i64 yk) ∧ W.cell? ⟨g2, off2 + k * 4 + 1, none⟩ = some (.int .i64 yn) ∧ W.cell? ⟨g2, off2 + k * 4 + 2, none⟩ = some (.int .u64 (yb : Int)) ∧ W.cell? ⟨g2, off2 + k * 4 + 3, none⟩ = some (.string ys))) (by kernel_rfl) (by rw [hw20]; exact mk20 _ (Below.refl _ _)) (fun hS20 => ?_)
        rw [hw20] at hS20 ⊢
        clear hw20
        refine wpAnyH_take (i := 0) (oi := ({ dst := some 27, op := Op.move (Operand.tmp 0), type := 22, pos := "ref.go:65", after := #[], guard := none } : Oper)) (v := ?_) rfl (by kernel_rfl) (by kernel_rfl) (by kernel_rfl) (fun _ _ _ h => h) (Or.inl ⟨by rfl, ?_⟩) hS20 ?_
        rotate_left
        · intro w hSw; (try dsimp only at hSw); go_simp; (try with_reducible rfl)
        simp only [Act.put, List.setIfInBounds_toArray, List.set_cons_zero, List.set_cons_succ]
        refine wpAnyH_take (i := 1) (oi := ({ dst := some 28, op := Op.move (Operand.tmp 5), type := 3, pos := "ref.go:65", after := #[], guard := none } : Oper)) (v := ?_) rfl (by kernel_rfl) (by kernel_rfl) (by kernel_rfl) (fun _ _ _ h => h) (Or.inl ⟨by rfl, ?_⟩) hS20 ?_
        rotate_left
        · intro w hSw; (try dsimp only at hSw); go_simp; (try with_reducible rfl)
        simp only [Act.put, List.setIfInBounds_toArray, List.set_cons_zero, List.set_cons_succ]
        refine wpAnyH_take (i := 2) (oi := ({ dst := some 29, op := Op.indexAddr 22 (Operand.tmp 27) (Operand.tmp 28), type := 0, pos := "ref.go:65", after := #[{ on := 0, ground := Ground.data }, { on := 1, ground := Ground.data }], guard := none } : Oper)) (v := ?_) rfl (by kernel_rfl) (by kernel_rfl) (by kernel_rfl) (fun _ _ _ h => h) (Or.inl ⟨by rfl, ?_⟩) hS20 ?_
        rotate_left
        · intro w hSw; (try dsimp only at hSw); go_simp; (try with_reducible rfl)
        simp only [Act.put, List.setIfInBounds_toArray, List.set_cons_zero, List.set_cons_succ]
        refine wpAnyH_take (i := 3) (oi := ({ dst := some 30, op := Op.load 39 (Operand.tmp 29), type := 39, pos := "ref.go:65", after := #[{ on := 2, ground := Ground.data }], guard := none } : Oper)) (v := ?_) rfl (by kernel_rfl) (by kernel_rfl) (by kernel_rfl) (fun _ _ _ h => h) (Or.inl ⟨by rfl, ?_⟩) hS20 ?_
        rotate_left
        · intro w hSw; (try dsimp only at hSw); go_simp; (try with_reducible rfl)
        simp only [Act.put, List.setIfInBounds_toArray, List.set_cons_zero, List.set_cons_succ]
        refine wpAnyH_take (i := 4) (oi := ({ dst := some 31, op := Op.move (Operand.tmp 1), type := 22, pos := "ref.go:65", after := #[], guard := none } : Oper)) (v := ?_) rfl (by kernel_rfl) (by kernel_rfl) (by kernel_rfl) (fun _ _ _ h => h) (Or.inl ⟨by rfl, ?_⟩) hS20 ?_
        rotate_left
        · intro w hSw; (try dsimp only at hSw); go_simp; (try with_reducible rfl)
        simp only [Act.put, List.setIfInBounds_toArray, List.set_cons_zero, List.set_cons_succ]
        refine wpAnyH_take (i := 5) (oi := ({ dst := some 32, op := Op.move (Operand.tmp 5), type := 3, pos := "ref.go:65", after := #[], guard := none } : Oper)) (v := ?_) rfl (by kernel_rfl) (by kernel_rfl) (by kernel_rfl) (fun _ _ _ h => h) (Or.inl ⟨by rfl, ?_⟩) hS20 ?_
        rotate_left
        · intro w hSw; (try dsimp only at hSw); go_simp; (try with_reducible rfl)
        simp only [Act.put, List.setIfInBounds_toArray, List.set_cons_zero, List.set_cons_succ]
        refine wpAnyH_take (i := 6) (oi := ({ dst := some 33, op := Op.indexAddr 22 (Operand.tmp 31) (Operand.tmp 32), type := 0, pos := "ref.go:65", after := #[{ on := 4, ground := Ground.data }, { on := 5, ground := Ground.data }], guard := none } : Oper)) (v := ?_) rfl (by kernel_rfl) (by kernel_rfl) (by kernel_rfl) (fun _ _ _ h => h) (Or.inl ⟨by rfl, ?_⟩) hS20 ?_
        rotate_left
        · intro w hSw; (try dsimp only at hSw); go_simp; (try with_reducible rfl)
        simp only [Act.put, List.setIfInBounds_toArray, List.set_cons_zero, List.set_cons_succ]
        refine wpAnyH_take (i := 7) (oi := ({ dst := some 34, op := Op.load 39 (Operand.tmp 33), type := 39, pos := "ref.go:65", after := #[{ on := 6, ground := Ground.data }], guard := none } : Oper)) (v := ?_) rfl (by kernel_rfl) (by kernel_rfl) (by kernel_rfl) (fun _ _ _ h => h) (Or.inl ⟨by rfl, ?_⟩) hS20 ?_
        rotate_left
        · intro w hSw; (try dsimp only at hSw); go_simp; (try with_reducible rfl)
        simp only [Act.put, List.setIfInBounds_toArray, List.set_cons_zero, List.set_cons_succ]
        refine wpAnyH_ready (rs := [8]) (by kernel_rfl) (by simp) ?_
        refine AllReadyH.cons (o := ({ dst := some 35, op := Op.call { callee := Callee.value (Operand.func 28), args := #[Operand.tmp 30, Operand.tmp 34], argTypes := #[39, 39] }, type := 3, pos := "ref.go:65", after := #[{ on := 3, ground := Ground.data }, { on := 7, ground := Ground.data }], guard := none } : Oper)) rfl (fun K hK => ?_) AllReadyH.nil
        go_simp
        refine (cr.out _).mono ?_; rintro e w21 ⟨rfl, hb21⟩
        go_wp2_with fail
        refine hK.out _ _ (mk20 _ (hnext hS20.1 hb21)) (fun hS21 => ?_)
        clear hK K
        (try simp only [Act.put, List.setIfInBounds_toArray, List.set_cons_zero, List.set_cons_succ])
        clear hb21 hS20
        refine wpAnyH_take (i := 9) (oi := ({ dst := some 6, op := Op.assign (Operand.tmp 35), type := 3, pos := "ref.go:65", after := #[{ on := 8, ground := Ground.data }, { on := 8, ground := Ground.chain }, { on := 0, ground := Ground.phase }, { on := 1, ground := Ground.phase }, { on := 2, ground := Ground.phase }, { on := 3, ground := Ground.phase }, { on := 4, ground := Ground.phase }, { on := 5, ground := Ground.phase }, { on := 6, ground := Ground.phase }, { on := 7, ground := Ground.phase }, { on := 8, ground := Ground.phase }], guard := none } : Oper)) (v := ?_) rfl (by kernel_rfl) (by kernel_rfl) (by kernel_rfl) (fun _ _ _ h => h) (Or.inl ⟨by rfl, ?_⟩) hS21 ?_
        rotate_left
        · intro w hSw; (try dsimp only at hSw); go_simp; (try with_reducible rfl)
        simp only [Act.put, List.setIfInBounds_toArray, List.set_cons_zero, List.set_cons_succ]
        refine wpAnyH_done (by kernel_rfl) ?_ _
        go_wp2_with fail
        go_ret
        rw [HE.out, HN.out]
        exact ⟨rfl, hnext (hnext hbel hd20) hS21.1⟩
    · have HZ := hid (Ky.cmpL_end (k := k) (by omega) htk.out)
      clear htk
      have ci := hid (fun W => ints_any l.length r.length W)
      have HF : Hid (Ky.comp Ky.cmpR l r = Ky.ints l.length r.length) := by show _ = _; rw [HE.out, HZ.out]
      clear HE HZ
      by_cases h1 : k < l.length
      · have h1' : (k : Int) < l.length := by omega
        have h2' : ¬ (k : Int) < r.length := by omega
        clear hlk
        go_wp2_with fail
        refine (ci.out _).mono ?_; rintro e w5 ⟨rfl, rfl⟩
        go_wp2_with fail
        go_ret
        rw [HF.out]
        exact ⟨rfl, hbel⟩
      · have h1' : ¬ (k : Int) < l.length := by omega
        clear hlk
        go_wp2_with fail
        refine (ci.out _).mono ?_; rintro e w5 ⟨rfl, rfl⟩
        go_wp2_with fail
        go_ret
        rw [HF.out]
        exact ⟨rfl, hbel⟩
end Go.Proofs.Ytimcmpcfnddioaa
