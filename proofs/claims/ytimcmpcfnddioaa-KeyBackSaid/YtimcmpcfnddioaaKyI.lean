/-
  value.Compare: its contract. Condition: the texts have at most 2^63 - 1 bytes.
-/
import Derived.Test.YtimcmpcfnddioaaKyH
import Derived.Test.YtimcmpcfnddioaaReg
namespace Go.Proofs.Ytimcmpcfnddioaa
open Go.RowKit

/-- which value is ahead -/
def Ky.cmp (x y : Cd.V) : Int :=
  if x.right = false then 0 else if y.right = false then 0 else if x.k = y.k then (if x.k = 3 then Ky.floats x.b y.b else if x.s = y.s then Ky.ints x.n y.n else Ky.strs x.s y.s) else Ky.ints x.k y.k
set_option maxRecDepth 100000 in
set_option maxHeartbeats 3200000 in
theorem compare_any (x y : Cd.V) (hx : x.s.size ≤ maxLen) (hy : y.s.size ≤ maxLen) (w : World) : Calls Try.prog 27 #[vv x.k x.n x.b x.s, vv y.k y.n y.b y.s] w fun e w' => e = .returned (.int .i64 (Ky.cmp x y)) ∧ Below w.heap.size w w' := by
  obtain ⟨xk, xn, xb, xs⟩ := x
  obtain ⟨yk, yn, yb, ys⟩ := y
  simp only at hx hy ⊢
  have rx0 := fun W => right_any xk xn xb xs hx W
  have ry0 := fun W => right_any yk yn yb ys hy W
  have X0 : Hid (VB ((w.alloc (.cells #[.int .i64 xk, .int .i64 xn, .int .u64 (xb : Int), .string xs] 39)).alloc (.cells #[.int .i64 yk, .int .i64 yn, .int .u64 (yb : Int), .string ys] 39)) w.heap.size xk xn xb xs) := (VB.new w xk xn xb xs).keep (hba _ _)
  have Y0 : Hid (VB ((w.alloc (.cells #[.int .i64 xk, .int .i64 xn, .int .u64 (xb : Int), .string xs] 39)).alloc (.cells #[.int .i64 yk, .int .i64 yn, .int .u64 (yb : Int), .string ys] 39)) (w.heap.size + 1) yk yn yb ys) := by
    have h := VB.new (w.alloc (.cells #[.int .i64 xk, .int .i64 xn, .int .u64 (xb : Int), .string xs] 39)) yk yn yb ys
    rw [show (w.alloc (.cells #[.int .i64 xk, .int .i64 xn, .int .u64 (xb : Int), .string xs] 39)).heap.size = w.heap.size + 1 by simp] at h
    exact h
  have L0 := hid (hnext (hba w (.cells #[.int .i64 xk, .int .i64 xn, .int .u64 (xb : Int), .string xs] 39)) (hba _ (.cells #[.int .i64 yk, .int .i64 yn, .int .u64 (yb : Int), .string ys] 39)))
  obtain ⟨q0, q1, q2, q3⟩ := X0.out.cells
  obtain ⟨p0, p1, p2, p3⟩ := Y0.out.cells
  cases hrx : Va.right xk xn xb xs
  · rw [hrx] at rx0
    have HE : Hid (Ky.cmp ⟨xk, xn, xb, xs⟩ ⟨yk, yn, yb, ys⟩ = 0) := if_pos hrx
    unfold vv at rx0 ⊢
    have rx := hid rx0
    clear rx0 ry0 hrx
    go_enter Try.func27, Try.ntmps27
    go_wp2_with fail
    refine (rx.out _).mono ?_; rintro e w1 ⟨rfl, b1⟩
    have L1 := hid (hnext L0.out b1)
    go_wp2_with fail
    go_ret
    rw [HE.out]
    exact ⟨rfl, L1.out⟩
  cases hry : Va.right yk yn yb ys
  · rw [hrx] at rx0
    rw [hry] at ry0
    have HE : Hid (Ky.cmp ⟨xk, xn, xb, xs⟩ ⟨yk, yn, yb, ys⟩ = 0) := by
      show _ = _
      unfold Ky.cmp Cd.V.right
      simp only [hrx, hry]
      rfl
    unfold vv at rx0 ry0 ⊢
    have rx := hid rx0
    have ry := hid ry0
    clear rx0 ry0 hrx hry
    go_enter Try.func27, Try.ntmps27
    go_wp2_with fail
    refine (rx.out _).mono ?_; rintro e w1 ⟨rfl, b1⟩
    have X1 := X0.out.keep b1
    have Y1 := Y0.out.keep b1
    have L1 := hid (hnext L0.out b1)
    clear b1
    obtain ⟨q0, q1, q2, q3⟩ := X1.cells
    obtain ⟨p0, p1, p2, p3⟩ := Y1.cells
    go_wp2_with fail
    refine (ry.out _).mono ?_; rintro e w2 ⟨rfl, b2⟩
    have L2 := hid (hnext L1.out b2)
    go_wp2_with fail
    go_ret
    rw [HE.out]
    exact ⟨rfl, L2.out⟩
  have HC : Hid (Ky.cmp ⟨xk, xn, xb, xs⟩ ⟨yk, yn, yb, ys⟩ = if xk = yk then (if xk = 3 then Ky.floats xb yb else if xs = ys then Ky.ints xn yn else Ky.strs xs ys) else Ky.ints xk yk) := by
    show _ = _
    unfold Ky.cmp Cd.V.right
    simp only [hrx, hry]
    rfl
  have hax := hid (fun (h : xk = 3) => asfloat_any xn xb xs hx (h ▸ hrx))
  have hay := hid (fun (h : yk = 3) => asfloat_any yn yb ys hy (h ▸ hry))
  rw [hrx] at rx0
  rw [hry] at ry0
  have rx := hid rx0
  have ry := hid ry0
  clear rx0 ry0 hrx hry
  by_cases hk : xk = yk
  · by_cases h3 : xk = 3
    · have HE : Hid (Ky.cmp ⟨xk, xn, xb, xs⟩ ⟨yk, yn, yb, ys⟩ = Ky.floats xb yb) := by show _ = _; rw [HC.out, if_pos hk, if_pos h3]
      subst hk
      subst h3
      have ax0 := hax.out rfl
      have ay0 := hay.out rfl
      have cf : Hid (∀ W, Calls Try.prog 41 #[.float .f64 xb, .float .f64 yb] W fun e w' => e = .returned (.int .i64 (Ky.floats xb yb)) ∧ Below W.heap.size W w') := fun W => (floats_any xb yb W).mono fun e w' ⟨h1, h2⟩ => ⟨h1, h2 ▸ Below.refl _ _⟩
      unfold vv at rx ry ax0 ay0 ⊢
      have ax := hid ax0
      have ay := hid ay0
      clear ax0 ay0 hax hay HC
      go_enter Try.func27, Try.ntmps27
      go_wp2_with fail
      refine (rx.out _).mono ?_; rintro e w1 ⟨rfl, b1⟩
      have X1 := X0.out.keep b1
      have Y1 := Y0.out.keep b1
      have L1 := hid (hnext L0.out b1)
      clear b1
      obtain ⟨q0, q1, q2, q3⟩ := X1.cells
      obtain ⟨p0, p1, p2, p3⟩ := Y1.cells
      go_wp2_with fail
      refine (ry.out _).mono ?_; rintro e w2 ⟨rfl, b2⟩
      have X2 := X1.keep b2
      have Y2 := Y1.keep b2
      have L2 := hid (hnext L1.out b2)
      clear b2 X1 Y1 q0 q1 q2 q3 p0 p1 p2 p3
      obtain ⟨q0, q1, q2, q3⟩ := X2.cells
      obtain ⟨p0, p1, p2, p3⟩ := Y2.cells
      go_wp2_with fail
      obtain ⟨w20, hw20⟩ : ∃ w20, (w2).drew = w20 := ⟨_, rfl⟩
      have hd20 : Below (w2).heap.size (w2) w20 := hw20 ▸ (Below.refl _ _).drew
      have mk20 : ∀ W, Below w20.heap.size w20 W → Below w20.heap.size w20 W ∧ W.cell? ⟨w.heap.size, 0, none⟩ = some (.int .i64 3) ∧ W.cell? ⟨w.heap.size, 1, none⟩ = some (.int .i64 xn) ∧ W.cell? ⟨w.heap.size, 2, none⟩ = some (.int .u64 (xb : Int)) ∧ W.cell? ⟨w.heap.size, 3, none⟩ = some (.string xs) ∧ W.cell? ⟨w.heap.size + 1, 0, none⟩ = some (.int .i64 3) ∧ W.cell? ⟨w.heap.size + 1, 1, none⟩ = some (.int .i64 yn) ∧ W.cell? ⟨w.heap.size + 1, 2, none⟩ = some (.int .u64 (yb : Int)) ∧ W.cell? ⟨w.heap.size + 1, 3, none⟩ = some (.string ys) := fun W h => ⟨h, hkeep (hkeep q0 hd20) h, hkeep (hkeep q1 hd20) h, hkeep (hkeep q2 hd20) h, hkeep (hkeep q3 hd20) h, hkeep (hkeep p0 hd20) h, hkeep (hkeep p1 hd20) h, hkeep (hkeep p2 hd20) h, hkeep (hkeep p3 hd20) h⟩
      refine wp_region_held_drew (S := (fun W => Below w20.heap.size w20 W ∧ W.cell? ⟨w.heap.size, 0, none⟩ = some (.int .i64 3) ∧ W.cell? ⟨w.heap.size, 1, none⟩ = some (.int .i64 xn) ∧ W.cell? ⟨w.heap.size, 2, none⟩ = some (.int .u64 (xb : Int)) ∧ W.cell? ⟨w.heap.size, 3, none⟩ = some (.string xs) ∧ W.cell? ⟨w.heap.size + 1, 0, none⟩ = some (.int .i64 3) ∧ W.cell? ⟨w.heap.size + 1, 1, none⟩ = some (.int .i64 yn) ∧ W.cell? ⟨w.heap.size + 1, 2, none⟩ = some (.int .u64 (yb : Int)) ∧ W.cell? ⟨w.heap.size + 1, 3, none⟩ = some (.string ys))) (by kernel_rfl) (by rw [hw20]; exact mk20 _ (Below.refl _ _)) (fun hS20 => ?_)
      rw [hw20] at hS20 ⊢
      clear hw20
      refine wpAnyH_take (i := 0) (oi := ({ dst := some 29, op := Op.load 39 (Operand.tmp 2), type := 39, pos := "value.go:92", after := #[], guard := none } : Oper)) (v := ?_) rfl (by kernel_rfl) (by kernel_rfl) (by kernel_rfl) (fun _ _ _ h => h) (Or.inl ⟨by rfl, ?_⟩) hS20 ?_
      rotate_left
      · intro w hSw; (try dsimp only at hSw); go_simp; (try with_reducible rfl)
      simp only [Act.put, List.setIfInBounds_toArray, List.set_cons_zero, List.set_cons_succ]
      refine wpAnyH_take (i := 2) (oi := ({ dst := some 31, op := Op.load 39 (Operand.tmp 3), type := 39, pos := "value.go:92", after := #[], guard := none } : Oper)) (v := ?_) rfl (by kernel_rfl) (by kernel_rfl) (by kernel_rfl) (fun _ _ _ h => h) (Or.inl ⟨by rfl, ?_⟩) hS20 ?_
      rotate_left
      · intro w hSw; (try dsimp only at hSw); go_simp; (try with_reducible rfl)
      simp only [Act.put, List.setIfInBounds_toArray, List.set_cons_zero, List.set_cons_succ]
      refine wpAnyH_ready (rs := [1]) (by kernel_rfl) (by simp) ?_
      refine AllReadyH.cons (o := ({ dst := some 30, op := Op.call { callee := Callee.value (Operand.func 42), args := #[Operand.tmp 29], argTypes := #[39] }, type := 54, pos := "value.go:92", after := #[{ on := 0, ground := Ground.data }], guard := none } : Oper)) rfl (fun K hK => ?_) AllReadyH.nil
      go_simp
      refine (ax.out _).mono ?_; rintro e w21 ⟨rfl, hb21⟩
      go_wp2_with fail
      refine hK.out _ _ (mk20 _ (hnext hS20.1 hb21)) (fun hS21 => ?_)
      clear hK K
      (try simp only [Act.put, List.setIfInBounds_toArray, List.set_cons_zero, List.set_cons_succ])
      clear hb21 hS20
      refine wpAnyH_ready (rs := [3]) (by kernel_rfl) (by simp) ?_
      refine AllReadyH.cons (o := ({ dst := some 32, op := Op.call { callee := Callee.value (Operand.func 42), args := #[Operand.tmp 31], argTypes := #[39] }, type := 54, pos := "value.go:92", after := #[{ on := 2, ground := Ground.data }, { on := 1, ground := Ground.chain }], guard := none } : Oper)) rfl (fun K hK => ?_) AllReadyH.nil
      go_simp
      refine (ay.out _).mono ?_; rintro e w22 ⟨rfl, hb22⟩
      go_wp2_with fail
      refine hK.out _ _ (mk20 _ (hnext hS21.1 hb22)) (fun hS22 => ?_)
      clear hK K
      (try simp only [Act.put, List.setIfInBounds_toArray, List.set_cons_zero, List.set_cons_succ])
      clear hb22 hS21
      refine wpAnyH_ready (rs := [4]) (by kernel_rfl) (by simp) ?_
      refine AllReadyH.cons (o := ({ dst := some 33, op := Op.call { callee := Callee.value (Operand.func 41), args := #[Operand.tmp 30, Operand.tmp 32], argTypes := #[54, 54] }, type := 3, pos := "value.go:92", after := #[{ on := 1, ground := Ground.data }, { on := 3, ground := Ground.data }, { on := 3, ground := Ground.chain }], guard := none } : Oper)) rfl (fun K hK => ?_) AllReadyH.nil
      go_simp
      refine (cf.out _).mono ?_; rintro e w23 ⟨rfl, hb23⟩
      go_wp2_with fail
      refine hK.out _ _ (mk20 _ (hnext hS22.1 hb23)) (fun hS23 => ?_)
      clear hK K
      (try simp only [Act.put, List.setIfInBounds_toArray, List.set_cons_zero, List.set_cons_succ])
      clear hb23 hS22
      refine wpAnyH_take (i := 5) (oi := ({ dst := some 4, op := Op.assign (Operand.tmp 33), type := 3, pos := "value.go:92", after := #[{ on := 4, ground := Ground.data }, { on := 4, ground := Ground.chain }, { on := 0, ground := Ground.phase }, { on := 1, ground := Ground.phase }, { on := 2, ground := Ground.phase }, { on := 3, ground := Ground.phase }, { on := 4, ground := Ground.phase }], guard := none } : Oper)) (v := ?_) rfl (by kernel_rfl) (by kernel_rfl) (by kernel_rfl) (fun _ _ _ h => h) (Or.inl ⟨by rfl, ?_⟩) hS23 ?_
      rotate_left
      · intro w hSw; (try dsimp only at hSw); go_simp; (try with_reducible rfl)
      simp only [Act.put, List.setIfInBounds_toArray, List.set_cons_zero, List.set_cons_succ]
      refine wpAnyH_done (by kernel_rfl) ?_ _
      go_wp2_with fail
      go_ret
      rw [HE.out]
      exact ⟨rfl, hnext (hnext L2.out hd20) hS23.1⟩
    · have e3 : (xk == 3) = false := by rw [beq_eq_false_iff_ne]; exact h3
      have ek : (xk != yk) = false := by rw [bne_eq_false_iff_eq]; exact hk
      have hse := bytes_beq xs ys
      by_cases hs : xs = ys
      · have HE : Hid (Ky.cmp ⟨xk, xn, xb, xs⟩ ⟨yk, yn, yb, ys⟩ = Ky.ints xn yn) := by show _ = _; rw [HC.out, if_pos hk, if_neg h3, if_pos hs]
        rw [decide_eq_true hs] at hse
        have co := hid (fun W => order_any xn yn W)
        unfold vv at rx ry ⊢
        clear hax hay HC hs h3 hk
        go_enter Try.func27, Try.ntmps27
        go_wp2_with fail
        refine (rx.out _).mono ?_; rintro e w1 ⟨rfl, b1⟩
        have X1 := X0.out.keep b1
        have Y1 := Y0.out.keep b1
        have L1 := hid (hnext L0.out b1)
        clear b1
        obtain ⟨q0, q1, q2, q3⟩ := X1.cells
        obtain ⟨p0, p1, p2, p3⟩ := Y1.cells
        go_wp2_with fail
        refine (ry.out _).mono ?_; rintro e w2 ⟨rfl, b2⟩
        have X2 := X1.keep b2
        have Y2 := Y1.keep b2
        have L2 := hid (hnext L1.out b2)
        clear b2 X1 Y1 q0 q1 q2 q3 p0 p1 p2 p3
        obtain ⟨q0, q1, q2, q3⟩ := X2.cells
        obtain ⟨p0, p1, p2, p3⟩ := Y2.cells
        go_wp2_with fail
        refine (co.out _).mono ?_; rintro e w3 ⟨rfl, rfl⟩
        go_wp2_with fail
        go_ret
        rw [HE.out]
        exact ⟨rfl, L2.out⟩
      · have HE : Hid (Ky.cmp ⟨xk, xn, xb, xs⟩ ⟨yk, yn, yb, ys⟩ = Ky.strs xs ys) := by show _ = _; rw [HC.out, if_pos hk, if_neg h3, if_neg hs]
        rw [decide_eq_false hs] at hse
        have co := hid (fun W => orders_any xs ys W)
        unfold vv at rx ry ⊢
        clear hax hay HC hs h3 hk
        go_enter Try.func27, Try.ntmps27
        go_wp2_with fail
        refine (rx.out _).mono ?_; rintro e w1 ⟨rfl, b1⟩
        have X1 := X0.out.keep b1
        have Y1 := Y0.out.keep b1
        have L1 := hid (hnext L0.out b1)
        clear b1
        obtain ⟨q0, q1, q2, q3⟩ := X1.cells
        obtain ⟨p0, p1, p2, p3⟩ := Y1.cells
        go_wp2_with fail
        refine (ry.out _).mono ?_; rintro e w2 ⟨rfl, b2⟩
        have X2 := X1.keep b2
        have Y2 := Y1.keep b2
        have L2 := hid (hnext L1.out b2)
        clear b2 X1 Y1 q0 q1 q2 q3 p0 p1 p2 p3
        obtain ⟨q0, q1, q2, q3⟩ := X2.cells
        obtain ⟨p0, p1, p2, p3⟩ := Y2.cells
        go_wp2_with fail
        refine (co.out _).mono ?_; rintro e w3 ⟨rfl, rfl⟩
        go_wp2_with fail
        go_ret
        rw [HE.out]
        exact ⟨rfl, L2.out⟩
  · have ek : (xk != yk) = true := by rw [bne_iff_ne]; exact hk
    have HE : Hid (Ky.cmp ⟨xk, xn, xb, xs⟩ ⟨yk, yn, yb, ys⟩ = Ky.ints xk yk) := by show _ = _; rw [HC.out, if_neg hk]
    have co := hid (fun W => order_any xk yk W)
    unfold vv at rx ry ⊢
    clear hax hay HC hk
    go_enter Try.func27, Try.ntmps27
    go_wp2_with fail
    refine (rx.out _).mono ?_; rintro e w1 ⟨rfl, b1⟩
    have X1 := X0.out.keep b1
    have Y1 := Y0.out.keep b1
    have L1 := hid (hnext L0.out b1)
    clear b1
    obtain ⟨q0, q1, q2, q3⟩ := X1.cells
    obtain ⟨p0, p1, p2, p3⟩ := Y1.cells
    go_wp2_with fail
    refine (ry.out _).mono ?_; rintro e w2 ⟨rfl, b2⟩
    have X2 := X1.keep b2
    have Y2 := Y1.keep b2
    have L2 := hid (hnext L1.out b2)
    clear b2 X1 Y1 q0 q1 q2 q3 p0 p1 p2 p3
    obtain ⟨q0, q1, q2, q3⟩ := X2.cells
    obtain ⟨p0, p1, p2, p3⟩ := Y2.cells
    go_wp2_with fail
    refine (co.out _).mono ?_; rintro e w3 ⟨rfl, rfl⟩
    go_wp2_with fail
    go_ret
    rw [HE.out]
    exact ⟨rfl, L2.out⟩
end Go.Proofs.Ytimcmpcfnddioaa
