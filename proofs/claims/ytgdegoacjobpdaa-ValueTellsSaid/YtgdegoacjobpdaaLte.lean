/-
  ValueTells answers true at any two values. No condition.
-/
import Derived.Test.YtgdegoacjobpdaaVq
import Derived.Test.YtgdegoacjobpdaaGy
namespace Go.Proofs.Ytgdegoacjobpdaa
open Go.RowKit

set_option maxRecDepth 100000 in
set_option maxHeartbeats 12800000 in
theorem valueTells_walk (uk un : Int) (ub : Nat) (us : ByteArray) (vk vn : Int) (vb : Nat) (vs : ByteArray) (w : World) (hu : (-9223372036854775808 ≤ un ∧ un ≤ 9223372036854775807) ∧ ub < 18446744073709551616 ∧ us.size ≤ maxLen) (hv : (-9223372036854775808 ≤ vn ∧ vn ≤ 9223372036854775807) ∧ vb < 18446744073709551616 ∧ vs.size ≤ maxLen) :
    Calls Try.prog 3 #[(.agg #[.int .i64 uk, .int .i64 un, .int .u64 (ub : Int), .string us]), (.agg #[.int .i64 vk, .int .i64 vn, .int .u64 (vb : Int), .string vs])] w fun e w' => e = .returned (.bool true) ∧ Below w.heap.size w w' := by
  obtain ⟨⟨u0, u1⟩, u2, u3⟩ := hu
  unfold maxLen at u3
  obtain ⟨⟨v0, v1⟩, v2, v3⟩ := hv
  unfold maxLen at v3
  obtain ⟨LZ, AZ, BZ⟩ := boxes2 w uk un ub us vk vn vb vs
  have L := hid LZ
  have VA := hid AZ
  have VB := hid BZ
  clear LZ AZ BZ
  have ru0 := fun W => right_any uk un ub us (by unfold maxLen; omega) W
  have su0 := fun W => rightR_any uk un ub us (by unfold maxLen; omega) u2 W
  unfold vv at ru0 su0
  have rv0 := fun W => right_any vk vn vb vs (by unfold maxLen; omega) W
  have sv0 := fun W => rightR_any vk vn vb vs (by unfold maxLen; omega) v2 W
  unfold vv at rv0 sv0
  by_cases yu : 5000 < us.size
  · have yu' : (5000 : Int) < (us.size : Int) := by omega
    go_enter Try.func3, Try.ntmps3
    go_wp2_with fail
    refine (known_any _).mono ?_; rintro e w1 ⟨rfl, b1⟩
    go_wp2
    go_ret
    exact ⟨rfl, hnext L.out b1⟩
  · have yu' : ¬ (5000 : Int) < (us.size : Int) := by omega
    by_cases yv : 5000 < vs.size
    · have yv' : (5000 : Int) < (vs.size : Int) := by omega
      go_enter Try.func3, Try.ntmps3
      go_wp2_with fail
      refine (known_any _).mono ?_; rintro e w1 ⟨rfl, b1⟩
      go_wp2
      go_ret
      exact ⟨rfl, hnext L.out b1⟩
    · have yv' : ¬ (5000 : Int) < (vs.size : Int) := by omega
      have cc0 := fun W => compare_any ⟨uk, un, ub, us⟩ ⟨vk, vn, vb, vs⟩ (by show us.size ≤ _; unfold maxLen; omega) (by show vs.size ≤ _; unfold maxLen; omega) W
      have cd0 := fun W => compareR_any ⟨uk, un, ub, us⟩ ⟨vk, vn, vb, vs⟩ (by show us.size ≤ _; unfold maxLen; omega) (by show vs.size ≤ _; unfold maxLen; omega) u2 v2 W
      have cs0 := fun W => same_any ⟨uk, un, ub, us⟩ ⟨vk, vn, vb, vs⟩ (by show us.size ≤ _; unfold maxLen; omega) W
      have csh0 := fun W => show_any uk un ub us (by unfold maxLen; omega) u0 u1 u2 W
      have csr0 := fun W => showR_any uk un ub us (by unfold maxLen; omega) u0 u1 u2 W
      have ct0 := fun W => truth_any uk un ub us (by unfold maxLen; omega) W
      have qd : ∀ w, _ := fun w => va_eql uk un ub us vk vn vb vs _ (v_beq ⟨uk, un, ub, us⟩ ⟨vk, vn, vb, vs⟩) w
      have HRU : Hid (Cd.V.right ⟨uk, un, ub, us⟩ = Va.right uk un ub us) := rfl
      have HRV : Hid (Cd.V.right ⟨vk, vn, vb, vs⟩ = Va.right vk vn vb vs) := rfl
      have HEQ : Hid (decide ((⟨uk, un, ub, us⟩ : Cd.V) = ⟨vk, vn, vb, vs⟩) = true → Va.right uk un ub us = Va.right vk vn vb vs) := fun h => by
        have := of_decide_eq_true h
        rw [Cd.V.mk.injEq] at this
        obtain ⟨rfl, rfl, rfl, rfl⟩ := this; rfl
      rw [← Ky.cmp_eq _ _ u2 v2] at cd0
      unfold vv at cc0 cd0 cs0 csh0 csr0 ct0 qd
      generalize Ky.cmp ⟨uk, un, ub, us⟩ ⟨vk, vn, vb, vs⟩ = x at *
      generalize bstr (Vl.txt uk un ub us) = tx at *
      generalize hdd : decide ((⟨uk, un, ub, us⟩ : Cd.V) = ⟨vk, vn, vb, vs⟩) = d at *
      rw [HRU.out] at cs0
      have HTR : Hid (Vl.tru uk un ub us = if uk = 1 ∧ Va.right uk un ub us = true then un else -1) := rfl
      cases hu : Va.right uk un ub us with
      | false =>
        rw [hu] at ru0 su0 cs0 HTR
        cases hv : Va.right vk vn vb vs with
        | false =>
          rw [hv] at rv0 sv0
          clear hu hv
          rw [Bool.and_false] at cs0
          rw [HTR.out, if_neg (fun h => by cases h.2)] at ct0
          have ru := hid ru0
          have su := hid su0
          have rv := hid rv0
          have sv := hid sv0
          have cc := hid cc0
          have cd := hid cd0
          have cs := hid cs0
          have csh := hid csh0
          have csr := hid csr0
          have ct := hid ct0
          clear ru0 su0 rv0 sv0 cc0 cd0 cs0 csh0 csr0 ct0 HRU HRV HEQ HTR hdd
          go_enter Try.func3, Try.ntmps3
          go_wp2_with fail
          obtain ⟨Ac0_0, Ac1_0, Ac2_0, Ac3_0, Af0_0, Af1_0, Af2_0, Af3_0, Al_0⟩ := VA.out.cells
          obtain ⟨Bc0_0, Bc1_0, Bc2_0, Bc3_0, Bf0_0, Bf1_0, Bf2_0, Bf3_0, Bl_0⟩ := VB.out.cells
          refine (su.out _).mono ?_; rintro e w1 ⟨rfl, b1⟩
          clear Ac0_0 Ac1_0 Ac2_0 Ac3_0 Af0_0 Af1_0 Af2_0 Af3_0 Al_0 Bc0_0 Bc1_0 Bc2_0 Bc3_0 Bf0_0 Bf1_0 Bf2_0 Bf3_0 Bl_0
          have A1 := hid (VA.out.keep b1)
          have B1 := hid (VB.out.keep b1)
          have L1 := hid (hnext L.out b1)
          clear b1
          obtain ⟨Ac0_1, Ac1_1, Ac2_1, Ac3_1, Af0_1, Af1_1, Af2_1, Af3_1, Al_1⟩ := A1.out.cells
          obtain ⟨Bc0_1, Bc1_1, Bc2_1, Bc3_1, Bf0_1, Bf1_1, Bf2_1, Bf3_1, Bl_1⟩ := B1.out.cells
          go_wp2_with fail
          obtain ⟨w20, hw20⟩ : ∃ w20, (w1).drew = w20 := ⟨_, rfl⟩
          have hd20 : Below (w1).heap.size (w1) w20 := hw20 ▸ (Below.refl _ _).drew
          have mk20 : ∀ W, Below w20.heap.size w20 W → Below w20.heap.size w20 W ∧ W.cell? ⟨w.heap.size, 0, none⟩ = some (.int .i64 uk) ∧ W.cell? ⟨w.heap.size, 1, none⟩ = some (.int .i64 un) ∧ W.cell? ⟨w.heap.size, 2, none⟩ = some (.int .u64 (ub : Int)) ∧ W.cell? ⟨w.heap.size, 3, none⟩ = some (.string us) ∧ W.cell? ⟨w.heap.size + 1, 0, none⟩ = some (.int .i64 vk) ∧ W.cell? ⟨w.heap.size + 1, 1, none⟩ = some (.int .i64 vn) ∧ W.cell? ⟨w.heap.size + 1, 2, none⟩ = some (.int .u64 (vb : Int)) ∧ W.cell? ⟨w.heap.size + 1, 3, none⟩ = some (.string vs) := fun W h => ⟨h, hkeep (hkeep Ac0_1 hd20) h, hkeep (hkeep Ac1_1 hd20) h, hkeep (hkeep Ac2_1 hd20) h, hkeep (hkeep Ac3_1 hd20) h, hkeep (hkeep Bc0_1 hd20) h, hkeep (hkeep Bc1_1 hd20) h, hkeep (hkeep Bc2_1 hd20) h, hkeep (hkeep Bc3_1 hd20) h⟩
          clear Ac0_1 Ac1_1 Ac2_1 Ac3_1 Af0_1 Af1_1 Af2_1 Af3_1 Al_1 Bc0_1 Bc1_1 Bc2_1 Bc3_1 Bf0_1 Bf1_1 Bf2_1 Bf3_1 Bl_1
          refine wp_region_held_drew (S := (fun W => Below w20.heap.size w20 W ∧ W.cell? ⟨w.heap.size, 0, none⟩ = some (.int .i64 uk) ∧ W.cell? ⟨w.heap.size, 1, none⟩ = some (.int .i64 un) ∧ W.cell? ⟨w.heap.size, 2, none⟩ = some (.int .u64 (ub : Int)) ∧ W.cell? ⟨w.heap.size, 3, none⟩ = some (.string us) ∧ W.cell? ⟨w.heap.size + 1, 0, none⟩ = some (.int .i64 vk) ∧ W.cell? ⟨w.heap.size + 1, 1, none⟩ = some (.int .i64 vn) ∧ W.cell? ⟨w.heap.size + 1, 2, none⟩ = some (.int .u64 (vb : Int)) ∧ W.cell? ⟨w.heap.size + 1, 3, none⟩ = some (.string vs))) (by kernel_rfl) (by rw [hw20]; exact mk20 _ (Below.refl _ _)) (fun hS20 => ?_)
          rw [hw20] at hS20 ⊢
          clear hw20
          refine wpAnyH_take (i := 0) (oi := ({ dst := some 26, op := Op.load 24 (Operand.tmp 2), type := 24, pos := "law.go:31", after := #[], guard := none } : Oper)) (v := ?_) rfl (by kernel_rfl) (by kernel_rfl) (by kernel_rfl) (fun _ _ _ h => h) (Or.inl ⟨by rfl, ?_⟩) hS20 ?_
          rotate_left
          · intro w hSw; (try dsimp only at hSw); go_simp; (try with_reducible rfl)
          simp only [Act.put, List.setIfInBounds_toArray, List.set_cons_zero, List.set_cons_succ]
          refine wpAnyH_take (i := 2) (oi := ({ dst := some 28, op := Op.load 24 (Operand.tmp 2), type := 24, pos := "law.go:31", after := #[], guard := none } : Oper)) (v := ?_) rfl (by kernel_rfl) (by kernel_rfl) (by kernel_rfl) (fun _ _ _ h => h) (Or.inl ⟨by rfl, ?_⟩) hS20 ?_
          rotate_left
          · intro w hSw; (try dsimp only at hSw); go_simp; (try with_reducible rfl)
          simp only [Act.put, List.setIfInBounds_toArray, List.set_cons_zero, List.set_cons_succ]
          refine wpAnyH_ready (rs := [1]) (by kernel_rfl) (by simp) ?_
          refine AllReadyH.cons (o := ({ dst := some 27, op := Op.call { callee := Callee.value (Operand.func 12), args := #[Operand.tmp 26], argTypes := #[24] }, type := 4, pos := "law.go:31", after := #[{ on := 0, ground := Ground.data }], guard := none } : Oper)) rfl (fun K hK => ?_) AllReadyH.nil
          go_simp
          refine (ru.out _).mono ?_; rintro e w21 ⟨rfl, hb21⟩
          go_wp2_with fail
          refine hK.out _ _ (mk20 _ (hnext hS20.1 hb21)) (fun hS21 => ?_)
          clear hK K
          (try simp only [Act.put, List.setIfInBounds_toArray, List.set_cons_zero, List.set_cons_succ])
          clear hb21 hS20
          refine wpAnyH_ready (rs := [3]) (by kernel_rfl) (by simp) ?_
          refine AllReadyH.cons (o := ({ dst := some 29, op := Op.call { callee := Callee.value (Operand.func 11), args := #[Operand.tmp 28], argTypes := #[24] }, type := 4, pos := "law.go:31", after := #[{ on := 2, ground := Ground.data }, { on := 1, ground := Ground.chain }], guard := none } : Oper)) rfl (fun K hK => ?_) AllReadyH.nil
          go_simp
          refine (su.out _).mono ?_; rintro e w22 ⟨rfl, hb22⟩
          go_wp2_with fail
          refine hK.out _ _ (mk20 _ (hnext hS21.1 hb22)) (fun hS22 => ?_)
          clear hK K
          (try simp only [Act.put, List.setIfInBounds_toArray, List.set_cons_zero, List.set_cons_succ])
          clear hb22 hS21
          refine wpAnyH_take (i := 4) (oi := ({ dst := some 30, op := Op.binOp BinOp.eql 4 (Operand.tmp 27) (Operand.tmp 29) 4, type := 4, pos := "law.go:31", after := #[{ on := 1, ground := Ground.data }, { on := 3, ground := Ground.data }], guard := none } : Oper)) (v := ?_) rfl (by kernel_rfl) (by kernel_rfl) (by kernel_rfl) (fun _ _ _ h => h) (Or.inl ⟨by rfl, ?_⟩) hS22 ?_
          rotate_left
          · intro w hSw; (try dsimp only at hSw); go_simp; (try with_reducible rfl)
          simp only [Act.put, List.setIfInBounds_toArray, List.set_cons_zero, List.set_cons_succ]
          refine wpAnyH_take (i := 5) (oi := ({ dst := some 31, op := Op.move (Operand.tmp 30), type := 4, pos := "law.go:31", after := #[{ on := 4, ground := Ground.data }, { on := 3, ground := Ground.chain }], guard := none } : Oper)) (v := ?_) rfl (by kernel_rfl) (by kernel_rfl) (by kernel_rfl) (fun _ _ _ h => h) (Or.inl ⟨by rfl, ?_⟩) hS22 ?_
          rotate_left
          · intro w hSw; (try dsimp only at hSw); go_simp; (try with_reducible rfl)
          simp only [Act.put, List.setIfInBounds_toArray, List.set_cons_zero, List.set_cons_succ]
          refine wpAnyH_take (i := 6) (oi := ({ dst := some 32, op := Op.load 24 (Operand.tmp 2), type := 24, pos := "law.go:31", after := #[{ on := 5, ground := Ground.guard }], guard := some (5, true) } : Oper)) (v := ?_) rfl (by kernel_rfl) (by kernel_rfl) (by kernel_rfl) (fun _ _ _ h => h) (Or.inl ⟨by rfl, ?_⟩) hS22 ?_
          rotate_left
          · intro w hSw; (try dsimp only at hSw); go_simp; (try with_reducible rfl)
          simp only [Act.put, List.setIfInBounds_toArray, List.set_cons_zero, List.set_cons_succ]
          refine wpAnyH_take (i := 7) (oi := ({ dst := some 33, op := Op.load 24 (Operand.tmp 3), type := 24, pos := "law.go:31", after := #[{ on := 5, ground := Ground.guard }], guard := some (5, true) } : Oper)) (v := ?_) rfl (by kernel_rfl) (by kernel_rfl) (by kernel_rfl) (fun _ _ _ h => h) (Or.inl ⟨by rfl, ?_⟩) hS22 ?_
          rotate_left
          · intro w hSw; (try dsimp only at hSw); go_simp; (try with_reducible rfl)
          simp only [Act.put, List.setIfInBounds_toArray, List.set_cons_zero, List.set_cons_succ]
          refine wpAnyH_take (i := 9) (oi := ({ dst := some 35, op := Op.load 24 (Operand.tmp 2), type := 24, pos := "law.go:31", after := #[{ on := 5, ground := Ground.guard }], guard := some (5, true) } : Oper)) (v := ?_) rfl (by kernel_rfl) (by kernel_rfl) (by kernel_rfl) (fun _ _ _ h => h) (Or.inl ⟨by rfl, ?_⟩) hS22 ?_
          rotate_left
          · intro w hSw; (try dsimp only at hSw); go_simp; (try with_reducible rfl)
          simp only [Act.put, List.setIfInBounds_toArray, List.set_cons_zero, List.set_cons_succ]
          refine wpAnyH_take (i := 10) (oi := ({ dst := some 36, op := Op.load 24 (Operand.tmp 3), type := 24, pos := "law.go:31", after := #[{ on := 5, ground := Ground.guard }], guard := some (5, true) } : Oper)) (v := ?_) rfl (by kernel_rfl) (by kernel_rfl) (by kernel_rfl) (fun _ _ _ h => h) (Or.inl ⟨by rfl, ?_⟩) hS22 ?_
          rotate_left
          · intro w hSw; (try dsimp only at hSw); go_simp; (try with_reducible rfl)
          simp only [Act.put, List.setIfInBounds_toArray, List.set_cons_zero, List.set_cons_succ]
          refine wpAnyH_ready (rs := [8]) (by kernel_rfl) (by simp) ?_
          refine AllReadyH.cons (o := ({ dst := some 34, op := Op.call { callee := Callee.value (Operand.func 13), args := #[Operand.tmp 32, Operand.tmp 33], argTypes := #[24, 24] }, type := 3, pos := "law.go:31", after := #[{ on := 6, ground := Ground.data }, { on := 7, ground := Ground.data }, { on := 5, ground := Ground.chain }, { on := 5, ground := Ground.guard }], guard := some (5, true) } : Oper)) rfl (fun K hK => ?_) AllReadyH.nil
          go_simp
          refine (cc.out _).mono ?_; rintro e w23 ⟨rfl, hb23⟩
          go_wp2_with fail
          refine hK.out _ _ (mk20 _ (hnext hS22.1 hb23)) (fun hS23 => ?_)
          clear hK K
          (try simp only [Act.put, List.setIfInBounds_toArray, List.set_cons_zero, List.set_cons_succ])
          clear hb23 hS22
          refine wpAnyH_ready (rs := [11]) (by kernel_rfl) (by simp) ?_
          refine AllReadyH.cons (o := ({ dst := some 37, op := Op.call { callee := Callee.value (Operand.func 14), args := #[Operand.tmp 35, Operand.tmp 36], argTypes := #[24, 24] }, type := 3, pos := "law.go:31", after := #[{ on := 9, ground := Ground.data }, { on := 10, ground := Ground.data }, { on := 8, ground := Ground.chain }, { on := 5, ground := Ground.guard }], guard := some (5, true) } : Oper)) rfl (fun K hK => ?_) AllReadyH.nil
          go_simp
          refine (cd.out _).mono ?_; rintro e w24 ⟨rfl, hb24⟩
          go_wp2_with fail
          refine hK.out _ _ (mk20 _ (hnext hS23.1 hb24)) (fun hS24 => ?_)
          clear hK K
          (try simp only [Act.put, List.setIfInBounds_toArray, List.set_cons_zero, List.set_cons_succ])
          clear hb24 hS23
          refine wpAnyH_take (i := 12) (oi := ({ dst := some 38, op := Op.binOp BinOp.eql 3 (Operand.tmp 34) (Operand.tmp 37) 3, type := 4, pos := "law.go:31", after := #[{ on := 8, ground := Ground.data }, { on := 11, ground := Ground.data }, { on := 5, ground := Ground.guard }], guard := some (5, true) } : Oper)) (v := ?_) rfl (by kernel_rfl) (by kernel_rfl) (by kernel_rfl) (fun _ _ _ h => h) (Or.inl ⟨by rfl, ?_⟩) hS24 ?_
          rotate_left
          · intro w hSw; (try dsimp only at hSw); go_simp; (try with_reducible rfl)
          simp only [Act.put, List.setIfInBounds_toArray, List.set_cons_zero, List.set_cons_succ]
          refine wpAnyH_take (i := 13) (oi := ({ dst := some 39, op := Op.pick (Operand.tmp 31) (Operand.tmp 38) (Operand.const (Value.bool false)), type := 4, pos := "law.go:31", after := #[{ on := 5, ground := Ground.data }, { on := 12, ground := Ground.data }], guard := none } : Oper)) (v := ?_) rfl (by kernel_rfl) (by kernel_rfl) (by kernel_rfl) (fun _ _ _ h => h) (Or.inl ⟨by rfl, ?_⟩) hS24 ?_
          rotate_left
          · intro w hSw; (try dsimp only at hSw); go_simp; (try with_reducible rfl)
          simp only [Act.put, List.setIfInBounds_toArray, List.set_cons_zero, List.set_cons_succ]
          refine wpAnyH_take (i := 14) (oi := ({ dst := some 40, op := Op.move (Operand.tmp 39), type := 4, pos := "law.go:31", after := #[{ on := 13, ground := Ground.data }, { on := 11, ground := Ground.chain }], guard := none } : Oper)) (v := ?_) rfl (by kernel_rfl) (by kernel_rfl) (by kernel_rfl) (fun _ _ _ h => h) (Or.inl ⟨by rfl, ?_⟩) hS24 ?_
          rotate_left
          · intro w hSw; (try dsimp only at hSw); go_simp; (try with_reducible rfl)
          simp only [Act.put, List.setIfInBounds_toArray, List.set_cons_zero, List.set_cons_succ]
          refine wpAnyH_take (i := 15) (oi := ({ dst := some 41, op := Op.load 24 (Operand.tmp 2), type := 24, pos := "law.go:31", after := #[{ on := 14, ground := Ground.guard }], guard := some (14, true) } : Oper)) (v := ?_) rfl (by kernel_rfl) (by kernel_rfl) (by kernel_rfl) (fun _ _ _ h => h) (Or.inl ⟨by rfl, ?_⟩) hS24 ?_
          rotate_left
          · intro w hSw; (try dsimp only at hSw); go_simp; (try with_reducible rfl)
          simp only [Act.put, List.setIfInBounds_toArray, List.set_cons_zero, List.set_cons_succ]
          refine wpAnyH_take (i := 16) (oi := ({ dst := some 42, op := Op.load 24 (Operand.tmp 3), type := 24, pos := "law.go:31", after := #[{ on := 14, ground := Ground.guard }], guard := some (14, true) } : Oper)) (v := ?_) rfl (by kernel_rfl) (by kernel_rfl) (by kernel_rfl) (fun _ _ _ h => h) (Or.inl ⟨by rfl, ?_⟩) hS24 ?_
          rotate_left
          · intro w hSw; (try dsimp only at hSw); go_simp; (try with_reducible rfl)
          simp only [Act.put, List.setIfInBounds_toArray, List.set_cons_zero, List.set_cons_succ]
          refine wpAnyH_take (i := 18) (oi := ({ dst := some 44, op := Op.load 24 (Operand.tmp 2), type := 24, pos := "law.go:31", after := #[{ on := 14, ground := Ground.guard }], guard := some (14, true) } : Oper)) (v := ?_) rfl (by kernel_rfl) (by kernel_rfl) (by kernel_rfl) (fun _ _ _ h => h) (Or.inl ⟨by rfl, ?_⟩) hS24 ?_
          rotate_left
          · intro w hSw; (try dsimp only at hSw); go_simp; (try with_reducible rfl)
          simp only [Act.put, List.setIfInBounds_toArray, List.set_cons_zero, List.set_cons_succ]
          refine wpAnyH_ready (rs := [17]) (by kernel_rfl) (by simp) ?_
          refine AllReadyH.cons (o := ({ dst := some 43, op := Op.call { callee := Callee.value (Operand.func 15), args := #[Operand.tmp 41, Operand.tmp 42], argTypes := #[24, 24] }, type := 4, pos := "law.go:31", after := #[{ on := 15, ground := Ground.data }, { on := 16, ground := Ground.data }, { on := 14, ground := Ground.chain }, { on := 14, ground := Ground.guard }], guard := some (14, true) } : Oper)) rfl (fun K hK => ?_) AllReadyH.nil
          go_simp
          refine (cs.out _).mono ?_; rintro e w25 ⟨rfl, hb25⟩
          go_wp2_with fail
          refine hK.out _ _ (mk20 _ (hnext hS24.1 hb25)) (fun hS25 => ?_)
          clear hK K
          (try simp only [Act.put, List.setIfInBounds_toArray, List.set_cons_zero, List.set_cons_succ])
          clear hb25 hS24
          refine wpAnyH_ready (rs := [19]) (by kernel_rfl) (by simp) ?_
          refine AllReadyH.cons (o := ({ dst := some 45, op := Op.call { callee := Callee.value (Operand.func 11), args := #[Operand.tmp 44], argTypes := #[24] }, type := 4, pos := "law.go:31", after := #[{ on := 18, ground := Ground.data }, { on := 17, ground := Ground.chain }, { on := 14, ground := Ground.guard }], guard := some (14, true) } : Oper)) rfl (fun K hK => ?_) AllReadyH.nil
          go_simp
          refine (su.out _).mono ?_; rintro e w26 ⟨rfl, hb26⟩
          go_wp2_with fail
          refine hK.out _ _ (mk20 _ (hnext hS25.1 hb26)) (fun hS26 => ?_)
          clear hK K
          (try simp only [Act.put, List.setIfInBounds_toArray, List.set_cons_zero, List.set_cons_succ])
          clear hb26 hS25
          refine wpAnyH_take (i := 20) (oi := ({ dst := some 46, op := Op.move (Operand.tmp 45), type := 4, pos := "law.go:31", after := #[{ on := 19, ground := Ground.data }, { on := 19, ground := Ground.chain }, { on := 14, ground := Ground.guard }], guard := some (14, true) } : Oper)) (v := ?_) rfl (by kernel_rfl) (by kernel_rfl) (by kernel_rfl) (fun _ _ _ h => h) (Or.inl ⟨by rfl, ?_⟩) hS26 ?_
          rotate_left
          · intro w hSw; (try dsimp only at hSw); go_simp; (try with_reducible rfl)
          simp only [Act.put, List.setIfInBounds_toArray, List.set_cons_zero, List.set_cons_succ]
          refine wpAnyH_take (i := 21) (oi := ({ dst := some 47, op := Op.load 24 (Operand.tmp 3), type := 24, pos := "law.go:31", after := #[{ on := 20, ground := Ground.guard }], guard := some (20, true) } : Oper)) (v := undef) rfl (by kernel_rfl) (by kernel_rfl) (by kernel_rfl) (fun _ _ _ h => h) (Or.inr ⟨by rfl, rfl⟩) hS26 ?_
          simp only [Act.put, List.setIfInBounds_toArray, List.set_cons_zero, List.set_cons_succ]
          refine wpAnyH_take (i := 22) (oi := ({ dst := some 48, op := Op.call { callee := Callee.value (Operand.func 11), args := #[Operand.tmp 47], argTypes := #[24] }, type := 4, pos := "law.go:31", after := #[{ on := 21, ground := Ground.data }, { on := 20, ground := Ground.chain }, { on := 20, ground := Ground.guard }], guard := some (20, true) } : Oper)) (v := undef) rfl (by kernel_rfl) (by kernel_rfl) (by kernel_rfl) (fun _ _ _ h => h) (Or.inr ⟨by rfl, rfl⟩) hS26 ?_
          simp only [Act.put, List.setIfInBounds_toArray, List.set_cons_zero, List.set_cons_succ]
          refine wpAnyH_take (i := 23) (oi := ({ dst := some 49, op := Op.pick (Operand.tmp 46) (Operand.tmp 48) (Operand.const (Value.bool false)), type := 4, pos := "law.go:31", after := #[{ on := 20, ground := Ground.data }, { on := 22, ground := Ground.data }, { on := 14, ground := Ground.guard }], guard := some (14, true) } : Oper)) (v := ?_) rfl (by kernel_rfl) (by kernel_rfl) (by kernel_rfl) (fun _ _ _ h => h) (Or.inl ⟨by rfl, ?_⟩) hS26 ?_
          rotate_left
          · intro w hSw; (try dsimp only at hSw); go_simp; (try with_reducible rfl)
          simp only [Act.put, List.setIfInBounds_toArray, List.set_cons_zero, List.set_cons_succ]
          refine wpAnyH_take (i := 24) (oi := ({ dst := some 50, op := Op.move (Operand.tmp 49), type := 4, pos := "law.go:31", after := #[{ on := 23, ground := Ground.data }, { on := 22, ground := Ground.chain }, { on := 14, ground := Ground.guard }], guard := some (14, true) } : Oper)) (v := ?_) rfl (by kernel_rfl) (by kernel_rfl) (by kernel_rfl) (fun _ _ _ h => h) (Or.inl ⟨by rfl, ?_⟩) hS26 ?_
          rotate_left
          · intro w hSw; (try dsimp only at hSw); go_simp; (try with_reducible rfl)
          simp only [Act.put, List.setIfInBounds_toArray, List.set_cons_zero, List.set_cons_succ]
          refine wpAnyH_take (i := 25) (oi := ({ dst := some 51, op := Op.load 24 (Operand.tmp 2), type := 24, pos := "law.go:31", after := #[{ on := 24, ground := Ground.guard }], guard := some (24, true) } : Oper)) (v := undef) rfl (by kernel_rfl) (by kernel_rfl) (by kernel_rfl) (fun _ _ _ h => h) (Or.inr ⟨by rfl, rfl⟩) hS26 ?_
          simp only [Act.put, List.setIfInBounds_toArray, List.set_cons_zero, List.set_cons_succ]
          refine wpAnyH_take (i := 26) (oi := ({ dst := some 52, op := Op.load 24 (Operand.tmp 3), type := 24, pos := "law.go:31", after := #[{ on := 24, ground := Ground.guard }], guard := some (24, true) } : Oper)) (v := undef) rfl (by kernel_rfl) (by kernel_rfl) (by kernel_rfl) (fun _ _ _ h => h) (Or.inr ⟨by rfl, rfl⟩) hS26 ?_
          simp only [Act.put, List.setIfInBounds_toArray, List.set_cons_zero, List.set_cons_succ]
          refine wpAnyH_take (i := 27) (oi := ({ dst := some 53, op := Op.binOp BinOp.eql 24 (Operand.tmp 51) (Operand.tmp 52) 24, type := 4, pos := "law.go:31", after := #[{ on := 25, ground := Ground.data }, { on := 26, ground := Ground.data }, { on := 24, ground := Ground.guard }], guard := some (24, true) } : Oper)) (v := undef) rfl (by kernel_rfl) (by kernel_rfl) (by kernel_rfl) (fun _ _ _ h => h) (Or.inr ⟨by rfl, rfl⟩) hS26 ?_
          simp only [Act.put, List.setIfInBounds_toArray, List.set_cons_zero, List.set_cons_succ]
          refine wpAnyH_take (i := 28) (oi := ({ dst := some 54, op := Op.pick (Operand.tmp 50) (Operand.tmp 53) (Operand.const (Value.bool false)), type := 4, pos := "law.go:31", after := #[{ on := 24, ground := Ground.data }, { on := 27, ground := Ground.data }, { on := 14, ground := Ground.guard }], guard := some (14, true) } : Oper)) (v := ?_) rfl (by kernel_rfl) (by kernel_rfl) (by kernel_rfl) (fun _ _ _ h => h) (Or.inl ⟨by rfl, ?_⟩) hS26 ?_
          rotate_left
          · intro w hSw; (try dsimp only at hSw); go_simp; (try with_reducible rfl)
          simp only [Act.put, List.setIfInBounds_toArray, List.set_cons_zero, List.set_cons_succ]
          refine wpAnyH_take (i := 29) (oi := ({ dst := some 55, op := Op.binOp BinOp.eql 4 (Operand.tmp 43) (Operand.tmp 54) 4, type := 4, pos := "law.go:31", after := #[{ on := 17, ground := Ground.data }, { on := 28, ground := Ground.data }, { on := 14, ground := Ground.guard }], guard := some (14, true) } : Oper)) (v := ?_) rfl (by kernel_rfl) (by kernel_rfl) (by kernel_rfl) (fun _ _ _ h => h) (Or.inl ⟨by rfl, ?_⟩) hS26 ?_
          rotate_left
          · intro w hSw; (try dsimp only at hSw); go_simp; (try with_reducible rfl)
          simp only [Act.put, List.setIfInBounds_toArray, List.set_cons_zero, List.set_cons_succ]
          refine wpAnyH_take (i := 30) (oi := ({ dst := some 56, op := Op.pick (Operand.tmp 40) (Operand.tmp 55) (Operand.const (Value.bool false)), type := 4, pos := "law.go:31", after := #[{ on := 14, ground := Ground.data }, { on := 29, ground := Ground.data }], guard := none } : Oper)) (v := ?_) rfl (by kernel_rfl) (by kernel_rfl) (by kernel_rfl) (fun _ _ _ h => h) (Or.inl ⟨by rfl, ?_⟩) hS26 ?_
          rotate_left
          · intro w hSw; (try dsimp only at hSw); go_simp; (try with_reducible rfl)
          simp only [Act.put, List.setIfInBounds_toArray, List.set_cons_zero, List.set_cons_succ]
          refine wpAnyH_take (i := 31) (oi := ({ dst := some 57, op := Op.move (Operand.tmp 56), type := 4, pos := "law.go:31", after := #[{ on := 30, ground := Ground.data }, { on := 24, ground := Ground.chain }], guard := none } : Oper)) (v := ?_) rfl (by kernel_rfl) (by kernel_rfl) (by kernel_rfl) (fun _ _ _ h => h) (Or.inl ⟨by rfl, ?_⟩) hS26 ?_
          rotate_left
          · intro w hSw; (try dsimp only at hSw); go_simp; (try with_reducible rfl)
          simp only [Act.put, List.setIfInBounds_toArray, List.set_cons_zero, List.set_cons_succ]
          refine wpAnyH_take (i := 32) (oi := ({ dst := some 58, op := Op.load 24 (Operand.tmp 2), type := 24, pos := "law.go:31", after := #[{ on := 31, ground := Ground.guard }], guard := some (31, true) } : Oper)) (v := ?_) rfl (by kernel_rfl) (by kernel_rfl) (by kernel_rfl) (fun _ _ _ h => h) (Or.inl ⟨by rfl, ?_⟩) hS26 ?_
          rotate_left
          · intro w hSw; (try dsimp only at hSw); go_simp; (try with_reducible rfl)
          simp only [Act.put, List.setIfInBounds_toArray, List.set_cons_zero, List.set_cons_succ]
          refine wpAnyH_take (i := 34) (oi := ({ dst := some 60, op := Op.load 24 (Operand.tmp 2), type := 24, pos := "law.go:31", after := #[{ on := 31, ground := Ground.guard }], guard := some (31, true) } : Oper)) (v := ?_) rfl (by kernel_rfl) (by kernel_rfl) (by kernel_rfl) (fun _ _ _ h => h) (Or.inl ⟨by rfl, ?_⟩) hS26 ?_
          rotate_left
          · intro w hSw; (try dsimp only at hSw); go_simp; (try with_reducible rfl)
          simp only [Act.put, List.setIfInBounds_toArray, List.set_cons_zero, List.set_cons_succ]
          refine wpAnyH_ready (rs := [33]) (by kernel_rfl) (by simp) ?_
          refine AllReadyH.cons (o := ({ dst := some 59, op := Op.call { callee := Callee.value (Operand.func 16), args := #[Operand.tmp 58], argTypes := #[24] }, type := 9, pos := "law.go:31", after := #[{ on := 32, ground := Ground.data }, { on := 31, ground := Ground.chain }, { on := 31, ground := Ground.guard }], guard := some (31, true) } : Oper)) rfl (fun K hK => ?_) AllReadyH.nil
          go_simp
          refine (csh.out _).mono ?_; rintro e w27 ⟨rfl, hb27⟩
          go_wp2_with fail
          refine hK.out _ _ (mk20 _ (hnext hS26.1 hb27)) (fun hS27 => ?_)
          clear hK K
          (try simp only [Act.put, List.setIfInBounds_toArray, List.set_cons_zero, List.set_cons_succ])
          clear hb27 hS26
          refine wpAnyH_ready (rs := [35]) (by kernel_rfl) (by simp) ?_
          refine AllReadyH.cons (o := ({ dst := some 61, op := Op.call { callee := Callee.value (Operand.func 17), args := #[Operand.tmp 60], argTypes := #[24] }, type := 9, pos := "law.go:31", after := #[{ on := 34, ground := Ground.data }, { on := 33, ground := Ground.chain }, { on := 31, ground := Ground.guard }], guard := some (31, true) } : Oper)) rfl (fun K hK => ?_) AllReadyH.nil
          go_simp
          refine (csr.out _).mono ?_; rintro e w28 ⟨rfl, hb28⟩
          go_wp2_with fail
          refine hK.out _ _ (mk20 _ (hnext hS27.1 hb28)) (fun hS28 => ?_)
          clear hK K
          (try simp only [Act.put, List.setIfInBounds_toArray, List.set_cons_zero, List.set_cons_succ])
          clear hb28 hS27
          refine wpAnyH_take (i := 36) (oi := ({ dst := some 62, op := Op.binOp BinOp.eql 9 (Operand.tmp 59) (Operand.tmp 61) 9, type := 4, pos := "law.go:31", after := #[{ on := 33, ground := Ground.data }, { on := 35, ground := Ground.data }, { on := 31, ground := Ground.guard }], guard := some (31, true) } : Oper)) (v := ?_) rfl (by kernel_rfl) (by kernel_rfl) (by kernel_rfl) (fun _ _ _ h => h) (Or.inl ⟨by rfl, ?_⟩) hS28 ?_
          rotate_left
          · intro w hSw; (try dsimp only at hSw); go_simp; (try with_reducible rfl)
          simp only [Act.put, List.setIfInBounds_toArray, List.set_cons_zero, List.set_cons_succ]
          refine wpAnyH_take (i := 37) (oi := ({ dst := some 63, op := Op.pick (Operand.tmp 57) (Operand.tmp 62) (Operand.const (Value.bool false)), type := 4, pos := "law.go:31", after := #[{ on := 31, ground := Ground.data }, { on := 36, ground := Ground.data }], guard := none } : Oper)) (v := ?_) rfl (by kernel_rfl) (by kernel_rfl) (by kernel_rfl) (fun _ _ _ h => h) (Or.inl ⟨by rfl, ?_⟩) hS28 ?_
          rotate_left
          · intro w hSw; (try dsimp only at hSw); go_simp; (try with_reducible rfl)
          simp only [Act.put, List.setIfInBounds_toArray, List.set_cons_zero, List.set_cons_succ]
          refine wpAnyH_take (i := 38) (oi := ({ dst := some 64, op := Op.move (Operand.tmp 63), type := 4, pos := "law.go:31", after := #[{ on := 37, ground := Ground.data }, { on := 35, ground := Ground.chain }], guard := none } : Oper)) (v := ?_) rfl (by kernel_rfl) (by kernel_rfl) (by kernel_rfl) (fun _ _ _ h => h) (Or.inl ⟨by rfl, ?_⟩) hS28 ?_
          rotate_left
          · intro w hSw; (try dsimp only at hSw); go_simp; (try with_reducible rfl)
          simp only [Act.put, List.setIfInBounds_toArray, List.set_cons_zero, List.set_cons_succ]
          refine wpAnyH_take (i := 39) (oi := ({ dst := some 65, op := Op.load 24 (Operand.tmp 2), type := 24, pos := "law.go:31", after := #[{ on := 38, ground := Ground.guard }], guard := some (38, true) } : Oper)) (v := ?_) rfl (by kernel_rfl) (by kernel_rfl) (by kernel_rfl) (fun _ _ _ h => h) (Or.inl ⟨by rfl, ?_⟩) hS28 ?_
          rotate_left
          · intro w hSw; (try dsimp only at hSw); go_simp; (try with_reducible rfl)
          simp only [Act.put, List.setIfInBounds_toArray, List.set_cons_zero, List.set_cons_succ]
          refine wpAnyH_take (i := 41) (oi := ({ dst := some 67, op := Op.move (Operand.tmp 5), type := 3, pos := "law.go:31", after := #[{ on := 38, ground := Ground.guard }], guard := some (38, true) } : Oper)) (v := ?_) rfl (by kernel_rfl) (by kernel_rfl) (by kernel_rfl) (fun _ _ _ h => h) (Or.inl ⟨by rfl, ?_⟩) hS28 ?_
          rotate_left
          · intro w hSw; (try dsimp only at hSw); go_simp; (try with_reducible rfl)
          simp only [Act.put, List.setIfInBounds_toArray, List.set_cons_zero, List.set_cons_succ]
          refine wpAnyH_ready (rs := [40]) (by kernel_rfl) (by simp) ?_
          refine AllReadyH.cons (o := ({ dst := some 66, op := Op.call { callee := Callee.value (Operand.func 18), args := #[Operand.tmp 65], argTypes := #[24] }, type := 3, pos := "law.go:31", after := #[{ on := 39, ground := Ground.data }, { on := 38, ground := Ground.chain }, { on := 38, ground := Ground.guard }], guard := some (38, true) } : Oper)) rfl (fun K hK => ?_) AllReadyH.nil
          go_simp
          refine (ct.out _).mono ?_; rintro e w29 ⟨rfl, hb29⟩
          go_wp2_with fail
          refine hK.out _ _ (mk20 _ (hnext hS28.1 hb29)) (fun hS29 => ?_)
          clear hK K
          (try simp only [Act.put, List.setIfInBounds_toArray, List.set_cons_zero, List.set_cons_succ])
          clear hb29 hS28
          refine wpAnyH_take (i := 42) (oi := ({ dst := some 68, op := Op.binOp BinOp.eql 3 (Operand.tmp 66) (Operand.tmp 67) 3, type := 4, pos := "law.go:31", after := #[{ on := 40, ground := Ground.data }, { on := 41, ground := Ground.data }, { on := 38, ground := Ground.guard }], guard := some (38, true) } : Oper)) (v := ?_) rfl (by kernel_rfl) (by kernel_rfl) (by kernel_rfl) (fun _ _ _ h => h) (Or.inl ⟨by rfl, ?_⟩) hS29 ?_
          rotate_left
          · intro w hSw; (try dsimp only at hSw); go_simp; (try with_reducible rfl)
          simp only [Act.put, List.setIfInBounds_toArray, List.set_cons_zero, List.set_cons_succ]
          refine wpAnyH_take (i := 43) (oi := ({ dst := some 69, op := Op.pick (Operand.tmp 64) (Operand.tmp 68) (Operand.const (Value.bool false)), type := 4, pos := "law.go:31", after := #[{ on := 38, ground := Ground.data }, { on := 42, ground := Ground.data }], guard := none } : Oper)) (v := ?_) rfl (by kernel_rfl) (by kernel_rfl) (by kernel_rfl) (fun _ _ _ h => h) (Or.inl ⟨by rfl, ?_⟩) hS29 ?_
          rotate_left
          · intro w hSw; (try dsimp only at hSw); go_simp; (try with_reducible rfl)
          simp only [Act.put, List.setIfInBounds_toArray, List.set_cons_zero, List.set_cons_succ]
          refine wpAnyH_take (i := 44) (oi := ({ dst := some 70, op := Op.move (Operand.tmp 69), type := 4, pos := "law.go:31", after := #[{ on := 43, ground := Ground.data }, { on := 40, ground := Ground.chain }], guard := none } : Oper)) (v := ?_) rfl (by kernel_rfl) (by kernel_rfl) (by kernel_rfl) (fun _ _ _ h => h) (Or.inl ⟨by rfl, ?_⟩) hS29 ?_
          rotate_left
          · intro w hSw; (try dsimp only at hSw); go_simp; (try with_reducible rfl)
          simp only [Act.put, List.setIfInBounds_toArray, List.set_cons_zero, List.set_cons_succ]
          refine wpAnyH_ready (rs := [45]) (by kernel_rfl) (by simp) ?_
          refine AllReadyH.cons (o := ({ dst := some 71, op := Op.call { callee := Callee.value (Operand.func 10), args := #[], argTypes := #[] }, type := 4, pos := "law.go:31", after := #[{ on := 44, ground := Ground.chain }, { on := 44, ground := Ground.guard }], guard := some (44, true) } : Oper)) rfl (fun K hK => ?_) AllReadyH.nil
          go_simp
          refine (known_any _).mono ?_; rintro e w30 ⟨rfl, hb30⟩
          go_wp2_with fail
          refine hK.out _ _ (mk20 _ (hnext hS29.1 hb30)) (fun hS30 => ?_)
          clear hK K
          (try simp only [Act.put, List.setIfInBounds_toArray, List.set_cons_zero, List.set_cons_succ])
          clear hb30 hS29
          refine wpAnyH_take (i := 46) (oi := ({ dst := some 72, op := Op.pick (Operand.tmp 70) (Operand.tmp 71) (Operand.const (Value.bool false)), type := 4, pos := "law.go:31", after := #[{ on := 44, ground := Ground.data }, { on := 45, ground := Ground.data }], guard := none } : Oper)) (v := ?_) rfl (by kernel_rfl) (by kernel_rfl) (by kernel_rfl) (fun _ _ _ h => h) (Or.inl ⟨by rfl, ?_⟩) hS30 ?_
          rotate_left
          · intro w hSw; (try dsimp only at hSw); go_simp; (try with_reducible rfl)
          simp only [Act.put, List.setIfInBounds_toArray, List.set_cons_zero, List.set_cons_succ]
          refine wpAnyH_take (i := 47) (oi := ({ dst := some 4, op := Op.assign (Operand.tmp 72), type := 4, pos := "law.go:31", after := #[{ on := 46, ground := Ground.data }, { on := 45, ground := Ground.chain }, { on := 0, ground := Ground.phase }, { on := 1, ground := Ground.phase }, { on := 2, ground := Ground.phase }, { on := 3, ground := Ground.phase }, { on := 4, ground := Ground.phase }, { on := 5, ground := Ground.phase }, { on := 6, ground := Ground.phase }, { on := 7, ground := Ground.phase }, { on := 8, ground := Ground.phase }, { on := 9, ground := Ground.phase }, { on := 10, ground := Ground.phase }, { on := 11, ground := Ground.phase }, { on := 12, ground := Ground.phase }, { on := 13, ground := Ground.phase }, { on := 14, ground := Ground.phase }, { on := 15, ground := Ground.phase }, { on := 16, ground := Ground.phase }, { on := 17, ground := Ground.phase }, { on := 18, ground := Ground.phase }, { on := 19, ground := Ground.phase }, { on := 20, ground := Ground.phase }, { on := 21, ground := Ground.phase }, { on := 22, ground := Ground.phase }, { on := 23, ground := Ground.phase }, { on := 24, ground := Ground.phase }, { on := 25, ground := Ground.phase }, { on := 26, ground := Ground.phase }, { on := 27, ground := Ground.phase }, { on := 28, ground := Ground.phase }, { on := 29, ground := Ground.phase }, { on := 30, ground := Ground.phase }, { on := 31, ground := Ground.phase }, { on := 32, ground := Ground.phase }, { on := 33, ground := Ground.phase }, { on := 34, ground := Ground.phase }, { on := 35, ground := Ground.phase }, { on := 36, ground := Ground.phase }, { on := 37, ground := Ground.phase }, { on := 38, ground := Ground.phase }, { on := 39, ground := Ground.phase }, { on := 40, ground := Ground.phase }, { on := 41, ground := Ground.phase }, { on := 42, ground := Ground.phase }, { on := 43, ground := Ground.phase }, { on := 44, ground := Ground.phase }, { on := 45, ground := Ground.phase }, { on := 46, ground := Ground.phase }], guard := none } : Oper)) (v := ?_) rfl (by kernel_rfl) (by kernel_rfl) (by kernel_rfl) (fun _ _ _ h => h) (Or.inl ⟨by rfl, ?_⟩) hS30 ?_
          rotate_left
          · intro w hSw; (try dsimp only at hSw); go_simp; (try with_reducible rfl)
          simp only [Act.put, List.setIfInBounds_toArray, List.set_cons_zero, List.set_cons_succ]
          refine wpAnyH_done (by kernel_rfl) ?_ _
          go_wp2_with fail
          go_ret
          exact ⟨rfl, hnext L1.out (hnext hd20 hS30.1)⟩
        | true =>
          rw [hv] at rv0 sv0
          clear hu hv
          rw [Bool.and_false] at cs0
          rw [HTR.out, if_neg (fun h => by cases h.2)] at ct0
          have ru := hid ru0
          have su := hid su0
          have rv := hid rv0
          have sv := hid sv0
          have cc := hid cc0
          have cd := hid cd0
          have cs := hid cs0
          have csh := hid csh0
          have csr := hid csr0
          have ct := hid ct0
          clear ru0 su0 rv0 sv0 cc0 cd0 cs0 csh0 csr0 ct0 HRU HRV HEQ HTR hdd
          go_enter Try.func3, Try.ntmps3
          go_wp2_with fail
          obtain ⟨Ac0_0, Ac1_0, Ac2_0, Ac3_0, Af0_0, Af1_0, Af2_0, Af3_0, Al_0⟩ := VA.out.cells
          obtain ⟨Bc0_0, Bc1_0, Bc2_0, Bc3_0, Bf0_0, Bf1_0, Bf2_0, Bf3_0, Bl_0⟩ := VB.out.cells
          refine (su.out _).mono ?_; rintro e w1 ⟨rfl, b1⟩
          clear Ac0_0 Ac1_0 Ac2_0 Ac3_0 Af0_0 Af1_0 Af2_0 Af3_0 Al_0 Bc0_0 Bc1_0 Bc2_0 Bc3_0 Bf0_0 Bf1_0 Bf2_0 Bf3_0 Bl_0
          have A1 := hid (VA.out.keep b1)
          have B1 := hid (VB.out.keep b1)
          have L1 := hid (hnext L.out b1)
          clear b1
          obtain ⟨Ac0_1, Ac1_1, Ac2_1, Ac3_1, Af0_1, Af1_1, Af2_1, Af3_1, Al_1⟩ := A1.out.cells
          obtain ⟨Bc0_1, Bc1_1, Bc2_1, Bc3_1, Bf0_1, Bf1_1, Bf2_1, Bf3_1, Bl_1⟩ := B1.out.cells
          go_wp2_with fail
          obtain ⟨w20, hw20⟩ : ∃ w20, (w1).drew = w20 := ⟨_, rfl⟩
          have hd20 : Below (w1).heap.size (w1) w20 := hw20 ▸ (Below.refl _ _).drew
          have mk20 : ∀ W, Below w20.heap.size w20 W → Below w20.heap.size w20 W ∧ W.cell? ⟨w.heap.size, 0, none⟩ = some (.int .i64 uk) ∧ W.cell? ⟨w.heap.size, 1, none⟩ = some (.int .i64 un) ∧ W.cell? ⟨w.heap.size, 2, none⟩ = some (.int .u64 (ub : Int)) ∧ W.cell? ⟨w.heap.size, 3, none⟩ = some (.string us) ∧ W.cell? ⟨w.heap.size + 1, 0, none⟩ = some (.int .i64 vk) ∧ W.cell? ⟨w.heap.size + 1, 1, none⟩ = some (.int .i64 vn) ∧ W.cell? ⟨w.heap.size + 1, 2, none⟩ = some (.int .u64 (vb : Int)) ∧ W.cell? ⟨w.heap.size + 1, 3, none⟩ = some (.string vs) := fun W h => ⟨h, hkeep (hkeep Ac0_1 hd20) h, hkeep (hkeep Ac1_1 hd20) h, hkeep (hkeep Ac2_1 hd20) h, hkeep (hkeep Ac3_1 hd20) h, hkeep (hkeep Bc0_1 hd20) h, hkeep (hkeep Bc1_1 hd20) h, hkeep (hkeep Bc2_1 hd20) h, hkeep (hkeep Bc3_1 hd20) h⟩
          clear Ac0_1 Ac1_1 Ac2_1 Ac3_1 Af0_1 Af1_1 Af2_1 Af3_1 Al_1 Bc0_1 Bc1_1 Bc2_1 Bc3_1 Bf0_1 Bf1_1 Bf2_1 Bf3_1 Bl_1
          refine wp_region_held_drew (S := (fun W => Below w20.heap.size w20 W ∧ W.cell? ⟨w.heap.size, 0, none⟩ = some (.int .i64 uk) ∧ W.cell? ⟨w.heap.size, 1, none⟩ = some (.int .i64 un) ∧ W.cell? ⟨w.heap.size, 2, none⟩ = some (.int .u64 (ub : Int)) ∧ W.cell? ⟨w.heap.size, 3, none⟩ = some (.string us) ∧ W.cell? ⟨w.heap.size + 1, 0, none⟩ = some (.int .i64 vk) ∧ W.cell? ⟨w.heap.size + 1, 1, none⟩ = some (.int .i64 vn) ∧ W.cell? ⟨w.heap.size + 1, 2, none⟩ = some (.int .u64 (vb : Int)) ∧ W.cell? ⟨w.heap.size + 1, 3, none⟩ = some (.string vs))) (by kernel_rfl) (by rw [hw20]; exact mk20 _ (Below.refl _ _)) (fun hS20 => ?_)
          rw [hw20] at hS20 ⊢
          clear hw20
          refine wpAnyH_take (i := 0) (oi := ({ dst := some 26, op := Op.load 24 (Operand.tmp 2), type := 24, pos := "law.go:31", after := #[], guard := none } : Oper)) (v := ?_) rfl (by kernel_rfl) (by kernel_rfl) (by kernel_rfl) (fun _ _ _ h => h) (Or.inl ⟨by rfl, ?_⟩) hS20 ?_
          rotate_left
          · intro w hSw; (try dsimp only at hSw); go_simp; (try with_reducible rfl)
          simp only [Act.put, List.setIfInBounds_toArray, List.set_cons_zero, List.set_cons_succ]
          refine wpAnyH_take (i := 2) (oi := ({ dst := some 28, op := Op.load 24 (Operand.tmp 2), type := 24, pos := "law.go:31", after := #[], guard := none } : Oper)) (v := ?_) rfl (by kernel_rfl) (by kernel_rfl) (by kernel_rfl) (fun _ _ _ h => h) (Or.inl ⟨by rfl, ?_⟩) hS20 ?_
          rotate_left
          · intro w hSw; (try dsimp only at hSw); go_simp; (try with_reducible rfl)
          simp only [Act.put, List.setIfInBounds_toArray, List.set_cons_zero, List.set_cons_succ]
          refine wpAnyH_ready (rs := [1]) (by kernel_rfl) (by simp) ?_
          refine AllReadyH.cons (o := ({ dst := some 27, op := Op.call { callee := Callee.value (Operand.func 12), args := #[Operand.tmp 26], argTypes := #[24] }, type := 4, pos := "law.go:31", after := #[{ on := 0, ground := Ground.data }], guard := none } : Oper)) rfl (fun K hK => ?_) AllReadyH.nil
          go_simp
          refine (ru.out _).mono ?_; rintro e w21 ⟨rfl, hb21⟩
          go_wp2_with fail
          refine hK.out _ _ (mk20 _ (hnext hS20.1 hb21)) (fun hS21 => ?_)
          clear hK K
          (try simp only [Act.put, List.setIfInBounds_toArray, List.set_cons_zero, List.set_cons_succ])
          clear hb21 hS20
          refine wpAnyH_ready (rs := [3]) (by kernel_rfl) (by simp) ?_
          refine AllReadyH.cons (o := ({ dst := some 29, op := Op.call { callee := Callee.value (Operand.func 11), args := #[Operand.tmp 28], argTypes := #[24] }, type := 4, pos := "law.go:31", after := #[{ on := 2, ground := Ground.data }, { on := 1, ground := Ground.chain }], guard := none } : Oper)) rfl (fun K hK => ?_) AllReadyH.nil
          go_simp
          refine (su.out _).mono ?_; rintro e w22 ⟨rfl, hb22⟩
          go_wp2_with fail
          refine hK.out _ _ (mk20 _ (hnext hS21.1 hb22)) (fun hS22 => ?_)
          clear hK K
          (try simp only [Act.put, List.setIfInBounds_toArray, List.set_cons_zero, List.set_cons_succ])
          clear hb22 hS21
          refine wpAnyH_take (i := 4) (oi := ({ dst := some 30, op := Op.binOp BinOp.eql 4 (Operand.tmp 27) (Operand.tmp 29) 4, type := 4, pos := "law.go:31", after := #[{ on := 1, ground := Ground.data }, { on := 3, ground := Ground.data }], guard := none } : Oper)) (v := ?_) rfl (by kernel_rfl) (by kernel_rfl) (by kernel_rfl) (fun _ _ _ h => h) (Or.inl ⟨by rfl, ?_⟩) hS22 ?_
          rotate_left
          · intro w hSw; (try dsimp only at hSw); go_simp; (try with_reducible rfl)
          simp only [Act.put, List.setIfInBounds_toArray, List.set_cons_zero, List.set_cons_succ]
          refine wpAnyH_take (i := 5) (oi := ({ dst := some 31, op := Op.move (Operand.tmp 30), type := 4, pos := "law.go:31", after := #[{ on := 4, ground := Ground.data }, { on := 3, ground := Ground.chain }], guard := none } : Oper)) (v := ?_) rfl (by kernel_rfl) (by kernel_rfl) (by kernel_rfl) (fun _ _ _ h => h) (Or.inl ⟨by rfl, ?_⟩) hS22 ?_
          rotate_left
          · intro w hSw; (try dsimp only at hSw); go_simp; (try with_reducible rfl)
          simp only [Act.put, List.setIfInBounds_toArray, List.set_cons_zero, List.set_cons_succ]
          refine wpAnyH_take (i := 6) (oi := ({ dst := some 32, op := Op.load 24 (Operand.tmp 2), type := 24, pos := "law.go:31", after := #[{ on := 5, ground := Ground.guard }], guard := some (5, true) } : Oper)) (v := ?_) rfl (by kernel_rfl) (by kernel_rfl) (by kernel_rfl) (fun _ _ _ h => h) (Or.inl ⟨by rfl, ?_⟩) hS22 ?_
          rotate_left
          · intro w hSw; (try dsimp only at hSw); go_simp; (try with_reducible rfl)
          simp only [Act.put, List.setIfInBounds_toArray, List.set_cons_zero, List.set_cons_succ]
          refine wpAnyH_take (i := 7) (oi := ({ dst := some 33, op := Op.load 24 (Operand.tmp 3), type := 24, pos := "law.go:31", after := #[{ on := 5, ground := Ground.guard }], guard := some (5, true) } : Oper)) (v := ?_) rfl (by kernel_rfl) (by kernel_rfl) (by kernel_rfl) (fun _ _ _ h => h) (Or.inl ⟨by rfl, ?_⟩) hS22 ?_
          rotate_left
          · intro w hSw; (try dsimp only at hSw); go_simp; (try with_reducible rfl)
          simp only [Act.put, List.setIfInBounds_toArray, List.set_cons_zero, List.set_cons_succ]
          refine wpAnyH_take (i := 9) (oi := ({ dst := some 35, op := Op.load 24 (Operand.tmp 2), type := 24, pos := "law.go:31", after := #[{ on := 5, ground := Ground.guard }], guard := some (5, true) } : Oper)) (v := ?_) rfl (by kernel_rfl) (by kernel_rfl) (by kernel_rfl) (fun _ _ _ h => h) (Or.inl ⟨by rfl, ?_⟩) hS22 ?_
          rotate_left
          · intro w hSw; (try dsimp only at hSw); go_simp; (try with_reducible rfl)
          simp only [Act.put, List.setIfInBounds_toArray, List.set_cons_zero, List.set_cons_succ]
          refine wpAnyH_take (i := 10) (oi := ({ dst := some 36, op := Op.load 24 (Operand.tmp 3), type := 24, pos := "law.go:31", after := #[{ on := 5, ground := Ground.guard }], guard := some (5, true) } : Oper)) (v := ?_) rfl (by kernel_rfl) (by kernel_rfl) (by kernel_rfl) (fun _ _ _ h => h) (Or.inl ⟨by rfl, ?_⟩) hS22 ?_
          rotate_left
          · intro w hSw; (try dsimp only at hSw); go_simp; (try with_reducible rfl)
          simp only [Act.put, List.setIfInBounds_toArray, List.set_cons_zero, List.set_cons_succ]
          refine wpAnyH_ready (rs := [8]) (by kernel_rfl) (by simp) ?_
          refine AllReadyH.cons (o := ({ dst := some 34, op := Op.call { callee := Callee.value (Operand.func 13), args := #[Operand.tmp 32, Operand.tmp 33], argTypes := #[24, 24] }, type := 3, pos := "law.go:31", after := #[{ on := 6, ground := Ground.data }, { on := 7, ground := Ground.data }, { on := 5, ground := Ground.chain }, { on := 5, ground := Ground.guard }], guard := some (5, true) } : Oper)) rfl (fun K hK => ?_) AllReadyH.nil
          go_simp
          refine (cc.out _).mono ?_; rintro e w23 ⟨rfl, hb23⟩
          go_wp2_with fail
          refine hK.out _ _ (mk20 _ (hnext hS22.1 hb23)) (fun hS23 => ?_)
          clear hK K
          (try simp only [Act.put, List.setIfInBounds_toArray, List.set_cons_zero, List.set_cons_succ])
          clear hb23 hS22
          refine wpAnyH_ready (rs := [11]) (by kernel_rfl) (by simp) ?_
          refine AllReadyH.cons (o := ({ dst := some 37, op := Op.call { callee := Callee.value (Operand.func 14), args := #[Operand.tmp 35, Operand.tmp 36], argTypes := #[24, 24] }, type := 3, pos := "law.go:31", after := #[{ on := 9, ground := Ground.data }, { on := 10, ground := Ground.data }, { on := 8, ground := Ground.chain }, { on := 5, ground := Ground.guard }], guard := some (5, true) } : Oper)) rfl (fun K hK => ?_) AllReadyH.nil
          go_simp
          refine (cd.out _).mono ?_; rintro e w24 ⟨rfl, hb24⟩
          go_wp2_with fail
          refine hK.out _ _ (mk20 _ (hnext hS23.1 hb24)) (fun hS24 => ?_)
          clear hK K
          (try simp only [Act.put, List.setIfInBounds_toArray, List.set_cons_zero, List.set_cons_succ])
          clear hb24 hS23
          refine wpAnyH_take (i := 12) (oi := ({ dst := some 38, op := Op.binOp BinOp.eql 3 (Operand.tmp 34) (Operand.tmp 37) 3, type := 4, pos := "law.go:31", after := #[{ on := 8, ground := Ground.data }, { on := 11, ground := Ground.data }, { on := 5, ground := Ground.guard }], guard := some (5, true) } : Oper)) (v := ?_) rfl (by kernel_rfl) (by kernel_rfl) (by kernel_rfl) (fun _ _ _ h => h) (Or.inl ⟨by rfl, ?_⟩) hS24 ?_
          rotate_left
          · intro w hSw; (try dsimp only at hSw); go_simp; (try with_reducible rfl)
          simp only [Act.put, List.setIfInBounds_toArray, List.set_cons_zero, List.set_cons_succ]
          refine wpAnyH_take (i := 13) (oi := ({ dst := some 39, op := Op.pick (Operand.tmp 31) (Operand.tmp 38) (Operand.const (Value.bool false)), type := 4, pos := "law.go:31", after := #[{ on := 5, ground := Ground.data }, { on := 12, ground := Ground.data }], guard := none } : Oper)) (v := ?_) rfl (by kernel_rfl) (by kernel_rfl) (by kernel_rfl) (fun _ _ _ h => h) (Or.inl ⟨by rfl, ?_⟩) hS24 ?_
          rotate_left
          · intro w hSw; (try dsimp only at hSw); go_simp; (try with_reducible rfl)
          simp only [Act.put, List.setIfInBounds_toArray, List.set_cons_zero, List.set_cons_succ]
          refine wpAnyH_take (i := 14) (oi := ({ dst := some 40, op := Op.move (Operand.tmp 39), type := 4, pos := "law.go:31", after := #[{ on := 13, ground := Ground.data }, { on := 11, ground := Ground.chain }], guard := none } : Oper)) (v := ?_) rfl (by kernel_rfl) (by kernel_rfl) (by kernel_rfl) (fun _ _ _ h => h) (Or.inl ⟨by rfl, ?_⟩) hS24 ?_
          rotate_left
          · intro w hSw; (try dsimp only at hSw); go_simp; (try with_reducible rfl)
          simp only [Act.put, List.setIfInBounds_toArray, List.set_cons_zero, List.set_cons_succ]
          refine wpAnyH_take (i := 15) (oi := ({ dst := some 41, op := Op.load 24 (Operand.tmp 2), type := 24, pos := "law.go:31", after := #[{ on := 14, ground := Ground.guard }], guard := some (14, true) } : Oper)) (v := ?_) rfl (by kernel_rfl) (by kernel_rfl) (by kernel_rfl) (fun _ _ _ h => h) (Or.inl ⟨by rfl, ?_⟩) hS24 ?_
          rotate_left
          · intro w hSw; (try dsimp only at hSw); go_simp; (try with_reducible rfl)
          simp only [Act.put, List.setIfInBounds_toArray, List.set_cons_zero, List.set_cons_succ]
          refine wpAnyH_take (i := 16) (oi := ({ dst := some 42, op := Op.load 24 (Operand.tmp 3), type := 24, pos := "law.go:31", after := #[{ on := 14, ground := Ground.guard }], guard := some (14, true) } : Oper)) (v := ?_) rfl (by kernel_rfl) (by kernel_rfl) (by kernel_rfl) (fun _ _ _ h => h) (Or.inl ⟨by rfl, ?_⟩) hS24 ?_
          rotate_left
          · intro w hSw; (try dsimp only at hSw); go_simp; (try with_reducible rfl)
          simp only [Act.put, List.setIfInBounds_toArray, List.set_cons_zero, List.set_cons_succ]
          refine wpAnyH_take (i := 18) (oi := ({ dst := some 44, op := Op.load 24 (Operand.tmp 2), type := 24, pos := "law.go:31", after := #[{ on := 14, ground := Ground.guard }], guard := some (14, true) } : Oper)) (v := ?_) rfl (by kernel_rfl) (by kernel_rfl) (by kernel_rfl) (fun _ _ _ h => h) (Or.inl ⟨by rfl, ?_⟩) hS24 ?_
          rotate_left
          · intro w hSw; (try dsimp only at hSw); go_simp; (try with_reducible rfl)
          simp only [Act.put, List.setIfInBounds_toArray, List.set_cons_zero, List.set_cons_succ]
          refine wpAnyH_ready (rs := [17]) (by kernel_rfl) (by simp) ?_
          refine AllReadyH.cons (o := ({ dst := some 43, op := Op.call { callee := Callee.value (Operand.func 15), args := #[Operand.tmp 41, Operand.tmp 42], argTypes := #[24, 24] }, type := 4, pos := "law.go:31", after := #[{ on := 15, ground := Ground.data }, { on := 16, ground := Ground.data }, { on := 14, ground := Ground.chain }, { on := 14, ground := Ground.guard }], guard := some (14, true) } : Oper)) rfl (fun K hK => ?_) AllReadyH.nil
          go_simp
          refine (cs.out _).mono ?_; rintro e w25 ⟨rfl, hb25⟩
          go_wp2_with fail
          refine hK.out _ _ (mk20 _ (hnext hS24.1 hb25)) (fun hS25 => ?_)
          clear hK K
          (try simp only [Act.put, List.setIfInBounds_toArray, List.set_cons_zero, List.set_cons_succ])
          clear hb25 hS24
          refine wpAnyH_ready (rs := [19]) (by kernel_rfl) (by simp) ?_
          refine AllReadyH.cons (o := ({ dst := some 45, op := Op.call { callee := Callee.value (Operand.func 11), args := #[Operand.tmp 44], argTypes := #[24] }, type := 4, pos := "law.go:31", after := #[{ on := 18, ground := Ground.data }, { on := 17, ground := Ground.chain }, { on := 14, ground := Ground.guard }], guard := some (14, true) } : Oper)) rfl (fun K hK => ?_) AllReadyH.nil
          go_simp
          refine (su.out _).mono ?_; rintro e w26 ⟨rfl, hb26⟩
          go_wp2_with fail
          refine hK.out _ _ (mk20 _ (hnext hS25.1 hb26)) (fun hS26 => ?_)
          clear hK K
          (try simp only [Act.put, List.setIfInBounds_toArray, List.set_cons_zero, List.set_cons_succ])
          clear hb26 hS25
          refine wpAnyH_take (i := 20) (oi := ({ dst := some 46, op := Op.move (Operand.tmp 45), type := 4, pos := "law.go:31", after := #[{ on := 19, ground := Ground.data }, { on := 19, ground := Ground.chain }, { on := 14, ground := Ground.guard }], guard := some (14, true) } : Oper)) (v := ?_) rfl (by kernel_rfl) (by kernel_rfl) (by kernel_rfl) (fun _ _ _ h => h) (Or.inl ⟨by rfl, ?_⟩) hS26 ?_
          rotate_left
          · intro w hSw; (try dsimp only at hSw); go_simp; (try with_reducible rfl)
          simp only [Act.put, List.setIfInBounds_toArray, List.set_cons_zero, List.set_cons_succ]
          refine wpAnyH_take (i := 21) (oi := ({ dst := some 47, op := Op.load 24 (Operand.tmp 3), type := 24, pos := "law.go:31", after := #[{ on := 20, ground := Ground.guard }], guard := some (20, true) } : Oper)) (v := undef) rfl (by kernel_rfl) (by kernel_rfl) (by kernel_rfl) (fun _ _ _ h => h) (Or.inr ⟨by rfl, rfl⟩) hS26 ?_
          simp only [Act.put, List.setIfInBounds_toArray, List.set_cons_zero, List.set_cons_succ]
          refine wpAnyH_take (i := 22) (oi := ({ dst := some 48, op := Op.call { callee := Callee.value (Operand.func 11), args := #[Operand.tmp 47], argTypes := #[24] }, type := 4, pos := "law.go:31", after := #[{ on := 21, ground := Ground.data }, { on := 20, ground := Ground.chain }, { on := 20, ground := Ground.guard }], guard := some (20, true) } : Oper)) (v := undef) rfl (by kernel_rfl) (by kernel_rfl) (by kernel_rfl) (fun _ _ _ h => h) (Or.inr ⟨by rfl, rfl⟩) hS26 ?_
          simp only [Act.put, List.setIfInBounds_toArray, List.set_cons_zero, List.set_cons_succ]
          refine wpAnyH_take (i := 23) (oi := ({ dst := some 49, op := Op.pick (Operand.tmp 46) (Operand.tmp 48) (Operand.const (Value.bool false)), type := 4, pos := "law.go:31", after := #[{ on := 20, ground := Ground.data }, { on := 22, ground := Ground.data }, { on := 14, ground := Ground.guard }], guard := some (14, true) } : Oper)) (v := ?_) rfl (by kernel_rfl) (by kernel_rfl) (by kernel_rfl) (fun _ _ _ h => h) (Or.inl ⟨by rfl, ?_⟩) hS26 ?_
          rotate_left
          · intro w hSw; (try dsimp only at hSw); go_simp; (try with_reducible rfl)
          simp only [Act.put, List.setIfInBounds_toArray, List.set_cons_zero, List.set_cons_succ]
          refine wpAnyH_take (i := 24) (oi := ({ dst := some 50, op := Op.move (Operand.tmp 49), type := 4, pos := "law.go:31", after := #[{ on := 23, ground := Ground.data }, { on := 22, ground := Ground.chain }, { on := 14, ground := Ground.guard }], guard := some (14, true) } : Oper)) (v := ?_) rfl (by kernel_rfl) (by kernel_rfl) (by kernel_rfl) (fun _ _ _ h => h) (Or.inl ⟨by rfl, ?_⟩) hS26 ?_
          rotate_left
          · intro w hSw; (try dsimp only at hSw); go_simp; (try with_reducible rfl)
          simp only [Act.put, List.setIfInBounds_toArray, List.set_cons_zero, List.set_cons_succ]
          refine wpAnyH_take (i := 25) (oi := ({ dst := some 51, op := Op.load 24 (Operand.tmp 2), type := 24, pos := "law.go:31", after := #[{ on := 24, ground := Ground.guard }], guard := some (24, true) } : Oper)) (v := undef) rfl (by kernel_rfl) (by kernel_rfl) (by kernel_rfl) (fun _ _ _ h => h) (Or.inr ⟨by rfl, rfl⟩) hS26 ?_
          simp only [Act.put, List.setIfInBounds_toArray, List.set_cons_zero, List.set_cons_succ]
          refine wpAnyH_take (i := 26) (oi := ({ dst := some 52, op := Op.load 24 (Operand.tmp 3), type := 24, pos := "law.go:31", after := #[{ on := 24, ground := Ground.guard }], guard := some (24, true) } : Oper)) (v := undef) rfl (by kernel_rfl) (by kernel_rfl) (by kernel_rfl) (fun _ _ _ h => h) (Or.inr ⟨by rfl, rfl⟩) hS26 ?_
          simp only [Act.put, List.setIfInBounds_toArray, List.set_cons_zero, List.set_cons_succ]
          refine wpAnyH_take (i := 27) (oi := ({ dst := some 53, op := Op.binOp BinOp.eql 24 (Operand.tmp 51) (Operand.tmp 52) 24, type := 4, pos := "law.go:31", after := #[{ on := 25, ground := Ground.data }, { on := 26, ground := Ground.data }, { on := 24, ground := Ground.guard }], guard := some (24, true) } : Oper)) (v := undef) rfl (by kernel_rfl) (by kernel_rfl) (by kernel_rfl) (fun _ _ _ h => h) (Or.inr ⟨by rfl, rfl⟩) hS26 ?_
          simp only [Act.put, List.setIfInBounds_toArray, List.set_cons_zero, List.set_cons_succ]
          refine wpAnyH_take (i := 28) (oi := ({ dst := some 54, op := Op.pick (Operand.tmp 50) (Operand.tmp 53) (Operand.const (Value.bool false)), type := 4, pos := "law.go:31", after := #[{ on := 24, ground := Ground.data }, { on := 27, ground := Ground.data }, { on := 14, ground := Ground.guard }], guard := some (14, true) } : Oper)) (v := ?_) rfl (by kernel_rfl) (by kernel_rfl) (by kernel_rfl) (fun _ _ _ h => h) (Or.inl ⟨by rfl, ?_⟩) hS26 ?_
          rotate_left
          · intro w hSw; (try dsimp only at hSw); go_simp; (try with_reducible rfl)
          simp only [Act.put, List.setIfInBounds_toArray, List.set_cons_zero, List.set_cons_succ]
          refine wpAnyH_take (i := 29) (oi := ({ dst := some 55, op := Op.binOp BinOp.eql 4 (Operand.tmp 43) (Operand.tmp 54) 4, type := 4, pos := "law.go:31", after := #[{ on := 17, ground := Ground.data }, { on := 28, ground := Ground.data }, { on := 14, ground := Ground.guard }], guard := some (14, true) } : Oper)) (v := ?_) rfl (by kernel_rfl) (by kernel_rfl) (by kernel_rfl) (fun _ _ _ h => h) (Or.inl ⟨by rfl, ?_⟩) hS26 ?_
          rotate_left
          · intro w hSw; (try dsimp only at hSw); go_simp; (try with_reducible rfl)
          simp only [Act.put, List.setIfInBounds_toArray, List.set_cons_zero, List.set_cons_succ]
          refine wpAnyH_take (i := 30) (oi := ({ dst := some 56, op := Op.pick (Operand.tmp 40) (Operand.tmp 55) (Operand.const (Value.bool false)), type := 4, pos := "law.go:31", after := #[{ on := 14, ground := Ground.data }, { on := 29, ground := Ground.data }], guard := none } : Oper)) (v := ?_) rfl (by kernel_rfl) (by kernel_rfl) (by kernel_rfl) (fun _ _ _ h => h) (Or.inl ⟨by rfl, ?_⟩) hS26 ?_
          rotate_left
          · intro w hSw; (try dsimp only at hSw); go_simp; (try with_reducible rfl)
          simp only [Act.put, List.setIfInBounds_toArray, List.set_cons_zero, List.set_cons_succ]
          refine wpAnyH_take (i := 31) (oi := ({ dst := some 57, op := Op.move (Operand.tmp 56), type := 4, pos := "law.go:31", after := #[{ on := 30, ground := Ground.data }, { on := 24, ground := Ground.chain }], guard := none } : Oper)) (v := ?_) rfl (by kernel_rfl) (by kernel_rfl) (by kernel_rfl) (fun _ _ _ h => h) (Or.inl ⟨by rfl, ?_⟩) hS26 ?_
          rotate_left
          · intro w hSw; (try dsimp only at hSw); go_simp; (try with_reducible rfl)
          simp only [Act.put, List.setIfInBounds_toArray, List.set_cons_zero, List.set_cons_succ]
          refine wpAnyH_take (i := 32) (oi := ({ dst := some 58, op := Op.load 24 (Operand.tmp 2), type := 24, pos := "law.go:31", after := #[{ on := 31, ground := Ground.guard }], guard := some (31, true) } : Oper)) (v := ?_) rfl (by kernel_rfl) (by kernel_rfl) (by kernel_rfl) (fun _ _ _ h => h) (Or.inl ⟨by rfl, ?_⟩) hS26 ?_
          rotate_left
          · intro w hSw; (try dsimp only at hSw); go_simp; (try with_reducible rfl)
          simp only [Act.put, List.setIfInBounds_toArray, List.set_cons_zero, List.set_cons_succ]
          refine wpAnyH_take (i := 34) (oi := ({ dst := some 60, op := Op.load 24 (Operand.tmp 2), type := 24, pos := "law.go:31", after := #[{ on := 31, ground := Ground.guard }], guard := some (31, true) } : Oper)) (v := ?_) rfl (by kernel_rfl) (by kernel_rfl) (by kernel_rfl) (fun _ _ _ h => h) (Or.inl ⟨by rfl, ?_⟩) hS26 ?_
          rotate_left
          · intro w hSw; (try dsimp only at hSw); go_simp; (try with_reducible rfl)
          simp only [Act.put, List.setIfInBounds_toArray, List.set_cons_zero, List.set_cons_succ]
          refine wpAnyH_ready (rs := [33]) (by kernel_rfl) (by simp) ?_
          refine AllReadyH.cons (o := ({ dst := some 59, op := Op.call { callee := Callee.value (Operand.func 16), args := #[Operand.tmp 58], argTypes := #[24] }, type := 9, pos := "law.go:31", after := #[{ on := 32, ground := Ground.data }, { on := 31, ground := Ground.chain }, { on := 31, ground := Ground.guard }], guard := some (31, true) } : Oper)) rfl (fun K hK => ?_) AllReadyH.nil
          go_simp
          refine (csh.out _).mono ?_; rintro e w27 ⟨rfl, hb27⟩
          go_wp2_with fail
          refine hK.out _ _ (mk20 _ (hnext hS26.1 hb27)) (fun hS27 => ?_)
          clear hK K
          (try simp only [Act.put, List.setIfInBounds_toArray, List.set_cons_zero, List.set_cons_succ])
          clear hb27 hS26
          refine wpAnyH_ready (rs := [35]) (by kernel_rfl) (by simp) ?_
          refine AllReadyH.cons (o := ({ dst := some 61, op := Op.call { callee := Callee.value (Operand.func 17), args := #[Operand.tmp 60], argTypes := #[24] }, type := 9, pos := "law.go:31", after := #[{ on := 34, ground := Ground.data }, { on := 33, ground := Ground.chain }, { on := 31, ground := Ground.guard }], guard := some (31, true) } : Oper)) rfl (fun K hK => ?_) AllReadyH.nil
          go_simp
          refine (csr.out _).mono ?_; rintro e w28 ⟨rfl, hb28⟩
          go_wp2_with fail
          refine hK.out _ _ (mk20 _ (hnext hS27.1 hb28)) (fun hS28 => ?_)
          clear hK K
          (try simp only [Act.put, List.setIfInBounds_toArray, List.set_cons_zero, List.set_cons_succ])
          clear hb28 hS27
          refine wpAnyH_take (i := 36) (oi := ({ dst := some 62, op := Op.binOp BinOp.eql 9 (Operand.tmp 59) (Operand.tmp 61) 9, type := 4, pos := "law.go:31", after := #[{ on := 33, ground := Ground.data }, { on := 35, ground := Ground.data }, { on := 31, ground := Ground.guard }], guard := some (31, true) } : Oper)) (v := ?_) rfl (by kernel_rfl) (by kernel_rfl) (by kernel_rfl) (fun _ _ _ h => h) (Or.inl ⟨by rfl, ?_⟩) hS28 ?_
          rotate_left
          · intro w hSw; (try dsimp only at hSw); go_simp; (try with_reducible rfl)
          simp only [Act.put, List.setIfInBounds_toArray, List.set_cons_zero, List.set_cons_succ]
          refine wpAnyH_take (i := 37) (oi := ({ dst := some 63, op := Op.pick (Operand.tmp 57) (Operand.tmp 62) (Operand.const (Value.bool false)), type := 4, pos := "law.go:31", after := #[{ on := 31, ground := Ground.data }, { on := 36, ground := Ground.data }], guard := none } : Oper)) (v := ?_) rfl (by kernel_rfl) (by kernel_rfl) (by kernel_rfl) (fun _ _ _ h => h) (Or.inl ⟨by rfl, ?_⟩) hS28 ?_
          rotate_left
          · intro w hSw; (try dsimp only at hSw); go_simp; (try with_reducible rfl)
          simp only [Act.put, List.setIfInBounds_toArray, List.set_cons_zero, List.set_cons_succ]
          refine wpAnyH_take (i := 38) (oi := ({ dst := some 64, op := Op.move (Operand.tmp 63), type := 4, pos := "law.go:31", after := #[{ on := 37, ground := Ground.data }, { on := 35, ground := Ground.chain }], guard := none } : Oper)) (v := ?_) rfl (by kernel_rfl) (by kernel_rfl) (by kernel_rfl) (fun _ _ _ h => h) (Or.inl ⟨by rfl, ?_⟩) hS28 ?_
          rotate_left
          · intro w hSw; (try dsimp only at hSw); go_simp; (try with_reducible rfl)
          simp only [Act.put, List.setIfInBounds_toArray, List.set_cons_zero, List.set_cons_succ]
          refine wpAnyH_take (i := 39) (oi := ({ dst := some 65, op := Op.load 24 (Operand.tmp 2), type := 24, pos := "law.go:31", after := #[{ on := 38, ground := Ground.guard }], guard := some (38, true) } : Oper)) (v := ?_) rfl (by kernel_rfl) (by kernel_rfl) (by kernel_rfl) (fun _ _ _ h => h) (Or.inl ⟨by rfl, ?_⟩) hS28 ?_
          rotate_left
          · intro w hSw; (try dsimp only at hSw); go_simp; (try with_reducible rfl)
          simp only [Act.put, List.setIfInBounds_toArray, List.set_cons_zero, List.set_cons_succ]
          refine wpAnyH_take (i := 41) (oi := ({ dst := some 67, op := Op.move (Operand.tmp 5), type := 3, pos := "law.go:31", after := #[{ on := 38, ground := Ground.guard }], guard := some (38, true) } : Oper)) (v := ?_) rfl (by kernel_rfl) (by kernel_rfl) (by kernel_rfl) (fun _ _ _ h => h) (Or.inl ⟨by rfl, ?_⟩) hS28 ?_
          rotate_left
          · intro w hSw; (try dsimp only at hSw); go_simp; (try with_reducible rfl)
          simp only [Act.put, List.setIfInBounds_toArray, List.set_cons_zero, List.set_cons_succ]
          refine wpAnyH_ready (rs := [40]) (by kernel_rfl) (by simp) ?_
          refine AllReadyH.cons (o := ({ dst := some 66, op := Op.call { callee := Callee.value (Operand.func 18), args := #[Operand.tmp 65], argTypes := #[24] }, type := 3, pos := "law.go:31", after := #[{ on := 39, ground := Ground.data }, { on := 38, ground := Ground.chain }, { on := 38, ground := Ground.guard }], guard := some (38, true) } : Oper)) rfl (fun K hK => ?_) AllReadyH.nil
          go_simp
          refine (ct.out _).mono ?_; rintro e w29 ⟨rfl, hb29⟩
          go_wp2_with fail
          refine hK.out _ _ (mk20 _ (hnext hS28.1 hb29)) (fun hS29 => ?_)
          clear hK K
          (try simp only [Act.put, List.setIfInBounds_toArray, List.set_cons_zero, List.set_cons_succ])
          clear hb29 hS28
          refine wpAnyH_take (i := 42) (oi := ({ dst := some 68, op := Op.binOp BinOp.eql 3 (Operand.tmp 66) (Operand.tmp 67) 3, type := 4, pos := "law.go:31", after := #[{ on := 40, ground := Ground.data }, { on := 41, ground := Ground.data }, { on := 38, ground := Ground.guard }], guard := some (38, true) } : Oper)) (v := ?_) rfl (by kernel_rfl) (by kernel_rfl) (by kernel_rfl) (fun _ _ _ h => h) (Or.inl ⟨by rfl, ?_⟩) hS29 ?_
          rotate_left
          · intro w hSw; (try dsimp only at hSw); go_simp; (try with_reducible rfl)
          simp only [Act.put, List.setIfInBounds_toArray, List.set_cons_zero, List.set_cons_succ]
          refine wpAnyH_take (i := 43) (oi := ({ dst := some 69, op := Op.pick (Operand.tmp 64) (Operand.tmp 68) (Operand.const (Value.bool false)), type := 4, pos := "law.go:31", after := #[{ on := 38, ground := Ground.data }, { on := 42, ground := Ground.data }], guard := none } : Oper)) (v := ?_) rfl (by kernel_rfl) (by kernel_rfl) (by kernel_rfl) (fun _ _ _ h => h) (Or.inl ⟨by rfl, ?_⟩) hS29 ?_
          rotate_left
          · intro w hSw; (try dsimp only at hSw); go_simp; (try with_reducible rfl)
          simp only [Act.put, List.setIfInBounds_toArray, List.set_cons_zero, List.set_cons_succ]
          refine wpAnyH_take (i := 44) (oi := ({ dst := some 70, op := Op.move (Operand.tmp 69), type := 4, pos := "law.go:31", after := #[{ on := 43, ground := Ground.data }, { on := 40, ground := Ground.chain }], guard := none } : Oper)) (v := ?_) rfl (by kernel_rfl) (by kernel_rfl) (by kernel_rfl) (fun _ _ _ h => h) (Or.inl ⟨by rfl, ?_⟩) hS29 ?_
          rotate_left
          · intro w hSw; (try dsimp only at hSw); go_simp; (try with_reducible rfl)
          simp only [Act.put, List.setIfInBounds_toArray, List.set_cons_zero, List.set_cons_succ]
          refine wpAnyH_ready (rs := [45]) (by kernel_rfl) (by simp) ?_
          refine AllReadyH.cons (o := ({ dst := some 71, op := Op.call { callee := Callee.value (Operand.func 10), args := #[], argTypes := #[] }, type := 4, pos := "law.go:31", after := #[{ on := 44, ground := Ground.chain }, { on := 44, ground := Ground.guard }], guard := some (44, true) } : Oper)) rfl (fun K hK => ?_) AllReadyH.nil
          go_simp
          refine (known_any _).mono ?_; rintro e w30 ⟨rfl, hb30⟩
          go_wp2_with fail
          refine hK.out _ _ (mk20 _ (hnext hS29.1 hb30)) (fun hS30 => ?_)
          clear hK K
          (try simp only [Act.put, List.setIfInBounds_toArray, List.set_cons_zero, List.set_cons_succ])
          clear hb30 hS29
          refine wpAnyH_take (i := 46) (oi := ({ dst := some 72, op := Op.pick (Operand.tmp 70) (Operand.tmp 71) (Operand.const (Value.bool false)), type := 4, pos := "law.go:31", after := #[{ on := 44, ground := Ground.data }, { on := 45, ground := Ground.data }], guard := none } : Oper)) (v := ?_) rfl (by kernel_rfl) (by kernel_rfl) (by kernel_rfl) (fun _ _ _ h => h) (Or.inl ⟨by rfl, ?_⟩) hS30 ?_
          rotate_left
          · intro w hSw; (try dsimp only at hSw); go_simp; (try with_reducible rfl)
          simp only [Act.put, List.setIfInBounds_toArray, List.set_cons_zero, List.set_cons_succ]
          refine wpAnyH_take (i := 47) (oi := ({ dst := some 4, op := Op.assign (Operand.tmp 72), type := 4, pos := "law.go:31", after := #[{ on := 46, ground := Ground.data }, { on := 45, ground := Ground.chain }, { on := 0, ground := Ground.phase }, { on := 1, ground := Ground.phase }, { on := 2, ground := Ground.phase }, { on := 3, ground := Ground.phase }, { on := 4, ground := Ground.phase }, { on := 5, ground := Ground.phase }, { on := 6, ground := Ground.phase }, { on := 7, ground := Ground.phase }, { on := 8, ground := Ground.phase }, { on := 9, ground := Ground.phase }, { on := 10, ground := Ground.phase }, { on := 11, ground := Ground.phase }, { on := 12, ground := Ground.phase }, { on := 13, ground := Ground.phase }, { on := 14, ground := Ground.phase }, { on := 15, ground := Ground.phase }, { on := 16, ground := Ground.phase }, { on := 17, ground := Ground.phase }, { on := 18, ground := Ground.phase }, { on := 19, ground := Ground.phase }, { on := 20, ground := Ground.phase }, { on := 21, ground := Ground.phase }, { on := 22, ground := Ground.phase }, { on := 23, ground := Ground.phase }, { on := 24, ground := Ground.phase }, { on := 25, ground := Ground.phase }, { on := 26, ground := Ground.phase }, { on := 27, ground := Ground.phase }, { on := 28, ground := Ground.phase }, { on := 29, ground := Ground.phase }, { on := 30, ground := Ground.phase }, { on := 31, ground := Ground.phase }, { on := 32, ground := Ground.phase }, { on := 33, ground := Ground.phase }, { on := 34, ground := Ground.phase }, { on := 35, ground := Ground.phase }, { on := 36, ground := Ground.phase }, { on := 37, ground := Ground.phase }, { on := 38, ground := Ground.phase }, { on := 39, ground := Ground.phase }, { on := 40, ground := Ground.phase }, { on := 41, ground := Ground.phase }, { on := 42, ground := Ground.phase }, { on := 43, ground := Ground.phase }, { on := 44, ground := Ground.phase }, { on := 45, ground := Ground.phase }, { on := 46, ground := Ground.phase }], guard := none } : Oper)) (v := ?_) rfl (by kernel_rfl) (by kernel_rfl) (by kernel_rfl) (fun _ _ _ h => h) (Or.inl ⟨by rfl, ?_⟩) hS30 ?_
          rotate_left
          · intro w hSw; (try dsimp only at hSw); go_simp; (try with_reducible rfl)
          simp only [Act.put, List.setIfInBounds_toArray, List.set_cons_zero, List.set_cons_succ]
          refine wpAnyH_done (by kernel_rfl) ?_ _
          go_wp2_with fail
          go_ret
          exact ⟨rfl, hnext L1.out (hnext hd20 hS30.1)⟩
      | true =>
        rw [hu] at ru0 su0 cs0 HTR
        cases hv : Va.right vk vn vb vs with
        | false =>
          rw [hv] at rv0 sv0
          rw [hu, hv] at HEQ
          clear hu hv
          by_cases hk : uk = 1
          · obtain rfl : d = false := by cases d with | false => rfl | true => exact absurd (HEQ.out rfl) (by decide)
            rw [Bool.false_and] at cs0
            subst hk
            rw [HTR.out, if_pos ⟨rfl, rfl⟩] at ct0
            have ru := hid ru0
            have su := hid su0
            have rv := hid rv0
            have sv := hid sv0
            have cc := hid cc0
            have cd := hid cd0
            have cs := hid cs0
            have csh := hid csh0
            have csr := hid csr0
            have ct := hid ct0
            clear ru0 su0 rv0 sv0 cc0 cd0 cs0 csh0 csr0 ct0 HRU HRV HEQ HTR hdd
            go_enter Try.func3, Try.ntmps3
            go_wp2_with fail
            obtain ⟨Ac0_0, Ac1_0, Ac2_0, Ac3_0, Af0_0, Af1_0, Af2_0, Af3_0, Al_0⟩ := VA.out.cells
            obtain ⟨Bc0_0, Bc1_0, Bc2_0, Bc3_0, Bf0_0, Bf1_0, Bf2_0, Bf3_0, Bl_0⟩ := VB.out.cells
            refine (su.out _).mono ?_; rintro e w1 ⟨rfl, b1⟩
            clear Ac0_0 Ac1_0 Ac2_0 Ac3_0 Af0_0 Af1_0 Af2_0 Af3_0 Al_0 Bc0_0 Bc1_0 Bc2_0 Bc3_0 Bf0_0 Bf1_0 Bf2_0 Bf3_0 Bl_0
            have A1 := hid (VA.out.keep b1)
            have B1 := hid (VB.out.keep b1)
            have L1 := hid (hnext L.out b1)
            clear b1
            obtain ⟨Ac0_1, Ac1_1, Ac2_1, Ac3_1, Af0_1, Af1_1, Af2_1, Af3_1, Al_1⟩ := A1.out.cells
            obtain ⟨Bc0_1, Bc1_1, Bc2_1, Bc3_1, Bf0_1, Bf1_1, Bf2_1, Bf3_1, Bl_1⟩ := B1.out.cells
            go_wp2_with fail
            obtain ⟨w20, hw20⟩ : ∃ w20, (w1).drew = w20 := ⟨_, rfl⟩
            have hd20 : Below (w1).heap.size (w1) w20 := hw20 ▸ (Below.refl _ _).drew
            have mk20 : ∀ W, Below w20.heap.size w20 W → Below w20.heap.size w20 W ∧ W.cell? ⟨w.heap.size, 0, none⟩ = some (.int .i64 1) ∧ W.cell? ⟨w.heap.size, 1, none⟩ = some (.int .i64 un) ∧ W.cell? ⟨w.heap.size, 2, none⟩ = some (.int .u64 (ub : Int)) ∧ W.cell? ⟨w.heap.size, 3, none⟩ = some (.string us) ∧ W.cell? ⟨w.heap.size + 1, 0, none⟩ = some (.int .i64 vk) ∧ W.cell? ⟨w.heap.size + 1, 1, none⟩ = some (.int .i64 vn) ∧ W.cell? ⟨w.heap.size + 1, 2, none⟩ = some (.int .u64 (vb : Int)) ∧ W.cell? ⟨w.heap.size + 1, 3, none⟩ = some (.string vs) := fun W h => ⟨h, hkeep (hkeep Ac0_1 hd20) h, hkeep (hkeep Ac1_1 hd20) h, hkeep (hkeep Ac2_1 hd20) h, hkeep (hkeep Ac3_1 hd20) h, hkeep (hkeep Bc0_1 hd20) h, hkeep (hkeep Bc1_1 hd20) h, hkeep (hkeep Bc2_1 hd20) h, hkeep (hkeep Bc3_1 hd20) h⟩
            clear Ac0_1 Ac1_1 Ac2_1 Ac3_1 Af0_1 Af1_1 Af2_1 Af3_1 Al_1 Bc0_1 Bc1_1 Bc2_1 Bc3_1 Bf0_1 Bf1_1 Bf2_1 Bf3_1 Bl_1
            refine wp_region_held_drew (S := (fun W => Below w20.heap.size w20 W ∧ W.cell? ⟨w.heap.size, 0, none⟩ = some (.int .i64 1) ∧ W.cell? ⟨w.heap.size, 1, none⟩ = some (.int .i64 un) ∧ W.cell? ⟨w.heap.size, 2, none⟩ = some (.int .u64 (ub : Int)) ∧ W.cell? ⟨w.heap.size, 3, none⟩ = some (.string us) ∧ W.cell? ⟨w.heap.size + 1, 0, none⟩ = some (.int .i64 vk) ∧ W.cell? ⟨w.heap.size + 1, 1, none⟩ = some (.int .i64 vn) ∧ W.cell? ⟨w.heap.size + 1, 2, none⟩ = some (.int .u64 (vb : Int)) ∧ W.cell? ⟨w.heap.size + 1, 3, none⟩ = some (.string vs))) (by kernel_rfl) (by rw [hw20]; exact mk20 _ (Below.refl _ _)) (fun hS20 => ?_)
            rw [hw20] at hS20 ⊢
            clear hw20
            refine wpAnyH_take (i := 0) (oi := ({ dst := some 26, op := Op.load 24 (Operand.tmp 2), type := 24, pos := "law.go:31", after := #[], guard := none } : Oper)) (v := ?_) rfl (by kernel_rfl) (by kernel_rfl) (by kernel_rfl) (fun _ _ _ h => h) (Or.inl ⟨by rfl, ?_⟩) hS20 ?_
            rotate_left
            · intro w hSw; (try dsimp only at hSw); go_simp; (try with_reducible rfl)
            simp only [Act.put, List.setIfInBounds_toArray, List.set_cons_zero, List.set_cons_succ]
            refine wpAnyH_take (i := 2) (oi := ({ dst := some 28, op := Op.load 24 (Operand.tmp 2), type := 24, pos := "law.go:31", after := #[], guard := none } : Oper)) (v := ?_) rfl (by kernel_rfl) (by kernel_rfl) (by kernel_rfl) (fun _ _ _ h => h) (Or.inl ⟨by rfl, ?_⟩) hS20 ?_
            rotate_left
            · intro w hSw; (try dsimp only at hSw); go_simp; (try with_reducible rfl)
            simp only [Act.put, List.setIfInBounds_toArray, List.set_cons_zero, List.set_cons_succ]
            refine wpAnyH_ready (rs := [1]) (by kernel_rfl) (by simp) ?_
            refine AllReadyH.cons (o := ({ dst := some 27, op := Op.call { callee := Callee.value (Operand.func 12), args := #[Operand.tmp 26], argTypes := #[24] }, type := 4, pos := "law.go:31", after := #[{ on := 0, ground := Ground.data }], guard := none } : Oper)) rfl (fun K hK => ?_) AllReadyH.nil
            go_simp
            refine (ru.out _).mono ?_; rintro e w21 ⟨rfl, hb21⟩
            go_wp2_with fail
            refine hK.out _ _ (mk20 _ (hnext hS20.1 hb21)) (fun hS21 => ?_)
            clear hK K
            (try simp only [Act.put, List.setIfInBounds_toArray, List.set_cons_zero, List.set_cons_succ])
            clear hb21 hS20
            refine wpAnyH_ready (rs := [3]) (by kernel_rfl) (by simp) ?_
            refine AllReadyH.cons (o := ({ dst := some 29, op := Op.call { callee := Callee.value (Operand.func 11), args := #[Operand.tmp 28], argTypes := #[24] }, type := 4, pos := "law.go:31", after := #[{ on := 2, ground := Ground.data }, { on := 1, ground := Ground.chain }], guard := none } : Oper)) rfl (fun K hK => ?_) AllReadyH.nil
            go_simp
            refine (su.out _).mono ?_; rintro e w22 ⟨rfl, hb22⟩
            go_wp2_with fail
            refine hK.out _ _ (mk20 _ (hnext hS21.1 hb22)) (fun hS22 => ?_)
            clear hK K
            (try simp only [Act.put, List.setIfInBounds_toArray, List.set_cons_zero, List.set_cons_succ])
            clear hb22 hS21
            refine wpAnyH_take (i := 4) (oi := ({ dst := some 30, op := Op.binOp BinOp.eql 4 (Operand.tmp 27) (Operand.tmp 29) 4, type := 4, pos := "law.go:31", after := #[{ on := 1, ground := Ground.data }, { on := 3, ground := Ground.data }], guard := none } : Oper)) (v := ?_) rfl (by kernel_rfl) (by kernel_rfl) (by kernel_rfl) (fun _ _ _ h => h) (Or.inl ⟨by rfl, ?_⟩) hS22 ?_
            rotate_left
            · intro w hSw; (try dsimp only at hSw); go_simp; (try with_reducible rfl)
            simp only [Act.put, List.setIfInBounds_toArray, List.set_cons_zero, List.set_cons_succ]
            refine wpAnyH_take (i := 5) (oi := ({ dst := some 31, op := Op.move (Operand.tmp 30), type := 4, pos := "law.go:31", after := #[{ on := 4, ground := Ground.data }, { on := 3, ground := Ground.chain }], guard := none } : Oper)) (v := ?_) rfl (by kernel_rfl) (by kernel_rfl) (by kernel_rfl) (fun _ _ _ h => h) (Or.inl ⟨by rfl, ?_⟩) hS22 ?_
            rotate_left
            · intro w hSw; (try dsimp only at hSw); go_simp; (try with_reducible rfl)
            simp only [Act.put, List.setIfInBounds_toArray, List.set_cons_zero, List.set_cons_succ]
            refine wpAnyH_take (i := 6) (oi := ({ dst := some 32, op := Op.load 24 (Operand.tmp 2), type := 24, pos := "law.go:31", after := #[{ on := 5, ground := Ground.guard }], guard := some (5, true) } : Oper)) (v := ?_) rfl (by kernel_rfl) (by kernel_rfl) (by kernel_rfl) (fun _ _ _ h => h) (Or.inl ⟨by rfl, ?_⟩) hS22 ?_
            rotate_left
            · intro w hSw; (try dsimp only at hSw); go_simp; (try with_reducible rfl)
            simp only [Act.put, List.setIfInBounds_toArray, List.set_cons_zero, List.set_cons_succ]
            refine wpAnyH_take (i := 7) (oi := ({ dst := some 33, op := Op.load 24 (Operand.tmp 3), type := 24, pos := "law.go:31", after := #[{ on := 5, ground := Ground.guard }], guard := some (5, true) } : Oper)) (v := ?_) rfl (by kernel_rfl) (by kernel_rfl) (by kernel_rfl) (fun _ _ _ h => h) (Or.inl ⟨by rfl, ?_⟩) hS22 ?_
            rotate_left
            · intro w hSw; (try dsimp only at hSw); go_simp; (try with_reducible rfl)
            simp only [Act.put, List.setIfInBounds_toArray, List.set_cons_zero, List.set_cons_succ]
            refine wpAnyH_take (i := 9) (oi := ({ dst := some 35, op := Op.load 24 (Operand.tmp 2), type := 24, pos := "law.go:31", after := #[{ on := 5, ground := Ground.guard }], guard := some (5, true) } : Oper)) (v := ?_) rfl (by kernel_rfl) (by kernel_rfl) (by kernel_rfl) (fun _ _ _ h => h) (Or.inl ⟨by rfl, ?_⟩) hS22 ?_
            rotate_left
            · intro w hSw; (try dsimp only at hSw); go_simp; (try with_reducible rfl)
            simp only [Act.put, List.setIfInBounds_toArray, List.set_cons_zero, List.set_cons_succ]
            refine wpAnyH_take (i := 10) (oi := ({ dst := some 36, op := Op.load 24 (Operand.tmp 3), type := 24, pos := "law.go:31", after := #[{ on := 5, ground := Ground.guard }], guard := some (5, true) } : Oper)) (v := ?_) rfl (by kernel_rfl) (by kernel_rfl) (by kernel_rfl) (fun _ _ _ h => h) (Or.inl ⟨by rfl, ?_⟩) hS22 ?_
            rotate_left
            · intro w hSw; (try dsimp only at hSw); go_simp; (try with_reducible rfl)
            simp only [Act.put, List.setIfInBounds_toArray, List.set_cons_zero, List.set_cons_succ]
            refine wpAnyH_ready (rs := [8]) (by kernel_rfl) (by simp) ?_
            refine AllReadyH.cons (o := ({ dst := some 34, op := Op.call { callee := Callee.value (Operand.func 13), args := #[Operand.tmp 32, Operand.tmp 33], argTypes := #[24, 24] }, type := 3, pos := "law.go:31", after := #[{ on := 6, ground := Ground.data }, { on := 7, ground := Ground.data }, { on := 5, ground := Ground.chain }, { on := 5, ground := Ground.guard }], guard := some (5, true) } : Oper)) rfl (fun K hK => ?_) AllReadyH.nil
            go_simp
            refine (cc.out _).mono ?_; rintro e w23 ⟨rfl, hb23⟩
            go_wp2_with fail
            refine hK.out _ _ (mk20 _ (hnext hS22.1 hb23)) (fun hS23 => ?_)
            clear hK K
            (try simp only [Act.put, List.setIfInBounds_toArray, List.set_cons_zero, List.set_cons_succ])
            clear hb23 hS22
            refine wpAnyH_ready (rs := [11]) (by kernel_rfl) (by simp) ?_
            refine AllReadyH.cons (o := ({ dst := some 37, op := Op.call { callee := Callee.value (Operand.func 14), args := #[Operand.tmp 35, Operand.tmp 36], argTypes := #[24, 24] }, type := 3, pos := "law.go:31", after := #[{ on := 9, ground := Ground.data }, { on := 10, ground := Ground.data }, { on := 8, ground := Ground.chain }, { on := 5, ground := Ground.guard }], guard := some (5, true) } : Oper)) rfl (fun K hK => ?_) AllReadyH.nil
            go_simp
            refine (cd.out _).mono ?_; rintro e w24 ⟨rfl, hb24⟩
            go_wp2_with fail
            refine hK.out _ _ (mk20 _ (hnext hS23.1 hb24)) (fun hS24 => ?_)
            clear hK K
            (try simp only [Act.put, List.setIfInBounds_toArray, List.set_cons_zero, List.set_cons_succ])
            clear hb24 hS23
            refine wpAnyH_take (i := 12) (oi := ({ dst := some 38, op := Op.binOp BinOp.eql 3 (Operand.tmp 34) (Operand.tmp 37) 3, type := 4, pos := "law.go:31", after := #[{ on := 8, ground := Ground.data }, { on := 11, ground := Ground.data }, { on := 5, ground := Ground.guard }], guard := some (5, true) } : Oper)) (v := ?_) rfl (by kernel_rfl) (by kernel_rfl) (by kernel_rfl) (fun _ _ _ h => h) (Or.inl ⟨by rfl, ?_⟩) hS24 ?_
            rotate_left
            · intro w hSw; (try dsimp only at hSw); go_simp; (try with_reducible rfl)
            simp only [Act.put, List.setIfInBounds_toArray, List.set_cons_zero, List.set_cons_succ]
            refine wpAnyH_take (i := 13) (oi := ({ dst := some 39, op := Op.pick (Operand.tmp 31) (Operand.tmp 38) (Operand.const (Value.bool false)), type := 4, pos := "law.go:31", after := #[{ on := 5, ground := Ground.data }, { on := 12, ground := Ground.data }], guard := none } : Oper)) (v := ?_) rfl (by kernel_rfl) (by kernel_rfl) (by kernel_rfl) (fun _ _ _ h => h) (Or.inl ⟨by rfl, ?_⟩) hS24 ?_
            rotate_left
            · intro w hSw; (try dsimp only at hSw); go_simp; (try with_reducible rfl)
            simp only [Act.put, List.setIfInBounds_toArray, List.set_cons_zero, List.set_cons_succ]
            refine wpAnyH_take (i := 14) (oi := ({ dst := some 40, op := Op.move (Operand.tmp 39), type := 4, pos := "law.go:31", after := #[{ on := 13, ground := Ground.data }, { on := 11, ground := Ground.chain }], guard := none } : Oper)) (v := ?_) rfl (by kernel_rfl) (by kernel_rfl) (by kernel_rfl) (fun _ _ _ h => h) (Or.inl ⟨by rfl, ?_⟩) hS24 ?_
            rotate_left
            · intro w hSw; (try dsimp only at hSw); go_simp; (try with_reducible rfl)
            simp only [Act.put, List.setIfInBounds_toArray, List.set_cons_zero, List.set_cons_succ]
            refine wpAnyH_take (i := 15) (oi := ({ dst := some 41, op := Op.load 24 (Operand.tmp 2), type := 24, pos := "law.go:31", after := #[{ on := 14, ground := Ground.guard }], guard := some (14, true) } : Oper)) (v := ?_) rfl (by kernel_rfl) (by kernel_rfl) (by kernel_rfl) (fun _ _ _ h => h) (Or.inl ⟨by rfl, ?_⟩) hS24 ?_
            rotate_left
            · intro w hSw; (try dsimp only at hSw); go_simp; (try with_reducible rfl)
            simp only [Act.put, List.setIfInBounds_toArray, List.set_cons_zero, List.set_cons_succ]
            refine wpAnyH_take (i := 16) (oi := ({ dst := some 42, op := Op.load 24 (Operand.tmp 3), type := 24, pos := "law.go:31", after := #[{ on := 14, ground := Ground.guard }], guard := some (14, true) } : Oper)) (v := ?_) rfl (by kernel_rfl) (by kernel_rfl) (by kernel_rfl) (fun _ _ _ h => h) (Or.inl ⟨by rfl, ?_⟩) hS24 ?_
            rotate_left
            · intro w hSw; (try dsimp only at hSw); go_simp; (try with_reducible rfl)
            simp only [Act.put, List.setIfInBounds_toArray, List.set_cons_zero, List.set_cons_succ]
            refine wpAnyH_take (i := 18) (oi := ({ dst := some 44, op := Op.load 24 (Operand.tmp 2), type := 24, pos := "law.go:31", after := #[{ on := 14, ground := Ground.guard }], guard := some (14, true) } : Oper)) (v := ?_) rfl (by kernel_rfl) (by kernel_rfl) (by kernel_rfl) (fun _ _ _ h => h) (Or.inl ⟨by rfl, ?_⟩) hS24 ?_
            rotate_left
            · intro w hSw; (try dsimp only at hSw); go_simp; (try with_reducible rfl)
            simp only [Act.put, List.setIfInBounds_toArray, List.set_cons_zero, List.set_cons_succ]
            refine wpAnyH_ready (rs := [17]) (by kernel_rfl) (by simp) ?_
            refine AllReadyH.cons (o := ({ dst := some 43, op := Op.call { callee := Callee.value (Operand.func 15), args := #[Operand.tmp 41, Operand.tmp 42], argTypes := #[24, 24] }, type := 4, pos := "law.go:31", after := #[{ on := 15, ground := Ground.data }, { on := 16, ground := Ground.data }, { on := 14, ground := Ground.chain }, { on := 14, ground := Ground.guard }], guard := some (14, true) } : Oper)) rfl (fun K hK => ?_) AllReadyH.nil
            go_simp
            refine (cs.out _).mono ?_; rintro e w25 ⟨rfl, hb25⟩
            go_wp2_with fail
            refine hK.out _ _ (mk20 _ (hnext hS24.1 hb25)) (fun hS25 => ?_)
            clear hK K
            (try simp only [Act.put, List.setIfInBounds_toArray, List.set_cons_zero, List.set_cons_succ])
            clear hb25 hS24
            refine wpAnyH_ready (rs := [19]) (by kernel_rfl) (by simp) ?_
            refine AllReadyH.cons (o := ({ dst := some 45, op := Op.call { callee := Callee.value (Operand.func 11), args := #[Operand.tmp 44], argTypes := #[24] }, type := 4, pos := "law.go:31", after := #[{ on := 18, ground := Ground.data }, { on := 17, ground := Ground.chain }, { on := 14, ground := Ground.guard }], guard := some (14, true) } : Oper)) rfl (fun K hK => ?_) AllReadyH.nil
            go_simp
            refine (su.out _).mono ?_; rintro e w26 ⟨rfl, hb26⟩
            go_wp2_with fail
            refine hK.out _ _ (mk20 _ (hnext hS25.1 hb26)) (fun hS26 => ?_)
            clear hK K
            (try simp only [Act.put, List.setIfInBounds_toArray, List.set_cons_zero, List.set_cons_succ])
            clear hb26 hS25
            refine wpAnyH_take (i := 20) (oi := ({ dst := some 46, op := Op.move (Operand.tmp 45), type := 4, pos := "law.go:31", after := #[{ on := 19, ground := Ground.data }, { on := 19, ground := Ground.chain }, { on := 14, ground := Ground.guard }], guard := some (14, true) } : Oper)) (v := ?_) rfl (by kernel_rfl) (by kernel_rfl) (by kernel_rfl) (fun _ _ _ h => h) (Or.inl ⟨by rfl, ?_⟩) hS26 ?_
            rotate_left
            · intro w hSw; (try dsimp only at hSw); go_simp; (try with_reducible rfl)
            simp only [Act.put, List.setIfInBounds_toArray, List.set_cons_zero, List.set_cons_succ]
            refine wpAnyH_take (i := 21) (oi := ({ dst := some 47, op := Op.load 24 (Operand.tmp 3), type := 24, pos := "law.go:31", after := #[{ on := 20, ground := Ground.guard }], guard := some (20, true) } : Oper)) (v := ?_) rfl (by kernel_rfl) (by kernel_rfl) (by kernel_rfl) (fun _ _ _ h => h) (Or.inl ⟨by rfl, ?_⟩) hS26 ?_
            rotate_left
            · intro w hSw; (try dsimp only at hSw); go_simp; (try with_reducible rfl)
            simp only [Act.put, List.setIfInBounds_toArray, List.set_cons_zero, List.set_cons_succ]
            refine wpAnyH_ready (rs := [22]) (by kernel_rfl) (by simp) ?_
            refine AllReadyH.cons (o := ({ dst := some 48, op := Op.call { callee := Callee.value (Operand.func 11), args := #[Operand.tmp 47], argTypes := #[24] }, type := 4, pos := "law.go:31", after := #[{ on := 21, ground := Ground.data }, { on := 20, ground := Ground.chain }, { on := 20, ground := Ground.guard }], guard := some (20, true) } : Oper)) rfl (fun K hK => ?_) AllReadyH.nil
            go_simp
            refine (sv.out _).mono ?_; rintro e w27 ⟨rfl, hb27⟩
            go_wp2_with fail
            refine hK.out _ _ (mk20 _ (hnext hS26.1 hb27)) (fun hS27 => ?_)
            clear hK K
            (try simp only [Act.put, List.setIfInBounds_toArray, List.set_cons_zero, List.set_cons_succ])
            clear hb27 hS26
            refine wpAnyH_take (i := 23) (oi := ({ dst := some 49, op := Op.pick (Operand.tmp 46) (Operand.tmp 48) (Operand.const (Value.bool false)), type := 4, pos := "law.go:31", after := #[{ on := 20, ground := Ground.data }, { on := 22, ground := Ground.data }, { on := 14, ground := Ground.guard }], guard := some (14, true) } : Oper)) (v := ?_) rfl (by kernel_rfl) (by kernel_rfl) (by kernel_rfl) (fun _ _ _ h => h) (Or.inl ⟨by rfl, ?_⟩) hS27 ?_
            rotate_left
            · intro w hSw; (try dsimp only at hSw); go_simp; (try with_reducible rfl)
            simp only [Act.put, List.setIfInBounds_toArray, List.set_cons_zero, List.set_cons_succ]
            refine wpAnyH_take (i := 24) (oi := ({ dst := some 50, op := Op.move (Operand.tmp 49), type := 4, pos := "law.go:31", after := #[{ on := 23, ground := Ground.data }, { on := 22, ground := Ground.chain }, { on := 14, ground := Ground.guard }], guard := some (14, true) } : Oper)) (v := ?_) rfl (by kernel_rfl) (by kernel_rfl) (by kernel_rfl) (fun _ _ _ h => h) (Or.inl ⟨by rfl, ?_⟩) hS27 ?_
            rotate_left
            · intro w hSw; (try dsimp only at hSw); go_simp; (try with_reducible rfl)
            simp only [Act.put, List.setIfInBounds_toArray, List.set_cons_zero, List.set_cons_succ]
            refine wpAnyH_take (i := 25) (oi := ({ dst := some 51, op := Op.load 24 (Operand.tmp 2), type := 24, pos := "law.go:31", after := #[{ on := 24, ground := Ground.guard }], guard := some (24, true) } : Oper)) (v := undef) rfl (by kernel_rfl) (by kernel_rfl) (by kernel_rfl) (fun _ _ _ h => h) (Or.inr ⟨by rfl, rfl⟩) hS27 ?_
            simp only [Act.put, List.setIfInBounds_toArray, List.set_cons_zero, List.set_cons_succ]
            refine wpAnyH_take (i := 26) (oi := ({ dst := some 52, op := Op.load 24 (Operand.tmp 3), type := 24, pos := "law.go:31", after := #[{ on := 24, ground := Ground.guard }], guard := some (24, true) } : Oper)) (v := undef) rfl (by kernel_rfl) (by kernel_rfl) (by kernel_rfl) (fun _ _ _ h => h) (Or.inr ⟨by rfl, rfl⟩) hS27 ?_
            simp only [Act.put, List.setIfInBounds_toArray, List.set_cons_zero, List.set_cons_succ]
            refine wpAnyH_take (i := 27) (oi := ({ dst := some 53, op := Op.binOp BinOp.eql 24 (Operand.tmp 51) (Operand.tmp 52) 24, type := 4, pos := "law.go:31", after := #[{ on := 25, ground := Ground.data }, { on := 26, ground := Ground.data }, { on := 24, ground := Ground.guard }], guard := some (24, true) } : Oper)) (v := undef) rfl (by kernel_rfl) (by kernel_rfl) (by kernel_rfl) (fun _ _ _ h => h) (Or.inr ⟨by rfl, rfl⟩) hS27 ?_
            simp only [Act.put, List.setIfInBounds_toArray, List.set_cons_zero, List.set_cons_succ]
            refine wpAnyH_take (i := 28) (oi := ({ dst := some 54, op := Op.pick (Operand.tmp 50) (Operand.tmp 53) (Operand.const (Value.bool false)), type := 4, pos := "law.go:31", after := #[{ on := 24, ground := Ground.data }, { on := 27, ground := Ground.data }, { on := 14, ground := Ground.guard }], guard := some (14, true) } : Oper)) (v := ?_) rfl (by kernel_rfl) (by kernel_rfl) (by kernel_rfl) (fun _ _ _ h => h) (Or.inl ⟨by rfl, ?_⟩) hS27 ?_
            rotate_left
            · intro w hSw; (try dsimp only at hSw); go_simp; (try with_reducible rfl)
            simp only [Act.put, List.setIfInBounds_toArray, List.set_cons_zero, List.set_cons_succ]
            refine wpAnyH_take (i := 29) (oi := ({ dst := some 55, op := Op.binOp BinOp.eql 4 (Operand.tmp 43) (Operand.tmp 54) 4, type := 4, pos := "law.go:31", after := #[{ on := 17, ground := Ground.data }, { on := 28, ground := Ground.data }, { on := 14, ground := Ground.guard }], guard := some (14, true) } : Oper)) (v := ?_) rfl (by kernel_rfl) (by kernel_rfl) (by kernel_rfl) (fun _ _ _ h => h) (Or.inl ⟨by rfl, ?_⟩) hS27 ?_
            rotate_left
            · intro w hSw; (try dsimp only at hSw); go_simp; (try with_reducible rfl)
            simp only [Act.put, List.setIfInBounds_toArray, List.set_cons_zero, List.set_cons_succ]
            refine wpAnyH_take (i := 30) (oi := ({ dst := some 56, op := Op.pick (Operand.tmp 40) (Operand.tmp 55) (Operand.const (Value.bool false)), type := 4, pos := "law.go:31", after := #[{ on := 14, ground := Ground.data }, { on := 29, ground := Ground.data }], guard := none } : Oper)) (v := ?_) rfl (by kernel_rfl) (by kernel_rfl) (by kernel_rfl) (fun _ _ _ h => h) (Or.inl ⟨by rfl, ?_⟩) hS27 ?_
            rotate_left
            · intro w hSw; (try dsimp only at hSw); go_simp; (try with_reducible rfl)
            simp only [Act.put, List.setIfInBounds_toArray, List.set_cons_zero, List.set_cons_succ]
            refine wpAnyH_take (i := 31) (oi := ({ dst := some 57, op := Op.move (Operand.tmp 56), type := 4, pos := "law.go:31", after := #[{ on := 30, ground := Ground.data }, { on := 24, ground := Ground.chain }], guard := none } : Oper)) (v := ?_) rfl (by kernel_rfl) (by kernel_rfl) (by kernel_rfl) (fun _ _ _ h => h) (Or.inl ⟨by rfl, ?_⟩) hS27 ?_
            rotate_left
            · intro w hSw; (try dsimp only at hSw); go_simp; (try with_reducible rfl)
            simp only [Act.put, List.setIfInBounds_toArray, List.set_cons_zero, List.set_cons_succ]
            refine wpAnyH_take (i := 32) (oi := ({ dst := some 58, op := Op.load 24 (Operand.tmp 2), type := 24, pos := "law.go:31", after := #[{ on := 31, ground := Ground.guard }], guard := some (31, true) } : Oper)) (v := ?_) rfl (by kernel_rfl) (by kernel_rfl) (by kernel_rfl) (fun _ _ _ h => h) (Or.inl ⟨by rfl, ?_⟩) hS27 ?_
            rotate_left
            · intro w hSw; (try dsimp only at hSw); go_simp; (try with_reducible rfl)
            simp only [Act.put, List.setIfInBounds_toArray, List.set_cons_zero, List.set_cons_succ]
            refine wpAnyH_take (i := 34) (oi := ({ dst := some 60, op := Op.load 24 (Operand.tmp 2), type := 24, pos := "law.go:31", after := #[{ on := 31, ground := Ground.guard }], guard := some (31, true) } : Oper)) (v := ?_) rfl (by kernel_rfl) (by kernel_rfl) (by kernel_rfl) (fun _ _ _ h => h) (Or.inl ⟨by rfl, ?_⟩) hS27 ?_
            rotate_left
            · intro w hSw; (try dsimp only at hSw); go_simp; (try with_reducible rfl)
            simp only [Act.put, List.setIfInBounds_toArray, List.set_cons_zero, List.set_cons_succ]
            refine wpAnyH_ready (rs := [33]) (by kernel_rfl) (by simp) ?_
            refine AllReadyH.cons (o := ({ dst := some 59, op := Op.call { callee := Callee.value (Operand.func 16), args := #[Operand.tmp 58], argTypes := #[24] }, type := 9, pos := "law.go:31", after := #[{ on := 32, ground := Ground.data }, { on := 31, ground := Ground.chain }, { on := 31, ground := Ground.guard }], guard := some (31, true) } : Oper)) rfl (fun K hK => ?_) AllReadyH.nil
            go_simp
            refine (csh.out _).mono ?_; rintro e w28 ⟨rfl, hb28⟩
            go_wp2_with fail
            refine hK.out _ _ (mk20 _ (hnext hS27.1 hb28)) (fun hS28 => ?_)
            clear hK K
            (try simp only [Act.put, List.setIfInBounds_toArray, List.set_cons_zero, List.set_cons_succ])
            clear hb28 hS27
            refine wpAnyH_ready (rs := [35]) (by kernel_rfl) (by simp) ?_
            refine AllReadyH.cons (o := ({ dst := some 61, op := Op.call { callee := Callee.value (Operand.func 17), args := #[Operand.tmp 60], argTypes := #[24] }, type := 9, pos := "law.go:31", after := #[{ on := 34, ground := Ground.data }, { on := 33, ground := Ground.chain }, { on := 31, ground := Ground.guard }], guard := some (31, true) } : Oper)) rfl (fun K hK => ?_) AllReadyH.nil
            go_simp
            refine (csr.out _).mono ?_; rintro e w29 ⟨rfl, hb29⟩
            go_wp2_with fail
            refine hK.out _ _ (mk20 _ (hnext hS28.1 hb29)) (fun hS29 => ?_)
            clear hK K
            (try simp only [Act.put, List.setIfInBounds_toArray, List.set_cons_zero, List.set_cons_succ])
            clear hb29 hS28
            refine wpAnyH_take (i := 36) (oi := ({ dst := some 62, op := Op.binOp BinOp.eql 9 (Operand.tmp 59) (Operand.tmp 61) 9, type := 4, pos := "law.go:31", after := #[{ on := 33, ground := Ground.data }, { on := 35, ground := Ground.data }, { on := 31, ground := Ground.guard }], guard := some (31, true) } : Oper)) (v := ?_) rfl (by kernel_rfl) (by kernel_rfl) (by kernel_rfl) (fun _ _ _ h => h) (Or.inl ⟨by rfl, ?_⟩) hS29 ?_
            rotate_left
            · intro w hSw; (try dsimp only at hSw); go_simp; (try with_reducible rfl)
            simp only [Act.put, List.setIfInBounds_toArray, List.set_cons_zero, List.set_cons_succ]
            refine wpAnyH_take (i := 37) (oi := ({ dst := some 63, op := Op.pick (Operand.tmp 57) (Operand.tmp 62) (Operand.const (Value.bool false)), type := 4, pos := "law.go:31", after := #[{ on := 31, ground := Ground.data }, { on := 36, ground := Ground.data }], guard := none } : Oper)) (v := ?_) rfl (by kernel_rfl) (by kernel_rfl) (by kernel_rfl) (fun _ _ _ h => h) (Or.inl ⟨by rfl, ?_⟩) hS29 ?_
            rotate_left
            · intro w hSw; (try dsimp only at hSw); go_simp; (try with_reducible rfl)
            simp only [Act.put, List.setIfInBounds_toArray, List.set_cons_zero, List.set_cons_succ]
            refine wpAnyH_take (i := 38) (oi := ({ dst := some 64, op := Op.move (Operand.tmp 63), type := 4, pos := "law.go:31", after := #[{ on := 37, ground := Ground.data }, { on := 35, ground := Ground.chain }], guard := none } : Oper)) (v := ?_) rfl (by kernel_rfl) (by kernel_rfl) (by kernel_rfl) (fun _ _ _ h => h) (Or.inl ⟨by rfl, ?_⟩) hS29 ?_
            rotate_left
            · intro w hSw; (try dsimp only at hSw); go_simp; (try with_reducible rfl)
            simp only [Act.put, List.setIfInBounds_toArray, List.set_cons_zero, List.set_cons_succ]
            refine wpAnyH_take (i := 39) (oi := ({ dst := some 65, op := Op.load 24 (Operand.tmp 2), type := 24, pos := "law.go:31", after := #[{ on := 38, ground := Ground.guard }], guard := some (38, true) } : Oper)) (v := ?_) rfl (by kernel_rfl) (by kernel_rfl) (by kernel_rfl) (fun _ _ _ h => h) (Or.inl ⟨by rfl, ?_⟩) hS29 ?_
            rotate_left
            · intro w hSw; (try dsimp only at hSw); go_simp; (try with_reducible rfl)
            simp only [Act.put, List.setIfInBounds_toArray, List.set_cons_zero, List.set_cons_succ]
            refine wpAnyH_take (i := 41) (oi := ({ dst := some 67, op := Op.move (Operand.tmp 5), type := 3, pos := "law.go:31", after := #[{ on := 38, ground := Ground.guard }], guard := some (38, true) } : Oper)) (v := ?_) rfl (by kernel_rfl) (by kernel_rfl) (by kernel_rfl) (fun _ _ _ h => h) (Or.inl ⟨by rfl, ?_⟩) hS29 ?_
            rotate_left
            · intro w hSw; (try dsimp only at hSw); go_simp; (try with_reducible rfl)
            simp only [Act.put, List.setIfInBounds_toArray, List.set_cons_zero, List.set_cons_succ]
            refine wpAnyH_ready (rs := [40]) (by kernel_rfl) (by simp) ?_
            refine AllReadyH.cons (o := ({ dst := some 66, op := Op.call { callee := Callee.value (Operand.func 18), args := #[Operand.tmp 65], argTypes := #[24] }, type := 3, pos := "law.go:31", after := #[{ on := 39, ground := Ground.data }, { on := 38, ground := Ground.chain }, { on := 38, ground := Ground.guard }], guard := some (38, true) } : Oper)) rfl (fun K hK => ?_) AllReadyH.nil
            go_simp
            refine (ct.out _).mono ?_; rintro e w30 ⟨rfl, hb30⟩
            go_wp2_with fail
            refine hK.out _ _ (mk20 _ (hnext hS29.1 hb30)) (fun hS30 => ?_)
            clear hK K
            (try simp only [Act.put, List.setIfInBounds_toArray, List.set_cons_zero, List.set_cons_succ])
            clear hb30 hS29
            refine wpAnyH_take (i := 42) (oi := ({ dst := some 68, op := Op.binOp BinOp.eql 3 (Operand.tmp 66) (Operand.tmp 67) 3, type := 4, pos := "law.go:31", after := #[{ on := 40, ground := Ground.data }, { on := 41, ground := Ground.data }, { on := 38, ground := Ground.guard }], guard := some (38, true) } : Oper)) (v := ?_) rfl (by kernel_rfl) (by kernel_rfl) (by kernel_rfl) (fun _ _ _ h => h) (Or.inl ⟨by rfl, ?_⟩) hS30 ?_
            rotate_left
            · intro w hSw; (try dsimp only at hSw); go_simp; (try with_reducible rfl)
            simp only [Act.put, List.setIfInBounds_toArray, List.set_cons_zero, List.set_cons_succ]
            refine wpAnyH_take (i := 43) (oi := ({ dst := some 69, op := Op.pick (Operand.tmp 64) (Operand.tmp 68) (Operand.const (Value.bool false)), type := 4, pos := "law.go:31", after := #[{ on := 38, ground := Ground.data }, { on := 42, ground := Ground.data }], guard := none } : Oper)) (v := ?_) rfl (by kernel_rfl) (by kernel_rfl) (by kernel_rfl) (fun _ _ _ h => h) (Or.inl ⟨by rfl, ?_⟩) hS30 ?_
            rotate_left
            · intro w hSw; (try dsimp only at hSw); go_simp; (try with_reducible rfl)
            simp only [Act.put, List.setIfInBounds_toArray, List.set_cons_zero, List.set_cons_succ]
            refine wpAnyH_take (i := 44) (oi := ({ dst := some 70, op := Op.move (Operand.tmp 69), type := 4, pos := "law.go:31", after := #[{ on := 43, ground := Ground.data }, { on := 40, ground := Ground.chain }], guard := none } : Oper)) (v := ?_) rfl (by kernel_rfl) (by kernel_rfl) (by kernel_rfl) (fun _ _ _ h => h) (Or.inl ⟨by rfl, ?_⟩) hS30 ?_
            rotate_left
            · intro w hSw; (try dsimp only at hSw); go_simp; (try with_reducible rfl)
            simp only [Act.put, List.setIfInBounds_toArray, List.set_cons_zero, List.set_cons_succ]
            refine wpAnyH_ready (rs := [45]) (by kernel_rfl) (by simp) ?_
            refine AllReadyH.cons (o := ({ dst := some 71, op := Op.call { callee := Callee.value (Operand.func 10), args := #[], argTypes := #[] }, type := 4, pos := "law.go:31", after := #[{ on := 44, ground := Ground.chain }, { on := 44, ground := Ground.guard }], guard := some (44, true) } : Oper)) rfl (fun K hK => ?_) AllReadyH.nil
            go_simp
            refine (known_any _).mono ?_; rintro e w31 ⟨rfl, hb31⟩
            go_wp2_with fail
            refine hK.out _ _ (mk20 _ (hnext hS30.1 hb31)) (fun hS31 => ?_)
            clear hK K
            (try simp only [Act.put, List.setIfInBounds_toArray, List.set_cons_zero, List.set_cons_succ])
            clear hb31 hS30
            refine wpAnyH_take (i := 46) (oi := ({ dst := some 72, op := Op.pick (Operand.tmp 70) (Operand.tmp 71) (Operand.const (Value.bool false)), type := 4, pos := "law.go:31", after := #[{ on := 44, ground := Ground.data }, { on := 45, ground := Ground.data }], guard := none } : Oper)) (v := ?_) rfl (by kernel_rfl) (by kernel_rfl) (by kernel_rfl) (fun _ _ _ h => h) (Or.inl ⟨by rfl, ?_⟩) hS31 ?_
            rotate_left
            · intro w hSw; (try dsimp only at hSw); go_simp; (try with_reducible rfl)
            simp only [Act.put, List.setIfInBounds_toArray, List.set_cons_zero, List.set_cons_succ]
            refine wpAnyH_take (i := 47) (oi := ({ dst := some 4, op := Op.assign (Operand.tmp 72), type := 4, pos := "law.go:31", after := #[{ on := 46, ground := Ground.data }, { on := 45, ground := Ground.chain }, { on := 0, ground := Ground.phase }, { on := 1, ground := Ground.phase }, { on := 2, ground := Ground.phase }, { on := 3, ground := Ground.phase }, { on := 4, ground := Ground.phase }, { on := 5, ground := Ground.phase }, { on := 6, ground := Ground.phase }, { on := 7, ground := Ground.phase }, { on := 8, ground := Ground.phase }, { on := 9, ground := Ground.phase }, { on := 10, ground := Ground.phase }, { on := 11, ground := Ground.phase }, { on := 12, ground := Ground.phase }, { on := 13, ground := Ground.phase }, { on := 14, ground := Ground.phase }, { on := 15, ground := Ground.phase }, { on := 16, ground := Ground.phase }, { on := 17, ground := Ground.phase }, { on := 18, ground := Ground.phase }, { on := 19, ground := Ground.phase }, { on := 20, ground := Ground.phase }, { on := 21, ground := Ground.phase }, { on := 22, ground := Ground.phase }, { on := 23, ground := Ground.phase }, { on := 24, ground := Ground.phase }, { on := 25, ground := Ground.phase }, { on := 26, ground := Ground.phase }, { on := 27, ground := Ground.phase }, { on := 28, ground := Ground.phase }, { on := 29, ground := Ground.phase }, { on := 30, ground := Ground.phase }, { on := 31, ground := Ground.phase }, { on := 32, ground := Ground.phase }, { on := 33, ground := Ground.phase }, { on := 34, ground := Ground.phase }, { on := 35, ground := Ground.phase }, { on := 36, ground := Ground.phase }, { on := 37, ground := Ground.phase }, { on := 38, ground := Ground.phase }, { on := 39, ground := Ground.phase }, { on := 40, ground := Ground.phase }, { on := 41, ground := Ground.phase }, { on := 42, ground := Ground.phase }, { on := 43, ground := Ground.phase }, { on := 44, ground := Ground.phase }, { on := 45, ground := Ground.phase }, { on := 46, ground := Ground.phase }], guard := none } : Oper)) (v := ?_) rfl (by kernel_rfl) (by kernel_rfl) (by kernel_rfl) (fun _ _ _ h => h) (Or.inl ⟨by rfl, ?_⟩) hS31 ?_
            rotate_left
            · intro w hSw; (try dsimp only at hSw); go_simp; (try with_reducible rfl)
            simp only [Act.put, List.setIfInBounds_toArray, List.set_cons_zero, List.set_cons_succ]
            refine wpAnyH_done (by kernel_rfl) ?_ _
            go_wp2_with fail
            go_ret
            exact ⟨rfl, hnext L1.out (hnext hd20 hS31.1)⟩
          · obtain rfl : d = false := by cases d with | false => rfl | true => exact absurd (HEQ.out rfl) (by decide)
            rw [Bool.false_and] at cs0
            have hk' : (uk == 1) = false := by rw [beq_eq_false_iff_ne]; exact hk
            rw [HTR.out, if_neg (fun h => hk h.1)] at ct0
            clear hk
            have ru := hid ru0
            have su := hid su0
            have rv := hid rv0
            have sv := hid sv0
            have cc := hid cc0
            have cd := hid cd0
            have cs := hid cs0
            have csh := hid csh0
            have csr := hid csr0
            have ct := hid ct0
            clear ru0 su0 rv0 sv0 cc0 cd0 cs0 csh0 csr0 ct0 HRU HRV HEQ HTR hdd
            go_enter Try.func3, Try.ntmps3
            go_wp2_with fail
            obtain ⟨Ac0_0, Ac1_0, Ac2_0, Ac3_0, Af0_0, Af1_0, Af2_0, Af3_0, Al_0⟩ := VA.out.cells
            obtain ⟨Bc0_0, Bc1_0, Bc2_0, Bc3_0, Bf0_0, Bf1_0, Bf2_0, Bf3_0, Bl_0⟩ := VB.out.cells
            refine (su.out _).mono ?_; rintro e w1 ⟨rfl, b1⟩
            clear Ac0_0 Ac1_0 Ac2_0 Ac3_0 Af0_0 Af1_0 Af2_0 Af3_0 Al_0 Bc0_0 Bc1_0 Bc2_0 Bc3_0 Bf0_0 Bf1_0 Bf2_0 Bf3_0 Bl_0
            have A1 := hid (VA.out.keep b1)
            have B1 := hid (VB.out.keep b1)
            have L1 := hid (hnext L.out b1)
            clear b1
            obtain ⟨Ac0_1, Ac1_1, Ac2_1, Ac3_1, Af0_1, Af1_1, Af2_1, Af3_1, Al_1⟩ := A1.out.cells
            obtain ⟨Bc0_1, Bc1_1, Bc2_1, Bc3_1, Bf0_1, Bf1_1, Bf2_1, Bf3_1, Bl_1⟩ := B1.out.cells
            go_wp2_with fail
            obtain ⟨w20, hw20⟩ : ∃ w20, (w1).drew = w20 := ⟨_, rfl⟩
            have hd20 : Below (w1).heap.size (w1) w20 := hw20 ▸ (Below.refl _ _).drew
            have mk20 : ∀ W, Below w20.heap.size w20 W → Below w20.heap.size w20 W ∧ W.cell? ⟨w.heap.size, 0, none⟩ = some (.int .i64 uk) ∧ W.cell? ⟨w.heap.size, 1, none⟩ = some (.int .i64 un) ∧ W.cell? ⟨w.heap.size, 2, none⟩ = some (.int .u64 (ub : Int)) ∧ W.cell? ⟨w.heap.size, 3, none⟩ = some (.string us) ∧ W.cell? ⟨w.heap.size + 1, 0, none⟩ = some (.int .i64 vk) ∧ W.cell? ⟨w.heap.size + 1, 1, none⟩ = some (.int .i64 vn) ∧ W.cell? ⟨w.heap.size + 1, 2, none⟩ = some (.int .u64 (vb : Int)) ∧ W.cell? ⟨w.heap.size + 1, 3, none⟩ = some (.string vs) := fun W h => ⟨h, hkeep (hkeep Ac0_1 hd20) h, hkeep (hkeep Ac1_1 hd20) h, hkeep (hkeep Ac2_1 hd20) h, hkeep (hkeep Ac3_1 hd20) h, hkeep (hkeep Bc0_1 hd20) h, hkeep (hkeep Bc1_1 hd20) h, hkeep (hkeep Bc2_1 hd20) h, hkeep (hkeep Bc3_1 hd20) h⟩
            clear Ac0_1 Ac1_1 Ac2_1 Ac3_1 Af0_1 Af1_1 Af2_1 Af3_1 Al_1 Bc0_1 Bc1_1 Bc2_1 Bc3_1 Bf0_1 Bf1_1 Bf2_1 Bf3_1 Bl_1
            refine wp_region_held_drew (S := (fun W => Below w20.heap.size w20 W ∧ W.cell? ⟨w.heap.size, 0, none⟩ = some (.int .i64 uk) ∧ W.cell? ⟨w.heap.size, 1, none⟩ = some (.int .i64 un) ∧ W.cell? ⟨w.heap.size, 2, none⟩ = some (.int .u64 (ub : Int)) ∧ W.cell? ⟨w.heap.size, 3, none⟩ = some (.string us) ∧ W.cell? ⟨w.heap.size + 1, 0, none⟩ = some (.int .i64 vk) ∧ W.cell? ⟨w.heap.size + 1, 1, none⟩ = some (.int .i64 vn) ∧ W.cell? ⟨w.heap.size + 1, 2, none⟩ = some (.int .u64 (vb : Int)) ∧ W.cell? ⟨w.heap.size + 1, 3, none⟩ = some (.string vs))) (by kernel_rfl) (by rw [hw20]; exact mk20 _ (Below.refl _ _)) (fun hS20 => ?_)
            rw [hw20] at hS20 ⊢
            clear hw20
            refine wpAnyH_take (i := 0) (oi := ({ dst := some 26, op := Op.load 24 (Operand.tmp 2), type := 24, pos := "law.go:31", after := #[], guard := none } : Oper)) (v := ?_) rfl (by kernel_rfl) (by kernel_rfl) (by kernel_rfl) (fun _ _ _ h => h) (Or.inl ⟨by rfl, ?_⟩) hS20 ?_
            rotate_left
            · intro w hSw; (try dsimp only at hSw); go_simp; (try with_reducible rfl)
            simp only [Act.put, List.setIfInBounds_toArray, List.set_cons_zero, List.set_cons_succ]
            refine wpAnyH_take (i := 2) (oi := ({ dst := some 28, op := Op.load 24 (Operand.tmp 2), type := 24, pos := "law.go:31", after := #[], guard := none } : Oper)) (v := ?_) rfl (by kernel_rfl) (by kernel_rfl) (by kernel_rfl) (fun _ _ _ h => h) (Or.inl ⟨by rfl, ?_⟩) hS20 ?_
            rotate_left
            · intro w hSw; (try dsimp only at hSw); go_simp; (try with_reducible rfl)
            simp only [Act.put, List.setIfInBounds_toArray, List.set_cons_zero, List.set_cons_succ]
            refine wpAnyH_ready (rs := [1]) (by kernel_rfl) (by simp) ?_
            refine AllReadyH.cons (o := ({ dst := some 27, op := Op.call { callee := Callee.value (Operand.func 12), args := #[Operand.tmp 26], argTypes := #[24] }, type := 4, pos := "law.go:31", after := #[{ on := 0, ground := Ground.data }], guard := none } : Oper)) rfl (fun K hK => ?_) AllReadyH.nil
            go_simp
            refine (ru.out _).mono ?_; rintro e w21 ⟨rfl, hb21⟩
            go_wp2_with fail
            refine hK.out _ _ (mk20 _ (hnext hS20.1 hb21)) (fun hS21 => ?_)
            clear hK K
            (try simp only [Act.put, List.setIfInBounds_toArray, List.set_cons_zero, List.set_cons_succ])
            clear hb21 hS20
            refine wpAnyH_ready (rs := [3]) (by kernel_rfl) (by simp) ?_
            refine AllReadyH.cons (o := ({ dst := some 29, op := Op.call { callee := Callee.value (Operand.func 11), args := #[Operand.tmp 28], argTypes := #[24] }, type := 4, pos := "law.go:31", after := #[{ on := 2, ground := Ground.data }, { on := 1, ground := Ground.chain }], guard := none } : Oper)) rfl (fun K hK => ?_) AllReadyH.nil
            go_simp
            refine (su.out _).mono ?_; rintro e w22 ⟨rfl, hb22⟩
            go_wp2_with fail
            refine hK.out _ _ (mk20 _ (hnext hS21.1 hb22)) (fun hS22 => ?_)
            clear hK K
            (try simp only [Act.put, List.setIfInBounds_toArray, List.set_cons_zero, List.set_cons_succ])
            clear hb22 hS21
            refine wpAnyH_take (i := 4) (oi := ({ dst := some 30, op := Op.binOp BinOp.eql 4 (Operand.tmp 27) (Operand.tmp 29) 4, type := 4, pos := "law.go:31", after := #[{ on := 1, ground := Ground.data }, { on := 3, ground := Ground.data }], guard := none } : Oper)) (v := ?_) rfl (by kernel_rfl) (by kernel_rfl) (by kernel_rfl) (fun _ _ _ h => h) (Or.inl ⟨by rfl, ?_⟩) hS22 ?_
            rotate_left
            · intro w hSw; (try dsimp only at hSw); go_simp; (try with_reducible rfl)
            simp only [Act.put, List.setIfInBounds_toArray, List.set_cons_zero, List.set_cons_succ]
            refine wpAnyH_take (i := 5) (oi := ({ dst := some 31, op := Op.move (Operand.tmp 30), type := 4, pos := "law.go:31", after := #[{ on := 4, ground := Ground.data }, { on := 3, ground := Ground.chain }], guard := none } : Oper)) (v := ?_) rfl (by kernel_rfl) (by kernel_rfl) (by kernel_rfl) (fun _ _ _ h => h) (Or.inl ⟨by rfl, ?_⟩) hS22 ?_
            rotate_left
            · intro w hSw; (try dsimp only at hSw); go_simp; (try with_reducible rfl)
            simp only [Act.put, List.setIfInBounds_toArray, List.set_cons_zero, List.set_cons_succ]
            refine wpAnyH_take (i := 6) (oi := ({ dst := some 32, op := Op.load 24 (Operand.tmp 2), type := 24, pos := "law.go:31", after := #[{ on := 5, ground := Ground.guard }], guard := some (5, true) } : Oper)) (v := ?_) rfl (by kernel_rfl) (by kernel_rfl) (by kernel_rfl) (fun _ _ _ h => h) (Or.inl ⟨by rfl, ?_⟩) hS22 ?_
            rotate_left
            · intro w hSw; (try dsimp only at hSw); go_simp; (try with_reducible rfl)
            simp only [Act.put, List.setIfInBounds_toArray, List.set_cons_zero, List.set_cons_succ]
            refine wpAnyH_take (i := 7) (oi := ({ dst := some 33, op := Op.load 24 (Operand.tmp 3), type := 24, pos := "law.go:31", after := #[{ on := 5, ground := Ground.guard }], guard := some (5, true) } : Oper)) (v := ?_) rfl (by kernel_rfl) (by kernel_rfl) (by kernel_rfl) (fun _ _ _ h => h) (Or.inl ⟨by rfl, ?_⟩) hS22 ?_
            rotate_left
            · intro w hSw; (try dsimp only at hSw); go_simp; (try with_reducible rfl)
            simp only [Act.put, List.setIfInBounds_toArray, List.set_cons_zero, List.set_cons_succ]
            refine wpAnyH_take (i := 9) (oi := ({ dst := some 35, op := Op.load 24 (Operand.tmp 2), type := 24, pos := "law.go:31", after := #[{ on := 5, ground := Ground.guard }], guard := some (5, true) } : Oper)) (v := ?_) rfl (by kernel_rfl) (by kernel_rfl) (by kernel_rfl) (fun _ _ _ h => h) (Or.inl ⟨by rfl, ?_⟩) hS22 ?_
            rotate_left
            · intro w hSw; (try dsimp only at hSw); go_simp; (try with_reducible rfl)
            simp only [Act.put, List.setIfInBounds_toArray, List.set_cons_zero, List.set_cons_succ]
            refine wpAnyH_take (i := 10) (oi := ({ dst := some 36, op := Op.load 24 (Operand.tmp 3), type := 24, pos := "law.go:31", after := #[{ on := 5, ground := Ground.guard }], guard := some (5, true) } : Oper)) (v := ?_) rfl (by kernel_rfl) (by kernel_rfl) (by kernel_rfl) (fun _ _ _ h => h) (Or.inl ⟨by rfl, ?_⟩) hS22 ?_
            rotate_left
            · intro w hSw; (try dsimp only at hSw); go_simp; (try with_reducible rfl)
            simp only [Act.put, List.setIfInBounds_toArray, List.set_cons_zero, List.set_cons_succ]
            refine wpAnyH_ready (rs := [8]) (by kernel_rfl) (by simp) ?_
            refine AllReadyH.cons (o := ({ dst := some 34, op := Op.call { callee := Callee.value (Operand.func 13), args := #[Operand.tmp 32, Operand.tmp 33], argTypes := #[24, 24] }, type := 3, pos := "law.go:31", after := #[{ on := 6, ground := Ground.data }, { on := 7, ground := Ground.data }, { on := 5, ground := Ground.chain }, { on := 5, ground := Ground.guard }], guard := some (5, true) } : Oper)) rfl (fun K hK => ?_) AllReadyH.nil
            go_simp
            refine (cc.out _).mono ?_; rintro e w23 ⟨rfl, hb23⟩
            go_wp2_with fail
            refine hK.out _ _ (mk20 _ (hnext hS22.1 hb23)) (fun hS23 => ?_)
            clear hK K
            (try simp only [Act.put, List.setIfInBounds_toArray, List.set_cons_zero, List.set_cons_succ])
            clear hb23 hS22
            refine wpAnyH_ready (rs := [11]) (by kernel_rfl) (by simp) ?_
            refine AllReadyH.cons (o := ({ dst := some 37, op := Op.call { callee := Callee.value (Operand.func 14), args := #[Operand.tmp 35, Operand.tmp 36], argTypes := #[24, 24] }, type := 3, pos := "law.go:31", after := #[{ on := 9, ground := Ground.data }, { on := 10, ground := Ground.data }, { on := 8, ground := Ground.chain }, { on := 5, ground := Ground.guard }], guard := some (5, true) } : Oper)) rfl (fun K hK => ?_) AllReadyH.nil
            go_simp
            refine (cd.out _).mono ?_; rintro e w24 ⟨rfl, hb24⟩
            go_wp2_with fail
            refine hK.out _ _ (mk20 _ (hnext hS23.1 hb24)) (fun hS24 => ?_)
            clear hK K
            (try simp only [Act.put, List.setIfInBounds_toArray, List.set_cons_zero, List.set_cons_succ])
            clear hb24 hS23
            refine wpAnyH_take (i := 12) (oi := ({ dst := some 38, op := Op.binOp BinOp.eql 3 (Operand.tmp 34) (Operand.tmp 37) 3, type := 4, pos := "law.go:31", after := #[{ on := 8, ground := Ground.data }, { on := 11, ground := Ground.data }, { on := 5, ground := Ground.guard }], guard := some (5, true) } : Oper)) (v := ?_) rfl (by kernel_rfl) (by kernel_rfl) (by kernel_rfl) (fun _ _ _ h => h) (Or.inl ⟨by rfl, ?_⟩) hS24 ?_
            rotate_left
            · intro w hSw; (try dsimp only at hSw); go_simp; (try with_reducible rfl)
            simp only [Act.put, List.setIfInBounds_toArray, List.set_cons_zero, List.set_cons_succ]
            refine wpAnyH_take (i := 13) (oi := ({ dst := some 39, op := Op.pick (Operand.tmp 31) (Operand.tmp 38) (Operand.const (Value.bool false)), type := 4, pos := "law.go:31", after := #[{ on := 5, ground := Ground.data }, { on := 12, ground := Ground.data }], guard := none } : Oper)) (v := ?_) rfl (by kernel_rfl) (by kernel_rfl) (by kernel_rfl) (fun _ _ _ h => h) (Or.inl ⟨by rfl, ?_⟩) hS24 ?_
            rotate_left
            · intro w hSw; (try dsimp only at hSw); go_simp; (try with_reducible rfl)
            simp only [Act.put, List.setIfInBounds_toArray, List.set_cons_zero, List.set_cons_succ]
            refine wpAnyH_take (i := 14) (oi := ({ dst := some 40, op := Op.move (Operand.tmp 39), type := 4, pos := "law.go:31", after := #[{ on := 13, ground := Ground.data }, { on := 11, ground := Ground.chain }], guard := none } : Oper)) (v := ?_) rfl (by kernel_rfl) (by kernel_rfl) (by kernel_rfl) (fun _ _ _ h => h) (Or.inl ⟨by rfl, ?_⟩) hS24 ?_
            rotate_left
            · intro w hSw; (try dsimp only at hSw); go_simp; (try with_reducible rfl)
            simp only [Act.put, List.setIfInBounds_toArray, List.set_cons_zero, List.set_cons_succ]
            refine wpAnyH_take (i := 15) (oi := ({ dst := some 41, op := Op.load 24 (Operand.tmp 2), type := 24, pos := "law.go:31", after := #[{ on := 14, ground := Ground.guard }], guard := some (14, true) } : Oper)) (v := ?_) rfl (by kernel_rfl) (by kernel_rfl) (by kernel_rfl) (fun _ _ _ h => h) (Or.inl ⟨by rfl, ?_⟩) hS24 ?_
            rotate_left
            · intro w hSw; (try dsimp only at hSw); go_simp; (try with_reducible rfl)
            simp only [Act.put, List.setIfInBounds_toArray, List.set_cons_zero, List.set_cons_succ]
            refine wpAnyH_take (i := 16) (oi := ({ dst := some 42, op := Op.load 24 (Operand.tmp 3), type := 24, pos := "law.go:31", after := #[{ on := 14, ground := Ground.guard }], guard := some (14, true) } : Oper)) (v := ?_) rfl (by kernel_rfl) (by kernel_rfl) (by kernel_rfl) (fun _ _ _ h => h) (Or.inl ⟨by rfl, ?_⟩) hS24 ?_
            rotate_left
            · intro w hSw; (try dsimp only at hSw); go_simp; (try with_reducible rfl)
            simp only [Act.put, List.setIfInBounds_toArray, List.set_cons_zero, List.set_cons_succ]
            refine wpAnyH_take (i := 18) (oi := ({ dst := some 44, op := Op.load 24 (Operand.tmp 2), type := 24, pos := "law.go:31", after := #[{ on := 14, ground := Ground.guard }], guard := some (14, true) } : Oper)) (v := ?_) rfl (by kernel_rfl) (by kernel_rfl) (by kernel_rfl) (fun _ _ _ h => h) (Or.inl ⟨by rfl, ?_⟩) hS24 ?_
            rotate_left
            · intro w hSw; (try dsimp only at hSw); go_simp; (try with_reducible rfl)
            simp only [Act.put, List.setIfInBounds_toArray, List.set_cons_zero, List.set_cons_succ]
            refine wpAnyH_ready (rs := [17]) (by kernel_rfl) (by simp) ?_
            refine AllReadyH.cons (o := ({ dst := some 43, op := Op.call { callee := Callee.value (Operand.func 15), args := #[Operand.tmp 41, Operand.tmp 42], argTypes := #[24, 24] }, type := 4, pos := "law.go:31", after := #[{ on := 15, ground := Ground.data }, { on := 16, ground := Ground.data }, { on := 14, ground := Ground.chain }, { on := 14, ground := Ground.guard }], guard := some (14, true) } : Oper)) rfl (fun K hK => ?_) AllReadyH.nil
            go_simp
            refine (cs.out _).mono ?_; rintro e w25 ⟨rfl, hb25⟩
            go_wp2_with fail
            refine hK.out _ _ (mk20 _ (hnext hS24.1 hb25)) (fun hS25 => ?_)
            clear hK K
            (try simp only [Act.put, List.setIfInBounds_toArray, List.set_cons_zero, List.set_cons_succ])
            clear hb25 hS24
            refine wpAnyH_ready (rs := [19]) (by kernel_rfl) (by simp) ?_
            refine AllReadyH.cons (o := ({ dst := some 45, op := Op.call { callee := Callee.value (Operand.func 11), args := #[Operand.tmp 44], argTypes := #[24] }, type := 4, pos := "law.go:31", after := #[{ on := 18, ground := Ground.data }, { on := 17, ground := Ground.chain }, { on := 14, ground := Ground.guard }], guard := some (14, true) } : Oper)) rfl (fun K hK => ?_) AllReadyH.nil
            go_simp
            refine (su.out _).mono ?_; rintro e w26 ⟨rfl, hb26⟩
            go_wp2_with fail
            refine hK.out _ _ (mk20 _ (hnext hS25.1 hb26)) (fun hS26 => ?_)
            clear hK K
            (try simp only [Act.put, List.setIfInBounds_toArray, List.set_cons_zero, List.set_cons_succ])
            clear hb26 hS25
            refine wpAnyH_take (i := 20) (oi := ({ dst := some 46, op := Op.move (Operand.tmp 45), type := 4, pos := "law.go:31", after := #[{ on := 19, ground := Ground.data }, { on := 19, ground := Ground.chain }, { on := 14, ground := Ground.guard }], guard := some (14, true) } : Oper)) (v := ?_) rfl (by kernel_rfl) (by kernel_rfl) (by kernel_rfl) (fun _ _ _ h => h) (Or.inl ⟨by rfl, ?_⟩) hS26 ?_
            rotate_left
            · intro w hSw; (try dsimp only at hSw); go_simp; (try with_reducible rfl)
            simp only [Act.put, List.setIfInBounds_toArray, List.set_cons_zero, List.set_cons_succ]
            refine wpAnyH_take (i := 21) (oi := ({ dst := some 47, op := Op.load 24 (Operand.tmp 3), type := 24, pos := "law.go:31", after := #[{ on := 20, ground := Ground.guard }], guard := some (20, true) } : Oper)) (v := ?_) rfl (by kernel_rfl) (by kernel_rfl) (by kernel_rfl) (fun _ _ _ h => h) (Or.inl ⟨by rfl, ?_⟩) hS26 ?_
            rotate_left
            · intro w hSw; (try dsimp only at hSw); go_simp; (try with_reducible rfl)
            simp only [Act.put, List.setIfInBounds_toArray, List.set_cons_zero, List.set_cons_succ]
            refine wpAnyH_ready (rs := [22]) (by kernel_rfl) (by simp) ?_
            refine AllReadyH.cons (o := ({ dst := some 48, op := Op.call { callee := Callee.value (Operand.func 11), args := #[Operand.tmp 47], argTypes := #[24] }, type := 4, pos := "law.go:31", after := #[{ on := 21, ground := Ground.data }, { on := 20, ground := Ground.chain }, { on := 20, ground := Ground.guard }], guard := some (20, true) } : Oper)) rfl (fun K hK => ?_) AllReadyH.nil
            go_simp
            refine (sv.out _).mono ?_; rintro e w27 ⟨rfl, hb27⟩
            go_wp2_with fail
            refine hK.out _ _ (mk20 _ (hnext hS26.1 hb27)) (fun hS27 => ?_)
            clear hK K
            (try simp only [Act.put, List.setIfInBounds_toArray, List.set_cons_zero, List.set_cons_succ])
            clear hb27 hS26
            refine wpAnyH_take (i := 23) (oi := ({ dst := some 49, op := Op.pick (Operand.tmp 46) (Operand.tmp 48) (Operand.const (Value.bool false)), type := 4, pos := "law.go:31", after := #[{ on := 20, ground := Ground.data }, { on := 22, ground := Ground.data }, { on := 14, ground := Ground.guard }], guard := some (14, true) } : Oper)) (v := ?_) rfl (by kernel_rfl) (by kernel_rfl) (by kernel_rfl) (fun _ _ _ h => h) (Or.inl ⟨by rfl, ?_⟩) hS27 ?_
            rotate_left
            · intro w hSw; (try dsimp only at hSw); go_simp; (try with_reducible rfl)
            simp only [Act.put, List.setIfInBounds_toArray, List.set_cons_zero, List.set_cons_succ]
            refine wpAnyH_take (i := 24) (oi := ({ dst := some 50, op := Op.move (Operand.tmp 49), type := 4, pos := "law.go:31", after := #[{ on := 23, ground := Ground.data }, { on := 22, ground := Ground.chain }, { on := 14, ground := Ground.guard }], guard := some (14, true) } : Oper)) (v := ?_) rfl (by kernel_rfl) (by kernel_rfl) (by kernel_rfl) (fun _ _ _ h => h) (Or.inl ⟨by rfl, ?_⟩) hS27 ?_
            rotate_left
            · intro w hSw; (try dsimp only at hSw); go_simp; (try with_reducible rfl)
            simp only [Act.put, List.setIfInBounds_toArray, List.set_cons_zero, List.set_cons_succ]
            refine wpAnyH_take (i := 25) (oi := ({ dst := some 51, op := Op.load 24 (Operand.tmp 2), type := 24, pos := "law.go:31", after := #[{ on := 24, ground := Ground.guard }], guard := some (24, true) } : Oper)) (v := undef) rfl (by kernel_rfl) (by kernel_rfl) (by kernel_rfl) (fun _ _ _ h => h) (Or.inr ⟨by rfl, rfl⟩) hS27 ?_
            simp only [Act.put, List.setIfInBounds_toArray, List.set_cons_zero, List.set_cons_succ]
            refine wpAnyH_take (i := 26) (oi := ({ dst := some 52, op := Op.load 24 (Operand.tmp 3), type := 24, pos := "law.go:31", after := #[{ on := 24, ground := Ground.guard }], guard := some (24, true) } : Oper)) (v := undef) rfl (by kernel_rfl) (by kernel_rfl) (by kernel_rfl) (fun _ _ _ h => h) (Or.inr ⟨by rfl, rfl⟩) hS27 ?_
            simp only [Act.put, List.setIfInBounds_toArray, List.set_cons_zero, List.set_cons_succ]
            refine wpAnyH_take (i := 27) (oi := ({ dst := some 53, op := Op.binOp BinOp.eql 24 (Operand.tmp 51) (Operand.tmp 52) 24, type := 4, pos := "law.go:31", after := #[{ on := 25, ground := Ground.data }, { on := 26, ground := Ground.data }, { on := 24, ground := Ground.guard }], guard := some (24, true) } : Oper)) (v := undef) rfl (by kernel_rfl) (by kernel_rfl) (by kernel_rfl) (fun _ _ _ h => h) (Or.inr ⟨by rfl, rfl⟩) hS27 ?_
            simp only [Act.put, List.setIfInBounds_toArray, List.set_cons_zero, List.set_cons_succ]
            refine wpAnyH_take (i := 28) (oi := ({ dst := some 54, op := Op.pick (Operand.tmp 50) (Operand.tmp 53) (Operand.const (Value.bool false)), type := 4, pos := "law.go:31", after := #[{ on := 24, ground := Ground.data }, { on := 27, ground := Ground.data }, { on := 14, ground := Ground.guard }], guard := some (14, true) } : Oper)) (v := ?_) rfl (by kernel_rfl) (by kernel_rfl) (by kernel_rfl) (fun _ _ _ h => h) (Or.inl ⟨by rfl, ?_⟩) hS27 ?_
            rotate_left
            · intro w hSw; (try dsimp only at hSw); go_simp; (try with_reducible rfl)
            simp only [Act.put, List.setIfInBounds_toArray, List.set_cons_zero, List.set_cons_succ]
            refine wpAnyH_take (i := 29) (oi := ({ dst := some 55, op := Op.binOp BinOp.eql 4 (Operand.tmp 43) (Operand.tmp 54) 4, type := 4, pos := "law.go:31", after := #[{ on := 17, ground := Ground.data }, { on := 28, ground := Ground.data }, { on := 14, ground := Ground.guard }], guard := some (14, true) } : Oper)) (v := ?_) rfl (by kernel_rfl) (by kernel_rfl) (by kernel_rfl) (fun _ _ _ h => h) (Or.inl ⟨by rfl, ?_⟩) hS27 ?_
            rotate_left
            · intro w hSw; (try dsimp only at hSw); go_simp; (try with_reducible rfl)
            simp only [Act.put, List.setIfInBounds_toArray, List.set_cons_zero, List.set_cons_succ]
            refine wpAnyH_take (i := 30) (oi := ({ dst := some 56, op := Op.pick (Operand.tmp 40) (Operand.tmp 55) (Operand.const (Value.bool false)), type := 4, pos := "law.go:31", after := #[{ on := 14, ground := Ground.data }, { on := 29, ground := Ground.data }], guard := none } : Oper)) (v := ?_) rfl (by kernel_rfl) (by kernel_rfl) (by kernel_rfl) (fun _ _ _ h => h) (Or.inl ⟨by rfl, ?_⟩) hS27 ?_
            rotate_left
            · intro w hSw; (try dsimp only at hSw); go_simp; (try with_reducible rfl)
            simp only [Act.put, List.setIfInBounds_toArray, List.set_cons_zero, List.set_cons_succ]
            refine wpAnyH_take (i := 31) (oi := ({ dst := some 57, op := Op.move (Operand.tmp 56), type := 4, pos := "law.go:31", after := #[{ on := 30, ground := Ground.data }, { on := 24, ground := Ground.chain }], guard := none } : Oper)) (v := ?_) rfl (by kernel_rfl) (by kernel_rfl) (by kernel_rfl) (fun _ _ _ h => h) (Or.inl ⟨by rfl, ?_⟩) hS27 ?_
            rotate_left
            · intro w hSw; (try dsimp only at hSw); go_simp; (try with_reducible rfl)
            simp only [Act.put, List.setIfInBounds_toArray, List.set_cons_zero, List.set_cons_succ]
            refine wpAnyH_take (i := 32) (oi := ({ dst := some 58, op := Op.load 24 (Operand.tmp 2), type := 24, pos := "law.go:31", after := #[{ on := 31, ground := Ground.guard }], guard := some (31, true) } : Oper)) (v := ?_) rfl (by kernel_rfl) (by kernel_rfl) (by kernel_rfl) (fun _ _ _ h => h) (Or.inl ⟨by rfl, ?_⟩) hS27 ?_
            rotate_left
            · intro w hSw; (try dsimp only at hSw); go_simp; (try with_reducible rfl)
            simp only [Act.put, List.setIfInBounds_toArray, List.set_cons_zero, List.set_cons_succ]
            refine wpAnyH_take (i := 34) (oi := ({ dst := some 60, op := Op.load 24 (Operand.tmp 2), type := 24, pos := "law.go:31", after := #[{ on := 31, ground := Ground.guard }], guard := some (31, true) } : Oper)) (v := ?_) rfl (by kernel_rfl) (by kernel_rfl) (by kernel_rfl) (fun _ _ _ h => h) (Or.inl ⟨by rfl, ?_⟩) hS27 ?_
            rotate_left
            · intro w hSw; (try dsimp only at hSw); go_simp; (try with_reducible rfl)
            simp only [Act.put, List.setIfInBounds_toArray, List.set_cons_zero, List.set_cons_succ]
            refine wpAnyH_ready (rs := [33]) (by kernel_rfl) (by simp) ?_
            refine AllReadyH.cons (o := ({ dst := some 59, op := Op.call { callee := Callee.value (Operand.func 16), args := #[Operand.tmp 58], argTypes := #[24] }, type := 9, pos := "law.go:31", after := #[{ on := 32, ground := Ground.data }, { on := 31, ground := Ground.chain }, { on := 31, ground := Ground.guard }], guard := some (31, true) } : Oper)) rfl (fun K hK => ?_) AllReadyH.nil
            go_simp
            refine (csh.out _).mono ?_; rintro e w28 ⟨rfl, hb28⟩
            go_wp2_with fail
            refine hK.out _ _ (mk20 _ (hnext hS27.1 hb28)) (fun hS28 => ?_)
            clear hK K
            (try simp only [Act.put, List.setIfInBounds_toArray, List.set_cons_zero, List.set_cons_succ])
            clear hb28 hS27
            refine wpAnyH_ready (rs := [35]) (by kernel_rfl) (by simp) ?_
            refine AllReadyH.cons (o := ({ dst := some 61, op := Op.call { callee := Callee.value (Operand.func 17), args := #[Operand.tmp 60], argTypes := #[24] }, type := 9, pos := "law.go:31", after := #[{ on := 34, ground := Ground.data }, { on := 33, ground := Ground.chain }, { on := 31, ground := Ground.guard }], guard := some (31, true) } : Oper)) rfl (fun K hK => ?_) AllReadyH.nil
            go_simp
            refine (csr.out _).mono ?_; rintro e w29 ⟨rfl, hb29⟩
            go_wp2_with fail
            refine hK.out _ _ (mk20 _ (hnext hS28.1 hb29)) (fun hS29 => ?_)
            clear hK K
            (try simp only [Act.put, List.setIfInBounds_toArray, List.set_cons_zero, List.set_cons_succ])
            clear hb29 hS28
            refine wpAnyH_take (i := 36) (oi := ({ dst := some 62, op := Op.binOp BinOp.eql 9 (Operand.tmp 59) (Operand.tmp 61) 9, type := 4, pos := "law.go:31", after := #[{ on := 33, ground := Ground.data }, { on := 35, ground := Ground.data }, { on := 31, ground := Ground.guard }], guard := some (31, true) } : Oper)) (v := ?_) rfl (by kernel_rfl) (by kernel_rfl) (by kernel_rfl) (fun _ _ _ h => h) (Or.inl ⟨by rfl, ?_⟩) hS29 ?_
            rotate_left
            · intro w hSw; (try dsimp only at hSw); go_simp; (try with_reducible rfl)
            simp only [Act.put, List.setIfInBounds_toArray, List.set_cons_zero, List.set_cons_succ]
            refine wpAnyH_take (i := 37) (oi := ({ dst := some 63, op := Op.pick (Operand.tmp 57) (Operand.tmp 62) (Operand.const (Value.bool false)), type := 4, pos := "law.go:31", after := #[{ on := 31, ground := Ground.data }, { on := 36, ground := Ground.data }], guard := none } : Oper)) (v := ?_) rfl (by kernel_rfl) (by kernel_rfl) (by kernel_rfl) (fun _ _ _ h => h) (Or.inl ⟨by rfl, ?_⟩) hS29 ?_
            rotate_left
            · intro w hSw; (try dsimp only at hSw); go_simp; (try with_reducible rfl)
            simp only [Act.put, List.setIfInBounds_toArray, List.set_cons_zero, List.set_cons_succ]
            refine wpAnyH_take (i := 38) (oi := ({ dst := some 64, op := Op.move (Operand.tmp 63), type := 4, pos := "law.go:31", after := #[{ on := 37, ground := Ground.data }, { on := 35, ground := Ground.chain }], guard := none } : Oper)) (v := ?_) rfl (by kernel_rfl) (by kernel_rfl) (by kernel_rfl) (fun _ _ _ h => h) (Or.inl ⟨by rfl, ?_⟩) hS29 ?_
            rotate_left
            · intro w hSw; (try dsimp only at hSw); go_simp; (try with_reducible rfl)
            simp only [Act.put, List.setIfInBounds_toArray, List.set_cons_zero, List.set_cons_succ]
            refine wpAnyH_take (i := 39) (oi := ({ dst := some 65, op := Op.load 24 (Operand.tmp 2), type := 24, pos := "law.go:31", after := #[{ on := 38, ground := Ground.guard }], guard := some (38, true) } : Oper)) (v := ?_) rfl (by kernel_rfl) (by kernel_rfl) (by kernel_rfl) (fun _ _ _ h => h) (Or.inl ⟨by rfl, ?_⟩) hS29 ?_
            rotate_left
            · intro w hSw; (try dsimp only at hSw); go_simp; (try with_reducible rfl)
            simp only [Act.put, List.setIfInBounds_toArray, List.set_cons_zero, List.set_cons_succ]
            refine wpAnyH_take (i := 41) (oi := ({ dst := some 67, op := Op.move (Operand.tmp 5), type := 3, pos := "law.go:31", after := #[{ on := 38, ground := Ground.guard }], guard := some (38, true) } : Oper)) (v := ?_) rfl (by kernel_rfl) (by kernel_rfl) (by kernel_rfl) (fun _ _ _ h => h) (Or.inl ⟨by rfl, ?_⟩) hS29 ?_
            rotate_left
            · intro w hSw; (try dsimp only at hSw); go_simp; (try with_reducible rfl)
            simp only [Act.put, List.setIfInBounds_toArray, List.set_cons_zero, List.set_cons_succ]
            refine wpAnyH_ready (rs := [40]) (by kernel_rfl) (by simp) ?_
            refine AllReadyH.cons (o := ({ dst := some 66, op := Op.call { callee := Callee.value (Operand.func 18), args := #[Operand.tmp 65], argTypes := #[24] }, type := 3, pos := "law.go:31", after := #[{ on := 39, ground := Ground.data }, { on := 38, ground := Ground.chain }, { on := 38, ground := Ground.guard }], guard := some (38, true) } : Oper)) rfl (fun K hK => ?_) AllReadyH.nil
            go_simp
            refine (ct.out _).mono ?_; rintro e w30 ⟨rfl, hb30⟩
            go_wp2_with fail
            refine hK.out _ _ (mk20 _ (hnext hS29.1 hb30)) (fun hS30 => ?_)
            clear hK K
            (try simp only [Act.put, List.setIfInBounds_toArray, List.set_cons_zero, List.set_cons_succ])
            clear hb30 hS29
            refine wpAnyH_take (i := 42) (oi := ({ dst := some 68, op := Op.binOp BinOp.eql 3 (Operand.tmp 66) (Operand.tmp 67) 3, type := 4, pos := "law.go:31", after := #[{ on := 40, ground := Ground.data }, { on := 41, ground := Ground.data }, { on := 38, ground := Ground.guard }], guard := some (38, true) } : Oper)) (v := ?_) rfl (by kernel_rfl) (by kernel_rfl) (by kernel_rfl) (fun _ _ _ h => h) (Or.inl ⟨by rfl, ?_⟩) hS30 ?_
            rotate_left
            · intro w hSw; (try dsimp only at hSw); go_simp; (try with_reducible rfl)
            simp only [Act.put, List.setIfInBounds_toArray, List.set_cons_zero, List.set_cons_succ]
            refine wpAnyH_take (i := 43) (oi := ({ dst := some 69, op := Op.pick (Operand.tmp 64) (Operand.tmp 68) (Operand.const (Value.bool false)), type := 4, pos := "law.go:31", after := #[{ on := 38, ground := Ground.data }, { on := 42, ground := Ground.data }], guard := none } : Oper)) (v := ?_) rfl (by kernel_rfl) (by kernel_rfl) (by kernel_rfl) (fun _ _ _ h => h) (Or.inl ⟨by rfl, ?_⟩) hS30 ?_
            rotate_left
            · intro w hSw; (try dsimp only at hSw); go_simp; (try with_reducible rfl)
            simp only [Act.put, List.setIfInBounds_toArray, List.set_cons_zero, List.set_cons_succ]
            refine wpAnyH_take (i := 44) (oi := ({ dst := some 70, op := Op.move (Operand.tmp 69), type := 4, pos := "law.go:31", after := #[{ on := 43, ground := Ground.data }, { on := 40, ground := Ground.chain }], guard := none } : Oper)) (v := ?_) rfl (by kernel_rfl) (by kernel_rfl) (by kernel_rfl) (fun _ _ _ h => h) (Or.inl ⟨by rfl, ?_⟩) hS30 ?_
            rotate_left
            · intro w hSw; (try dsimp only at hSw); go_simp; (try with_reducible rfl)
            simp only [Act.put, List.setIfInBounds_toArray, List.set_cons_zero, List.set_cons_succ]
            refine wpAnyH_ready (rs := [45]) (by kernel_rfl) (by simp) ?_
            refine AllReadyH.cons (o := ({ dst := some 71, op := Op.call { callee := Callee.value (Operand.func 10), args := #[], argTypes := #[] }, type := 4, pos := "law.go:31", after := #[{ on := 44, ground := Ground.chain }, { on := 44, ground := Ground.guard }], guard := some (44, true) } : Oper)) rfl (fun K hK => ?_) AllReadyH.nil
            go_simp
            refine (known_any _).mono ?_; rintro e w31 ⟨rfl, hb31⟩
            go_wp2_with fail
            refine hK.out _ _ (mk20 _ (hnext hS30.1 hb31)) (fun hS31 => ?_)
            clear hK K
            (try simp only [Act.put, List.setIfInBounds_toArray, List.set_cons_zero, List.set_cons_succ])
            clear hb31 hS30
            refine wpAnyH_take (i := 46) (oi := ({ dst := some 72, op := Op.pick (Operand.tmp 70) (Operand.tmp 71) (Operand.const (Value.bool false)), type := 4, pos := "law.go:31", after := #[{ on := 44, ground := Ground.data }, { on := 45, ground := Ground.data }], guard := none } : Oper)) (v := ?_) rfl (by kernel_rfl) (by kernel_rfl) (by kernel_rfl) (fun _ _ _ h => h) (Or.inl ⟨by rfl, ?_⟩) hS31 ?_
            rotate_left
            · intro w hSw; (try dsimp only at hSw); go_simp; (try with_reducible rfl)
            simp only [Act.put, List.setIfInBounds_toArray, List.set_cons_zero, List.set_cons_succ]
            refine wpAnyH_take (i := 47) (oi := ({ dst := some 4, op := Op.assign (Operand.tmp 72), type := 4, pos := "law.go:31", after := #[{ on := 46, ground := Ground.data }, { on := 45, ground := Ground.chain }, { on := 0, ground := Ground.phase }, { on := 1, ground := Ground.phase }, { on := 2, ground := Ground.phase }, { on := 3, ground := Ground.phase }, { on := 4, ground := Ground.phase }, { on := 5, ground := Ground.phase }, { on := 6, ground := Ground.phase }, { on := 7, ground := Ground.phase }, { on := 8, ground := Ground.phase }, { on := 9, ground := Ground.phase }, { on := 10, ground := Ground.phase }, { on := 11, ground := Ground.phase }, { on := 12, ground := Ground.phase }, { on := 13, ground := Ground.phase }, { on := 14, ground := Ground.phase }, { on := 15, ground := Ground.phase }, { on := 16, ground := Ground.phase }, { on := 17, ground := Ground.phase }, { on := 18, ground := Ground.phase }, { on := 19, ground := Ground.phase }, { on := 20, ground := Ground.phase }, { on := 21, ground := Ground.phase }, { on := 22, ground := Ground.phase }, { on := 23, ground := Ground.phase }, { on := 24, ground := Ground.phase }, { on := 25, ground := Ground.phase }, { on := 26, ground := Ground.phase }, { on := 27, ground := Ground.phase }, { on := 28, ground := Ground.phase }, { on := 29, ground := Ground.phase }, { on := 30, ground := Ground.phase }, { on := 31, ground := Ground.phase }, { on := 32, ground := Ground.phase }, { on := 33, ground := Ground.phase }, { on := 34, ground := Ground.phase }, { on := 35, ground := Ground.phase }, { on := 36, ground := Ground.phase }, { on := 37, ground := Ground.phase }, { on := 38, ground := Ground.phase }, { on := 39, ground := Ground.phase }, { on := 40, ground := Ground.phase }, { on := 41, ground := Ground.phase }, { on := 42, ground := Ground.phase }, { on := 43, ground := Ground.phase }, { on := 44, ground := Ground.phase }, { on := 45, ground := Ground.phase }, { on := 46, ground := Ground.phase }], guard := none } : Oper)) (v := ?_) rfl (by kernel_rfl) (by kernel_rfl) (by kernel_rfl) (fun _ _ _ h => h) (Or.inl ⟨by rfl, ?_⟩) hS31 ?_
            rotate_left
            · intro w hSw; (try dsimp only at hSw); go_simp; (try with_reducible rfl)
            simp only [Act.put, List.setIfInBounds_toArray, List.set_cons_zero, List.set_cons_succ]
            refine wpAnyH_done (by kernel_rfl) ?_ _
            go_wp2_with fail
            go_ret
            exact ⟨rfl, hnext L1.out (hnext hd20 hS31.1)⟩
        | true =>
          rw [hv] at rv0 sv0
          rw [hu, hv] at HEQ
          clear hu hv
          by_cases hk : uk = 1
          · rw [Bool.and_true] at cs0
            subst hk
            rw [HTR.out, if_pos ⟨rfl, rfl⟩] at ct0
            have ru := hid ru0
            have su := hid su0
            have rv := hid rv0
            have sv := hid sv0
            have cc := hid cc0
            have cd := hid cd0
            have cs := hid cs0
            have csh := hid csh0
            have csr := hid csr0
            have ct := hid ct0
            clear ru0 su0 rv0 sv0 cc0 cd0 cs0 csh0 csr0 ct0 HRU HRV HEQ HTR hdd
            go_enter Try.func3, Try.ntmps3
            go_wp2_with fail
            obtain ⟨Ac0_0, Ac1_0, Ac2_0, Ac3_0, Af0_0, Af1_0, Af2_0, Af3_0, Al_0⟩ := VA.out.cells
            obtain ⟨Bc0_0, Bc1_0, Bc2_0, Bc3_0, Bf0_0, Bf1_0, Bf2_0, Bf3_0, Bl_0⟩ := VB.out.cells
            refine (su.out _).mono ?_; rintro e w1 ⟨rfl, b1⟩
            clear Ac0_0 Ac1_0 Ac2_0 Ac3_0 Af0_0 Af1_0 Af2_0 Af3_0 Al_0 Bc0_0 Bc1_0 Bc2_0 Bc3_0 Bf0_0 Bf1_0 Bf2_0 Bf3_0 Bl_0
            have A1 := hid (VA.out.keep b1)
            have B1 := hid (VB.out.keep b1)
            have L1 := hid (hnext L.out b1)
            clear b1
            obtain ⟨Ac0_1, Ac1_1, Ac2_1, Ac3_1, Af0_1, Af1_1, Af2_1, Af3_1, Al_1⟩ := A1.out.cells
            obtain ⟨Bc0_1, Bc1_1, Bc2_1, Bc3_1, Bf0_1, Bf1_1, Bf2_1, Bf3_1, Bl_1⟩ := B1.out.cells
            go_wp2_with fail
            obtain ⟨w20, hw20⟩ : ∃ w20, (w1).drew = w20 := ⟨_, rfl⟩
            have hd20 : Below (w1).heap.size (w1) w20 := hw20 ▸ (Below.refl _ _).drew
            have mk20 : ∀ W, Below w20.heap.size w20 W → Below w20.heap.size w20 W ∧ W.cell? ⟨w.heap.size, 0, none⟩ = some (.int .i64 1) ∧ W.cell? ⟨w.heap.size, 1, none⟩ = some (.int .i64 un) ∧ W.cell? ⟨w.heap.size, 2, none⟩ = some (.int .u64 (ub : Int)) ∧ W.cell? ⟨w.heap.size, 3, none⟩ = some (.string us) ∧ W.cell? ⟨w.heap.size + 1, 0, none⟩ = some (.int .i64 vk) ∧ W.cell? ⟨w.heap.size + 1, 1, none⟩ = some (.int .i64 vn) ∧ W.cell? ⟨w.heap.size + 1, 2, none⟩ = some (.int .u64 (vb : Int)) ∧ W.cell? ⟨w.heap.size + 1, 3, none⟩ = some (.string vs) := fun W h => ⟨h, hkeep (hkeep Ac0_1 hd20) h, hkeep (hkeep Ac1_1 hd20) h, hkeep (hkeep Ac2_1 hd20) h, hkeep (hkeep Ac3_1 hd20) h, hkeep (hkeep Bc0_1 hd20) h, hkeep (hkeep Bc1_1 hd20) h, hkeep (hkeep Bc2_1 hd20) h, hkeep (hkeep Bc3_1 hd20) h⟩
            clear Ac0_1 Ac1_1 Ac2_1 Ac3_1 Af0_1 Af1_1 Af2_1 Af3_1 Al_1 Bc0_1 Bc1_1 Bc2_1 Bc3_1 Bf0_1 Bf1_1 Bf2_1 Bf3_1 Bl_1
            refine wp_region_held_drew (S := (fun W => Below w20.heap.size w20 W ∧ W.cell? ⟨w.heap.size, 0, none⟩ = some (.int .i64 1) ∧ W.cell? ⟨w.heap.size, 1, none⟩ = some (.int .i64 un) ∧ W.cell? ⟨w.heap.size, 2, none⟩ = some (.int .u64 (ub : Int)) ∧ W.cell? ⟨w.heap.size, 3, none⟩ = some (.string us) ∧ W.cell? ⟨w.heap.size + 1, 0, none⟩ = some (.int .i64 vk) ∧ W.cell? ⟨w.heap.size + 1, 1, none⟩ = some (.int .i64 vn) ∧ W.cell? ⟨w.heap.size + 1, 2, none⟩ = some (.int .u64 (vb : Int)) ∧ W.cell? ⟨w.heap.size + 1, 3, none⟩ = some (.string vs))) (by kernel_rfl) (by rw [hw20]; exact mk20 _ (Below.refl _ _)) (fun hS20 => ?_)
            rw [hw20] at hS20 ⊢
            clear hw20
            refine wpAnyH_take (i := 0) (oi := ({ dst := some 26, op := Op.load 24 (Operand.tmp 2), type := 24, pos := "law.go:31", after := #[], guard := none } : Oper)) (v := ?_) rfl (by kernel_rfl) (by kernel_rfl) (by kernel_rfl) (fun _ _ _ h => h) (Or.inl ⟨by rfl, ?_⟩) hS20 ?_
            rotate_left
            · intro w hSw; (try dsimp only at hSw); go_simp; (try with_reducible rfl)
            simp only [Act.put, List.setIfInBounds_toArray, List.set_cons_zero, List.set_cons_succ]
            refine wpAnyH_take (i := 2) (oi := ({ dst := some 28, op := Op.load 24 (Operand.tmp 2), type := 24, pos := "law.go:31", after := #[], guard := none } : Oper)) (v := ?_) rfl (by kernel_rfl) (by kernel_rfl) (by kernel_rfl) (fun _ _ _ h => h) (Or.inl ⟨by rfl, ?_⟩) hS20 ?_
            rotate_left
            · intro w hSw; (try dsimp only at hSw); go_simp; (try with_reducible rfl)
            simp only [Act.put, List.setIfInBounds_toArray, List.set_cons_zero, List.set_cons_succ]
            refine wpAnyH_ready (rs := [1]) (by kernel_rfl) (by simp) ?_
            refine AllReadyH.cons (o := ({ dst := some 27, op := Op.call { callee := Callee.value (Operand.func 12), args := #[Operand.tmp 26], argTypes := #[24] }, type := 4, pos := "law.go:31", after := #[{ on := 0, ground := Ground.data }], guard := none } : Oper)) rfl (fun K hK => ?_) AllReadyH.nil
            go_simp
            refine (ru.out _).mono ?_; rintro e w21 ⟨rfl, hb21⟩
            go_wp2_with fail
            refine hK.out _ _ (mk20 _ (hnext hS20.1 hb21)) (fun hS21 => ?_)
            clear hK K
            (try simp only [Act.put, List.setIfInBounds_toArray, List.set_cons_zero, List.set_cons_succ])
            clear hb21 hS20
            refine wpAnyH_ready (rs := [3]) (by kernel_rfl) (by simp) ?_
            refine AllReadyH.cons (o := ({ dst := some 29, op := Op.call { callee := Callee.value (Operand.func 11), args := #[Operand.tmp 28], argTypes := #[24] }, type := 4, pos := "law.go:31", after := #[{ on := 2, ground := Ground.data }, { on := 1, ground := Ground.chain }], guard := none } : Oper)) rfl (fun K hK => ?_) AllReadyH.nil
            go_simp
            refine (su.out _).mono ?_; rintro e w22 ⟨rfl, hb22⟩
            go_wp2_with fail
            refine hK.out _ _ (mk20 _ (hnext hS21.1 hb22)) (fun hS22 => ?_)
            clear hK K
            (try simp only [Act.put, List.setIfInBounds_toArray, List.set_cons_zero, List.set_cons_succ])
            clear hb22 hS21
            refine wpAnyH_take (i := 4) (oi := ({ dst := some 30, op := Op.binOp BinOp.eql 4 (Operand.tmp 27) (Operand.tmp 29) 4, type := 4, pos := "law.go:31", after := #[{ on := 1, ground := Ground.data }, { on := 3, ground := Ground.data }], guard := none } : Oper)) (v := ?_) rfl (by kernel_rfl) (by kernel_rfl) (by kernel_rfl) (fun _ _ _ h => h) (Or.inl ⟨by rfl, ?_⟩) hS22 ?_
            rotate_left
            · intro w hSw; (try dsimp only at hSw); go_simp; (try with_reducible rfl)
            simp only [Act.put, List.setIfInBounds_toArray, List.set_cons_zero, List.set_cons_succ]
            refine wpAnyH_take (i := 5) (oi := ({ dst := some 31, op := Op.move (Operand.tmp 30), type := 4, pos := "law.go:31", after := #[{ on := 4, ground := Ground.data }, { on := 3, ground := Ground.chain }], guard := none } : Oper)) (v := ?_) rfl (by kernel_rfl) (by kernel_rfl) (by kernel_rfl) (fun _ _ _ h => h) (Or.inl ⟨by rfl, ?_⟩) hS22 ?_
            rotate_left
            · intro w hSw; (try dsimp only at hSw); go_simp; (try with_reducible rfl)
            simp only [Act.put, List.setIfInBounds_toArray, List.set_cons_zero, List.set_cons_succ]
            refine wpAnyH_take (i := 6) (oi := ({ dst := some 32, op := Op.load 24 (Operand.tmp 2), type := 24, pos := "law.go:31", after := #[{ on := 5, ground := Ground.guard }], guard := some (5, true) } : Oper)) (v := ?_) rfl (by kernel_rfl) (by kernel_rfl) (by kernel_rfl) (fun _ _ _ h => h) (Or.inl ⟨by rfl, ?_⟩) hS22 ?_
            rotate_left
            · intro w hSw; (try dsimp only at hSw); go_simp; (try with_reducible rfl)
            simp only [Act.put, List.setIfInBounds_toArray, List.set_cons_zero, List.set_cons_succ]
            refine wpAnyH_take (i := 7) (oi := ({ dst := some 33, op := Op.load 24 (Operand.tmp 3), type := 24, pos := "law.go:31", after := #[{ on := 5, ground := Ground.guard }], guard := some (5, true) } : Oper)) (v := ?_) rfl (by kernel_rfl) (by kernel_rfl) (by kernel_rfl) (fun _ _ _ h => h) (Or.inl ⟨by rfl, ?_⟩) hS22 ?_
            rotate_left
            · intro w hSw; (try dsimp only at hSw); go_simp; (try with_reducible rfl)
            simp only [Act.put, List.setIfInBounds_toArray, List.set_cons_zero, List.set_cons_succ]
            refine wpAnyH_take (i := 9) (oi := ({ dst := some 35, op := Op.load 24 (Operand.tmp 2), type := 24, pos := "law.go:31", after := #[{ on := 5, ground := Ground.guard }], guard := some (5, true) } : Oper)) (v := ?_) rfl (by kernel_rfl) (by kernel_rfl) (by kernel_rfl) (fun _ _ _ h => h) (Or.inl ⟨by rfl, ?_⟩) hS22 ?_
            rotate_left
            · intro w hSw; (try dsimp only at hSw); go_simp; (try with_reducible rfl)
            simp only [Act.put, List.setIfInBounds_toArray, List.set_cons_zero, List.set_cons_succ]
            refine wpAnyH_take (i := 10) (oi := ({ dst := some 36, op := Op.load 24 (Operand.tmp 3), type := 24, pos := "law.go:31", after := #[{ on := 5, ground := Ground.guard }], guard := some (5, true) } : Oper)) (v := ?_) rfl (by kernel_rfl) (by kernel_rfl) (by kernel_rfl) (fun _ _ _ h => h) (Or.inl ⟨by rfl, ?_⟩) hS22 ?_
            rotate_left
            · intro w hSw; (try dsimp only at hSw); go_simp; (try with_reducible rfl)
            simp only [Act.put, List.setIfInBounds_toArray, List.set_cons_zero, List.set_cons_succ]
            refine wpAnyH_ready (rs := [8]) (by kernel_rfl) (by simp) ?_
            refine AllReadyH.cons (o := ({ dst := some 34, op := Op.call { callee := Callee.value (Operand.func 13), args := #[Operand.tmp 32, Operand.tmp 33], argTypes := #[24, 24] }, type := 3, pos := "law.go:31", after := #[{ on := 6, ground := Ground.data }, { on := 7, ground := Ground.data }, { on := 5, ground := Ground.chain }, { on := 5, ground := Ground.guard }], guard := some (5, true) } : Oper)) rfl (fun K hK => ?_) AllReadyH.nil
            go_simp
            refine (cc.out _).mono ?_; rintro e w23 ⟨rfl, hb23⟩
            go_wp2_with fail
            refine hK.out _ _ (mk20 _ (hnext hS22.1 hb23)) (fun hS23 => ?_)
            clear hK K
            (try simp only [Act.put, List.setIfInBounds_toArray, List.set_cons_zero, List.set_cons_succ])
            clear hb23 hS22
            refine wpAnyH_ready (rs := [11]) (by kernel_rfl) (by simp) ?_
            refine AllReadyH.cons (o := ({ dst := some 37, op := Op.call { callee := Callee.value (Operand.func 14), args := #[Operand.tmp 35, Operand.tmp 36], argTypes := #[24, 24] }, type := 3, pos := "law.go:31", after := #[{ on := 9, ground := Ground.data }, { on := 10, ground := Ground.data }, { on := 8, ground := Ground.chain }, { on := 5, ground := Ground.guard }], guard := some (5, true) } : Oper)) rfl (fun K hK => ?_) AllReadyH.nil
            go_simp
            refine (cd.out _).mono ?_; rintro e w24 ⟨rfl, hb24⟩
            go_wp2_with fail
            refine hK.out _ _ (mk20 _ (hnext hS23.1 hb24)) (fun hS24 => ?_)
            clear hK K
            (try simp only [Act.put, List.setIfInBounds_toArray, List.set_cons_zero, List.set_cons_succ])
            clear hb24 hS23
            refine wpAnyH_take (i := 12) (oi := ({ dst := some 38, op := Op.binOp BinOp.eql 3 (Operand.tmp 34) (Operand.tmp 37) 3, type := 4, pos := "law.go:31", after := #[{ on := 8, ground := Ground.data }, { on := 11, ground := Ground.data }, { on := 5, ground := Ground.guard }], guard := some (5, true) } : Oper)) (v := ?_) rfl (by kernel_rfl) (by kernel_rfl) (by kernel_rfl) (fun _ _ _ h => h) (Or.inl ⟨by rfl, ?_⟩) hS24 ?_
            rotate_left
            · intro w hSw; (try dsimp only at hSw); go_simp; (try with_reducible rfl)
            simp only [Act.put, List.setIfInBounds_toArray, List.set_cons_zero, List.set_cons_succ]
            refine wpAnyH_take (i := 13) (oi := ({ dst := some 39, op := Op.pick (Operand.tmp 31) (Operand.tmp 38) (Operand.const (Value.bool false)), type := 4, pos := "law.go:31", after := #[{ on := 5, ground := Ground.data }, { on := 12, ground := Ground.data }], guard := none } : Oper)) (v := ?_) rfl (by kernel_rfl) (by kernel_rfl) (by kernel_rfl) (fun _ _ _ h => h) (Or.inl ⟨by rfl, ?_⟩) hS24 ?_
            rotate_left
            · intro w hSw; (try dsimp only at hSw); go_simp; (try with_reducible rfl)
            simp only [Act.put, List.setIfInBounds_toArray, List.set_cons_zero, List.set_cons_succ]
            refine wpAnyH_take (i := 14) (oi := ({ dst := some 40, op := Op.move (Operand.tmp 39), type := 4, pos := "law.go:31", after := #[{ on := 13, ground := Ground.data }, { on := 11, ground := Ground.chain }], guard := none } : Oper)) (v := ?_) rfl (by kernel_rfl) (by kernel_rfl) (by kernel_rfl) (fun _ _ _ h => h) (Or.inl ⟨by rfl, ?_⟩) hS24 ?_
            rotate_left
            · intro w hSw; (try dsimp only at hSw); go_simp; (try with_reducible rfl)
            simp only [Act.put, List.setIfInBounds_toArray, List.set_cons_zero, List.set_cons_succ]
            refine wpAnyH_take (i := 15) (oi := ({ dst := some 41, op := Op.load 24 (Operand.tmp 2), type := 24, pos := "law.go:31", after := #[{ on := 14, ground := Ground.guard }], guard := some (14, true) } : Oper)) (v := ?_) rfl (by kernel_rfl) (by kernel_rfl) (by kernel_rfl) (fun _ _ _ h => h) (Or.inl ⟨by rfl, ?_⟩) hS24 ?_
            rotate_left
            · intro w hSw; (try dsimp only at hSw); go_simp; (try with_reducible rfl)
            simp only [Act.put, List.setIfInBounds_toArray, List.set_cons_zero, List.set_cons_succ]
            refine wpAnyH_take (i := 16) (oi := ({ dst := some 42, op := Op.load 24 (Operand.tmp 3), type := 24, pos := "law.go:31", after := #[{ on := 14, ground := Ground.guard }], guard := some (14, true) } : Oper)) (v := ?_) rfl (by kernel_rfl) (by kernel_rfl) (by kernel_rfl) (fun _ _ _ h => h) (Or.inl ⟨by rfl, ?_⟩) hS24 ?_
            rotate_left
            · intro w hSw; (try dsimp only at hSw); go_simp; (try with_reducible rfl)
            simp only [Act.put, List.setIfInBounds_toArray, List.set_cons_zero, List.set_cons_succ]
            refine wpAnyH_take (i := 18) (oi := ({ dst := some 44, op := Op.load 24 (Operand.tmp 2), type := 24, pos := "law.go:31", after := #[{ on := 14, ground := Ground.guard }], guard := some (14, true) } : Oper)) (v := ?_) rfl (by kernel_rfl) (by kernel_rfl) (by kernel_rfl) (fun _ _ _ h => h) (Or.inl ⟨by rfl, ?_⟩) hS24 ?_
            rotate_left
            · intro w hSw; (try dsimp only at hSw); go_simp; (try with_reducible rfl)
            simp only [Act.put, List.setIfInBounds_toArray, List.set_cons_zero, List.set_cons_succ]
            refine wpAnyH_ready (rs := [17]) (by kernel_rfl) (by simp) ?_
            refine AllReadyH.cons (o := ({ dst := some 43, op := Op.call { callee := Callee.value (Operand.func 15), args := #[Operand.tmp 41, Operand.tmp 42], argTypes := #[24, 24] }, type := 4, pos := "law.go:31", after := #[{ on := 15, ground := Ground.data }, { on := 16, ground := Ground.data }, { on := 14, ground := Ground.chain }, { on := 14, ground := Ground.guard }], guard := some (14, true) } : Oper)) rfl (fun K hK => ?_) AllReadyH.nil
            go_simp
            refine (cs.out _).mono ?_; rintro e w25 ⟨rfl, hb25⟩
            go_wp2_with fail
            refine hK.out _ _ (mk20 _ (hnext hS24.1 hb25)) (fun hS25 => ?_)
            clear hK K
            (try simp only [Act.put, List.setIfInBounds_toArray, List.set_cons_zero, List.set_cons_succ])
            clear hb25 hS24
            refine wpAnyH_ready (rs := [19]) (by kernel_rfl) (by simp) ?_
            refine AllReadyH.cons (o := ({ dst := some 45, op := Op.call { callee := Callee.value (Operand.func 11), args := #[Operand.tmp 44], argTypes := #[24] }, type := 4, pos := "law.go:31", after := #[{ on := 18, ground := Ground.data }, { on := 17, ground := Ground.chain }, { on := 14, ground := Ground.guard }], guard := some (14, true) } : Oper)) rfl (fun K hK => ?_) AllReadyH.nil
            go_simp
            refine (su.out _).mono ?_; rintro e w26 ⟨rfl, hb26⟩
            go_wp2_with fail
            refine hK.out _ _ (mk20 _ (hnext hS25.1 hb26)) (fun hS26 => ?_)
            clear hK K
            (try simp only [Act.put, List.setIfInBounds_toArray, List.set_cons_zero, List.set_cons_succ])
            clear hb26 hS25
            refine wpAnyH_take (i := 20) (oi := ({ dst := some 46, op := Op.move (Operand.tmp 45), type := 4, pos := "law.go:31", after := #[{ on := 19, ground := Ground.data }, { on := 19, ground := Ground.chain }, { on := 14, ground := Ground.guard }], guard := some (14, true) } : Oper)) (v := ?_) rfl (by kernel_rfl) (by kernel_rfl) (by kernel_rfl) (fun _ _ _ h => h) (Or.inl ⟨by rfl, ?_⟩) hS26 ?_
            rotate_left
            · intro w hSw; (try dsimp only at hSw); go_simp; (try with_reducible rfl)
            simp only [Act.put, List.setIfInBounds_toArray, List.set_cons_zero, List.set_cons_succ]
            refine wpAnyH_take (i := 21) (oi := ({ dst := some 47, op := Op.load 24 (Operand.tmp 3), type := 24, pos := "law.go:31", after := #[{ on := 20, ground := Ground.guard }], guard := some (20, true) } : Oper)) (v := ?_) rfl (by kernel_rfl) (by kernel_rfl) (by kernel_rfl) (fun _ _ _ h => h) (Or.inl ⟨by rfl, ?_⟩) hS26 ?_
            rotate_left
            · intro w hSw; (try dsimp only at hSw); go_simp; (try with_reducible rfl)
            simp only [Act.put, List.setIfInBounds_toArray, List.set_cons_zero, List.set_cons_succ]
            refine wpAnyH_ready (rs := [22]) (by kernel_rfl) (by simp) ?_
            refine AllReadyH.cons (o := ({ dst := some 48, op := Op.call { callee := Callee.value (Operand.func 11), args := #[Operand.tmp 47], argTypes := #[24] }, type := 4, pos := "law.go:31", after := #[{ on := 21, ground := Ground.data }, { on := 20, ground := Ground.chain }, { on := 20, ground := Ground.guard }], guard := some (20, true) } : Oper)) rfl (fun K hK => ?_) AllReadyH.nil
            go_simp
            refine (sv.out _).mono ?_; rintro e w27 ⟨rfl, hb27⟩
            go_wp2_with fail
            refine hK.out _ _ (mk20 _ (hnext hS26.1 hb27)) (fun hS27 => ?_)
            clear hK K
            (try simp only [Act.put, List.setIfInBounds_toArray, List.set_cons_zero, List.set_cons_succ])
            clear hb27 hS26
            refine wpAnyH_take (i := 23) (oi := ({ dst := some 49, op := Op.pick (Operand.tmp 46) (Operand.tmp 48) (Operand.const (Value.bool false)), type := 4, pos := "law.go:31", after := #[{ on := 20, ground := Ground.data }, { on := 22, ground := Ground.data }, { on := 14, ground := Ground.guard }], guard := some (14, true) } : Oper)) (v := ?_) rfl (by kernel_rfl) (by kernel_rfl) (by kernel_rfl) (fun _ _ _ h => h) (Or.inl ⟨by rfl, ?_⟩) hS27 ?_
            rotate_left
            · intro w hSw; (try dsimp only at hSw); go_simp; (try with_reducible rfl)
            simp only [Act.put, List.setIfInBounds_toArray, List.set_cons_zero, List.set_cons_succ]
            refine wpAnyH_take (i := 24) (oi := ({ dst := some 50, op := Op.move (Operand.tmp 49), type := 4, pos := "law.go:31", after := #[{ on := 23, ground := Ground.data }, { on := 22, ground := Ground.chain }, { on := 14, ground := Ground.guard }], guard := some (14, true) } : Oper)) (v := ?_) rfl (by kernel_rfl) (by kernel_rfl) (by kernel_rfl) (fun _ _ _ h => h) (Or.inl ⟨by rfl, ?_⟩) hS27 ?_
            rotate_left
            · intro w hSw; (try dsimp only at hSw); go_simp; (try with_reducible rfl)
            simp only [Act.put, List.setIfInBounds_toArray, List.set_cons_zero, List.set_cons_succ]
            refine wpAnyH_take (i := 25) (oi := ({ dst := some 51, op := Op.load 24 (Operand.tmp 2), type := 24, pos := "law.go:31", after := #[{ on := 24, ground := Ground.guard }], guard := some (24, true) } : Oper)) (v := ?_) rfl (by kernel_rfl) (by kernel_rfl) (by kernel_rfl) (fun _ _ _ h => h) (Or.inl ⟨by rfl, ?_⟩) hS27 ?_
            rotate_left
            · intro w hSw; (try dsimp only at hSw); go_simp; (try with_reducible rfl)
            simp only [Act.put, List.setIfInBounds_toArray, List.set_cons_zero, List.set_cons_succ]
            refine wpAnyH_take (i := 26) (oi := ({ dst := some 52, op := Op.load 24 (Operand.tmp 3), type := 24, pos := "law.go:31", after := #[{ on := 24, ground := Ground.guard }], guard := some (24, true) } : Oper)) (v := ?_) rfl (by kernel_rfl) (by kernel_rfl) (by kernel_rfl) (fun _ _ _ h => h) (Or.inl ⟨by rfl, ?_⟩) hS27 ?_
            rotate_left
            · intro w hSw; (try dsimp only at hSw); go_simp; (try with_reducible rfl)
            simp only [Act.put, List.setIfInBounds_toArray, List.set_cons_zero, List.set_cons_succ]
            refine wpAnyH_take (i := 27) (oi := ({ dst := some 53, op := Op.binOp BinOp.eql 24 (Operand.tmp 51) (Operand.tmp 52) 24, type := 4, pos := "law.go:31", after := #[{ on := 25, ground := Ground.data }, { on := 26, ground := Ground.data }, { on := 24, ground := Ground.guard }], guard := some (24, true) } : Oper)) (v := ?_) rfl (by kernel_rfl) (by kernel_rfl) (by kernel_rfl) (fun _ _ _ h => h) (Or.inl ⟨by rfl, ?_⟩) hS27 ?_
            rotate_left
            · intro w hSw; (try dsimp only at hSw); go_simp; (try with_reducible rfl)
            simp only [Act.put, List.setIfInBounds_toArray, List.set_cons_zero, List.set_cons_succ]
            refine wpAnyH_take (i := 28) (oi := ({ dst := some 54, op := Op.pick (Operand.tmp 50) (Operand.tmp 53) (Operand.const (Value.bool false)), type := 4, pos := "law.go:31", after := #[{ on := 24, ground := Ground.data }, { on := 27, ground := Ground.data }, { on := 14, ground := Ground.guard }], guard := some (14, true) } : Oper)) (v := ?_) rfl (by kernel_rfl) (by kernel_rfl) (by kernel_rfl) (fun _ _ _ h => h) (Or.inl ⟨by rfl, ?_⟩) hS27 ?_
            rotate_left
            · intro w hSw; (try dsimp only at hSw); go_simp; (try with_reducible rfl)
            simp only [Act.put, List.setIfInBounds_toArray, List.set_cons_zero, List.set_cons_succ]
            refine wpAnyH_take (i := 29) (oi := ({ dst := some 55, op := Op.binOp BinOp.eql 4 (Operand.tmp 43) (Operand.tmp 54) 4, type := 4, pos := "law.go:31", after := #[{ on := 17, ground := Ground.data }, { on := 28, ground := Ground.data }, { on := 14, ground := Ground.guard }], guard := some (14, true) } : Oper)) (v := ?_) rfl (by kernel_rfl) (by kernel_rfl) (by kernel_rfl) (fun _ _ _ h => h) (Or.inl ⟨by rfl, ?_⟩) hS27 ?_
            rotate_left
            · intro w hSw; (try dsimp only at hSw); go_simp; (try with_reducible rfl)
            simp only [Act.put, List.setIfInBounds_toArray, List.set_cons_zero, List.set_cons_succ]
            refine wpAnyH_take (i := 30) (oi := ({ dst := some 56, op := Op.pick (Operand.tmp 40) (Operand.tmp 55) (Operand.const (Value.bool false)), type := 4, pos := "law.go:31", after := #[{ on := 14, ground := Ground.data }, { on := 29, ground := Ground.data }], guard := none } : Oper)) (v := ?_) rfl (by kernel_rfl) (by kernel_rfl) (by kernel_rfl) (fun _ _ _ h => h) (Or.inl ⟨by rfl, ?_⟩) hS27 ?_
            rotate_left
            · intro w hSw; (try dsimp only at hSw); go_simp; (try with_reducible rfl)
            simp only [Act.put, List.setIfInBounds_toArray, List.set_cons_zero, List.set_cons_succ]
            refine wpAnyH_take (i := 31) (oi := ({ dst := some 57, op := Op.move (Operand.tmp 56), type := 4, pos := "law.go:31", after := #[{ on := 30, ground := Ground.data }, { on := 24, ground := Ground.chain }], guard := none } : Oper)) (v := ?_) rfl (by kernel_rfl) (by kernel_rfl) (by kernel_rfl) (fun _ _ _ h => h) (Or.inl ⟨by rfl, ?_⟩) hS27 ?_
            rotate_left
            · intro w hSw; (try dsimp only at hSw); go_simp; (try with_reducible rfl)
            simp only [Act.put, List.setIfInBounds_toArray, List.set_cons_zero, List.set_cons_succ]
            refine wpAnyH_take (i := 32) (oi := ({ dst := some 58, op := Op.load 24 (Operand.tmp 2), type := 24, pos := "law.go:31", after := #[{ on := 31, ground := Ground.guard }], guard := some (31, true) } : Oper)) (v := ?_) rfl (by kernel_rfl) (by kernel_rfl) (by kernel_rfl) (fun _ _ _ h => h) (Or.inl ⟨by rfl, ?_⟩) hS27 ?_
            rotate_left
            · intro w hSw; (try dsimp only at hSw); go_simp; (try with_reducible rfl)
            simp only [Act.put, List.setIfInBounds_toArray, List.set_cons_zero, List.set_cons_succ]
            refine wpAnyH_take (i := 34) (oi := ({ dst := some 60, op := Op.load 24 (Operand.tmp 2), type := 24, pos := "law.go:31", after := #[{ on := 31, ground := Ground.guard }], guard := some (31, true) } : Oper)) (v := ?_) rfl (by kernel_rfl) (by kernel_rfl) (by kernel_rfl) (fun _ _ _ h => h) (Or.inl ⟨by rfl, ?_⟩) hS27 ?_
            rotate_left
            · intro w hSw; (try dsimp only at hSw); go_simp; (try with_reducible rfl)
            simp only [Act.put, List.setIfInBounds_toArray, List.set_cons_zero, List.set_cons_succ]
            refine wpAnyH_ready (rs := [33]) (by kernel_rfl) (by simp) ?_
            refine AllReadyH.cons (o := ({ dst := some 59, op := Op.call { callee := Callee.value (Operand.func 16), args := #[Operand.tmp 58], argTypes := #[24] }, type := 9, pos := "law.go:31", after := #[{ on := 32, ground := Ground.data }, { on := 31, ground := Ground.chain }, { on := 31, ground := Ground.guard }], guard := some (31, true) } : Oper)) rfl (fun K hK => ?_) AllReadyH.nil
            go_simp
            refine (csh.out _).mono ?_; rintro e w28 ⟨rfl, hb28⟩
            go_wp2_with fail
            refine hK.out _ _ (mk20 _ (hnext hS27.1 hb28)) (fun hS28 => ?_)
            clear hK K
            (try simp only [Act.put, List.setIfInBounds_toArray, List.set_cons_zero, List.set_cons_succ])
            clear hb28 hS27
            refine wpAnyH_ready (rs := [35]) (by kernel_rfl) (by simp) ?_
            refine AllReadyH.cons (o := ({ dst := some 61, op := Op.call { callee := Callee.value (Operand.func 17), args := #[Operand.tmp 60], argTypes := #[24] }, type := 9, pos := "law.go:31", after := #[{ on := 34, ground := Ground.data }, { on := 33, ground := Ground.chain }, { on := 31, ground := Ground.guard }], guard := some (31, true) } : Oper)) rfl (fun K hK => ?_) AllReadyH.nil
            go_simp
            refine (csr.out _).mono ?_; rintro e w29 ⟨rfl, hb29⟩
            go_wp2_with fail
            refine hK.out _ _ (mk20 _ (hnext hS28.1 hb29)) (fun hS29 => ?_)
            clear hK K
            (try simp only [Act.put, List.setIfInBounds_toArray, List.set_cons_zero, List.set_cons_succ])
            clear hb29 hS28
            refine wpAnyH_take (i := 36) (oi := ({ dst := some 62, op := Op.binOp BinOp.eql 9 (Operand.tmp 59) (Operand.tmp 61) 9, type := 4, pos := "law.go:31", after := #[{ on := 33, ground := Ground.data }, { on := 35, ground := Ground.data }, { on := 31, ground := Ground.guard }], guard := some (31, true) } : Oper)) (v := ?_) rfl (by kernel_rfl) (by kernel_rfl) (by kernel_rfl) (fun _ _ _ h => h) (Or.inl ⟨by rfl, ?_⟩) hS29 ?_
            rotate_left
            · intro w hSw; (try dsimp only at hSw); go_simp; (try with_reducible rfl)
            simp only [Act.put, List.setIfInBounds_toArray, List.set_cons_zero, List.set_cons_succ]
            refine wpAnyH_take (i := 37) (oi := ({ dst := some 63, op := Op.pick (Operand.tmp 57) (Operand.tmp 62) (Operand.const (Value.bool false)), type := 4, pos := "law.go:31", after := #[{ on := 31, ground := Ground.data }, { on := 36, ground := Ground.data }], guard := none } : Oper)) (v := ?_) rfl (by kernel_rfl) (by kernel_rfl) (by kernel_rfl) (fun _ _ _ h => h) (Or.inl ⟨by rfl, ?_⟩) hS29 ?_
            rotate_left
            · intro w hSw; (try dsimp only at hSw); go_simp; (try with_reducible rfl)
            simp only [Act.put, List.setIfInBounds_toArray, List.set_cons_zero, List.set_cons_succ]
            refine wpAnyH_take (i := 38) (oi := ({ dst := some 64, op := Op.move (Operand.tmp 63), type := 4, pos := "law.go:31", after := #[{ on := 37, ground := Ground.data }, { on := 35, ground := Ground.chain }], guard := none } : Oper)) (v := ?_) rfl (by kernel_rfl) (by kernel_rfl) (by kernel_rfl) (fun _ _ _ h => h) (Or.inl ⟨by rfl, ?_⟩) hS29 ?_
            rotate_left
            · intro w hSw; (try dsimp only at hSw); go_simp; (try with_reducible rfl)
            simp only [Act.put, List.setIfInBounds_toArray, List.set_cons_zero, List.set_cons_succ]
            refine wpAnyH_take (i := 39) (oi := ({ dst := some 65, op := Op.load 24 (Operand.tmp 2), type := 24, pos := "law.go:31", after := #[{ on := 38, ground := Ground.guard }], guard := some (38, true) } : Oper)) (v := ?_) rfl (by kernel_rfl) (by kernel_rfl) (by kernel_rfl) (fun _ _ _ h => h) (Or.inl ⟨by rfl, ?_⟩) hS29 ?_
            rotate_left
            · intro w hSw; (try dsimp only at hSw); go_simp; (try with_reducible rfl)
            simp only [Act.put, List.setIfInBounds_toArray, List.set_cons_zero, List.set_cons_succ]
            refine wpAnyH_take (i := 41) (oi := ({ dst := some 67, op := Op.move (Operand.tmp 5), type := 3, pos := "law.go:31", after := #[{ on := 38, ground := Ground.guard }], guard := some (38, true) } : Oper)) (v := ?_) rfl (by kernel_rfl) (by kernel_rfl) (by kernel_rfl) (fun _ _ _ h => h) (Or.inl ⟨by rfl, ?_⟩) hS29 ?_
            rotate_left
            · intro w hSw; (try dsimp only at hSw); go_simp; (try with_reducible rfl)
            simp only [Act.put, List.setIfInBounds_toArray, List.set_cons_zero, List.set_cons_succ]
            refine wpAnyH_ready (rs := [40]) (by kernel_rfl) (by simp) ?_
            refine AllReadyH.cons (o := ({ dst := some 66, op := Op.call { callee := Callee.value (Operand.func 18), args := #[Operand.tmp 65], argTypes := #[24] }, type := 3, pos := "law.go:31", after := #[{ on := 39, ground := Ground.data }, { on := 38, ground := Ground.chain }, { on := 38, ground := Ground.guard }], guard := some (38, true) } : Oper)) rfl (fun K hK => ?_) AllReadyH.nil
            go_simp
            refine (ct.out _).mono ?_; rintro e w30 ⟨rfl, hb30⟩
            go_wp2_with fail
            refine hK.out _ _ (mk20 _ (hnext hS29.1 hb30)) (fun hS30 => ?_)
            clear hK K
            (try simp only [Act.put, List.setIfInBounds_toArray, List.set_cons_zero, List.set_cons_succ])
            clear hb30 hS29
            refine wpAnyH_take (i := 42) (oi := ({ dst := some 68, op := Op.binOp BinOp.eql 3 (Operand.tmp 66) (Operand.tmp 67) 3, type := 4, pos := "law.go:31", after := #[{ on := 40, ground := Ground.data }, { on := 41, ground := Ground.data }, { on := 38, ground := Ground.guard }], guard := some (38, true) } : Oper)) (v := ?_) rfl (by kernel_rfl) (by kernel_rfl) (by kernel_rfl) (fun _ _ _ h => h) (Or.inl ⟨by rfl, ?_⟩) hS30 ?_
            rotate_left
            · intro w hSw; (try dsimp only at hSw); go_simp; (try with_reducible rfl)
            simp only [Act.put, List.setIfInBounds_toArray, List.set_cons_zero, List.set_cons_succ]
            refine wpAnyH_take (i := 43) (oi := ({ dst := some 69, op := Op.pick (Operand.tmp 64) (Operand.tmp 68) (Operand.const (Value.bool false)), type := 4, pos := "law.go:31", after := #[{ on := 38, ground := Ground.data }, { on := 42, ground := Ground.data }], guard := none } : Oper)) (v := ?_) rfl (by kernel_rfl) (by kernel_rfl) (by kernel_rfl) (fun _ _ _ h => h) (Or.inl ⟨by rfl, ?_⟩) hS30 ?_
            rotate_left
            · intro w hSw; (try dsimp only at hSw); go_simp; (try with_reducible rfl)
            simp only [Act.put, List.setIfInBounds_toArray, List.set_cons_zero, List.set_cons_succ]
            refine wpAnyH_take (i := 44) (oi := ({ dst := some 70, op := Op.move (Operand.tmp 69), type := 4, pos := "law.go:31", after := #[{ on := 43, ground := Ground.data }, { on := 40, ground := Ground.chain }], guard := none } : Oper)) (v := ?_) rfl (by kernel_rfl) (by kernel_rfl) (by kernel_rfl) (fun _ _ _ h => h) (Or.inl ⟨by rfl, ?_⟩) hS30 ?_
            rotate_left
            · intro w hSw; (try dsimp only at hSw); go_simp; (try with_reducible rfl)
            simp only [Act.put, List.setIfInBounds_toArray, List.set_cons_zero, List.set_cons_succ]
            refine wpAnyH_ready (rs := [45]) (by kernel_rfl) (by simp) ?_
            refine AllReadyH.cons (o := ({ dst := some 71, op := Op.call { callee := Callee.value (Operand.func 10), args := #[], argTypes := #[] }, type := 4, pos := "law.go:31", after := #[{ on := 44, ground := Ground.chain }, { on := 44, ground := Ground.guard }], guard := some (44, true) } : Oper)) rfl (fun K hK => ?_) AllReadyH.nil
            go_simp
            refine (known_any _).mono ?_; rintro e w31 ⟨rfl, hb31⟩
            go_wp2_with fail
            refine hK.out _ _ (mk20 _ (hnext hS30.1 hb31)) (fun hS31 => ?_)
            clear hK K
            (try simp only [Act.put, List.setIfInBounds_toArray, List.set_cons_zero, List.set_cons_succ])
            clear hb31 hS30
            refine wpAnyH_take (i := 46) (oi := ({ dst := some 72, op := Op.pick (Operand.tmp 70) (Operand.tmp 71) (Operand.const (Value.bool false)), type := 4, pos := "law.go:31", after := #[{ on := 44, ground := Ground.data }, { on := 45, ground := Ground.data }], guard := none } : Oper)) (v := ?_) rfl (by kernel_rfl) (by kernel_rfl) (by kernel_rfl) (fun _ _ _ h => h) (Or.inl ⟨by rfl, ?_⟩) hS31 ?_
            rotate_left
            · intro w hSw; (try dsimp only at hSw); go_simp; (try with_reducible rfl)
            simp only [Act.put, List.setIfInBounds_toArray, List.set_cons_zero, List.set_cons_succ]
            refine wpAnyH_take (i := 47) (oi := ({ dst := some 4, op := Op.assign (Operand.tmp 72), type := 4, pos := "law.go:31", after := #[{ on := 46, ground := Ground.data }, { on := 45, ground := Ground.chain }, { on := 0, ground := Ground.phase }, { on := 1, ground := Ground.phase }, { on := 2, ground := Ground.phase }, { on := 3, ground := Ground.phase }, { on := 4, ground := Ground.phase }, { on := 5, ground := Ground.phase }, { on := 6, ground := Ground.phase }, { on := 7, ground := Ground.phase }, { on := 8, ground := Ground.phase }, { on := 9, ground := Ground.phase }, { on := 10, ground := Ground.phase }, { on := 11, ground := Ground.phase }, { on := 12, ground := Ground.phase }, { on := 13, ground := Ground.phase }, { on := 14, ground := Ground.phase }, { on := 15, ground := Ground.phase }, { on := 16, ground := Ground.phase }, { on := 17, ground := Ground.phase }, { on := 18, ground := Ground.phase }, { on := 19, ground := Ground.phase }, { on := 20, ground := Ground.phase }, { on := 21, ground := Ground.phase }, { on := 22, ground := Ground.phase }, { on := 23, ground := Ground.phase }, { on := 24, ground := Ground.phase }, { on := 25, ground := Ground.phase }, { on := 26, ground := Ground.phase }, { on := 27, ground := Ground.phase }, { on := 28, ground := Ground.phase }, { on := 29, ground := Ground.phase }, { on := 30, ground := Ground.phase }, { on := 31, ground := Ground.phase }, { on := 32, ground := Ground.phase }, { on := 33, ground := Ground.phase }, { on := 34, ground := Ground.phase }, { on := 35, ground := Ground.phase }, { on := 36, ground := Ground.phase }, { on := 37, ground := Ground.phase }, { on := 38, ground := Ground.phase }, { on := 39, ground := Ground.phase }, { on := 40, ground := Ground.phase }, { on := 41, ground := Ground.phase }, { on := 42, ground := Ground.phase }, { on := 43, ground := Ground.phase }, { on := 44, ground := Ground.phase }, { on := 45, ground := Ground.phase }, { on := 46, ground := Ground.phase }], guard := none } : Oper)) (v := ?_) rfl (by kernel_rfl) (by kernel_rfl) (by kernel_rfl) (fun _ _ _ h => h) (Or.inl ⟨by rfl, ?_⟩) hS31 ?_
            rotate_left
            · intro w hSw; (try dsimp only at hSw); go_simp; (try with_reducible rfl)
            simp only [Act.put, List.setIfInBounds_toArray, List.set_cons_zero, List.set_cons_succ]
            refine wpAnyH_done (by kernel_rfl) ?_ _
            go_wp2_with fail
            go_ret
            exact ⟨rfl, hnext L1.out (hnext hd20 hS31.1)⟩
          · rw [Bool.and_true] at cs0
            have hk' : (uk == 1) = false := by rw [beq_eq_false_iff_ne]; exact hk
            rw [HTR.out, if_neg (fun h => hk h.1)] at ct0
            clear hk
            have ru := hid ru0
            have su := hid su0
            have rv := hid rv0
            have sv := hid sv0
            have cc := hid cc0
            have cd := hid cd0
            have cs := hid cs0
            have csh := hid csh0
            have csr := hid csr0
            have ct := hid ct0
            clear ru0 su0 rv0 sv0 cc0 cd0 cs0 csh0 csr0 ct0 HRU HRV HEQ HTR hdd
            go_enter Try.func3, Try.ntmps3
            go_wp2_with fail
            obtain ⟨Ac0_0, Ac1_0, Ac2_0, Ac3_0, Af0_0, Af1_0, Af2_0, Af3_0, Al_0⟩ := VA.out.cells
            obtain ⟨Bc0_0, Bc1_0, Bc2_0, Bc3_0, Bf0_0, Bf1_0, Bf2_0, Bf3_0, Bl_0⟩ := VB.out.cells
            refine (su.out _).mono ?_; rintro e w1 ⟨rfl, b1⟩
            clear Ac0_0 Ac1_0 Ac2_0 Ac3_0 Af0_0 Af1_0 Af2_0 Af3_0 Al_0 Bc0_0 Bc1_0 Bc2_0 Bc3_0 Bf0_0 Bf1_0 Bf2_0 Bf3_0 Bl_0
            have A1 := hid (VA.out.keep b1)
            have B1 := hid (VB.out.keep b1)
            have L1 := hid (hnext L.out b1)
            clear b1
            obtain ⟨Ac0_1, Ac1_1, Ac2_1, Ac3_1, Af0_1, Af1_1, Af2_1, Af3_1, Al_1⟩ := A1.out.cells
            obtain ⟨Bc0_1, Bc1_1, Bc2_1, Bc3_1, Bf0_1, Bf1_1, Bf2_1, Bf3_1, Bl_1⟩ := B1.out.cells
            go_wp2_with fail
            obtain ⟨w20, hw20⟩ : ∃ w20, (w1).drew = w20 := ⟨_, rfl⟩
            have hd20 : Below (w1).heap.size (w1) w20 := hw20 ▸ (Below.refl _ _).drew
            have mk20 : ∀ W, Below w20.heap.size w20 W → Below w20.heap.size w20 W ∧ W.cell? ⟨w.heap.size, 0, none⟩ = some (.int .i64 uk) ∧ W.cell? ⟨w.heap.size, 1, none⟩ = some (.int .i64 un) ∧ W.cell? ⟨w.heap.size, 2, none⟩ = some (.int .u64 (ub : Int)) ∧ W.cell? ⟨w.heap.size, 3, none⟩ = some (.string us) ∧ W.cell? ⟨w.heap.size + 1, 0, none⟩ = some (.int .i64 vk) ∧ W.cell? ⟨w.heap.size + 1, 1, none⟩ = some (.int .i64 vn) ∧ W.cell? ⟨w.heap.size + 1, 2, none⟩ = some (.int .u64 (vb : Int)) ∧ W.cell? ⟨w.heap.size + 1, 3, none⟩ = some (.string vs) := fun W h => ⟨h, hkeep (hkeep Ac0_1 hd20) h, hkeep (hkeep Ac1_1 hd20) h, hkeep (hkeep Ac2_1 hd20) h, hkeep (hkeep Ac3_1 hd20) h, hkeep (hkeep Bc0_1 hd20) h, hkeep (hkeep Bc1_1 hd20) h, hkeep (hkeep Bc2_1 hd20) h, hkeep (hkeep Bc3_1 hd20) h⟩
            clear Ac0_1 Ac1_1 Ac2_1 Ac3_1 Af0_1 Af1_1 Af2_1 Af3_1 Al_1 Bc0_1 Bc1_1 Bc2_1 Bc3_1 Bf0_1 Bf1_1 Bf2_1 Bf3_1 Bl_1
            refine wp_region_held_drew (S := (fun W => Below w20.heap.size w20 W ∧ W.cell? ⟨w.heap.size, 0, none⟩ = some (.int .i64 uk) ∧ W.cell? ⟨w.heap.size, 1, none⟩ = some (.int .i64 un) ∧ W.cell? ⟨w.heap.size, 2, none⟩ = some (.int .u64 (ub : Int)) ∧ W.cell? ⟨w.heap.size, 3, none⟩ = some (.string us) ∧ W.cell? ⟨w.heap.size + 1, 0, none⟩ = some (.int .i64 vk) ∧ W.cell? ⟨w.heap.size + 1, 1, none⟩ = some (.int .i64 vn) ∧ W.cell? ⟨w.heap.size + 1, 2, none⟩ = some (.int .u64 (vb : Int)) ∧ W.cell? ⟨w.heap.size + 1, 3, none⟩ = some (.string vs))) (by kernel_rfl) (by rw [hw20]; exact mk20 _ (Below.refl _ _)) (fun hS20 => ?_)
            rw [hw20] at hS20 ⊢
            clear hw20
            refine wpAnyH_take (i := 0) (oi := ({ dst := some 26, op := Op.load 24 (Operand.tmp 2), type := 24, pos := "law.go:31", after := #[], guard := none } : Oper)) (v := ?_) rfl (by kernel_rfl) (by kernel_rfl) (by kernel_rfl) (fun _ _ _ h => h) (Or.inl ⟨by rfl, ?_⟩) hS20 ?_
            rotate_left
            · intro w hSw; (try dsimp only at hSw); go_simp; (try with_reducible rfl)
            simp only [Act.put, List.setIfInBounds_toArray, List.set_cons_zero, List.set_cons_succ]
            refine wpAnyH_take (i := 2) (oi := ({ dst := some 28, op := Op.load 24 (Operand.tmp 2), type := 24, pos := "law.go:31", after := #[], guard := none } : Oper)) (v := ?_) rfl (by kernel_rfl) (by kernel_rfl) (by kernel_rfl) (fun _ _ _ h => h) (Or.inl ⟨by rfl, ?_⟩) hS20 ?_
            rotate_left
            · intro w hSw; (try dsimp only at hSw); go_simp; (try with_reducible rfl)
            simp only [Act.put, List.setIfInBounds_toArray, List.set_cons_zero, List.set_cons_succ]
            refine wpAnyH_ready (rs := [1]) (by kernel_rfl) (by simp) ?_
            refine AllReadyH.cons (o := ({ dst := some 27, op := Op.call { callee := Callee.value (Operand.func 12), args := #[Operand.tmp 26], argTypes := #[24] }, type := 4, pos := "law.go:31", after := #[{ on := 0, ground := Ground.data }], guard := none } : Oper)) rfl (fun K hK => ?_) AllReadyH.nil
            go_simp
            refine (ru.out _).mono ?_; rintro e w21 ⟨rfl, hb21⟩
            go_wp2_with fail
            refine hK.out _ _ (mk20 _ (hnext hS20.1 hb21)) (fun hS21 => ?_)
            clear hK K
            (try simp only [Act.put, List.setIfInBounds_toArray, List.set_cons_zero, List.set_cons_succ])
            clear hb21 hS20
            refine wpAnyH_ready (rs := [3]) (by kernel_rfl) (by simp) ?_
            refine AllReadyH.cons (o := ({ dst := some 29, op := Op.call { callee := Callee.value (Operand.func 11), args := #[Operand.tmp 28], argTypes := #[24] }, type := 4, pos := "law.go:31", after := #[{ on := 2, ground := Ground.data }, { on := 1, ground := Ground.chain }], guard := none } : Oper)) rfl (fun K hK => ?_) AllReadyH.nil
            go_simp
            refine (su.out _).mono ?_; rintro e w22 ⟨rfl, hb22⟩
            go_wp2_with fail
            refine hK.out _ _ (mk20 _ (hnext hS21.1 hb22)) (fun hS22 => ?_)
            clear hK K
            (try simp only [Act.put, List.setIfInBounds_toArray, List.set_cons_zero, List.set_cons_succ])
            clear hb22 hS21
            refine wpAnyH_take (i := 4) (oi := ({ dst := some 30, op := Op.binOp BinOp.eql 4 (Operand.tmp 27) (Operand.tmp 29) 4, type := 4, pos := "law.go:31", after := #[{ on := 1, ground := Ground.data }, { on := 3, ground := Ground.data }], guard := none } : Oper)) (v := ?_) rfl (by kernel_rfl) (by kernel_rfl) (by kernel_rfl) (fun _ _ _ h => h) (Or.inl ⟨by rfl, ?_⟩) hS22 ?_
            rotate_left
            · intro w hSw; (try dsimp only at hSw); go_simp; (try with_reducible rfl)
            simp only [Act.put, List.setIfInBounds_toArray, List.set_cons_zero, List.set_cons_succ]
            refine wpAnyH_take (i := 5) (oi := ({ dst := some 31, op := Op.move (Operand.tmp 30), type := 4, pos := "law.go:31", after := #[{ on := 4, ground := Ground.data }, { on := 3, ground := Ground.chain }], guard := none } : Oper)) (v := ?_) rfl (by kernel_rfl) (by kernel_rfl) (by kernel_rfl) (fun _ _ _ h => h) (Or.inl ⟨by rfl, ?_⟩) hS22 ?_
            rotate_left
            · intro w hSw; (try dsimp only at hSw); go_simp; (try with_reducible rfl)
            simp only [Act.put, List.setIfInBounds_toArray, List.set_cons_zero, List.set_cons_succ]
            refine wpAnyH_take (i := 6) (oi := ({ dst := some 32, op := Op.load 24 (Operand.tmp 2), type := 24, pos := "law.go:31", after := #[{ on := 5, ground := Ground.guard }], guard := some (5, true) } : Oper)) (v := ?_) rfl (by kernel_rfl) (by kernel_rfl) (by kernel_rfl) (fun _ _ _ h => h) (Or.inl ⟨by rfl, ?_⟩) hS22 ?_
            rotate_left
            · intro w hSw; (try dsimp only at hSw); go_simp; (try with_reducible rfl)
            simp only [Act.put, List.setIfInBounds_toArray, List.set_cons_zero, List.set_cons_succ]
            refine wpAnyH_take (i := 7) (oi := ({ dst := some 33, op := Op.load 24 (Operand.tmp 3), type := 24, pos := "law.go:31", after := #[{ on := 5, ground := Ground.guard }], guard := some (5, true) } : Oper)) (v := ?_) rfl (by kernel_rfl) (by kernel_rfl) (by kernel_rfl) (fun _ _ _ h => h) (Or.inl ⟨by rfl, ?_⟩) hS22 ?_
            rotate_left
            · intro w hSw; (try dsimp only at hSw); go_simp; (try with_reducible rfl)
            simp only [Act.put, List.setIfInBounds_toArray, List.set_cons_zero, List.set_cons_succ]
            refine wpAnyH_take (i := 9) (oi := ({ dst := some 35, op := Op.load 24 (Operand.tmp 2), type := 24, pos := "law.go:31", after := #[{ on := 5, ground := Ground.guard }], guard := some (5, true) } : Oper)) (v := ?_) rfl (by kernel_rfl) (by kernel_rfl) (by kernel_rfl) (fun _ _ _ h => h) (Or.inl ⟨by rfl, ?_⟩) hS22 ?_
            rotate_left
            · intro w hSw; (try dsimp only at hSw); go_simp; (try with_reducible rfl)
            simp only [Act.put, List.setIfInBounds_toArray, List.set_cons_zero, List.set_cons_succ]
            refine wpAnyH_take (i := 10) (oi := ({ dst := some 36, op := Op.load 24 (Operand.tmp 3), type := 24, pos := "law.go:31", after := #[{ on := 5, ground := Ground.guard }], guard := some (5, true) } : Oper)) (v := ?_) rfl (by kernel_rfl) (by kernel_rfl) (by kernel_rfl) (fun _ _ _ h => h) (Or.inl ⟨by rfl, ?_⟩) hS22 ?_
            rotate_left
            · intro w hSw; (try dsimp only at hSw); go_simp; (try with_reducible rfl)
            simp only [Act.put, List.setIfInBounds_toArray, List.set_cons_zero, List.set_cons_succ]
            refine wpAnyH_ready (rs := [8]) (by kernel_rfl) (by simp) ?_
            refine AllReadyH.cons (o := ({ dst := some 34, op := Op.call { callee := Callee.value (Operand.func 13), args := #[Operand.tmp 32, Operand.tmp 33], argTypes := #[24, 24] }, type := 3, pos := "law.go:31", after := #[{ on := 6, ground := Ground.data }, { on := 7, ground := Ground.data }, { on := 5, ground := Ground.chain }, { on := 5, ground := Ground.guard }], guard := some (5, true) } : Oper)) rfl (fun K hK => ?_) AllReadyH.nil
            go_simp
            refine (cc.out _).mono ?_; rintro e w23 ⟨rfl, hb23⟩
            go_wp2_with fail
            refine hK.out _ _ (mk20 _ (hnext hS22.1 hb23)) (fun hS23 => ?_)
            clear hK K
            (try simp only [Act.put, List.setIfInBounds_toArray, List.set_cons_zero, List.set_cons_succ])
            clear hb23 hS22
            refine wpAnyH_ready (rs := [11]) (by kernel_rfl) (by simp) ?_
            refine AllReadyH.cons (o := ({ dst := some 37, op := Op.call { callee := Callee.value (Operand.func 14), args := #[Operand.tmp 35, Operand.tmp 36], argTypes := #[24, 24] }, type := 3, pos := "law.go:31", after := #[{ on := 9, ground := Ground.data }, { on := 10, ground := Ground.data }, { on := 8, ground := Ground.chain }, { on := 5, ground := Ground.guard }], guard := some (5, true) } : Oper)) rfl (fun K hK => ?_) AllReadyH.nil
            go_simp
            refine (cd.out _).mono ?_; rintro e w24 ⟨rfl, hb24⟩
            go_wp2_with fail
            refine hK.out _ _ (mk20 _ (hnext hS23.1 hb24)) (fun hS24 => ?_)
            clear hK K
            (try simp only [Act.put, List.setIfInBounds_toArray, List.set_cons_zero, List.set_cons_succ])
            clear hb24 hS23
            refine wpAnyH_take (i := 12) (oi := ({ dst := some 38, op := Op.binOp BinOp.eql 3 (Operand.tmp 34) (Operand.tmp 37) 3, type := 4, pos := "law.go:31", after := #[{ on := 8, ground := Ground.data }, { on := 11, ground := Ground.data }, { on := 5, ground := Ground.guard }], guard := some (5, true) } : Oper)) (v := ?_) rfl (by kernel_rfl) (by kernel_rfl) (by kernel_rfl) (fun _ _ _ h => h) (Or.inl ⟨by rfl, ?_⟩) hS24 ?_
            rotate_left
            · intro w hSw; (try dsimp only at hSw); go_simp; (try with_reducible rfl)
            simp only [Act.put, List.setIfInBounds_toArray, List.set_cons_zero, List.set_cons_succ]
            refine wpAnyH_take (i := 13) (oi := ({ dst := some 39, op := Op.pick (Operand.tmp 31) (Operand.tmp 38) (Operand.const (Value.bool false)), type := 4, pos := "law.go:31", after := #[{ on := 5, ground := Ground.data }, { on := 12, ground := Ground.data }], guard := none } : Oper)) (v := ?_) rfl (by kernel_rfl) (by kernel_rfl) (by kernel_rfl) (fun _ _ _ h => h) (Or.inl ⟨by rfl, ?_⟩) hS24 ?_
            rotate_left
            · intro w hSw; (try dsimp only at hSw); go_simp; (try with_reducible rfl)
            simp only [Act.put, List.setIfInBounds_toArray, List.set_cons_zero, List.set_cons_succ]
            refine wpAnyH_take (i := 14) (oi := ({ dst := some 40, op := Op.move (Operand.tmp 39), type := 4, pos := "law.go:31", after := #[{ on := 13, ground := Ground.data }, { on := 11, ground := Ground.chain }], guard := none } : Oper)) (v := ?_) rfl (by kernel_rfl) (by kernel_rfl) (by kernel_rfl) (fun _ _ _ h => h) (Or.inl ⟨by rfl, ?_⟩) hS24 ?_
            rotate_left
            · intro w hSw; (try dsimp only at hSw); go_simp; (try with_reducible rfl)
            simp only [Act.put, List.setIfInBounds_toArray, List.set_cons_zero, List.set_cons_succ]
            refine wpAnyH_take (i := 15) (oi := ({ dst := some 41, op := Op.load 24 (Operand.tmp 2), type := 24, pos := "law.go:31", after := #[{ on := 14, ground := Ground.guard }], guard := some (14, true) } : Oper)) (v := ?_) rfl (by kernel_rfl) (by kernel_rfl) (by kernel_rfl) (fun _ _ _ h => h) (Or.inl ⟨by rfl, ?_⟩) hS24 ?_
            rotate_left
            · intro w hSw; (try dsimp only at hSw); go_simp; (try with_reducible rfl)
            simp only [Act.put, List.setIfInBounds_toArray, List.set_cons_zero, List.set_cons_succ]
            refine wpAnyH_take (i := 16) (oi := ({ dst := some 42, op := Op.load 24 (Operand.tmp 3), type := 24, pos := "law.go:31", after := #[{ on := 14, ground := Ground.guard }], guard := some (14, true) } : Oper)) (v := ?_) rfl (by kernel_rfl) (by kernel_rfl) (by kernel_rfl) (fun _ _ _ h => h) (Or.inl ⟨by rfl, ?_⟩) hS24 ?_
            rotate_left
            · intro w hSw; (try dsimp only at hSw); go_simp; (try with_reducible rfl)
            simp only [Act.put, List.setIfInBounds_toArray, List.set_cons_zero, List.set_cons_succ]
            refine wpAnyH_take (i := 18) (oi := ({ dst := some 44, op := Op.load 24 (Operand.tmp 2), type := 24, pos := "law.go:31", after := #[{ on := 14, ground := Ground.guard }], guard := some (14, true) } : Oper)) (v := ?_) rfl (by kernel_rfl) (by kernel_rfl) (by kernel_rfl) (fun _ _ _ h => h) (Or.inl ⟨by rfl, ?_⟩) hS24 ?_
            rotate_left
            · intro w hSw; (try dsimp only at hSw); go_simp; (try with_reducible rfl)
            simp only [Act.put, List.setIfInBounds_toArray, List.set_cons_zero, List.set_cons_succ]
            refine wpAnyH_ready (rs := [17]) (by kernel_rfl) (by simp) ?_
            refine AllReadyH.cons (o := ({ dst := some 43, op := Op.call { callee := Callee.value (Operand.func 15), args := #[Operand.tmp 41, Operand.tmp 42], argTypes := #[24, 24] }, type := 4, pos := "law.go:31", after := #[{ on := 15, ground := Ground.data }, { on := 16, ground := Ground.data }, { on := 14, ground := Ground.chain }, { on := 14, ground := Ground.guard }], guard := some (14, true) } : Oper)) rfl (fun K hK => ?_) AllReadyH.nil
            go_simp
            refine (cs.out _).mono ?_; rintro e w25 ⟨rfl, hb25⟩
            go_wp2_with fail
            refine hK.out _ _ (mk20 _ (hnext hS24.1 hb25)) (fun hS25 => ?_)
            clear hK K
            (try simp only [Act.put, List.setIfInBounds_toArray, List.set_cons_zero, List.set_cons_succ])
            clear hb25 hS24
            refine wpAnyH_ready (rs := [19]) (by kernel_rfl) (by simp) ?_
            refine AllReadyH.cons (o := ({ dst := some 45, op := Op.call { callee := Callee.value (Operand.func 11), args := #[Operand.tmp 44], argTypes := #[24] }, type := 4, pos := "law.go:31", after := #[{ on := 18, ground := Ground.data }, { on := 17, ground := Ground.chain }, { on := 14, ground := Ground.guard }], guard := some (14, true) } : Oper)) rfl (fun K hK => ?_) AllReadyH.nil
            go_simp
            refine (su.out _).mono ?_; rintro e w26 ⟨rfl, hb26⟩
            go_wp2_with fail
            refine hK.out _ _ (mk20 _ (hnext hS25.1 hb26)) (fun hS26 => ?_)
            clear hK K
            (try simp only [Act.put, List.setIfInBounds_toArray, List.set_cons_zero, List.set_cons_succ])
            clear hb26 hS25
            refine wpAnyH_take (i := 20) (oi := ({ dst := some 46, op := Op.move (Operand.tmp 45), type := 4, pos := "law.go:31", after := #[{ on := 19, ground := Ground.data }, { on := 19, ground := Ground.chain }, { on := 14, ground := Ground.guard }], guard := some (14, true) } : Oper)) (v := ?_) rfl (by kernel_rfl) (by kernel_rfl) (by kernel_rfl) (fun _ _ _ h => h) (Or.inl ⟨by rfl, ?_⟩) hS26 ?_
            rotate_left
            · intro w hSw; (try dsimp only at hSw); go_simp; (try with_reducible rfl)
            simp only [Act.put, List.setIfInBounds_toArray, List.set_cons_zero, List.set_cons_succ]
            refine wpAnyH_take (i := 21) (oi := ({ dst := some 47, op := Op.load 24 (Operand.tmp 3), type := 24, pos := "law.go:31", after := #[{ on := 20, ground := Ground.guard }], guard := some (20, true) } : Oper)) (v := ?_) rfl (by kernel_rfl) (by kernel_rfl) (by kernel_rfl) (fun _ _ _ h => h) (Or.inl ⟨by rfl, ?_⟩) hS26 ?_
            rotate_left
            · intro w hSw; (try dsimp only at hSw); go_simp; (try with_reducible rfl)
            simp only [Act.put, List.setIfInBounds_toArray, List.set_cons_zero, List.set_cons_succ]
            refine wpAnyH_ready (rs := [22]) (by kernel_rfl) (by simp) ?_
            refine AllReadyH.cons (o := ({ dst := some 48, op := Op.call { callee := Callee.value (Operand.func 11), args := #[Operand.tmp 47], argTypes := #[24] }, type := 4, pos := "law.go:31", after := #[{ on := 21, ground := Ground.data }, { on := 20, ground := Ground.chain }, { on := 20, ground := Ground.guard }], guard := some (20, true) } : Oper)) rfl (fun K hK => ?_) AllReadyH.nil
            go_simp
            refine (sv.out _).mono ?_; rintro e w27 ⟨rfl, hb27⟩
            go_wp2_with fail
            refine hK.out _ _ (mk20 _ (hnext hS26.1 hb27)) (fun hS27 => ?_)
            clear hK K
            (try simp only [Act.put, List.setIfInBounds_toArray, List.set_cons_zero, List.set_cons_succ])
            clear hb27 hS26
            refine wpAnyH_take (i := 23) (oi := ({ dst := some 49, op := Op.pick (Operand.tmp 46) (Operand.tmp 48) (Operand.const (Value.bool false)), type := 4, pos := "law.go:31", after := #[{ on := 20, ground := Ground.data }, { on := 22, ground := Ground.data }, { on := 14, ground := Ground.guard }], guard := some (14, true) } : Oper)) (v := ?_) rfl (by kernel_rfl) (by kernel_rfl) (by kernel_rfl) (fun _ _ _ h => h) (Or.inl ⟨by rfl, ?_⟩) hS27 ?_
            rotate_left
            · intro w hSw; (try dsimp only at hSw); go_simp; (try with_reducible rfl)
            simp only [Act.put, List.setIfInBounds_toArray, List.set_cons_zero, List.set_cons_succ]
            refine wpAnyH_take (i := 24) (oi := ({ dst := some 50, op := Op.move (Operand.tmp 49), type := 4, pos := "law.go:31", after := #[{ on := 23, ground := Ground.data }, { on := 22, ground := Ground.chain }, { on := 14, ground := Ground.guard }], guard := some (14, true) } : Oper)) (v := ?_) rfl (by kernel_rfl) (by kernel_rfl) (by kernel_rfl) (fun _ _ _ h => h) (Or.inl ⟨by rfl, ?_⟩) hS27 ?_
            rotate_left
            · intro w hSw; (try dsimp only at hSw); go_simp; (try with_reducible rfl)
            simp only [Act.put, List.setIfInBounds_toArray, List.set_cons_zero, List.set_cons_succ]
            refine wpAnyH_take (i := 25) (oi := ({ dst := some 51, op := Op.load 24 (Operand.tmp 2), type := 24, pos := "law.go:31", after := #[{ on := 24, ground := Ground.guard }], guard := some (24, true) } : Oper)) (v := ?_) rfl (by kernel_rfl) (by kernel_rfl) (by kernel_rfl) (fun _ _ _ h => h) (Or.inl ⟨by rfl, ?_⟩) hS27 ?_
            rotate_left
            · intro w hSw; (try dsimp only at hSw); go_simp; (try with_reducible rfl)
            simp only [Act.put, List.setIfInBounds_toArray, List.set_cons_zero, List.set_cons_succ]
            refine wpAnyH_take (i := 26) (oi := ({ dst := some 52, op := Op.load 24 (Operand.tmp 3), type := 24, pos := "law.go:31", after := #[{ on := 24, ground := Ground.guard }], guard := some (24, true) } : Oper)) (v := ?_) rfl (by kernel_rfl) (by kernel_rfl) (by kernel_rfl) (fun _ _ _ h => h) (Or.inl ⟨by rfl, ?_⟩) hS27 ?_
            rotate_left
            · intro w hSw; (try dsimp only at hSw); go_simp; (try with_reducible rfl)
            simp only [Act.put, List.setIfInBounds_toArray, List.set_cons_zero, List.set_cons_succ]
            refine wpAnyH_take (i := 27) (oi := ({ dst := some 53, op := Op.binOp BinOp.eql 24 (Operand.tmp 51) (Operand.tmp 52) 24, type := 4, pos := "law.go:31", after := #[{ on := 25, ground := Ground.data }, { on := 26, ground := Ground.data }, { on := 24, ground := Ground.guard }], guard := some (24, true) } : Oper)) (v := ?_) rfl (by kernel_rfl) (by kernel_rfl) (by kernel_rfl) (fun _ _ _ h => h) (Or.inl ⟨by rfl, ?_⟩) hS27 ?_
            rotate_left
            · intro w hSw; (try dsimp only at hSw); go_simp; (try with_reducible rfl)
            simp only [Act.put, List.setIfInBounds_toArray, List.set_cons_zero, List.set_cons_succ]
            refine wpAnyH_take (i := 28) (oi := ({ dst := some 54, op := Op.pick (Operand.tmp 50) (Operand.tmp 53) (Operand.const (Value.bool false)), type := 4, pos := "law.go:31", after := #[{ on := 24, ground := Ground.data }, { on := 27, ground := Ground.data }, { on := 14, ground := Ground.guard }], guard := some (14, true) } : Oper)) (v := ?_) rfl (by kernel_rfl) (by kernel_rfl) (by kernel_rfl) (fun _ _ _ h => h) (Or.inl ⟨by rfl, ?_⟩) hS27 ?_
            rotate_left
            · intro w hSw; (try dsimp only at hSw); go_simp; (try with_reducible rfl)
            simp only [Act.put, List.setIfInBounds_toArray, List.set_cons_zero, List.set_cons_succ]
            refine wpAnyH_take (i := 29) (oi := ({ dst := some 55, op := Op.binOp BinOp.eql 4 (Operand.tmp 43) (Operand.tmp 54) 4, type := 4, pos := "law.go:31", after := #[{ on := 17, ground := Ground.data }, { on := 28, ground := Ground.data }, { on := 14, ground := Ground.guard }], guard := some (14, true) } : Oper)) (v := ?_) rfl (by kernel_rfl) (by kernel_rfl) (by kernel_rfl) (fun _ _ _ h => h) (Or.inl ⟨by rfl, ?_⟩) hS27 ?_
            rotate_left
            · intro w hSw; (try dsimp only at hSw); go_simp; (try with_reducible rfl)
            simp only [Act.put, List.setIfInBounds_toArray, List.set_cons_zero, List.set_cons_succ]
            refine wpAnyH_take (i := 30) (oi := ({ dst := some 56, op := Op.pick (Operand.tmp 40) (Operand.tmp 55) (Operand.const (Value.bool false)), type := 4, pos := "law.go:31", after := #[{ on := 14, ground := Ground.data }, { on := 29, ground := Ground.data }], guard := none } : Oper)) (v := ?_) rfl (by kernel_rfl) (by kernel_rfl) (by kernel_rfl) (fun _ _ _ h => h) (Or.inl ⟨by rfl, ?_⟩) hS27 ?_
            rotate_left
            · intro w hSw; (try dsimp only at hSw); go_simp; (try with_reducible rfl)
            simp only [Act.put, List.setIfInBounds_toArray, List.set_cons_zero, List.set_cons_succ]
            refine wpAnyH_take (i := 31) (oi := ({ dst := some 57, op := Op.move (Operand.tmp 56), type := 4, pos := "law.go:31", after := #[{ on := 30, ground := Ground.data }, { on := 24, ground := Ground.chain }], guard := none } : Oper)) (v := ?_) rfl (by kernel_rfl) (by kernel_rfl) (by kernel_rfl) (fun _ _ _ h => h) (Or.inl ⟨by rfl, ?_⟩) hS27 ?_
            rotate_left
            · intro w hSw; (try dsimp only at hSw); go_simp; (try with_reducible rfl)
            simp only [Act.put, List.setIfInBounds_toArray, List.set_cons_zero, List.set_cons_succ]
            refine wpAnyH_take (i := 32) (oi := ({ dst := some 58, op := Op.load 24 (Operand.tmp 2), type := 24, pos := "law.go:31", after := #[{ on := 31, ground := Ground.guard }], guard := some (31, true) } : Oper)) (v := ?_) rfl (by kernel_rfl) (by kernel_rfl) (by kernel_rfl) (fun _ _ _ h => h) (Or.inl ⟨by rfl, ?_⟩) hS27 ?_
            rotate_left
            · intro w hSw; (try dsimp only at hSw); go_simp; (try with_reducible rfl)
            simp only [Act.put, List.setIfInBounds_toArray, List.set_cons_zero, List.set_cons_succ]
            refine wpAnyH_take (i := 34) (oi := ({ dst := some 60, op := Op.load 24 (Operand.tmp 2), type := 24, pos := "law.go:31", after := #[{ on := 31, ground := Ground.guard }], guard := some (31, true) } : Oper)) (v := ?_) rfl (by kernel_rfl) (by kernel_rfl) (by kernel_rfl) (fun _ _ _ h => h) (Or.inl ⟨by rfl, ?_⟩) hS27 ?_
            rotate_left
            · intro w hSw; (try dsimp only at hSw); go_simp; (try with_reducible rfl)
            simp only [Act.put, List.setIfInBounds_toArray, List.set_cons_zero, List.set_cons_succ]
            refine wpAnyH_ready (rs := [33]) (by kernel_rfl) (by simp) ?_
            refine AllReadyH.cons (o := ({ dst := some 59, op := Op.call { callee := Callee.value (Operand.func 16), args := #[Operand.tmp 58], argTypes := #[24] }, type := 9, pos := "law.go:31", after := #[{ on := 32, ground := Ground.data }, { on := 31, ground := Ground.chain }, { on := 31, ground := Ground.guard }], guard := some (31, true) } : Oper)) rfl (fun K hK => ?_) AllReadyH.nil
            go_simp
            refine (csh.out _).mono ?_; rintro e w28 ⟨rfl, hb28⟩
            go_wp2_with fail
            refine hK.out _ _ (mk20 _ (hnext hS27.1 hb28)) (fun hS28 => ?_)
            clear hK K
            (try simp only [Act.put, List.setIfInBounds_toArray, List.set_cons_zero, List.set_cons_succ])
            clear hb28 hS27
            refine wpAnyH_ready (rs := [35]) (by kernel_rfl) (by simp) ?_
            refine AllReadyH.cons (o := ({ dst := some 61, op := Op.call { callee := Callee.value (Operand.func 17), args := #[Operand.tmp 60], argTypes := #[24] }, type := 9, pos := "law.go:31", after := #[{ on := 34, ground := Ground.data }, { on := 33, ground := Ground.chain }, { on := 31, ground := Ground.guard }], guard := some (31, true) } : Oper)) rfl (fun K hK => ?_) AllReadyH.nil
            go_simp
            refine (csr.out _).mono ?_; rintro e w29 ⟨rfl, hb29⟩
            go_wp2_with fail
            refine hK.out _ _ (mk20 _ (hnext hS28.1 hb29)) (fun hS29 => ?_)
            clear hK K
            (try simp only [Act.put, List.setIfInBounds_toArray, List.set_cons_zero, List.set_cons_succ])
            clear hb29 hS28
            refine wpAnyH_take (i := 36) (oi := ({ dst := some 62, op := Op.binOp BinOp.eql 9 (Operand.tmp 59) (Operand.tmp 61) 9, type := 4, pos := "law.go:31", after := #[{ on := 33, ground := Ground.data }, { on := 35, ground := Ground.data }, { on := 31, ground := Ground.guard }], guard := some (31, true) } : Oper)) (v := ?_) rfl (by kernel_rfl) (by kernel_rfl) (by kernel_rfl) (fun _ _ _ h => h) (Or.inl ⟨by rfl, ?_⟩) hS29 ?_
            rotate_left
            · intro w hSw; (try dsimp only at hSw); go_simp; (try with_reducible rfl)
            simp only [Act.put, List.setIfInBounds_toArray, List.set_cons_zero, List.set_cons_succ]
            refine wpAnyH_take (i := 37) (oi := ({ dst := some 63, op := Op.pick (Operand.tmp 57) (Operand.tmp 62) (Operand.const (Value.bool false)), type := 4, pos := "law.go:31", after := #[{ on := 31, ground := Ground.data }, { on := 36, ground := Ground.data }], guard := none } : Oper)) (v := ?_) rfl (by kernel_rfl) (by kernel_rfl) (by kernel_rfl) (fun _ _ _ h => h) (Or.inl ⟨by rfl, ?_⟩) hS29 ?_
            rotate_left
            · intro w hSw; (try dsimp only at hSw); go_simp; (try with_reducible rfl)
            simp only [Act.put, List.setIfInBounds_toArray, List.set_cons_zero, List.set_cons_succ]
            refine wpAnyH_take (i := 38) (oi := ({ dst := some 64, op := Op.move (Operand.tmp 63), type := 4, pos := "law.go:31", after := #[{ on := 37, ground := Ground.data }, { on := 35, ground := Ground.chain }], guard := none } : Oper)) (v := ?_) rfl (by kernel_rfl) (by kernel_rfl) (by kernel_rfl) (fun _ _ _ h => h) (Or.inl ⟨by rfl, ?_⟩) hS29 ?_
            rotate_left
            · intro w hSw; (try dsimp only at hSw); go_simp; (try with_reducible rfl)
            simp only [Act.put, List.setIfInBounds_toArray, List.set_cons_zero, List.set_cons_succ]
            refine wpAnyH_take (i := 39) (oi := ({ dst := some 65, op := Op.load 24 (Operand.tmp 2), type := 24, pos := "law.go:31", after := #[{ on := 38, ground := Ground.guard }], guard := some (38, true) } : Oper)) (v := ?_) rfl (by kernel_rfl) (by kernel_rfl) (by kernel_rfl) (fun _ _ _ h => h) (Or.inl ⟨by rfl, ?_⟩) hS29 ?_
            rotate_left
            · intro w hSw; (try dsimp only at hSw); go_simp; (try with_reducible rfl)
            simp only [Act.put, List.setIfInBounds_toArray, List.set_cons_zero, List.set_cons_succ]
            refine wpAnyH_take (i := 41) (oi := ({ dst := some 67, op := Op.move (Operand.tmp 5), type := 3, pos := "law.go:31", after := #[{ on := 38, ground := Ground.guard }], guard := some (38, true) } : Oper)) (v := ?_) rfl (by kernel_rfl) (by kernel_rfl) (by kernel_rfl) (fun _ _ _ h => h) (Or.inl ⟨by rfl, ?_⟩) hS29 ?_
            rotate_left
            · intro w hSw; (try dsimp only at hSw); go_simp; (try with_reducible rfl)
            simp only [Act.put, List.setIfInBounds_toArray, List.set_cons_zero, List.set_cons_succ]
            refine wpAnyH_ready (rs := [40]) (by kernel_rfl) (by simp) ?_
            refine AllReadyH.cons (o := ({ dst := some 66, op := Op.call { callee := Callee.value (Operand.func 18), args := #[Operand.tmp 65], argTypes := #[24] }, type := 3, pos := "law.go:31", after := #[{ on := 39, ground := Ground.data }, { on := 38, ground := Ground.chain }, { on := 38, ground := Ground.guard }], guard := some (38, true) } : Oper)) rfl (fun K hK => ?_) AllReadyH.nil
            go_simp
            refine (ct.out _).mono ?_; rintro e w30 ⟨rfl, hb30⟩
            go_wp2_with fail
            refine hK.out _ _ (mk20 _ (hnext hS29.1 hb30)) (fun hS30 => ?_)
            clear hK K
            (try simp only [Act.put, List.setIfInBounds_toArray, List.set_cons_zero, List.set_cons_succ])
            clear hb30 hS29
            refine wpAnyH_take (i := 42) (oi := ({ dst := some 68, op := Op.binOp BinOp.eql 3 (Operand.tmp 66) (Operand.tmp 67) 3, type := 4, pos := "law.go:31", after := #[{ on := 40, ground := Ground.data }, { on := 41, ground := Ground.data }, { on := 38, ground := Ground.guard }], guard := some (38, true) } : Oper)) (v := ?_) rfl (by kernel_rfl) (by kernel_rfl) (by kernel_rfl) (fun _ _ _ h => h) (Or.inl ⟨by rfl, ?_⟩) hS30 ?_
            rotate_left
            · intro w hSw; (try dsimp only at hSw); go_simp; (try with_reducible rfl)
            simp only [Act.put, List.setIfInBounds_toArray, List.set_cons_zero, List.set_cons_succ]
            refine wpAnyH_take (i := 43) (oi := ({ dst := some 69, op := Op.pick (Operand.tmp 64) (Operand.tmp 68) (Operand.const (Value.bool false)), type := 4, pos := "law.go:31", after := #[{ on := 38, ground := Ground.data }, { on := 42, ground := Ground.data }], guard := none } : Oper)) (v := ?_) rfl (by kernel_rfl) (by kernel_rfl) (by kernel_rfl) (fun _ _ _ h => h) (Or.inl ⟨by rfl, ?_⟩) hS30 ?_
            rotate_left
            · intro w hSw; (try dsimp only at hSw); go_simp; (try with_reducible rfl)
            simp only [Act.put, List.setIfInBounds_toArray, List.set_cons_zero, List.set_cons_succ]
            refine wpAnyH_take (i := 44) (oi := ({ dst := some 70, op := Op.move (Operand.tmp 69), type := 4, pos := "law.go:31", after := #[{ on := 43, ground := Ground.data }, { on := 40, ground := Ground.chain }], guard := none } : Oper)) (v := ?_) rfl (by kernel_rfl) (by kernel_rfl) (by kernel_rfl) (fun _ _ _ h => h) (Or.inl ⟨by rfl, ?_⟩) hS30 ?_
            rotate_left
            · intro w hSw; (try dsimp only at hSw); go_simp; (try with_reducible rfl)
            simp only [Act.put, List.setIfInBounds_toArray, List.set_cons_zero, List.set_cons_succ]
            refine wpAnyH_ready (rs := [45]) (by kernel_rfl) (by simp) ?_
            refine AllReadyH.cons (o := ({ dst := some 71, op := Op.call { callee := Callee.value (Operand.func 10), args := #[], argTypes := #[] }, type := 4, pos := "law.go:31", after := #[{ on := 44, ground := Ground.chain }, { on := 44, ground := Ground.guard }], guard := some (44, true) } : Oper)) rfl (fun K hK => ?_) AllReadyH.nil
            go_simp
            refine (known_any _).mono ?_; rintro e w31 ⟨rfl, hb31⟩
            go_wp2_with fail
            refine hK.out _ _ (mk20 _ (hnext hS30.1 hb31)) (fun hS31 => ?_)
            clear hK K
            (try simp only [Act.put, List.setIfInBounds_toArray, List.set_cons_zero, List.set_cons_succ])
            clear hb31 hS30
            refine wpAnyH_take (i := 46) (oi := ({ dst := some 72, op := Op.pick (Operand.tmp 70) (Operand.tmp 71) (Operand.const (Value.bool false)), type := 4, pos := "law.go:31", after := #[{ on := 44, ground := Ground.data }, { on := 45, ground := Ground.data }], guard := none } : Oper)) (v := ?_) rfl (by kernel_rfl) (by kernel_rfl) (by kernel_rfl) (fun _ _ _ h => h) (Or.inl ⟨by rfl, ?_⟩) hS31 ?_
            rotate_left
            · intro w hSw; (try dsimp only at hSw); go_simp; (try with_reducible rfl)
            simp only [Act.put, List.setIfInBounds_toArray, List.set_cons_zero, List.set_cons_succ]
            refine wpAnyH_take (i := 47) (oi := ({ dst := some 4, op := Op.assign (Operand.tmp 72), type := 4, pos := "law.go:31", after := #[{ on := 46, ground := Ground.data }, { on := 45, ground := Ground.chain }, { on := 0, ground := Ground.phase }, { on := 1, ground := Ground.phase }, { on := 2, ground := Ground.phase }, { on := 3, ground := Ground.phase }, { on := 4, ground := Ground.phase }, { on := 5, ground := Ground.phase }, { on := 6, ground := Ground.phase }, { on := 7, ground := Ground.phase }, { on := 8, ground := Ground.phase }, { on := 9, ground := Ground.phase }, { on := 10, ground := Ground.phase }, { on := 11, ground := Ground.phase }, { on := 12, ground := Ground.phase }, { on := 13, ground := Ground.phase }, { on := 14, ground := Ground.phase }, { on := 15, ground := Ground.phase }, { on := 16, ground := Ground.phase }, { on := 17, ground := Ground.phase }, { on := 18, ground := Ground.phase }, { on := 19, ground := Ground.phase }, { on := 20, ground := Ground.phase }, { on := 21, ground := Ground.phase }, { on := 22, ground := Ground.phase }, { on := 23, ground := Ground.phase }, { on := 24, ground := Ground.phase }, { on := 25, ground := Ground.phase }, { on := 26, ground := Ground.phase }, { on := 27, ground := Ground.phase }, { on := 28, ground := Ground.phase }, { on := 29, ground := Ground.phase }, { on := 30, ground := Ground.phase }, { on := 31, ground := Ground.phase }, { on := 32, ground := Ground.phase }, { on := 33, ground := Ground.phase }, { on := 34, ground := Ground.phase }, { on := 35, ground := Ground.phase }, { on := 36, ground := Ground.phase }, { on := 37, ground := Ground.phase }, { on := 38, ground := Ground.phase }, { on := 39, ground := Ground.phase }, { on := 40, ground := Ground.phase }, { on := 41, ground := Ground.phase }, { on := 42, ground := Ground.phase }, { on := 43, ground := Ground.phase }, { on := 44, ground := Ground.phase }, { on := 45, ground := Ground.phase }, { on := 46, ground := Ground.phase }], guard := none } : Oper)) (v := ?_) rfl (by kernel_rfl) (by kernel_rfl) (by kernel_rfl) (fun _ _ _ h => h) (Or.inl ⟨by rfl, ?_⟩) hS31 ?_
            rotate_left
            · intro w hSw; (try dsimp only at hSw); go_simp; (try with_reducible rfl)
            simp only [Act.put, List.setIfInBounds_toArray, List.set_cons_zero, List.set_cons_succ]
            refine wpAnyH_done (by kernel_rfl) ?_ _
            go_wp2_with fail
            go_ret
            exact ⟨rfl, hnext L1.out (hnext hd20 hS31.1)⟩
end Go.Proofs.Ytgdegoacjobpdaa
