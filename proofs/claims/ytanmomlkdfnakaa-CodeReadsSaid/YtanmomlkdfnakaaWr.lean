/-
  CodeWrites answers true at any numbers, text and values. No condition.
-/
import Derived.Test.YtanmomlkdfnakaaOp
namespace Go.Proofs.Ytanmomlkdfnakaa
open Go.RowKit

theorem int_of_u64 (z : Nat) : ∃ m : Int, IntKind.i64.wrap (z : Int) = m ∧ -9223372036854775808 ≤ m ∧ m ≤ 9223372036854775807 := by
  refine ⟨_, rfl, ?_⟩
  rw [IntKind.wrap_i64]
  omega
theorem rowOk_length {l : List Cd.V} (h : rowOk l = true) : l.length ≤ 60 := by
  unfold rowOk at h
  rw [Bool.and_eq_true] at h
  exact of_decide_eq_true h.1
theorem beq_self (A : ByteArray) : (A.toList == A.toList) = true := by rw [Go.Lib.bytes_beq_iff]
set_option maxRecDepth 100000 in
set_option maxHeartbeats 1600000 in
theorem codeWrites_walk (z0 z1 : Int) (s : ByteArray) (v : Value) (l : List Cd.V) (w : World) (hz : (Lit.int .u64 z0).wf = true ∧ (Lit.int .u64 z1).wf = true) (hs : s.size ≤ maxLen) (hl : l.length ≤ maxLen ∧ VsAt w v l ∧ ∀ x ∈ l, Vok x) :
    Calls Try.prog 3 #[.agg #[.int .u64 z0, .int .u64 z1], .string s, v] w fun e w' => e = .returned (.bool true) ∧ Below w.heap.size w w' := by
  obtain ⟨n, rfl, hn⟩ := u64_of hz.1
  obtain ⟨z, rfl, hz1⟩ := u64_of hz.2
  obtain ⟨m, hm, hm0, hm1⟩ := int_of_u64 z
  obtain ⟨hmax, hv, hok⟩ := hl
  have HV := hid hv
  have HOK := hid hok
  unfold maxLen at hs
  have cB := hba w (.cells #[.int .u64 (n : Int), .int .u64 (z : Int)] 23)
  have CB := hid cB
  clear hz hmax hv hok cB hz1
  by_cases h : s.size ≤ 2000
  · cases hrow : rowOk l with
    | false =>
      have HR := hid (fun W h => lawrow_any v l W h)
      rw [hrow] at HR
      clear hrow
      have h2 : ¬ (2000 : Int) < s.size := by omega
      go_enter Try.func3, Try.ntmps3
      go_wp2_with fail
      refine (HR.out _ (HV.out.below CB.out)).mono ?_; rintro e w1 ⟨rfl, rfl⟩
      go_wp2_with fail
      refine (known_any _).mono ?_; rintro e w3 ⟨rfl, b3⟩
      go_wp2
      go_ret
      exact ⟨rfl, hnext CB.out b3⟩
    | true =>
      have HR := hid (fun W h => lawrow_any v l W h)
      rw [hrow] at HR
      have hlen : l.length ≤ 1000000 := by have := rowOk_length hrow; omega
      clear hrow
      have h2 : ¬ (2000 : Int) < s.size := by omega
      have c1 := hid (fun W => uint_any n hn W)
      have c2 := hid (fun W => uintR_exact n hn W)
      have c3 := hid (fun W => int_any m hm0 hm1 W)
      have c4 := hid (fun W => intR_any m hm0 hm1 W)
      have c5 := hid (fun W => text_any s (by omega) W)
      have c6 := hid (fun W => textR_any s (by omega) W)
      have c7 := hid (fun W => value_any 3 0 n ⟨#[]⟩ (by decide) (by decide) (by decide) hn W)
      have c8 := hid (fun W => valueR_any 3 0 n ⟨#[]⟩ (by decide) (by decide) (by decide) hn W)
      have c9 := hid (fun W h => row_any v l W h HOK.out hlen)
      have c10 := hid (fun W h => rowR_any v l W h HOK.out hlen)
      generalize bstr (Cd.enc n) = A1 at *
      generalize bstr (Cd.enc (Cd.zig m)) = A2 at *
      generalize bstr (Cd.text s) = A3 at *
      generalize bstr (Cd.value 3 0 n ⟨#[]⟩) = A4 at *
      generalize bstr (Cd.row l) = A5 at *
      clear HOK hlen
      unfold vv at c7 c8
      go_enter Try.func3, Try.ntmps3
      go_wp2_with fail
      refine (HR.out _ (HV.out.below CB.out)).mono ?_; rintro e w1 ⟨rfl, hw1⟩
      have D0 := CB.out
      rw [hw1] at D0
      have cV := hba w1 (.cells #[.int .i64 3, .int .i64 0, .int .u64 (n : Int), .string ⟨#[]⟩] 28)
      have D1 := hnext D0 cV
      have V0 := Var.new w1 #[.int .i64 3, .int .i64 0, .int .u64 (n : Int), .string ⟨#[]⟩] 28 rfl
      clear hw1 D0 cV
      go_wp2_with fail
      generalize (w1.alloc (.cells #[.int .i64 3, .int .i64 0, .int .u64 (n : Int), .string ⟨#[]⟩] 28)) = W1 at *
      generalize w1.heap.size = q at *
      obtain ⟨w20, hw20⟩ : ∃ w20, (W1).drew = w20 := ⟨_, rfl⟩
      have hd20 : Below (W1).heap.size (W1) w20 := hw20 ▸ (Below.refl _ _).drew
      have V20 := V0.keep hd20
      have DB := hid (hnext D1 hd20)
      have mk20 : ∀ W, Below w20.heap.size w20 W → Below w20.heap.size w20 W ∧ W.cell? ⟨q, 0, none⟩ = some (.int .i64 3) ∧ W.cell? ⟨q, 1, none⟩ = some (.int .i64 0) ∧ W.cell? ⟨q, 2, none⟩ = some (.int .u64 (n : Int)) ∧ W.cell? ⟨q, 3, none⟩ = some (.string ⟨#[]⟩) :=
        fun W h => ⟨h, hkeep (V20.cell 0) h, hkeep (V20.cell 1) h, hkeep (V20.cell 2) h, hkeep (V20.cell 3) h⟩
      clear D1 V0 V20 hd20
      replace DB := DB.out
      refine wp_region_held_drew (S := (fun W => Below w20.heap.size w20 W ∧ W.cell? ⟨q, 0, none⟩ = some (.int .i64 3) ∧ W.cell? ⟨q, 1, none⟩ = some (.int .i64 0) ∧ W.cell? ⟨q, 2, none⟩ = some (.int .u64 (n : Int)) ∧ W.cell? ⟨q, 3, none⟩ = some (.string ⟨#[]⟩))) (by kernel_rfl) (by rw [hw20]; exact mk20 _ (Below.refl _ _)) (fun hS20 => ?_)
      rw [hw20] at hS20 ⊢
      clear hw20
      refine wpAnyH_take (i := 0) (oi := ({ dst := some 26, op := Op.move (Operand.tmp 7), type := 22, pos := "law.go:50", after := #[], guard := none } : Oper)) (v := ?_) rfl (by kernel_rfl) (by kernel_rfl) (by kernel_rfl) (fun _ _ _ h => h) (Or.inl ⟨by rfl, ?_⟩) hS20 ?_
      rotate_left
      · intro w hSw; (try dsimp only at hSw); go_simp; (try with_reducible rfl)
      simp only [Act.put, List.setIfInBounds_toArray, List.set_cons_zero, List.set_cons_succ]
      refine wpAnyH_take (i := 2) (oi := ({ dst := some 28, op := Op.move (Operand.tmp 7), type := 22, pos := "law.go:50", after := #[], guard := none } : Oper)) (v := ?_) rfl (by kernel_rfl) (by kernel_rfl) (by kernel_rfl) (fun _ _ _ h => h) (Or.inl ⟨by rfl, ?_⟩) hS20 ?_
      rotate_left
      · intro w hSw; (try dsimp only at hSw); go_simp; (try with_reducible rfl)
      simp only [Act.put, List.setIfInBounds_toArray, List.set_cons_zero, List.set_cons_succ]
      refine wpAnyH_ready (rs := [1]) (by kernel_rfl) (by simp) ?_
      refine AllReadyH.cons (o := ({ dst := some 27, op := Op.call { callee := Callee.value (Operand.func 13), args := #[Operand.tmp 26], argTypes := #[22] }, type := 9, pos := "law.go:50", after := #[{ on := 0, ground := Ground.data }], guard := none } : Oper)) rfl (fun K hK => ?_) AllReadyH.nil
      go_simp
      refine (c1.out _).mono ?_; rintro e w21 ⟨rfl, hb21⟩
      go_wp2_with fail
      refine hK.out _ _ (mk20 _ (hnext hS20.1 hb21)) (fun hS21 => ?_)
      clear hK K
      (try simp only [Act.put, List.setIfInBounds_toArray, List.set_cons_zero, List.set_cons_succ])
      clear hb21 hS20
      refine wpAnyH_ready (rs := [3]) (by kernel_rfl) (by simp) ?_
      refine AllReadyH.cons (o := ({ dst := some 29, op := Op.call { callee := Callee.value (Operand.func 14), args := #[Operand.tmp 28], argTypes := #[22] }, type := 9, pos := "law.go:50", after := #[{ on := 2, ground := Ground.data }, { on := 1, ground := Ground.chain }], guard := none } : Oper)) rfl (fun K hK => ?_) AllReadyH.nil
      go_simp
      refine (c2.out _).mono ?_; rintro e w22 ⟨rfl, hb22⟩
      go_wp2_with fail
      refine hK.out _ _ (mk20 _ (hnext hS21.1 hb22)) (fun hS22 => ?_)
      clear hK K
      (try simp only [Act.put, List.setIfInBounds_toArray, List.set_cons_zero, List.set_cons_succ])
      clear hb22 hS21
      refine wpAnyH_take (i := 4) (oi := ({ dst := some 30, op := Op.binOp BinOp.eql 9 (Operand.tmp 27) (Operand.tmp 29) 9, type := 4, pos := "law.go:50", after := #[{ on := 1, ground := Ground.data }, { on := 3, ground := Ground.data }], guard := none } : Oper)) (v := ?_) rfl (by kernel_rfl) (by kernel_rfl) (by kernel_rfl) (fun _ _ _ h => h) (Or.inl ⟨by rfl, ?_⟩) hS22 ?_
      rotate_left
      · intro w hSw; (try dsimp only at hSw); go_simp; (try with_reducible rfl)
      simp only [Act.put, List.setIfInBounds_toArray, List.set_cons_zero, List.set_cons_succ]
      refine wpAnyH_take (i := 5) (oi := ({ dst := some 31, op := Op.move (Operand.tmp 30), type := 4, pos := "law.go:50", after := #[{ on := 4, ground := Ground.data }, { on := 3, ground := Ground.chain }], guard := none } : Oper)) (v := ?_) rfl (by kernel_rfl) (by kernel_rfl) (by kernel_rfl) (fun _ _ _ h => h) (Or.inl ⟨by rfl, ?_⟩) hS22 ?_
      rotate_left
      · intro w hSw; (try dsimp only at hSw); go_simp; (try with_reducible rfl)
      simp only [Act.put, List.setIfInBounds_toArray, List.set_cons_zero, List.set_cons_succ]
      refine wpAnyH_take (i := 6) (oi := ({ dst := some 32, op := Op.move (Operand.tmp 8), type := 3, pos := "law.go:50", after := #[{ on := 5, ground := Ground.guard }], guard := some (5, true) } : Oper)) (v := ?_) rfl (by kernel_rfl) (by kernel_rfl) (by kernel_rfl) (fun _ _ _ h => h) (Or.inl ⟨by rfl, ?_⟩) hS22 ?_
      rotate_left
      · intro w hSw; (try dsimp only at hSw); go_simp; (try with_reducible rfl)
      simp only [Act.put, List.setIfInBounds_toArray, List.set_cons_zero, List.set_cons_succ]
      refine wpAnyH_take (i := 8) (oi := ({ dst := some 34, op := Op.move (Operand.tmp 8), type := 3, pos := "law.go:50", after := #[{ on := 5, ground := Ground.guard }], guard := some (5, true) } : Oper)) (v := ?_) rfl (by kernel_rfl) (by kernel_rfl) (by kernel_rfl) (fun _ _ _ h => h) (Or.inl ⟨by rfl, ?_⟩) hS22 ?_
      rotate_left
      · intro w hSw; (try dsimp only at hSw); go_simp; (try with_reducible rfl)
      simp only [Act.put, List.setIfInBounds_toArray, List.set_cons_zero, List.set_cons_succ]
      refine wpAnyH_ready (rs := [7]) (by kernel_rfl) (by simp) ?_
      refine AllReadyH.cons (o := ({ dst := some 33, op := Op.call { callee := Callee.value (Operand.func 15), args := #[Operand.tmp 32], argTypes := #[3] }, type := 9, pos := "law.go:50", after := #[{ on := 6, ground := Ground.data }, { on := 5, ground := Ground.chain }, { on := 5, ground := Ground.guard }], guard := some (5, true) } : Oper)) rfl (fun K hK => ?_) AllReadyH.nil
      go_simp
      refine (c3.out _).mono ?_; rintro e w23 ⟨rfl, hb23⟩
      go_wp2_with fail
      refine hK.out _ _ (mk20 _ (hnext hS22.1 hb23)) (fun hS23 => ?_)
      clear hK K
      (try simp only [Act.put, List.setIfInBounds_toArray, List.set_cons_zero, List.set_cons_succ])
      clear hb23 hS22
      refine wpAnyH_ready (rs := [9]) (by kernel_rfl) (by simp) ?_
      refine AllReadyH.cons (o := ({ dst := some 35, op := Op.call { callee := Callee.value (Operand.func 16), args := #[Operand.tmp 34], argTypes := #[3] }, type := 9, pos := "law.go:50", after := #[{ on := 8, ground := Ground.data }, { on := 7, ground := Ground.chain }, { on := 5, ground := Ground.guard }], guard := some (5, true) } : Oper)) rfl (fun K hK => ?_) AllReadyH.nil
      go_simp
      refine (c4.out _).mono ?_; rintro e w24 ⟨rfl, hb24⟩
      go_wp2_with fail
      refine hK.out _ _ (mk20 _ (hnext hS23.1 hb24)) (fun hS24 => ?_)
      clear hK K
      (try simp only [Act.put, List.setIfInBounds_toArray, List.set_cons_zero, List.set_cons_succ])
      clear hb24 hS23
      refine wpAnyH_take (i := 10) (oi := ({ dst := some 36, op := Op.binOp BinOp.eql 9 (Operand.tmp 33) (Operand.tmp 35) 9, type := 4, pos := "law.go:50", after := #[{ on := 7, ground := Ground.data }, { on := 9, ground := Ground.data }, { on := 5, ground := Ground.guard }], guard := some (5, true) } : Oper)) (v := ?_) rfl (by kernel_rfl) (by kernel_rfl) (by kernel_rfl) (fun _ _ _ h => h) (Or.inl ⟨by rfl, ?_⟩) hS24 ?_
      rotate_left
      · intro w hSw; (try dsimp only at hSw); go_simp; (try with_reducible rfl)
      simp only [Act.put, List.setIfInBounds_toArray, List.set_cons_zero, List.set_cons_succ]
      refine wpAnyH_take (i := 11) (oi := ({ dst := some 37, op := Op.pick (Operand.tmp 31) (Operand.tmp 36) (Operand.const (Value.bool false)), type := 4, pos := "law.go:50", after := #[{ on := 5, ground := Ground.data }, { on := 10, ground := Ground.data }], guard := none } : Oper)) (v := ?_) rfl (by kernel_rfl) (by kernel_rfl) (by kernel_rfl) (fun _ _ _ h => h) (Or.inl ⟨by rfl, ?_⟩) hS24 ?_
      rotate_left
      · intro w hSw; (try dsimp only at hSw); go_simp; (try with_reducible rfl)
      simp only [Act.put, List.setIfInBounds_toArray, List.set_cons_zero, List.set_cons_succ]
      refine wpAnyH_take (i := 12) (oi := ({ dst := some 38, op := Op.move (Operand.tmp 37), type := 4, pos := "law.go:50", after := #[{ on := 11, ground := Ground.data }, { on := 9, ground := Ground.chain }], guard := none } : Oper)) (v := ?_) rfl (by kernel_rfl) (by kernel_rfl) (by kernel_rfl) (fun _ _ _ h => h) (Or.inl ⟨by rfl, ?_⟩) hS24 ?_
      rotate_left
      · intro w hSw; (try dsimp only at hSw); go_simp; (try with_reducible rfl)
      simp only [Act.put, List.setIfInBounds_toArray, List.set_cons_zero, List.set_cons_succ]
      refine wpAnyH_take (i := 13) (oi := ({ dst := some 39, op := Op.move (Operand.tmp 1), type := 9, pos := "law.go:50", after := #[{ on := 12, ground := Ground.guard }], guard := some (12, true) } : Oper)) (v := ?_) rfl (by kernel_rfl) (by kernel_rfl) (by kernel_rfl) (fun _ _ _ h => h) (Or.inl ⟨by rfl, ?_⟩) hS24 ?_
      rotate_left
      · intro w hSw; (try dsimp only at hSw); go_simp; (try with_reducible rfl)
      simp only [Act.put, List.setIfInBounds_toArray, List.set_cons_zero, List.set_cons_succ]
      refine wpAnyH_take (i := 15) (oi := ({ dst := some 41, op := Op.move (Operand.tmp 1), type := 9, pos := "law.go:50", after := #[{ on := 12, ground := Ground.guard }], guard := some (12, true) } : Oper)) (v := ?_) rfl (by kernel_rfl) (by kernel_rfl) (by kernel_rfl) (fun _ _ _ h => h) (Or.inl ⟨by rfl, ?_⟩) hS24 ?_
      rotate_left
      · intro w hSw; (try dsimp only at hSw); go_simp; (try with_reducible rfl)
      simp only [Act.put, List.setIfInBounds_toArray, List.set_cons_zero, List.set_cons_succ]
      refine wpAnyH_ready (rs := [14]) (by kernel_rfl) (by simp) ?_
      refine AllReadyH.cons (o := ({ dst := some 40, op := Op.call { callee := Callee.value (Operand.func 17), args := #[Operand.tmp 39], argTypes := #[9] }, type := 9, pos := "law.go:50", after := #[{ on := 13, ground := Ground.data }, { on := 12, ground := Ground.chain }, { on := 12, ground := Ground.guard }], guard := some (12, true) } : Oper)) rfl (fun K hK => ?_) AllReadyH.nil
      go_simp
      refine (c5.out _).mono ?_; rintro e w25 ⟨rfl, hb25⟩
      go_wp2_with fail
      refine hK.out _ _ (mk20 _ (hnext hS24.1 hb25)) (fun hS25 => ?_)
      clear hK K
      (try simp only [Act.put, List.setIfInBounds_toArray, List.set_cons_zero, List.set_cons_succ])
      clear hb25 hS24
      refine wpAnyH_ready (rs := [16]) (by kernel_rfl) (by simp) ?_
      refine AllReadyH.cons (o := ({ dst := some 42, op := Op.call { callee := Callee.value (Operand.func 18), args := #[Operand.tmp 41], argTypes := #[9] }, type := 9, pos := "law.go:50", after := #[{ on := 15, ground := Ground.data }, { on := 14, ground := Ground.chain }, { on := 12, ground := Ground.guard }], guard := some (12, true) } : Oper)) rfl (fun K hK => ?_) AllReadyH.nil
      go_simp
      refine (c6.out _).mono ?_; rintro e w26 ⟨rfl, hb26⟩
      go_wp2_with fail
      refine hK.out _ _ (mk20 _ (hnext hS25.1 hb26)) (fun hS26 => ?_)
      clear hK K
      (try simp only [Act.put, List.setIfInBounds_toArray, List.set_cons_zero, List.set_cons_succ])
      clear hb26 hS25
      refine wpAnyH_take (i := 17) (oi := ({ dst := some 43, op := Op.binOp BinOp.eql 9 (Operand.tmp 40) (Operand.tmp 42) 9, type := 4, pos := "law.go:50", after := #[{ on := 14, ground := Ground.data }, { on := 16, ground := Ground.data }, { on := 12, ground := Ground.guard }], guard := some (12, true) } : Oper)) (v := ?_) rfl (by kernel_rfl) (by kernel_rfl) (by kernel_rfl) (fun _ _ _ h => h) (Or.inl ⟨by rfl, ?_⟩) hS26 ?_
      rotate_left
      · intro w hSw; (try dsimp only at hSw); go_simp; (try with_reducible rfl)
      simp only [Act.put, List.setIfInBounds_toArray, List.set_cons_zero, List.set_cons_succ]
      refine wpAnyH_take (i := 18) (oi := ({ dst := some 44, op := Op.pick (Operand.tmp 38) (Operand.tmp 43) (Operand.const (Value.bool false)), type := 4, pos := "law.go:50", after := #[{ on := 12, ground := Ground.data }, { on := 17, ground := Ground.data }], guard := none } : Oper)) (v := ?_) rfl (by kernel_rfl) (by kernel_rfl) (by kernel_rfl) (fun _ _ _ h => h) (Or.inl ⟨by rfl, ?_⟩) hS26 ?_
      rotate_left
      · intro w hSw; (try dsimp only at hSw); go_simp; (try with_reducible rfl)
      simp only [Act.put, List.setIfInBounds_toArray, List.set_cons_zero, List.set_cons_succ]
      refine wpAnyH_take (i := 19) (oi := ({ dst := some 45, op := Op.move (Operand.tmp 44), type := 4, pos := "law.go:50", after := #[{ on := 18, ground := Ground.data }, { on := 16, ground := Ground.chain }], guard := none } : Oper)) (v := ?_) rfl (by kernel_rfl) (by kernel_rfl) (by kernel_rfl) (fun _ _ _ h => h) (Or.inl ⟨by rfl, ?_⟩) hS26 ?_
      rotate_left
      · intro w hSw; (try dsimp only at hSw); go_simp; (try with_reducible rfl)
      simp only [Act.put, List.setIfInBounds_toArray, List.set_cons_zero, List.set_cons_succ]
      refine wpAnyH_take (i := 20) (oi := ({ dst := some 46, op := Op.load 28 (Operand.tmp 9), type := 28, pos := "law.go:50", after := #[{ on := 19, ground := Ground.guard }], guard := some (19, true) } : Oper)) (v := ?_) rfl (by kernel_rfl) (by kernel_rfl) (by kernel_rfl) (fun _ _ _ h => h) (Or.inl ⟨by rfl, ?_⟩) hS26 ?_
      rotate_left
      · intro w hSw; (try dsimp only at hSw); go_simp; (try with_reducible rfl)
      simp only [Act.put, List.setIfInBounds_toArray, List.set_cons_zero, List.set_cons_succ]
      refine wpAnyH_take (i := 22) (oi := ({ dst := some 48, op := Op.load 28 (Operand.tmp 9), type := 28, pos := "law.go:50", after := #[{ on := 19, ground := Ground.guard }], guard := some (19, true) } : Oper)) (v := ?_) rfl (by kernel_rfl) (by kernel_rfl) (by kernel_rfl) (fun _ _ _ h => h) (Or.inl ⟨by rfl, ?_⟩) hS26 ?_
      rotate_left
      · intro w hSw; (try dsimp only at hSw); go_simp; (try with_reducible rfl)
      simp only [Act.put, List.setIfInBounds_toArray, List.set_cons_zero, List.set_cons_succ]
      refine wpAnyH_ready (rs := [21]) (by kernel_rfl) (by simp) ?_
      refine AllReadyH.cons (o := ({ dst := some 47, op := Op.call { callee := Callee.value (Operand.func 19), args := #[Operand.tmp 46], argTypes := #[28] }, type := 9, pos := "law.go:50", after := #[{ on := 20, ground := Ground.data }, { on := 19, ground := Ground.chain }, { on := 19, ground := Ground.guard }], guard := some (19, true) } : Oper)) rfl (fun K hK => ?_) AllReadyH.nil
      go_simp
      refine (c7.out _).mono ?_; rintro e w27 ⟨rfl, hb27⟩
      go_wp2_with fail
      refine hK.out _ _ (mk20 _ (hnext hS26.1 hb27)) (fun hS27 => ?_)
      clear hK K
      (try simp only [Act.put, List.setIfInBounds_toArray, List.set_cons_zero, List.set_cons_succ])
      clear hb27 hS26
      refine wpAnyH_ready (rs := [23]) (by kernel_rfl) (by simp) ?_
      refine AllReadyH.cons (o := ({ dst := some 49, op := Op.call { callee := Callee.value (Operand.func 20), args := #[Operand.tmp 48], argTypes := #[28] }, type := 9, pos := "law.go:50", after := #[{ on := 22, ground := Ground.data }, { on := 21, ground := Ground.chain }, { on := 19, ground := Ground.guard }], guard := some (19, true) } : Oper)) rfl (fun K hK => ?_) AllReadyH.nil
      go_simp
      refine (c8.out _).mono ?_; rintro e w28 ⟨rfl, hb28⟩
      go_wp2_with fail
      refine hK.out _ _ (mk20 _ (hnext hS27.1 hb28)) (fun hS28 => ?_)
      clear hK K
      (try simp only [Act.put, List.setIfInBounds_toArray, List.set_cons_zero, List.set_cons_succ])
      clear hb28 hS27
      refine wpAnyH_take (i := 24) (oi := ({ dst := some 50, op := Op.binOp BinOp.eql 9 (Operand.tmp 47) (Operand.tmp 49) 9, type := 4, pos := "law.go:50", after := #[{ on := 21, ground := Ground.data }, { on := 23, ground := Ground.data }, { on := 19, ground := Ground.guard }], guard := some (19, true) } : Oper)) (v := ?_) rfl (by kernel_rfl) (by kernel_rfl) (by kernel_rfl) (fun _ _ _ h => h) (Or.inl ⟨by rfl, ?_⟩) hS28 ?_
      rotate_left
      · intro w hSw; (try dsimp only at hSw); go_simp; (try with_reducible rfl)
      simp only [Act.put, List.setIfInBounds_toArray, List.set_cons_zero, List.set_cons_succ]
      refine wpAnyH_take (i := 25) (oi := ({ dst := some 51, op := Op.pick (Operand.tmp 45) (Operand.tmp 50) (Operand.const (Value.bool false)), type := 4, pos := "law.go:50", after := #[{ on := 19, ground := Ground.data }, { on := 24, ground := Ground.data }], guard := none } : Oper)) (v := ?_) rfl (by kernel_rfl) (by kernel_rfl) (by kernel_rfl) (fun _ _ _ h => h) (Or.inl ⟨by rfl, ?_⟩) hS28 ?_
      rotate_left
      · intro w hSw; (try dsimp only at hSw); go_simp; (try with_reducible rfl)
      simp only [Act.put, List.setIfInBounds_toArray, List.set_cons_zero, List.set_cons_succ]
      refine wpAnyH_take (i := 26) (oi := ({ dst := some 52, op := Op.move (Operand.tmp 51), type := 4, pos := "law.go:50", after := #[{ on := 25, ground := Ground.data }, { on := 23, ground := Ground.chain }], guard := none } : Oper)) (v := ?_) rfl (by kernel_rfl) (by kernel_rfl) (by kernel_rfl) (fun _ _ _ h => h) (Or.inl ⟨by rfl, ?_⟩) hS28 ?_
      rotate_left
      · intro w hSw; (try dsimp only at hSw); go_simp; (try with_reducible rfl)
      simp only [Act.put, List.setIfInBounds_toArray, List.set_cons_zero, List.set_cons_succ]
      refine wpAnyH_take (i := 27) (oi := ({ dst := some 53, op := Op.move (Operand.tmp 2), type := 24, pos := "law.go:50", after := #[{ on := 26, ground := Ground.guard }], guard := some (26, true) } : Oper)) (v := ?_) rfl (by kernel_rfl) (by kernel_rfl) (by kernel_rfl) (fun _ _ _ h => h) (Or.inl ⟨by rfl, ?_⟩) hS28 ?_
      rotate_left
      · intro w hSw; (try dsimp only at hSw); go_simp; (try with_reducible rfl)
      simp only [Act.put, List.setIfInBounds_toArray, List.set_cons_zero, List.set_cons_succ]
      refine wpAnyH_take (i := 29) (oi := ({ dst := some 55, op := Op.move (Operand.tmp 2), type := 24, pos := "law.go:50", after := #[{ on := 26, ground := Ground.guard }], guard := some (26, true) } : Oper)) (v := ?_) rfl (by kernel_rfl) (by kernel_rfl) (by kernel_rfl) (fun _ _ _ h => h) (Or.inl ⟨by rfl, ?_⟩) hS28 ?_
      rotate_left
      · intro w hSw; (try dsimp only at hSw); go_simp; (try with_reducible rfl)
      simp only [Act.put, List.setIfInBounds_toArray, List.set_cons_zero, List.set_cons_succ]
      refine wpAnyH_ready (rs := [28]) (by kernel_rfl) (by simp) ?_
      refine AllReadyH.cons (o := ({ dst := some 54, op := Op.call { callee := Callee.value (Operand.func 21), args := #[Operand.tmp 53], argTypes := #[24] }, type := 9, pos := "law.go:50", after := #[{ on := 27, ground := Ground.data }, { on := 26, ground := Ground.chain }, { on := 26, ground := Ground.guard }], guard := some (26, true) } : Oper)) rfl (fun K hK => ?_) AllReadyH.nil
      go_simp
      refine (c9.out _ (HV.out.below (hnext DB hS28.1))).mono ?_; rintro e w29 ⟨rfl, hb29⟩
      go_wp2_with fail
      refine hK.out _ _ (mk20 _ (hnext hS28.1 hb29)) (fun hS29 => ?_)
      clear hK K
      (try simp only [Act.put, List.setIfInBounds_toArray, List.set_cons_zero, List.set_cons_succ])
      clear hb29 hS28
      refine wpAnyH_ready (rs := [30]) (by kernel_rfl) (by simp) ?_
      refine AllReadyH.cons (o := ({ dst := some 56, op := Op.call { callee := Callee.value (Operand.func 22), args := #[Operand.tmp 55], argTypes := #[24] }, type := 9, pos := "law.go:50", after := #[{ on := 29, ground := Ground.data }, { on := 28, ground := Ground.chain }, { on := 26, ground := Ground.guard }], guard := some (26, true) } : Oper)) rfl (fun K hK => ?_) AllReadyH.nil
      go_simp
      refine (c10.out _ (HV.out.below (hnext DB hS29.1))).mono ?_; rintro e w30 ⟨rfl, hb30⟩
      go_wp2_with fail
      refine hK.out _ _ (mk20 _ (hnext hS29.1 hb30)) (fun hS30 => ?_)
      clear hK K
      (try simp only [Act.put, List.setIfInBounds_toArray, List.set_cons_zero, List.set_cons_succ])
      clear hb30 hS29
      refine wpAnyH_take (i := 31) (oi := ({ dst := some 57, op := Op.binOp BinOp.eql 9 (Operand.tmp 54) (Operand.tmp 56) 9, type := 4, pos := "law.go:50", after := #[{ on := 28, ground := Ground.data }, { on := 30, ground := Ground.data }, { on := 26, ground := Ground.guard }], guard := some (26, true) } : Oper)) (v := ?_) rfl (by kernel_rfl) (by kernel_rfl) (by kernel_rfl) (fun _ _ _ h => h) (Or.inl ⟨by rfl, ?_⟩) hS30 ?_
      rotate_left
      · intro w hSw; (try dsimp only at hSw); go_simp; (try with_reducible rfl)
      simp only [Act.put, List.setIfInBounds_toArray, List.set_cons_zero, List.set_cons_succ]
      refine wpAnyH_take (i := 32) (oi := ({ dst := some 58, op := Op.pick (Operand.tmp 52) (Operand.tmp 57) (Operand.const (Value.bool false)), type := 4, pos := "law.go:50", after := #[{ on := 26, ground := Ground.data }, { on := 31, ground := Ground.data }], guard := none } : Oper)) (v := ?_) rfl (by kernel_rfl) (by kernel_rfl) (by kernel_rfl) (fun _ _ _ h => h) (Or.inl ⟨by rfl, ?_⟩) hS30 ?_
      rotate_left
      · intro w hSw; (try dsimp only at hSw); go_simp; (try with_reducible rfl)
      simp only [Act.put, List.setIfInBounds_toArray, List.set_cons_zero, List.set_cons_succ]
      refine wpAnyH_take (i := 33) (oi := ({ dst := some 59, op := Op.move (Operand.tmp 58), type := 4, pos := "law.go:50", after := #[{ on := 32, ground := Ground.data }, { on := 30, ground := Ground.chain }], guard := none } : Oper)) (v := ?_) rfl (by kernel_rfl) (by kernel_rfl) (by kernel_rfl) (fun _ _ _ h => h) (Or.inl ⟨by rfl, ?_⟩) hS30 ?_
      rotate_left
      · intro w hSw; (try dsimp only at hSw); go_simp; (try with_reducible rfl)
      simp only [Act.put, List.setIfInBounds_toArray, List.set_cons_zero, List.set_cons_succ]
      refine wpAnyH_ready (rs := [34]) (by kernel_rfl) (by simp) ?_
      refine AllReadyH.cons (o := ({ dst := some 60, op := Op.call { callee := Callee.value (Operand.func 12), args := #[], argTypes := #[] }, type := 4, pos := "law.go:50", after := #[{ on := 33, ground := Ground.chain }, { on := 33, ground := Ground.guard }], guard := some (33, true) } : Oper)) rfl (fun K hK => ?_) AllReadyH.nil
      go_simp
      refine (known_any _).mono ?_; rintro e w31 ⟨rfl, hb31⟩
      go_wp2_with fail
      refine hK.out _ _ (mk20 _ (hnext hS30.1 hb31)) (fun hS31 => ?_)
      clear hK K
      (try simp only [Act.put, List.setIfInBounds_toArray, List.set_cons_zero, List.set_cons_succ])
      clear hb31 hS30
      refine wpAnyH_take (i := 35) (oi := ({ dst := some 61, op := Op.pick (Operand.tmp 59) (Operand.tmp 60) (Operand.const (Value.bool false)), type := 4, pos := "law.go:50", after := #[{ on := 33, ground := Ground.data }, { on := 34, ground := Ground.data }], guard := none } : Oper)) (v := ?_) rfl (by kernel_rfl) (by kernel_rfl) (by kernel_rfl) (fun _ _ _ h => h) (Or.inl ⟨by rfl, ?_⟩) hS31 ?_
      rotate_left
      · intro w hSw; (try dsimp only at hSw); go_simp; (try with_reducible rfl)
      simp only [Act.put, List.setIfInBounds_toArray, List.set_cons_zero, List.set_cons_succ]
      refine wpAnyH_take (i := 36) (oi := ({ dst := some 6, op := Op.assign (Operand.tmp 61), type := 4, pos := "law.go:50", after := #[{ on := 35, ground := Ground.data }, { on := 34, ground := Ground.chain }, { on := 0, ground := Ground.phase }, { on := 1, ground := Ground.phase }, { on := 2, ground := Ground.phase }, { on := 3, ground := Ground.phase }, { on := 4, ground := Ground.phase }, { on := 5, ground := Ground.phase }, { on := 6, ground := Ground.phase }, { on := 7, ground := Ground.phase }, { on := 8, ground := Ground.phase }, { on := 9, ground := Ground.phase }, { on := 10, ground := Ground.phase }, { on := 11, ground := Ground.phase }, { on := 12, ground := Ground.phase }, { on := 13, ground := Ground.phase }, { on := 14, ground := Ground.phase }, { on := 15, ground := Ground.phase }, { on := 16, ground := Ground.phase }, { on := 17, ground := Ground.phase }, { on := 18, ground := Ground.phase }, { on := 19, ground := Ground.phase }, { on := 20, ground := Ground.phase }, { on := 21, ground := Ground.phase }, { on := 22, ground := Ground.phase }, { on := 23, ground := Ground.phase }, { on := 24, ground := Ground.phase }, { on := 25, ground := Ground.phase }, { on := 26, ground := Ground.phase }, { on := 27, ground := Ground.phase }, { on := 28, ground := Ground.phase }, { on := 29, ground := Ground.phase }, { on := 30, ground := Ground.phase }, { on := 31, ground := Ground.phase }, { on := 32, ground := Ground.phase }, { on := 33, ground := Ground.phase }, { on := 34, ground := Ground.phase }, { on := 35, ground := Ground.phase }], guard := none } : Oper)) (v := ?_) rfl (by kernel_rfl) (by kernel_rfl) (by kernel_rfl) (fun _ _ _ h => h) (Or.inl ⟨by rfl, ?_⟩) hS31 ?_
      rotate_left
      · intro w hSw; (try dsimp only at hSw); go_simp; (try with_reducible rfl)
      simp only [Act.put, List.setIfInBounds_toArray, List.set_cons_zero, List.set_cons_succ]
      refine wpAnyH_done (by kernel_rfl) ?_ _
      go_wp2_with fail
      go_ret
      exact ⟨rfl, hnext DB hS31.1⟩
  · have h' : (2000 : Int) < s.size := by omega
    go_enter Try.func3, Try.ntmps3
    go_wp2_with fail
    refine (known_any _).mono ?_; rintro e w3 ⟨rfl, b3⟩
    go_wp2
    go_ret
    exact ⟨rfl, hnext CB.out b3⟩
end Go.Proofs.Ytanmomlkdfnakaa
