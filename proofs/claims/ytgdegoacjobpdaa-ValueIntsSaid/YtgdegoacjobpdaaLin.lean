/-
  ValueInts answers true at any two numbers. No condition.
-/
import Derived.Test.YtgdegoacjobpdaaVq
namespace Go.Proofs.Ytgdegoacjobpdaa
open Go.RowKit

set_option maxRecDepth 100000 in
set_option maxHeartbeats 12800000 in
theorem valueInts_walk (m n : Int) (w : World) (hm : (Lit.int .i64 m).wf = true) (hn : (Lit.int .i64 n).wf = true) :
    Calls Try.prog 8 #[.int .i64 m, .int .i64 n] w fun e w' => e = .returned (.bool true) ∧ Below w.heap.size w w' := by
  obtain ⟨m0, m1⟩ := int64_of hm
  obtain ⟨n0, n1⟩ := int64_of hn
  clear hm hn
  have L := hid (Below.refl w.heap.size w)
  have cm0 := fun W => show_any 2 m 0 ⟨#[]⟩ (by decide) m0 m1 (by decide) W
  have cn0 := fun W => show_any 2 n 0 ⟨#[]⟩ (by decide) n0 n1 (by decide) W
  have hrm : Va.right 2 m 0 ⟨#[]⟩ = true := rfl
  have hrn : Va.right 2 n 0 ⟨#[]⟩ = true := rfl
  rw [show Vl.txt 2 m 0 ⟨#[]⟩ = Vl.decI m from rfl] at cm0
  rw [show Vl.txt 2 n 0 ⟨#[]⟩ = Vl.decI n from rfl] at cn0
  have hp : Vl.parse (Vl.decI m) = some ⟨2, m, 0, ⟨#[]⟩⟩ := Vl.parse_txt (k := 2) (n := m) (b := 0) (s := ⟨#[]⟩) rfl m0 m1 (by decide)
  have z1 := Vl.decI_size m0 m1
  have z2 := Vl.decI_size n0 n1
  have hmn := hid (fun h => Vl.decI_mono (m := m) (n := n) h)
  have cp0 := fun W => parse_any (Vl.decI m) (by omega) W
  rw [hp] at cp0
  have cc0 := fun W => compare_any ⟨2, m, 0, ⟨#[]⟩⟩ ⟨2, n, 0, ⟨#[]⟩⟩ (by show (0 : Nat) ≤ _; exact Nat.zero_le _) (by show (0 : Nat) ≤ _; exact Nat.zero_le _) W
  rw [show Ky.cmp ⟨2, m, 0, ⟨#[]⟩⟩ ⟨2, n, 0, ⟨#[]⟩⟩ = Ky.ints m n from rfl] at cc0
  unfold vv at cm0 cn0 cc0
  unfold parV vvV vv at cp0
  have qv0 : ∀ w, (binOp .eql 24 (vv 2 m 0 ⟨#[]⟩) (vv 2 m 0 ⟨#[]⟩)).run Try.prog w = .ok (.bool true) w := fun w => va_eql 2 m 0 ⟨#[]⟩ 2 m 0 ⟨#[]⟩ true ((v_beq ⟨2, m, 0, ⟨#[]⟩⟩ ⟨2, m, 0, ⟨#[]⟩⟩).trans (decide_eq_true rfl)) w
  have qv : ∀ w, (binOp .eql 24 (.agg #[.int .i64 2, .int .i64 m, .int .u64 0, .string ⟨#[]⟩]) (.agg #[.int .i64 2, .int .i64 m, .int .u64 0, .string ⟨#[]⟩])).run Try.prog w = .ok (.bool true) w := qv0
  have hlen : (((0 ≤ m ∧ m ≤ n) ∨ (m < 0 ∧ n ≤ m)) → (bstr (Vl.decI m)).size ≤ (bstr (Vl.decI n)).size) := hmn.out
  have y1 : (bstr (Vl.decI m)).size ≤ 21 := z1
  have y2 : (bstr (Vl.decI n)).size ≤ 21 := z2
  generalize bstr (Vl.decI m) = X at *
  generalize bstr (Vl.decI n) = Y at *
  have cm := hid cm0
  have cn := hid cn0
  have cp := hid cp0
  have cc := hid cc0
  clear cm0 cn0 cp0 cc0 qv0 hp z1 z2 hrm hrn hmn
  rcases Int.lt_trichotomy m n with hmn | rfl | hmn
  · rw [show Ky.ints m n = -1 from if_pos hmn] at cc
    have f1 : decide (m < n) = true := decide_eq_true hmn
    have f2 : decide (n < m) = false := decide_eq_false (by omega)
    have f3 : decide (m ≤ n) = true := decide_eq_true (by omega)
    have f4 : decide (n ≤ m) = false := decide_eq_false (by omega)
    by_cases hs : m < 0
    · have s1 : decide (m < 0) = true := decide_eq_true hs
      have s2 : decide ((0 : Int) ≤ m) = false := decide_eq_false (by omega)
      clear hlen hs hmn
      go_enter Try.func8, Try.ntmps8
      go_wp2_with fail
      obtain ⟨L1, V1, V2⟩ := boxes2 w 2 m 0 ⟨#[]⟩ 2 n 0 ⟨#[]⟩
      have LL := hid L1
      have HA := hid V1
      have HB := hid V2
      clear L1 V1 V2 L
      refine (cm.out _).mono ?_; rintro e w1 ⟨rfl, b1⟩
      have A1 := hid (HA.out.keep b1)
      have B1 := hid (HB.out.keep b1)
      have L1 := hid (hnext LL.out b1)
      clear b1
      obtain ⟨Ac0_1, Ac1_1, Ac2_1, Ac3_1, Af0_1, Af1_1, Af2_1, Af3_1, Al_1⟩ := A1.out.cells
      obtain ⟨Bc0_1, Bc1_1, Bc2_1, Bc3_1, Bf0_1, Bf1_1, Bf2_1, Bf3_1, Bl_1⟩ := B1.out.cells
      go_wp2_with fail
      refine (cp.out _).mono ?_; rintro e w2 ⟨rfl, b2⟩
      clear Ac0_1 Ac1_1 Ac2_1 Ac3_1 Af0_1 Af1_1 Af2_1 Af3_1 Al_1 Bc0_1 Bc1_1 Bc2_1 Bc3_1 Bf0_1 Bf1_1 Bf2_1 Bf3_1 Bl_1
      have A2 := hid (A1.out.keep b2)
      have B2 := hid (B1.out.keep b2)
      have L2 := hid (hnext L1.out b2)
      clear b2
      obtain ⟨Ac0_2, Ac1_2, Ac2_2, Ac3_2, Af0_2, Af1_2, Af2_2, Af3_2, Al_2⟩ := A2.out.cells
      obtain ⟨Bc0_2, Bc1_2, Bc2_2, Bc3_2, Bf0_2, Bf1_2, Bf2_2, Bf3_2, Bl_2⟩ := B2.out.cells
      go_wp2_with fail
      clear Ac0_2 Ac1_2 Ac2_2 Ac3_2 Af0_2 Af1_2 Af2_2 Af3_2 Al_2 Bc0_2 Bc1_2 Bc2_2 Bc3_2 Bf0_2 Bf1_2 Bf2_2 Bf3_2 Bl_2
      have hb := hba w2 (.cells #[.int .i64 2, .int .i64 m, .int .u64 0, .string ⟨#[]⟩] 24)
      have N0 := BV.new w2 2 m 0 ⟨#[]⟩
      change BV (World.alloc w2 (.cells #[.int .i64 2, .int .i64 m, .int .u64 0, .string ⟨#[]⟩] 24)) _ _ _ _ _ at N0
      have A2n := hid (A2.out.keep hb)
      have B2n := hid (B2.out.keep hb)
      have L2n := hid (hnext L2.out hb)
      obtain ⟨gX, hgX⟩ : ∃ g, w2.heap.size = g := ⟨_, rfl⟩
      rw [hgX] at N0 ⊢
      have X0 := hid N0
      clear hb hgX N0
      generalize World.alloc w2 (.cells #[.int .i64 2, .int .i64 m, .int .u64 0, .string ⟨#[]⟩] 24) = w3 at *
      obtain ⟨Ac0_3, Ac1_3, Ac2_3, Ac3_3, Af0_3, Af1_3, Af2_3, Af3_3, Al_3⟩ := A2n.out.cells
      obtain ⟨Bc0_3, Bc1_3, Bc2_3, Bc3_3, Bf0_3, Bf1_3, Bf2_3, Bf3_3, Bl_3⟩ := B2n.out.cells
      obtain ⟨Xc0_3, Xc1_3, Xc2_3, Xc3_3, Xf0_3, Xf1_3, Xf2_3, Xf3_3, Xl_3⟩ := X0.out.cells
      refine (cc.out _).mono ?_; rintro e w4 ⟨rfl, b4⟩
      clear Ac0_3 Ac1_3 Ac2_3 Ac3_3 Af0_3 Af1_3 Af2_3 Af3_3 Al_3 Bc0_3 Bc1_3 Bc2_3 Bc3_3 Bf0_3 Bf1_3 Bf2_3 Bf3_3 Bl_3 Xc0_3 Xc1_3 Xc2_3 Xc3_3 Xf0_3 Xf1_3 Xf2_3 Xf3_3 Xl_3
      have A4 := hid (A2n.out.keep b4)
      have B4 := hid (B2n.out.keep b4)
      have X4 := hid (X0.out.keep b4)
      have L4 := hid (hnext L2n.out b4)
      clear b4
      obtain ⟨Ac0_4, Ac1_4, Ac2_4, Ac3_4, Af0_4, Af1_4, Af2_4, Af3_4, Al_4⟩ := A4.out.cells
      obtain ⟨Bc0_4, Bc1_4, Bc2_4, Bc3_4, Bf0_4, Bf1_4, Bf2_4, Bf3_4, Bl_4⟩ := B4.out.cells
      obtain ⟨Xc0_4, Xc1_4, Xc2_4, Xc3_4, Xf0_4, Xf1_4, Xf2_4, Xf3_4, Xl_4⟩ := X4.out.cells
      go_wp2_with fail
      obtain ⟨w20, hw20⟩ : ∃ w20, (w4).drew = w20 := ⟨_, rfl⟩
      have hd20 : Below (w4).heap.size (w4) w20 := hw20 ▸ (Below.refl _ _).drew
      have mk20 : ∀ W, Below w20.heap.size w20 W → Below w20.heap.size w20 W ∧ W.cell? ⟨w.heap.size, 0, none⟩ = some (.int .i64 2) ∧ W.cell? ⟨w.heap.size, 1, none⟩ = some (.int .i64 m) ∧ W.cell? ⟨w.heap.size, 2, none⟩ = some (.int .u64 0) ∧ W.cell? ⟨w.heap.size, 3, none⟩ = some (.string ⟨#[]⟩) ∧ W.cell? ⟨w.heap.size + 1, 0, none⟩ = some (.int .i64 2) ∧ W.cell? ⟨w.heap.size + 1, 1, none⟩ = some (.int .i64 n) ∧ W.cell? ⟨w.heap.size + 1, 2, none⟩ = some (.int .u64 0) ∧ W.cell? ⟨w.heap.size + 1, 3, none⟩ = some (.string ⟨#[]⟩) ∧ W.cell? ⟨gX, 0, none⟩ = some (.int .i64 2) ∧ W.cell? ⟨gX, 1, none⟩ = some (.int .i64 m) ∧ W.cell? ⟨gX, 2, none⟩ = some (.int .u64 0) ∧ W.cell? ⟨gX, 3, none⟩ = some (.string ⟨#[]⟩) := fun W h => ⟨h, hkeep (hkeep Ac0_4 hd20) h, hkeep (hkeep Ac1_4 hd20) h, hkeep (hkeep Ac2_4 hd20) h, hkeep (hkeep Ac3_4 hd20) h, hkeep (hkeep Bc0_4 hd20) h, hkeep (hkeep Bc1_4 hd20) h, hkeep (hkeep Bc2_4 hd20) h, hkeep (hkeep Bc3_4 hd20) h, hkeep (hkeep Xc0_4 hd20) h, hkeep (hkeep Xc1_4 hd20) h, hkeep (hkeep Xc2_4 hd20) h, hkeep (hkeep Xc3_4 hd20) h⟩
      clear Ac0_4 Ac1_4 Ac2_4 Ac3_4 Af0_4 Af1_4 Af2_4 Af3_4 Al_4 Bc0_4 Bc1_4 Bc2_4 Bc3_4 Bf0_4 Bf1_4 Bf2_4 Bf3_4 Bl_4 Xc0_4 Xc1_4 Xc2_4 Xc3_4 Xf0_4 Xf1_4 Xf2_4 Xf3_4 Xl_4
      refine wp_region_held_drew (S := (fun W => Below w20.heap.size w20 W ∧ W.cell? ⟨w.heap.size, 0, none⟩ = some (.int .i64 2) ∧ W.cell? ⟨w.heap.size, 1, none⟩ = some (.int .i64 m) ∧ W.cell? ⟨w.heap.size, 2, none⟩ = some (.int .u64 0) ∧ W.cell? ⟨w.heap.size, 3, none⟩ = some (.string ⟨#[]⟩) ∧ W.cell? ⟨w.heap.size + 1, 0, none⟩ = some (.int .i64 2) ∧ W.cell? ⟨w.heap.size + 1, 1, none⟩ = some (.int .i64 n) ∧ W.cell? ⟨w.heap.size + 1, 2, none⟩ = some (.int .u64 0) ∧ W.cell? ⟨w.heap.size + 1, 3, none⟩ = some (.string ⟨#[]⟩) ∧ W.cell? ⟨gX, 0, none⟩ = some (.int .i64 2) ∧ W.cell? ⟨gX, 1, none⟩ = some (.int .i64 m) ∧ W.cell? ⟨gX, 2, none⟩ = some (.int .u64 0) ∧ W.cell? ⟨gX, 3, none⟩ = some (.string ⟨#[]⟩))) (by kernel_rfl) (by rw [hw20]; exact mk20 _ (Below.refl _ _)) (fun hS20 => ?_)
      rw [hw20] at hS20 ⊢
      clear hw20
      refine wpAnyH_take (i := 0) (oi := ({ dst := some 23, op := Op.move (Operand.tmp 0), type := 3, pos := "law.go:95", after := #[], guard := none } : Oper)) (v := ?_) rfl (by kernel_rfl) (by kernel_rfl) (by kernel_rfl) (fun _ _ _ h => h) (Or.inl ⟨by rfl, ?_⟩) hS20 ?_
      rotate_left
      · intro w hSw; (try dsimp only at hSw); go_simp; (try with_reducible rfl)
      simp only [Act.put, List.setIfInBounds_toArray, List.set_cons_zero, List.set_cons_succ]
      refine wpAnyH_take (i := 1) (oi := ({ dst := some 24, op := Op.binOp BinOp.geq 3 (Operand.tmp 23) (Operand.const (Value.int IntKind.i64 0)) 3, type := 4, pos := "law.go:95", after := #[{ on := 0, ground := Ground.data }], guard := none } : Oper)) (v := ?_) rfl (by kernel_rfl) (by kernel_rfl) (by kernel_rfl) (fun _ _ _ h => h) (Or.inl ⟨by rfl, ?_⟩) hS20 ?_
      rotate_left
      · intro w hSw; (try dsimp only at hSw); go_simp; (try with_reducible rfl)
      simp only [Act.put, List.setIfInBounds_toArray, List.set_cons_zero, List.set_cons_succ]
      refine wpAnyH_take (i := 2) (oi := ({ dst := some 25, op := Op.move (Operand.tmp 24), type := 4, pos := "law.go:95", after := #[{ on := 1, ground := Ground.data }], guard := none } : Oper)) (v := ?_) rfl (by kernel_rfl) (by kernel_rfl) (by kernel_rfl) (fun _ _ _ h => h) (Or.inl ⟨by rfl, ?_⟩) hS20 ?_
      rotate_left
      · intro w hSw; (try dsimp only at hSw); go_simp; (try with_reducible rfl)
      simp only [Act.put, List.setIfInBounds_toArray, List.set_cons_zero, List.set_cons_succ]
      refine wpAnyH_take (i := 3) (oi := ({ dst := some 26, op := Op.move (Operand.tmp 1), type := 3, pos := "law.go:95", after := #[{ on := 2, ground := Ground.guard }], guard := some (2, true) } : Oper)) (v := undef) rfl (by kernel_rfl) (by kernel_rfl) (by kernel_rfl) (fun _ _ _ h => h) (Or.inr ⟨by rfl, rfl⟩) hS20 ?_
      simp only [Act.put, List.setIfInBounds_toArray, List.set_cons_zero, List.set_cons_succ]
      refine wpAnyH_take (i := 4) (oi := ({ dst := some 27, op := Op.move (Operand.tmp 0), type := 3, pos := "law.go:95", after := #[{ on := 2, ground := Ground.guard }], guard := some (2, true) } : Oper)) (v := undef) rfl (by kernel_rfl) (by kernel_rfl) (by kernel_rfl) (fun _ _ _ h => h) (Or.inr ⟨by rfl, rfl⟩) hS20 ?_
      simp only [Act.put, List.setIfInBounds_toArray, List.set_cons_zero, List.set_cons_succ]
      refine wpAnyH_take (i := 5) (oi := ({ dst := some 28, op := Op.binOp BinOp.geq 3 (Operand.tmp 26) (Operand.tmp 27) 3, type := 4, pos := "law.go:95", after := #[{ on := 3, ground := Ground.data }, { on := 4, ground := Ground.data }, { on := 2, ground := Ground.guard }], guard := some (2, true) } : Oper)) (v := undef) rfl (by kernel_rfl) (by kernel_rfl) (by kernel_rfl) (fun _ _ _ h => h) (Or.inr ⟨by rfl, rfl⟩) hS20 ?_
      simp only [Act.put, List.setIfInBounds_toArray, List.set_cons_zero, List.set_cons_succ]
      refine wpAnyH_take (i := 6) (oi := ({ dst := some 29, op := Op.pick (Operand.tmp 25) (Operand.tmp 28) (Operand.const (Value.bool false)), type := 4, pos := "law.go:95", after := #[{ on := 2, ground := Ground.data }, { on := 5, ground := Ground.data }], guard := none } : Oper)) (v := ?_) rfl (by kernel_rfl) (by kernel_rfl) (by kernel_rfl) (fun _ _ _ h => h) (Or.inl ⟨by rfl, ?_⟩) hS20 ?_
      rotate_left
      · intro w hSw; (try dsimp only at hSw); go_simp; (try with_reducible rfl)
      simp only [Act.put, List.setIfInBounds_toArray, List.set_cons_zero, List.set_cons_succ]
      refine wpAnyH_take (i := 7) (oi := ({ dst := some 30, op := Op.move (Operand.tmp 29), type := 4, pos := "law.go:95", after := #[{ on := 6, ground := Ground.data }, { on := 2, ground := Ground.chain }], guard := none } : Oper)) (v := ?_) rfl (by kernel_rfl) (by kernel_rfl) (by kernel_rfl) (fun _ _ _ h => h) (Or.inl ⟨by rfl, ?_⟩) hS20 ?_
      rotate_left
      · intro w hSw; (try dsimp only at hSw); go_simp; (try with_reducible rfl)
      simp only [Act.put, List.setIfInBounds_toArray, List.set_cons_zero, List.set_cons_succ]
      refine wpAnyH_take (i := 8) (oi := ({ dst := some 31, op := Op.load 24 (Operand.tmp 6), type := 24, pos := "law.go:95", after := #[{ on := 7, ground := Ground.guard }], guard := some (7, true) } : Oper)) (v := undef) rfl (by kernel_rfl) (by kernel_rfl) (by kernel_rfl) (fun _ _ _ h => h) (Or.inr ⟨by rfl, rfl⟩) hS20 ?_
      simp only [Act.put, List.setIfInBounds_toArray, List.set_cons_zero, List.set_cons_succ]
      refine wpAnyH_take (i := 9) (oi := ({ dst := some 32, op := Op.call { callee := Callee.value (Operand.func 16), args := #[Operand.tmp 31], argTypes := #[24] }, type := 9, pos := "law.go:95", after := #[{ on := 8, ground := Ground.data }, { on := 7, ground := Ground.chain }, { on := 7, ground := Ground.guard }], guard := some (7, true) } : Oper)) (v := undef) rfl (by kernel_rfl) (by kernel_rfl) (by kernel_rfl) (fun _ _ _ h => h) (Or.inr ⟨by rfl, rfl⟩) hS20 ?_
      simp only [Act.put, List.setIfInBounds_toArray, List.set_cons_zero, List.set_cons_succ]
      refine wpAnyH_take (i := 10) (oi := ({ dst := some 33, op := Op.call { callee := Callee.builtin Builtin.len, args := #[Operand.tmp 32], argTypes := #[9] }, type := 3, pos := "law.go:95", after := #[{ on := 9, ground := Ground.data }, { on := 7, ground := Ground.guard }], guard := some (7, true) } : Oper)) (v := undef) rfl (by kernel_rfl) (by kernel_rfl) (by kernel_rfl) (fun _ _ _ h => h) (Or.inr ⟨by rfl, rfl⟩) hS20 ?_
      simp only [Act.put, List.setIfInBounds_toArray, List.set_cons_zero, List.set_cons_succ]
      refine wpAnyH_take (i := 11) (oi := ({ dst := some 34, op := Op.load 24 (Operand.tmp 5), type := 24, pos := "law.go:95", after := #[{ on := 7, ground := Ground.guard }], guard := some (7, true) } : Oper)) (v := undef) rfl (by kernel_rfl) (by kernel_rfl) (by kernel_rfl) (fun _ _ _ h => h) (Or.inr ⟨by rfl, rfl⟩) hS20 ?_
      simp only [Act.put, List.setIfInBounds_toArray, List.set_cons_zero, List.set_cons_succ]
      refine wpAnyH_take (i := 12) (oi := ({ dst := some 35, op := Op.call { callee := Callee.value (Operand.func 16), args := #[Operand.tmp 34], argTypes := #[24] }, type := 9, pos := "law.go:95", after := #[{ on := 11, ground := Ground.data }, { on := 9, ground := Ground.chain }, { on := 7, ground := Ground.guard }], guard := some (7, true) } : Oper)) (v := undef) rfl (by kernel_rfl) (by kernel_rfl) (by kernel_rfl) (fun _ _ _ h => h) (Or.inr ⟨by rfl, rfl⟩) hS20 ?_
      simp only [Act.put, List.setIfInBounds_toArray, List.set_cons_zero, List.set_cons_succ]
      refine wpAnyH_take (i := 13) (oi := ({ dst := some 36, op := Op.call { callee := Callee.builtin Builtin.len, args := #[Operand.tmp 35], argTypes := #[9] }, type := 3, pos := "law.go:95", after := #[{ on := 12, ground := Ground.data }, { on := 7, ground := Ground.guard }], guard := some (7, true) } : Oper)) (v := undef) rfl (by kernel_rfl) (by kernel_rfl) (by kernel_rfl) (fun _ _ _ h => h) (Or.inr ⟨by rfl, rfl⟩) hS20 ?_
      simp only [Act.put, List.setIfInBounds_toArray, List.set_cons_zero, List.set_cons_succ]
      refine wpAnyH_take (i := 14) (oi := ({ dst := some 37, op := Op.binOp BinOp.lss 3 (Operand.tmp 33) (Operand.tmp 36) 3, type := 4, pos := "law.go:95", after := #[{ on := 10, ground := Ground.data }, { on := 13, ground := Ground.data }, { on := 7, ground := Ground.guard }], guard := some (7, true) } : Oper)) (v := undef) rfl (by kernel_rfl) (by kernel_rfl) (by kernel_rfl) (fun _ _ _ h => h) (Or.inr ⟨by rfl, rfl⟩) hS20 ?_
      simp only [Act.put, List.setIfInBounds_toArray, List.set_cons_zero, List.set_cons_succ]
      refine wpAnyH_take (i := 15) (oi := ({ dst := some 38, op := Op.pick (Operand.tmp 30) (Operand.tmp 37) (Operand.const (Value.bool false)), type := 4, pos := "law.go:95", after := #[{ on := 7, ground := Ground.data }, { on := 14, ground := Ground.data }], guard := none } : Oper)) (v := ?_) rfl (by kernel_rfl) (by kernel_rfl) (by kernel_rfl) (fun _ _ _ h => h) (Or.inl ⟨by rfl, ?_⟩) hS20 ?_
      rotate_left
      · intro w hSw; (try dsimp only at hSw); go_simp; (try with_reducible rfl)
      simp only [Act.put, List.setIfInBounds_toArray, List.set_cons_zero, List.set_cons_succ]
      refine wpAnyH_take (i := 16) (oi := ({ dst := some 39, op := Op.move (Operand.tmp 38), type := 4, pos := "law.go:95", after := #[{ on := 15, ground := Ground.data }, { on := 12, ground := Ground.chain }], guard := none } : Oper)) (v := ?_) rfl (by kernel_rfl) (by kernel_rfl) (by kernel_rfl) (fun _ _ _ h => h) (Or.inl ⟨by rfl, ?_⟩) hS20 ?_
      rotate_left
      · intro w hSw; (try dsimp only at hSw); go_simp; (try with_reducible rfl)
      simp only [Act.put, List.setIfInBounds_toArray, List.set_cons_zero, List.set_cons_succ]
      refine wpAnyH_take (i := 17) (oi := ({ dst := some 40, op := Op.move (Operand.tmp 0), type := 3, pos := "law.go:95", after := #[{ on := 16, ground := Ground.guard }], guard := some (16, false) } : Oper)) (v := ?_) rfl (by kernel_rfl) (by kernel_rfl) (by kernel_rfl) (fun _ _ _ h => h) (Or.inl ⟨by rfl, ?_⟩) hS20 ?_
      rotate_left
      · intro w hSw; (try dsimp only at hSw); go_simp; (try with_reducible rfl)
      simp only [Act.put, List.setIfInBounds_toArray, List.set_cons_zero, List.set_cons_succ]
      refine wpAnyH_take (i := 18) (oi := ({ dst := some 41, op := Op.binOp BinOp.lss 3 (Operand.tmp 40) (Operand.const (Value.int IntKind.i64 0)) 3, type := 4, pos := "law.go:95", after := #[{ on := 17, ground := Ground.data }, { on := 16, ground := Ground.guard }], guard := some (16, false) } : Oper)) (v := ?_) rfl (by kernel_rfl) (by kernel_rfl) (by kernel_rfl) (fun _ _ _ h => h) (Or.inl ⟨by rfl, ?_⟩) hS20 ?_
      rotate_left
      · intro w hSw; (try dsimp only at hSw); go_simp; (try with_reducible rfl)
      simp only [Act.put, List.setIfInBounds_toArray, List.set_cons_zero, List.set_cons_succ]
      refine wpAnyH_take (i := 19) (oi := ({ dst := some 42, op := Op.move (Operand.tmp 41), type := 4, pos := "law.go:95", after := #[{ on := 18, ground := Ground.data }, { on := 16, ground := Ground.chain }, { on := 16, ground := Ground.guard }], guard := some (16, false) } : Oper)) (v := ?_) rfl (by kernel_rfl) (by kernel_rfl) (by kernel_rfl) (fun _ _ _ h => h) (Or.inl ⟨by rfl, ?_⟩) hS20 ?_
      rotate_left
      · intro w hSw; (try dsimp only at hSw); go_simp; (try with_reducible rfl)
      simp only [Act.put, List.setIfInBounds_toArray, List.set_cons_zero, List.set_cons_succ]
      refine wpAnyH_take (i := 20) (oi := ({ dst := some 43, op := Op.move (Operand.tmp 1), type := 3, pos := "law.go:95", after := #[{ on := 19, ground := Ground.guard }], guard := some (19, true) } : Oper)) (v := ?_) rfl (by kernel_rfl) (by kernel_rfl) (by kernel_rfl) (fun _ _ _ h => h) (Or.inl ⟨by rfl, ?_⟩) hS20 ?_
      rotate_left
      · intro w hSw; (try dsimp only at hSw); go_simp; (try with_reducible rfl)
      simp only [Act.put, List.setIfInBounds_toArray, List.set_cons_zero, List.set_cons_succ]
      refine wpAnyH_take (i := 21) (oi := ({ dst := some 44, op := Op.move (Operand.tmp 0), type := 3, pos := "law.go:95", after := #[{ on := 19, ground := Ground.guard }], guard := some (19, true) } : Oper)) (v := ?_) rfl (by kernel_rfl) (by kernel_rfl) (by kernel_rfl) (fun _ _ _ h => h) (Or.inl ⟨by rfl, ?_⟩) hS20 ?_
      rotate_left
      · intro w hSw; (try dsimp only at hSw); go_simp; (try with_reducible rfl)
      simp only [Act.put, List.setIfInBounds_toArray, List.set_cons_zero, List.set_cons_succ]
      refine wpAnyH_take (i := 22) (oi := ({ dst := some 45, op := Op.binOp BinOp.leq 3 (Operand.tmp 43) (Operand.tmp 44) 3, type := 4, pos := "law.go:95", after := #[{ on := 20, ground := Ground.data }, { on := 21, ground := Ground.data }, { on := 19, ground := Ground.guard }], guard := some (19, true) } : Oper)) (v := ?_) rfl (by kernel_rfl) (by kernel_rfl) (by kernel_rfl) (fun _ _ _ h => h) (Or.inl ⟨by rfl, ?_⟩) hS20 ?_
      rotate_left
      · intro w hSw; (try dsimp only at hSw); go_simp; (try with_reducible rfl)
      simp only [Act.put, List.setIfInBounds_toArray, List.set_cons_zero, List.set_cons_succ]
      refine wpAnyH_take (i := 23) (oi := ({ dst := some 46, op := Op.pick (Operand.tmp 42) (Operand.tmp 45) (Operand.const (Value.bool false)), type := 4, pos := "law.go:95", after := #[{ on := 19, ground := Ground.data }, { on := 22, ground := Ground.data }, { on := 16, ground := Ground.guard }], guard := some (16, false) } : Oper)) (v := ?_) rfl (by kernel_rfl) (by kernel_rfl) (by kernel_rfl) (fun _ _ _ h => h) (Or.inl ⟨by rfl, ?_⟩) hS20 ?_
      rotate_left
      · intro w hSw; (try dsimp only at hSw); go_simp; (try with_reducible rfl)
      simp only [Act.put, List.setIfInBounds_toArray, List.set_cons_zero, List.set_cons_succ]
      refine wpAnyH_take (i := 24) (oi := ({ dst := some 47, op := Op.move (Operand.tmp 46), type := 4, pos := "law.go:95", after := #[{ on := 23, ground := Ground.data }, { on := 19, ground := Ground.chain }, { on := 16, ground := Ground.guard }], guard := some (16, false) } : Oper)) (v := ?_) rfl (by kernel_rfl) (by kernel_rfl) (by kernel_rfl) (fun _ _ _ h => h) (Or.inl ⟨by rfl, ?_⟩) hS20 ?_
      rotate_left
      · intro w hSw; (try dsimp only at hSw); go_simp; (try with_reducible rfl)
      simp only [Act.put, List.setIfInBounds_toArray, List.set_cons_zero, List.set_cons_succ]
      refine wpAnyH_take (i := 25) (oi := ({ dst := some 48, op := Op.load 24 (Operand.tmp 6), type := 24, pos := "law.go:95", after := #[{ on := 24, ground := Ground.guard }], guard := some (24, true) } : Oper)) (v := undef) rfl (by kernel_rfl) (by kernel_rfl) (by kernel_rfl) (fun _ _ _ h => h) (Or.inr ⟨by rfl, rfl⟩) hS20 ?_
      simp only [Act.put, List.setIfInBounds_toArray, List.set_cons_zero, List.set_cons_succ]
      refine wpAnyH_take (i := 26) (oi := ({ dst := some 49, op := Op.call { callee := Callee.value (Operand.func 16), args := #[Operand.tmp 48], argTypes := #[24] }, type := 9, pos := "law.go:95", after := #[{ on := 25, ground := Ground.data }, { on := 24, ground := Ground.chain }, { on := 24, ground := Ground.guard }], guard := some (24, true) } : Oper)) (v := undef) rfl (by kernel_rfl) (by kernel_rfl) (by kernel_rfl) (fun _ _ _ h => h) (Or.inr ⟨by rfl, rfl⟩) hS20 ?_
      simp only [Act.put, List.setIfInBounds_toArray, List.set_cons_zero, List.set_cons_succ]
      refine wpAnyH_take (i := 27) (oi := ({ dst := some 50, op := Op.call { callee := Callee.builtin Builtin.len, args := #[Operand.tmp 49], argTypes := #[9] }, type := 3, pos := "law.go:95", after := #[{ on := 26, ground := Ground.data }, { on := 24, ground := Ground.guard }], guard := some (24, true) } : Oper)) (v := undef) rfl (by kernel_rfl) (by kernel_rfl) (by kernel_rfl) (fun _ _ _ h => h) (Or.inr ⟨by rfl, rfl⟩) hS20 ?_
      simp only [Act.put, List.setIfInBounds_toArray, List.set_cons_zero, List.set_cons_succ]
      refine wpAnyH_take (i := 28) (oi := ({ dst := some 51, op := Op.load 24 (Operand.tmp 5), type := 24, pos := "law.go:95", after := #[{ on := 24, ground := Ground.guard }], guard := some (24, true) } : Oper)) (v := undef) rfl (by kernel_rfl) (by kernel_rfl) (by kernel_rfl) (fun _ _ _ h => h) (Or.inr ⟨by rfl, rfl⟩) hS20 ?_
      simp only [Act.put, List.setIfInBounds_toArray, List.set_cons_zero, List.set_cons_succ]
      refine wpAnyH_take (i := 29) (oi := ({ dst := some 52, op := Op.call { callee := Callee.value (Operand.func 16), args := #[Operand.tmp 51], argTypes := #[24] }, type := 9, pos := "law.go:95", after := #[{ on := 28, ground := Ground.data }, { on := 26, ground := Ground.chain }, { on := 24, ground := Ground.guard }], guard := some (24, true) } : Oper)) (v := undef) rfl (by kernel_rfl) (by kernel_rfl) (by kernel_rfl) (fun _ _ _ h => h) (Or.inr ⟨by rfl, rfl⟩) hS20 ?_
      simp only [Act.put, List.setIfInBounds_toArray, List.set_cons_zero, List.set_cons_succ]
      refine wpAnyH_take (i := 30) (oi := ({ dst := some 53, op := Op.call { callee := Callee.builtin Builtin.len, args := #[Operand.tmp 52], argTypes := #[9] }, type := 3, pos := "law.go:95", after := #[{ on := 29, ground := Ground.data }, { on := 24, ground := Ground.guard }], guard := some (24, true) } : Oper)) (v := undef) rfl (by kernel_rfl) (by kernel_rfl) (by kernel_rfl) (fun _ _ _ h => h) (Or.inr ⟨by rfl, rfl⟩) hS20 ?_
      simp only [Act.put, List.setIfInBounds_toArray, List.set_cons_zero, List.set_cons_succ]
      refine wpAnyH_take (i := 31) (oi := ({ dst := some 54, op := Op.binOp BinOp.lss 3 (Operand.tmp 50) (Operand.tmp 53) 3, type := 4, pos := "law.go:95", after := #[{ on := 27, ground := Ground.data }, { on := 30, ground := Ground.data }, { on := 24, ground := Ground.guard }], guard := some (24, true) } : Oper)) (v := undef) rfl (by kernel_rfl) (by kernel_rfl) (by kernel_rfl) (fun _ _ _ h => h) (Or.inr ⟨by rfl, rfl⟩) hS20 ?_
      simp only [Act.put, List.setIfInBounds_toArray, List.set_cons_zero, List.set_cons_succ]
      refine wpAnyH_take (i := 32) (oi := ({ dst := some 55, op := Op.pick (Operand.tmp 47) (Operand.tmp 54) (Operand.const (Value.bool false)), type := 4, pos := "law.go:95", after := #[{ on := 24, ground := Ground.data }, { on := 31, ground := Ground.data }, { on := 16, ground := Ground.guard }], guard := some (16, false) } : Oper)) (v := ?_) rfl (by kernel_rfl) (by kernel_rfl) (by kernel_rfl) (fun _ _ _ h => h) (Or.inl ⟨by rfl, ?_⟩) hS20 ?_
      rotate_left
      · intro w hSw; (try dsimp only at hSw); go_simp; (try with_reducible rfl)
      simp only [Act.put, List.setIfInBounds_toArray, List.set_cons_zero, List.set_cons_succ]
      refine wpAnyH_take (i := 33) (oi := ({ dst := some 56, op := Op.pick (Operand.tmp 39) (Operand.const (Value.bool true)) (Operand.tmp 55), type := 4, pos := "law.go:95", after := #[{ on := 16, ground := Ground.data }, { on := 32, ground := Ground.data }], guard := none } : Oper)) (v := ?_) rfl (by kernel_rfl) (by kernel_rfl) (by kernel_rfl) (fun _ _ _ h => h) (Or.inl ⟨by rfl, ?_⟩) hS20 ?_
      rotate_left
      · intro w hSw; (try dsimp only at hSw); go_simp; (try with_reducible rfl)
      simp only [Act.put, List.setIfInBounds_toArray, List.set_cons_zero, List.set_cons_succ]
      refine wpAnyH_done (by kernel_rfl) ?_ _
      have L21 := hid (hnext L4.out (hnext hd20 hS20.1))
      obtain ⟨_, e0, e1, e2, e3, e4, e5, e6, e7, e8, e9, e10, e11⟩ := hS20
      go_wp2_with fail
      refine (known_any _).mono ?_; rintro e w90 ⟨rfl, b90⟩
      go_wp2
      go_ret
      exact ⟨rfl, hnext L21.out b90⟩
    · have s1 : decide (m < 0) = false := decide_eq_false hs
      have s2 : decide ((0 : Int) ≤ m) = true := decide_eq_true (by omega)
      have hl : decide (Y.size < X.size) = false := decide_eq_false (by have := hlen (.inl ⟨by omega, by omega⟩); omega)
      clear hlen hs hmn
      go_enter Try.func8, Try.ntmps8
      go_wp2_with fail
      obtain ⟨L1, V1, V2⟩ := boxes2 w 2 m 0 ⟨#[]⟩ 2 n 0 ⟨#[]⟩
      have LL := hid L1
      have HA := hid V1
      have HB := hid V2
      clear L1 V1 V2 L
      refine (cm.out _).mono ?_; rintro e w1 ⟨rfl, b1⟩
      have A1 := hid (HA.out.keep b1)
      have B1 := hid (HB.out.keep b1)
      have L1 := hid (hnext LL.out b1)
      clear b1
      obtain ⟨Ac0_1, Ac1_1, Ac2_1, Ac3_1, Af0_1, Af1_1, Af2_1, Af3_1, Al_1⟩ := A1.out.cells
      obtain ⟨Bc0_1, Bc1_1, Bc2_1, Bc3_1, Bf0_1, Bf1_1, Bf2_1, Bf3_1, Bl_1⟩ := B1.out.cells
      go_wp2_with fail
      refine (cp.out _).mono ?_; rintro e w2 ⟨rfl, b2⟩
      clear Ac0_1 Ac1_1 Ac2_1 Ac3_1 Af0_1 Af1_1 Af2_1 Af3_1 Al_1 Bc0_1 Bc1_1 Bc2_1 Bc3_1 Bf0_1 Bf1_1 Bf2_1 Bf3_1 Bl_1
      have A2 := hid (A1.out.keep b2)
      have B2 := hid (B1.out.keep b2)
      have L2 := hid (hnext L1.out b2)
      clear b2
      obtain ⟨Ac0_2, Ac1_2, Ac2_2, Ac3_2, Af0_2, Af1_2, Af2_2, Af3_2, Al_2⟩ := A2.out.cells
      obtain ⟨Bc0_2, Bc1_2, Bc2_2, Bc3_2, Bf0_2, Bf1_2, Bf2_2, Bf3_2, Bl_2⟩ := B2.out.cells
      go_wp2_with fail
      clear Ac0_2 Ac1_2 Ac2_2 Ac3_2 Af0_2 Af1_2 Af2_2 Af3_2 Al_2 Bc0_2 Bc1_2 Bc2_2 Bc3_2 Bf0_2 Bf1_2 Bf2_2 Bf3_2 Bl_2
      have hb := hba w2 (.cells #[.int .i64 2, .int .i64 m, .int .u64 0, .string ⟨#[]⟩] 24)
      have N0 := BV.new w2 2 m 0 ⟨#[]⟩
      change BV (World.alloc w2 (.cells #[.int .i64 2, .int .i64 m, .int .u64 0, .string ⟨#[]⟩] 24)) _ _ _ _ _ at N0
      have A2n := hid (A2.out.keep hb)
      have B2n := hid (B2.out.keep hb)
      have L2n := hid (hnext L2.out hb)
      obtain ⟨gX, hgX⟩ : ∃ g, w2.heap.size = g := ⟨_, rfl⟩
      rw [hgX] at N0 ⊢
      have X0 := hid N0
      clear hb hgX N0
      generalize World.alloc w2 (.cells #[.int .i64 2, .int .i64 m, .int .u64 0, .string ⟨#[]⟩] 24) = w3 at *
      obtain ⟨Ac0_3, Ac1_3, Ac2_3, Ac3_3, Af0_3, Af1_3, Af2_3, Af3_3, Al_3⟩ := A2n.out.cells
      obtain ⟨Bc0_3, Bc1_3, Bc2_3, Bc3_3, Bf0_3, Bf1_3, Bf2_3, Bf3_3, Bl_3⟩ := B2n.out.cells
      obtain ⟨Xc0_3, Xc1_3, Xc2_3, Xc3_3, Xf0_3, Xf1_3, Xf2_3, Xf3_3, Xl_3⟩ := X0.out.cells
      refine (cc.out _).mono ?_; rintro e w4 ⟨rfl, b4⟩
      clear Ac0_3 Ac1_3 Ac2_3 Ac3_3 Af0_3 Af1_3 Af2_3 Af3_3 Al_3 Bc0_3 Bc1_3 Bc2_3 Bc3_3 Bf0_3 Bf1_3 Bf2_3 Bf3_3 Bl_3 Xc0_3 Xc1_3 Xc2_3 Xc3_3 Xf0_3 Xf1_3 Xf2_3 Xf3_3 Xl_3
      have A4 := hid (A2n.out.keep b4)
      have B4 := hid (B2n.out.keep b4)
      have X4 := hid (X0.out.keep b4)
      have L4 := hid (hnext L2n.out b4)
      clear b4
      obtain ⟨Ac0_4, Ac1_4, Ac2_4, Ac3_4, Af0_4, Af1_4, Af2_4, Af3_4, Al_4⟩ := A4.out.cells
      obtain ⟨Bc0_4, Bc1_4, Bc2_4, Bc3_4, Bf0_4, Bf1_4, Bf2_4, Bf3_4, Bl_4⟩ := B4.out.cells
      obtain ⟨Xc0_4, Xc1_4, Xc2_4, Xc3_4, Xf0_4, Xf1_4, Xf2_4, Xf3_4, Xl_4⟩ := X4.out.cells
      go_wp2_with fail
      obtain ⟨w20, hw20⟩ : ∃ w20, (w4).drew = w20 := ⟨_, rfl⟩
      have hd20 : Below (w4).heap.size (w4) w20 := hw20 ▸ (Below.refl _ _).drew
      have mk20 : ∀ W, Below w20.heap.size w20 W → Below w20.heap.size w20 W ∧ W.cell? ⟨w.heap.size, 0, none⟩ = some (.int .i64 2) ∧ W.cell? ⟨w.heap.size, 1, none⟩ = some (.int .i64 m) ∧ W.cell? ⟨w.heap.size, 2, none⟩ = some (.int .u64 0) ∧ W.cell? ⟨w.heap.size, 3, none⟩ = some (.string ⟨#[]⟩) ∧ W.cell? ⟨w.heap.size + 1, 0, none⟩ = some (.int .i64 2) ∧ W.cell? ⟨w.heap.size + 1, 1, none⟩ = some (.int .i64 n) ∧ W.cell? ⟨w.heap.size + 1, 2, none⟩ = some (.int .u64 0) ∧ W.cell? ⟨w.heap.size + 1, 3, none⟩ = some (.string ⟨#[]⟩) ∧ W.cell? ⟨gX, 0, none⟩ = some (.int .i64 2) ∧ W.cell? ⟨gX, 1, none⟩ = some (.int .i64 m) ∧ W.cell? ⟨gX, 2, none⟩ = some (.int .u64 0) ∧ W.cell? ⟨gX, 3, none⟩ = some (.string ⟨#[]⟩) := fun W h => ⟨h, hkeep (hkeep Ac0_4 hd20) h, hkeep (hkeep Ac1_4 hd20) h, hkeep (hkeep Ac2_4 hd20) h, hkeep (hkeep Ac3_4 hd20) h, hkeep (hkeep Bc0_4 hd20) h, hkeep (hkeep Bc1_4 hd20) h, hkeep (hkeep Bc2_4 hd20) h, hkeep (hkeep Bc3_4 hd20) h, hkeep (hkeep Xc0_4 hd20) h, hkeep (hkeep Xc1_4 hd20) h, hkeep (hkeep Xc2_4 hd20) h, hkeep (hkeep Xc3_4 hd20) h⟩
      clear Ac0_4 Ac1_4 Ac2_4 Ac3_4 Af0_4 Af1_4 Af2_4 Af3_4 Al_4 Bc0_4 Bc1_4 Bc2_4 Bc3_4 Bf0_4 Bf1_4 Bf2_4 Bf3_4 Bl_4 Xc0_4 Xc1_4 Xc2_4 Xc3_4 Xf0_4 Xf1_4 Xf2_4 Xf3_4 Xl_4
      refine wp_region_held_drew (S := (fun W => Below w20.heap.size w20 W ∧ W.cell? ⟨w.heap.size, 0, none⟩ = some (.int .i64 2) ∧ W.cell? ⟨w.heap.size, 1, none⟩ = some (.int .i64 m) ∧ W.cell? ⟨w.heap.size, 2, none⟩ = some (.int .u64 0) ∧ W.cell? ⟨w.heap.size, 3, none⟩ = some (.string ⟨#[]⟩) ∧ W.cell? ⟨w.heap.size + 1, 0, none⟩ = some (.int .i64 2) ∧ W.cell? ⟨w.heap.size + 1, 1, none⟩ = some (.int .i64 n) ∧ W.cell? ⟨w.heap.size + 1, 2, none⟩ = some (.int .u64 0) ∧ W.cell? ⟨w.heap.size + 1, 3, none⟩ = some (.string ⟨#[]⟩) ∧ W.cell? ⟨gX, 0, none⟩ = some (.int .i64 2) ∧ W.cell? ⟨gX, 1, none⟩ = some (.int .i64 m) ∧ W.cell? ⟨gX, 2, none⟩ = some (.int .u64 0) ∧ W.cell? ⟨gX, 3, none⟩ = some (.string ⟨#[]⟩))) (by kernel_rfl) (by rw [hw20]; exact mk20 _ (Below.refl _ _)) (fun hS20 => ?_)
      rw [hw20] at hS20 ⊢
      clear hw20
      refine wpAnyH_take (i := 0) (oi := ({ dst := some 23, op := Op.move (Operand.tmp 0), type := 3, pos := "law.go:95", after := #[], guard := none } : Oper)) (v := ?_) rfl (by kernel_rfl) (by kernel_rfl) (by kernel_rfl) (fun _ _ _ h => h) (Or.inl ⟨by rfl, ?_⟩) hS20 ?_
      rotate_left
      · intro w hSw; (try dsimp only at hSw); go_simp; (try with_reducible rfl)
      simp only [Act.put, List.setIfInBounds_toArray, List.set_cons_zero, List.set_cons_succ]
      refine wpAnyH_take (i := 1) (oi := ({ dst := some 24, op := Op.binOp BinOp.geq 3 (Operand.tmp 23) (Operand.const (Value.int IntKind.i64 0)) 3, type := 4, pos := "law.go:95", after := #[{ on := 0, ground := Ground.data }], guard := none } : Oper)) (v := ?_) rfl (by kernel_rfl) (by kernel_rfl) (by kernel_rfl) (fun _ _ _ h => h) (Or.inl ⟨by rfl, ?_⟩) hS20 ?_
      rotate_left
      · intro w hSw; (try dsimp only at hSw); go_simp; (try with_reducible rfl)
      simp only [Act.put, List.setIfInBounds_toArray, List.set_cons_zero, List.set_cons_succ]
      refine wpAnyH_take (i := 2) (oi := ({ dst := some 25, op := Op.move (Operand.tmp 24), type := 4, pos := "law.go:95", after := #[{ on := 1, ground := Ground.data }], guard := none } : Oper)) (v := ?_) rfl (by kernel_rfl) (by kernel_rfl) (by kernel_rfl) (fun _ _ _ h => h) (Or.inl ⟨by rfl, ?_⟩) hS20 ?_
      rotate_left
      · intro w hSw; (try dsimp only at hSw); go_simp; (try with_reducible rfl)
      simp only [Act.put, List.setIfInBounds_toArray, List.set_cons_zero, List.set_cons_succ]
      refine wpAnyH_take (i := 3) (oi := ({ dst := some 26, op := Op.move (Operand.tmp 1), type := 3, pos := "law.go:95", after := #[{ on := 2, ground := Ground.guard }], guard := some (2, true) } : Oper)) (v := ?_) rfl (by kernel_rfl) (by kernel_rfl) (by kernel_rfl) (fun _ _ _ h => h) (Or.inl ⟨by rfl, ?_⟩) hS20 ?_
      rotate_left
      · intro w hSw; (try dsimp only at hSw); go_simp; (try with_reducible rfl)
      simp only [Act.put, List.setIfInBounds_toArray, List.set_cons_zero, List.set_cons_succ]
      refine wpAnyH_take (i := 4) (oi := ({ dst := some 27, op := Op.move (Operand.tmp 0), type := 3, pos := "law.go:95", after := #[{ on := 2, ground := Ground.guard }], guard := some (2, true) } : Oper)) (v := ?_) rfl (by kernel_rfl) (by kernel_rfl) (by kernel_rfl) (fun _ _ _ h => h) (Or.inl ⟨by rfl, ?_⟩) hS20 ?_
      rotate_left
      · intro w hSw; (try dsimp only at hSw); go_simp; (try with_reducible rfl)
      simp only [Act.put, List.setIfInBounds_toArray, List.set_cons_zero, List.set_cons_succ]
      refine wpAnyH_take (i := 5) (oi := ({ dst := some 28, op := Op.binOp BinOp.geq 3 (Operand.tmp 26) (Operand.tmp 27) 3, type := 4, pos := "law.go:95", after := #[{ on := 3, ground := Ground.data }, { on := 4, ground := Ground.data }, { on := 2, ground := Ground.guard }], guard := some (2, true) } : Oper)) (v := ?_) rfl (by kernel_rfl) (by kernel_rfl) (by kernel_rfl) (fun _ _ _ h => h) (Or.inl ⟨by rfl, ?_⟩) hS20 ?_
      rotate_left
      · intro w hSw; (try dsimp only at hSw); go_simp; (try with_reducible rfl)
      simp only [Act.put, List.setIfInBounds_toArray, List.set_cons_zero, List.set_cons_succ]
      refine wpAnyH_take (i := 6) (oi := ({ dst := some 29, op := Op.pick (Operand.tmp 25) (Operand.tmp 28) (Operand.const (Value.bool false)), type := 4, pos := "law.go:95", after := #[{ on := 2, ground := Ground.data }, { on := 5, ground := Ground.data }], guard := none } : Oper)) (v := ?_) rfl (by kernel_rfl) (by kernel_rfl) (by kernel_rfl) (fun _ _ _ h => h) (Or.inl ⟨by rfl, ?_⟩) hS20 ?_
      rotate_left
      · intro w hSw; (try dsimp only at hSw); go_simp; (try with_reducible rfl)
      simp only [Act.put, List.setIfInBounds_toArray, List.set_cons_zero, List.set_cons_succ]
      refine wpAnyH_take (i := 7) (oi := ({ dst := some 30, op := Op.move (Operand.tmp 29), type := 4, pos := "law.go:95", after := #[{ on := 6, ground := Ground.data }, { on := 2, ground := Ground.chain }], guard := none } : Oper)) (v := ?_) rfl (by kernel_rfl) (by kernel_rfl) (by kernel_rfl) (fun _ _ _ h => h) (Or.inl ⟨by rfl, ?_⟩) hS20 ?_
      rotate_left
      · intro w hSw; (try dsimp only at hSw); go_simp; (try with_reducible rfl)
      simp only [Act.put, List.setIfInBounds_toArray, List.set_cons_zero, List.set_cons_succ]
      refine wpAnyH_take (i := 8) (oi := ({ dst := some 31, op := Op.load 24 (Operand.tmp 6), type := 24, pos := "law.go:95", after := #[{ on := 7, ground := Ground.guard }], guard := some (7, true) } : Oper)) (v := ?_) rfl (by kernel_rfl) (by kernel_rfl) (by kernel_rfl) (fun _ _ _ h => h) (Or.inl ⟨by rfl, ?_⟩) hS20 ?_
      rotate_left
      · intro w hSw; (try dsimp only at hSw); go_simp; (try with_reducible rfl)
      simp only [Act.put, List.setIfInBounds_toArray, List.set_cons_zero, List.set_cons_succ]
      refine wpAnyH_take (i := 11) (oi := ({ dst := some 34, op := Op.load 24 (Operand.tmp 5), type := 24, pos := "law.go:95", after := #[{ on := 7, ground := Ground.guard }], guard := some (7, true) } : Oper)) (v := ?_) rfl (by kernel_rfl) (by kernel_rfl) (by kernel_rfl) (fun _ _ _ h => h) (Or.inl ⟨by rfl, ?_⟩) hS20 ?_
      rotate_left
      · intro w hSw; (try dsimp only at hSw); go_simp; (try with_reducible rfl)
      simp only [Act.put, List.setIfInBounds_toArray, List.set_cons_zero, List.set_cons_succ]
      refine wpAnyH_ready (rs := [9]) (by kernel_rfl) (by simp) ?_
      refine AllReadyH.cons (o := ({ dst := some 32, op := Op.call { callee := Callee.value (Operand.func 16), args := #[Operand.tmp 31], argTypes := #[24] }, type := 9, pos := "law.go:95", after := #[{ on := 8, ground := Ground.data }, { on := 7, ground := Ground.chain }, { on := 7, ground := Ground.guard }], guard := some (7, true) } : Oper)) rfl (fun K hK => ?_) AllReadyH.nil
      go_simp
      refine (cn.out _).mono ?_; rintro e w21 ⟨rfl, hb21⟩
      go_wp2_with fail
      refine hK.out _ _ (mk20 _ (hnext hS20.1 hb21)) (fun hS21 => ?_)
      clear hK K
      (try simp only [Act.put, List.setIfInBounds_toArray, List.set_cons_zero, List.set_cons_succ])
      clear hb21 hS20
      refine wpAnyH_take (i := 10) (oi := ({ dst := some 33, op := Op.call { callee := Callee.builtin Builtin.len, args := #[Operand.tmp 32], argTypes := #[9] }, type := 3, pos := "law.go:95", after := #[{ on := 9, ground := Ground.data }, { on := 7, ground := Ground.guard }], guard := some (7, true) } : Oper)) (v := ?_) rfl (by kernel_rfl) (by kernel_rfl) (by kernel_rfl) (fun _ _ _ h => h) (Or.inl ⟨by rfl, ?_⟩) hS21 ?_
      rotate_left
      · intro w hSw; (try dsimp only at hSw); go_simp; (try with_reducible rfl)
      simp only [Act.put, List.setIfInBounds_toArray, List.set_cons_zero, List.set_cons_succ]
      refine wpAnyH_ready (rs := [12]) (by kernel_rfl) (by simp) ?_
      refine AllReadyH.cons (o := ({ dst := some 35, op := Op.call { callee := Callee.value (Operand.func 16), args := #[Operand.tmp 34], argTypes := #[24] }, type := 9, pos := "law.go:95", after := #[{ on := 11, ground := Ground.data }, { on := 9, ground := Ground.chain }, { on := 7, ground := Ground.guard }], guard := some (7, true) } : Oper)) rfl (fun K hK => ?_) AllReadyH.nil
      go_simp
      refine (cm.out _).mono ?_; rintro e w22 ⟨rfl, hb22⟩
      go_wp2_with fail
      refine hK.out _ _ (mk20 _ (hnext hS21.1 hb22)) (fun hS22 => ?_)
      clear hK K
      (try simp only [Act.put, List.setIfInBounds_toArray, List.set_cons_zero, List.set_cons_succ])
      clear hb22 hS21
      refine wpAnyH_take (i := 13) (oi := ({ dst := some 36, op := Op.call { callee := Callee.builtin Builtin.len, args := #[Operand.tmp 35], argTypes := #[9] }, type := 3, pos := "law.go:95", after := #[{ on := 12, ground := Ground.data }, { on := 7, ground := Ground.guard }], guard := some (7, true) } : Oper)) (v := ?_) rfl (by kernel_rfl) (by kernel_rfl) (by kernel_rfl) (fun _ _ _ h => h) (Or.inl ⟨by rfl, ?_⟩) hS22 ?_
      rotate_left
      · intro w hSw; (try dsimp only at hSw); go_simp; (try with_reducible rfl)
      simp only [Act.put, List.setIfInBounds_toArray, List.set_cons_zero, List.set_cons_succ]
      refine wpAnyH_take (i := 14) (oi := ({ dst := some 37, op := Op.binOp BinOp.lss 3 (Operand.tmp 33) (Operand.tmp 36) 3, type := 4, pos := "law.go:95", after := #[{ on := 10, ground := Ground.data }, { on := 13, ground := Ground.data }, { on := 7, ground := Ground.guard }], guard := some (7, true) } : Oper)) (v := ?_) rfl (by kernel_rfl) (by kernel_rfl) (by kernel_rfl) (fun _ _ _ h => h) (Or.inl ⟨by rfl, ?_⟩) hS22 ?_
      rotate_left
      · intro w hSw; (try dsimp only at hSw); go_simp; (try with_reducible rfl)
      simp only [Act.put, List.setIfInBounds_toArray, List.set_cons_zero, List.set_cons_succ]
      refine wpAnyH_take (i := 15) (oi := ({ dst := some 38, op := Op.pick (Operand.tmp 30) (Operand.tmp 37) (Operand.const (Value.bool false)), type := 4, pos := "law.go:95", after := #[{ on := 7, ground := Ground.data }, { on := 14, ground := Ground.data }], guard := none } : Oper)) (v := ?_) rfl (by kernel_rfl) (by kernel_rfl) (by kernel_rfl) (fun _ _ _ h => h) (Or.inl ⟨by rfl, ?_⟩) hS22 ?_
      rotate_left
      · intro w hSw; (try dsimp only at hSw); go_simp; (try with_reducible rfl)
      simp only [Act.put, List.setIfInBounds_toArray, List.set_cons_zero, List.set_cons_succ]
      refine wpAnyH_take (i := 16) (oi := ({ dst := some 39, op := Op.move (Operand.tmp 38), type := 4, pos := "law.go:95", after := #[{ on := 15, ground := Ground.data }, { on := 12, ground := Ground.chain }], guard := none } : Oper)) (v := ?_) rfl (by kernel_rfl) (by kernel_rfl) (by kernel_rfl) (fun _ _ _ h => h) (Or.inl ⟨by rfl, ?_⟩) hS22 ?_
      rotate_left
      · intro w hSw; (try dsimp only at hSw); go_simp; (try with_reducible rfl)
      simp only [Act.put, List.setIfInBounds_toArray, List.set_cons_zero, List.set_cons_succ]
      refine wpAnyH_take (i := 17) (oi := ({ dst := some 40, op := Op.move (Operand.tmp 0), type := 3, pos := "law.go:95", after := #[{ on := 16, ground := Ground.guard }], guard := some (16, false) } : Oper)) (v := ?_) rfl (by kernel_rfl) (by kernel_rfl) (by kernel_rfl) (fun _ _ _ h => h) (Or.inl ⟨by rfl, ?_⟩) hS22 ?_
      rotate_left
      · intro w hSw; (try dsimp only at hSw); go_simp; (try with_reducible rfl)
      simp only [Act.put, List.setIfInBounds_toArray, List.set_cons_zero, List.set_cons_succ]
      refine wpAnyH_take (i := 18) (oi := ({ dst := some 41, op := Op.binOp BinOp.lss 3 (Operand.tmp 40) (Operand.const (Value.int IntKind.i64 0)) 3, type := 4, pos := "law.go:95", after := #[{ on := 17, ground := Ground.data }, { on := 16, ground := Ground.guard }], guard := some (16, false) } : Oper)) (v := ?_) rfl (by kernel_rfl) (by kernel_rfl) (by kernel_rfl) (fun _ _ _ h => h) (Or.inl ⟨by rfl, ?_⟩) hS22 ?_
      rotate_left
      · intro w hSw; (try dsimp only at hSw); go_simp; (try with_reducible rfl)
      simp only [Act.put, List.setIfInBounds_toArray, List.set_cons_zero, List.set_cons_succ]
      refine wpAnyH_take (i := 19) (oi := ({ dst := some 42, op := Op.move (Operand.tmp 41), type := 4, pos := "law.go:95", after := #[{ on := 18, ground := Ground.data }, { on := 16, ground := Ground.chain }, { on := 16, ground := Ground.guard }], guard := some (16, false) } : Oper)) (v := ?_) rfl (by kernel_rfl) (by kernel_rfl) (by kernel_rfl) (fun _ _ _ h => h) (Or.inl ⟨by rfl, ?_⟩) hS22 ?_
      rotate_left
      · intro w hSw; (try dsimp only at hSw); go_simp; (try with_reducible rfl)
      simp only [Act.put, List.setIfInBounds_toArray, List.set_cons_zero, List.set_cons_succ]
      refine wpAnyH_take (i := 20) (oi := ({ dst := some 43, op := Op.move (Operand.tmp 1), type := 3, pos := "law.go:95", after := #[{ on := 19, ground := Ground.guard }], guard := some (19, true) } : Oper)) (v := undef) rfl (by kernel_rfl) (by kernel_rfl) (by kernel_rfl) (fun _ _ _ h => h) (Or.inr ⟨by rfl, rfl⟩) hS22 ?_
      simp only [Act.put, List.setIfInBounds_toArray, List.set_cons_zero, List.set_cons_succ]
      refine wpAnyH_take (i := 21) (oi := ({ dst := some 44, op := Op.move (Operand.tmp 0), type := 3, pos := "law.go:95", after := #[{ on := 19, ground := Ground.guard }], guard := some (19, true) } : Oper)) (v := undef) rfl (by kernel_rfl) (by kernel_rfl) (by kernel_rfl) (fun _ _ _ h => h) (Or.inr ⟨by rfl, rfl⟩) hS22 ?_
      simp only [Act.put, List.setIfInBounds_toArray, List.set_cons_zero, List.set_cons_succ]
      refine wpAnyH_take (i := 22) (oi := ({ dst := some 45, op := Op.binOp BinOp.leq 3 (Operand.tmp 43) (Operand.tmp 44) 3, type := 4, pos := "law.go:95", after := #[{ on := 20, ground := Ground.data }, { on := 21, ground := Ground.data }, { on := 19, ground := Ground.guard }], guard := some (19, true) } : Oper)) (v := undef) rfl (by kernel_rfl) (by kernel_rfl) (by kernel_rfl) (fun _ _ _ h => h) (Or.inr ⟨by rfl, rfl⟩) hS22 ?_
      simp only [Act.put, List.setIfInBounds_toArray, List.set_cons_zero, List.set_cons_succ]
      refine wpAnyH_take (i := 23) (oi := ({ dst := some 46, op := Op.pick (Operand.tmp 42) (Operand.tmp 45) (Operand.const (Value.bool false)), type := 4, pos := "law.go:95", after := #[{ on := 19, ground := Ground.data }, { on := 22, ground := Ground.data }, { on := 16, ground := Ground.guard }], guard := some (16, false) } : Oper)) (v := ?_) rfl (by kernel_rfl) (by kernel_rfl) (by kernel_rfl) (fun _ _ _ h => h) (Or.inl ⟨by rfl, ?_⟩) hS22 ?_
      rotate_left
      · intro w hSw; (try dsimp only at hSw); go_simp; (try with_reducible rfl)
      simp only [Act.put, List.setIfInBounds_toArray, List.set_cons_zero, List.set_cons_succ]
      refine wpAnyH_take (i := 24) (oi := ({ dst := some 47, op := Op.move (Operand.tmp 46), type := 4, pos := "law.go:95", after := #[{ on := 23, ground := Ground.data }, { on := 19, ground := Ground.chain }, { on := 16, ground := Ground.guard }], guard := some (16, false) } : Oper)) (v := ?_) rfl (by kernel_rfl) (by kernel_rfl) (by kernel_rfl) (fun _ _ _ h => h) (Or.inl ⟨by rfl, ?_⟩) hS22 ?_
      rotate_left
      · intro w hSw; (try dsimp only at hSw); go_simp; (try with_reducible rfl)
      simp only [Act.put, List.setIfInBounds_toArray, List.set_cons_zero, List.set_cons_succ]
      refine wpAnyH_take (i := 25) (oi := ({ dst := some 48, op := Op.load 24 (Operand.tmp 6), type := 24, pos := "law.go:95", after := #[{ on := 24, ground := Ground.guard }], guard := some (24, true) } : Oper)) (v := undef) rfl (by kernel_rfl) (by kernel_rfl) (by kernel_rfl) (fun _ _ _ h => h) (Or.inr ⟨by rfl, rfl⟩) hS22 ?_
      simp only [Act.put, List.setIfInBounds_toArray, List.set_cons_zero, List.set_cons_succ]
      refine wpAnyH_take (i := 26) (oi := ({ dst := some 49, op := Op.call { callee := Callee.value (Operand.func 16), args := #[Operand.tmp 48], argTypes := #[24] }, type := 9, pos := "law.go:95", after := #[{ on := 25, ground := Ground.data }, { on := 24, ground := Ground.chain }, { on := 24, ground := Ground.guard }], guard := some (24, true) } : Oper)) (v := undef) rfl (by kernel_rfl) (by kernel_rfl) (by kernel_rfl) (fun _ _ _ h => h) (Or.inr ⟨by rfl, rfl⟩) hS22 ?_
      simp only [Act.put, List.setIfInBounds_toArray, List.set_cons_zero, List.set_cons_succ]
      refine wpAnyH_take (i := 27) (oi := ({ dst := some 50, op := Op.call { callee := Callee.builtin Builtin.len, args := #[Operand.tmp 49], argTypes := #[9] }, type := 3, pos := "law.go:95", after := #[{ on := 26, ground := Ground.data }, { on := 24, ground := Ground.guard }], guard := some (24, true) } : Oper)) (v := undef) rfl (by kernel_rfl) (by kernel_rfl) (by kernel_rfl) (fun _ _ _ h => h) (Or.inr ⟨by rfl, rfl⟩) hS22 ?_
      simp only [Act.put, List.setIfInBounds_toArray, List.set_cons_zero, List.set_cons_succ]
      refine wpAnyH_take (i := 28) (oi := ({ dst := some 51, op := Op.load 24 (Operand.tmp 5), type := 24, pos := "law.go:95", after := #[{ on := 24, ground := Ground.guard }], guard := some (24, true) } : Oper)) (v := undef) rfl (by kernel_rfl) (by kernel_rfl) (by kernel_rfl) (fun _ _ _ h => h) (Or.inr ⟨by rfl, rfl⟩) hS22 ?_
      simp only [Act.put, List.setIfInBounds_toArray, List.set_cons_zero, List.set_cons_succ]
      refine wpAnyH_take (i := 29) (oi := ({ dst := some 52, op := Op.call { callee := Callee.value (Operand.func 16), args := #[Operand.tmp 51], argTypes := #[24] }, type := 9, pos := "law.go:95", after := #[{ on := 28, ground := Ground.data }, { on := 26, ground := Ground.chain }, { on := 24, ground := Ground.guard }], guard := some (24, true) } : Oper)) (v := undef) rfl (by kernel_rfl) (by kernel_rfl) (by kernel_rfl) (fun _ _ _ h => h) (Or.inr ⟨by rfl, rfl⟩) hS22 ?_
      simp only [Act.put, List.setIfInBounds_toArray, List.set_cons_zero, List.set_cons_succ]
      refine wpAnyH_take (i := 30) (oi := ({ dst := some 53, op := Op.call { callee := Callee.builtin Builtin.len, args := #[Operand.tmp 52], argTypes := #[9] }, type := 3, pos := "law.go:95", after := #[{ on := 29, ground := Ground.data }, { on := 24, ground := Ground.guard }], guard := some (24, true) } : Oper)) (v := undef) rfl (by kernel_rfl) (by kernel_rfl) (by kernel_rfl) (fun _ _ _ h => h) (Or.inr ⟨by rfl, rfl⟩) hS22 ?_
      simp only [Act.put, List.setIfInBounds_toArray, List.set_cons_zero, List.set_cons_succ]
      refine wpAnyH_take (i := 31) (oi := ({ dst := some 54, op := Op.binOp BinOp.lss 3 (Operand.tmp 50) (Operand.tmp 53) 3, type := 4, pos := "law.go:95", after := #[{ on := 27, ground := Ground.data }, { on := 30, ground := Ground.data }, { on := 24, ground := Ground.guard }], guard := some (24, true) } : Oper)) (v := undef) rfl (by kernel_rfl) (by kernel_rfl) (by kernel_rfl) (fun _ _ _ h => h) (Or.inr ⟨by rfl, rfl⟩) hS22 ?_
      simp only [Act.put, List.setIfInBounds_toArray, List.set_cons_zero, List.set_cons_succ]
      refine wpAnyH_take (i := 32) (oi := ({ dst := some 55, op := Op.pick (Operand.tmp 47) (Operand.tmp 54) (Operand.const (Value.bool false)), type := 4, pos := "law.go:95", after := #[{ on := 24, ground := Ground.data }, { on := 31, ground := Ground.data }, { on := 16, ground := Ground.guard }], guard := some (16, false) } : Oper)) (v := ?_) rfl (by kernel_rfl) (by kernel_rfl) (by kernel_rfl) (fun _ _ _ h => h) (Or.inl ⟨by rfl, ?_⟩) hS22 ?_
      rotate_left
      · intro w hSw; (try dsimp only at hSw); go_simp; (try with_reducible rfl)
      simp only [Act.put, List.setIfInBounds_toArray, List.set_cons_zero, List.set_cons_succ]
      refine wpAnyH_take (i := 33) (oi := ({ dst := some 56, op := Op.pick (Operand.tmp 39) (Operand.const (Value.bool true)) (Operand.tmp 55), type := 4, pos := "law.go:95", after := #[{ on := 16, ground := Ground.data }, { on := 32, ground := Ground.data }], guard := none } : Oper)) (v := ?_) rfl (by kernel_rfl) (by kernel_rfl) (by kernel_rfl) (fun _ _ _ h => h) (Or.inl ⟨by rfl, ?_⟩) hS22 ?_
      rotate_left
      · intro w hSw; (try dsimp only at hSw); go_simp; (try with_reducible rfl)
      simp only [Act.put, List.setIfInBounds_toArray, List.set_cons_zero, List.set_cons_succ]
      refine wpAnyH_done (by kernel_rfl) ?_ _
      have L21 := hid (hnext L4.out (hnext hd20 hS22.1))
      obtain ⟨_, e0, e1, e2, e3, e4, e5, e6, e7, e8, e9, e10, e11⟩ := hS22
      go_wp2_with fail
      refine (known_any _).mono ?_; rintro e w90 ⟨rfl, b90⟩
      go_wp2
      go_ret
      exact ⟨rfl, hnext L21.out b90⟩
  · rw [Ky.ints_self] at cc
    by_cases hs : m < 0
    · have s1 : decide (m < 0) = true := decide_eq_true hs
      have s2 : decide ((0 : Int) ≤ m) = false := decide_eq_false (by omega)
      have hl : decide (Y.size < X.size) = false := decide_eq_false (by have := hlen (.inr ⟨hs, by omega⟩); omega)
      clear hlen hs
      go_enter Try.func8, Try.ntmps8
      go_wp2_with fail
      obtain ⟨L1, V1, V2⟩ := boxes2 w 2 m 0 ⟨#[]⟩ 2 m 0 ⟨#[]⟩
      have LL := hid L1
      have HA := hid V1
      have HB := hid V2
      clear L1 V1 V2 L
      refine (cm.out _).mono ?_; rintro e w1 ⟨rfl, b1⟩
      have A1 := hid (HA.out.keep b1)
      have B1 := hid (HB.out.keep b1)
      have L1 := hid (hnext LL.out b1)
      clear b1
      obtain ⟨Ac0_1, Ac1_1, Ac2_1, Ac3_1, Af0_1, Af1_1, Af2_1, Af3_1, Al_1⟩ := A1.out.cells
      obtain ⟨Bc0_1, Bc1_1, Bc2_1, Bc3_1, Bf0_1, Bf1_1, Bf2_1, Bf3_1, Bl_1⟩ := B1.out.cells
      go_wp2_with fail
      refine (cp.out _).mono ?_; rintro e w2 ⟨rfl, b2⟩
      clear Ac0_1 Ac1_1 Ac2_1 Ac3_1 Af0_1 Af1_1 Af2_1 Af3_1 Al_1 Bc0_1 Bc1_1 Bc2_1 Bc3_1 Bf0_1 Bf1_1 Bf2_1 Bf3_1 Bl_1
      have A2 := hid (A1.out.keep b2)
      have B2 := hid (B1.out.keep b2)
      have L2 := hid (hnext L1.out b2)
      clear b2
      obtain ⟨Ac0_2, Ac1_2, Ac2_2, Ac3_2, Af0_2, Af1_2, Af2_2, Af3_2, Al_2⟩ := A2.out.cells
      obtain ⟨Bc0_2, Bc1_2, Bc2_2, Bc3_2, Bf0_2, Bf1_2, Bf2_2, Bf3_2, Bl_2⟩ := B2.out.cells
      go_wp2_with fail
      clear Ac0_2 Ac1_2 Ac2_2 Ac3_2 Af0_2 Af1_2 Af2_2 Af3_2 Al_2 Bc0_2 Bc1_2 Bc2_2 Bc3_2 Bf0_2 Bf1_2 Bf2_2 Bf3_2 Bl_2
      have hb := hba w2 (.cells #[.int .i64 2, .int .i64 m, .int .u64 0, .string ⟨#[]⟩] 24)
      have N0 := BV.new w2 2 m 0 ⟨#[]⟩
      change BV (World.alloc w2 (.cells #[.int .i64 2, .int .i64 m, .int .u64 0, .string ⟨#[]⟩] 24)) _ _ _ _ _ at N0
      have A2n := hid (A2.out.keep hb)
      have B2n := hid (B2.out.keep hb)
      have L2n := hid (hnext L2.out hb)
      obtain ⟨gX, hgX⟩ : ∃ g, w2.heap.size = g := ⟨_, rfl⟩
      rw [hgX] at N0 ⊢
      have X0 := hid N0
      clear hb hgX N0
      generalize World.alloc w2 (.cells #[.int .i64 2, .int .i64 m, .int .u64 0, .string ⟨#[]⟩] 24) = w3 at *
      obtain ⟨Ac0_3, Ac1_3, Ac2_3, Ac3_3, Af0_3, Af1_3, Af2_3, Af3_3, Al_3⟩ := A2n.out.cells
      obtain ⟨Bc0_3, Bc1_3, Bc2_3, Bc3_3, Bf0_3, Bf1_3, Bf2_3, Bf3_3, Bl_3⟩ := B2n.out.cells
      obtain ⟨Xc0_3, Xc1_3, Xc2_3, Xc3_3, Xf0_3, Xf1_3, Xf2_3, Xf3_3, Xl_3⟩ := X0.out.cells
      refine (cc.out _).mono ?_; rintro e w4 ⟨rfl, b4⟩
      clear Ac0_3 Ac1_3 Ac2_3 Ac3_3 Af0_3 Af1_3 Af2_3 Af3_3 Al_3 Bc0_3 Bc1_3 Bc2_3 Bc3_3 Bf0_3 Bf1_3 Bf2_3 Bf3_3 Bl_3 Xc0_3 Xc1_3 Xc2_3 Xc3_3 Xf0_3 Xf1_3 Xf2_3 Xf3_3 Xl_3
      have A4 := hid (A2n.out.keep b4)
      have B4 := hid (B2n.out.keep b4)
      have X4 := hid (X0.out.keep b4)
      have L4 := hid (hnext L2n.out b4)
      clear b4
      obtain ⟨Ac0_4, Ac1_4, Ac2_4, Ac3_4, Af0_4, Af1_4, Af2_4, Af3_4, Al_4⟩ := A4.out.cells
      obtain ⟨Bc0_4, Bc1_4, Bc2_4, Bc3_4, Bf0_4, Bf1_4, Bf2_4, Bf3_4, Bl_4⟩ := B4.out.cells
      obtain ⟨Xc0_4, Xc1_4, Xc2_4, Xc3_4, Xf0_4, Xf1_4, Xf2_4, Xf3_4, Xl_4⟩ := X4.out.cells
      go_wp2_with fail
      obtain ⟨w20, hw20⟩ : ∃ w20, (w4).drew = w20 := ⟨_, rfl⟩
      have hd20 : Below (w4).heap.size (w4) w20 := hw20 ▸ (Below.refl _ _).drew
      have mk20 : ∀ W, Below w20.heap.size w20 W → Below w20.heap.size w20 W ∧ W.cell? ⟨w.heap.size, 0, none⟩ = some (.int .i64 2) ∧ W.cell? ⟨w.heap.size, 1, none⟩ = some (.int .i64 m) ∧ W.cell? ⟨w.heap.size, 2, none⟩ = some (.int .u64 0) ∧ W.cell? ⟨w.heap.size, 3, none⟩ = some (.string ⟨#[]⟩) ∧ W.cell? ⟨w.heap.size + 1, 0, none⟩ = some (.int .i64 2) ∧ W.cell? ⟨w.heap.size + 1, 1, none⟩ = some (.int .i64 m) ∧ W.cell? ⟨w.heap.size + 1, 2, none⟩ = some (.int .u64 0) ∧ W.cell? ⟨w.heap.size + 1, 3, none⟩ = some (.string ⟨#[]⟩) ∧ W.cell? ⟨gX, 0, none⟩ = some (.int .i64 2) ∧ W.cell? ⟨gX, 1, none⟩ = some (.int .i64 m) ∧ W.cell? ⟨gX, 2, none⟩ = some (.int .u64 0) ∧ W.cell? ⟨gX, 3, none⟩ = some (.string ⟨#[]⟩) := fun W h => ⟨h, hkeep (hkeep Ac0_4 hd20) h, hkeep (hkeep Ac1_4 hd20) h, hkeep (hkeep Ac2_4 hd20) h, hkeep (hkeep Ac3_4 hd20) h, hkeep (hkeep Bc0_4 hd20) h, hkeep (hkeep Bc1_4 hd20) h, hkeep (hkeep Bc2_4 hd20) h, hkeep (hkeep Bc3_4 hd20) h, hkeep (hkeep Xc0_4 hd20) h, hkeep (hkeep Xc1_4 hd20) h, hkeep (hkeep Xc2_4 hd20) h, hkeep (hkeep Xc3_4 hd20) h⟩
      clear Ac0_4 Ac1_4 Ac2_4 Ac3_4 Af0_4 Af1_4 Af2_4 Af3_4 Al_4 Bc0_4 Bc1_4 Bc2_4 Bc3_4 Bf0_4 Bf1_4 Bf2_4 Bf3_4 Bl_4 Xc0_4 Xc1_4 Xc2_4 Xc3_4 Xf0_4 Xf1_4 Xf2_4 Xf3_4 Xl_4
      refine wp_region_held_drew (S := (fun W => Below w20.heap.size w20 W ∧ W.cell? ⟨w.heap.size, 0, none⟩ = some (.int .i64 2) ∧ W.cell? ⟨w.heap.size, 1, none⟩ = some (.int .i64 m) ∧ W.cell? ⟨w.heap.size, 2, none⟩ = some (.int .u64 0) ∧ W.cell? ⟨w.heap.size, 3, none⟩ = some (.string ⟨#[]⟩) ∧ W.cell? ⟨w.heap.size + 1, 0, none⟩ = some (.int .i64 2) ∧ W.cell? ⟨w.heap.size + 1, 1, none⟩ = some (.int .i64 m) ∧ W.cell? ⟨w.heap.size + 1, 2, none⟩ = some (.int .u64 0) ∧ W.cell? ⟨w.heap.size + 1, 3, none⟩ = some (.string ⟨#[]⟩) ∧ W.cell? ⟨gX, 0, none⟩ = some (.int .i64 2) ∧ W.cell? ⟨gX, 1, none⟩ = some (.int .i64 m) ∧ W.cell? ⟨gX, 2, none⟩ = some (.int .u64 0) ∧ W.cell? ⟨gX, 3, none⟩ = some (.string ⟨#[]⟩))) (by kernel_rfl) (by rw [hw20]; exact mk20 _ (Below.refl _ _)) (fun hS20 => ?_)
      rw [hw20] at hS20 ⊢
      clear hw20
      refine wpAnyH_take (i := 0) (oi := ({ dst := some 23, op := Op.move (Operand.tmp 0), type := 3, pos := "law.go:95", after := #[], guard := none } : Oper)) (v := ?_) rfl (by kernel_rfl) (by kernel_rfl) (by kernel_rfl) (fun _ _ _ h => h) (Or.inl ⟨by rfl, ?_⟩) hS20 ?_
      rotate_left
      · intro w hSw; (try dsimp only at hSw); go_simp; (try with_reducible rfl)
      simp only [Act.put, List.setIfInBounds_toArray, List.set_cons_zero, List.set_cons_succ]
      refine wpAnyH_take (i := 1) (oi := ({ dst := some 24, op := Op.binOp BinOp.geq 3 (Operand.tmp 23) (Operand.const (Value.int IntKind.i64 0)) 3, type := 4, pos := "law.go:95", after := #[{ on := 0, ground := Ground.data }], guard := none } : Oper)) (v := ?_) rfl (by kernel_rfl) (by kernel_rfl) (by kernel_rfl) (fun _ _ _ h => h) (Or.inl ⟨by rfl, ?_⟩) hS20 ?_
      rotate_left
      · intro w hSw; (try dsimp only at hSw); go_simp; (try with_reducible rfl)
      simp only [Act.put, List.setIfInBounds_toArray, List.set_cons_zero, List.set_cons_succ]
      refine wpAnyH_take (i := 2) (oi := ({ dst := some 25, op := Op.move (Operand.tmp 24), type := 4, pos := "law.go:95", after := #[{ on := 1, ground := Ground.data }], guard := none } : Oper)) (v := ?_) rfl (by kernel_rfl) (by kernel_rfl) (by kernel_rfl) (fun _ _ _ h => h) (Or.inl ⟨by rfl, ?_⟩) hS20 ?_
      rotate_left
      · intro w hSw; (try dsimp only at hSw); go_simp; (try with_reducible rfl)
      simp only [Act.put, List.setIfInBounds_toArray, List.set_cons_zero, List.set_cons_succ]
      refine wpAnyH_take (i := 3) (oi := ({ dst := some 26, op := Op.move (Operand.tmp 1), type := 3, pos := "law.go:95", after := #[{ on := 2, ground := Ground.guard }], guard := some (2, true) } : Oper)) (v := undef) rfl (by kernel_rfl) (by kernel_rfl) (by kernel_rfl) (fun _ _ _ h => h) (Or.inr ⟨by rfl, rfl⟩) hS20 ?_
      simp only [Act.put, List.setIfInBounds_toArray, List.set_cons_zero, List.set_cons_succ]
      refine wpAnyH_take (i := 4) (oi := ({ dst := some 27, op := Op.move (Operand.tmp 0), type := 3, pos := "law.go:95", after := #[{ on := 2, ground := Ground.guard }], guard := some (2, true) } : Oper)) (v := undef) rfl (by kernel_rfl) (by kernel_rfl) (by kernel_rfl) (fun _ _ _ h => h) (Or.inr ⟨by rfl, rfl⟩) hS20 ?_
      simp only [Act.put, List.setIfInBounds_toArray, List.set_cons_zero, List.set_cons_succ]
      refine wpAnyH_take (i := 5) (oi := ({ dst := some 28, op := Op.binOp BinOp.geq 3 (Operand.tmp 26) (Operand.tmp 27) 3, type := 4, pos := "law.go:95", after := #[{ on := 3, ground := Ground.data }, { on := 4, ground := Ground.data }, { on := 2, ground := Ground.guard }], guard := some (2, true) } : Oper)) (v := undef) rfl (by kernel_rfl) (by kernel_rfl) (by kernel_rfl) (fun _ _ _ h => h) (Or.inr ⟨by rfl, rfl⟩) hS20 ?_
      simp only [Act.put, List.setIfInBounds_toArray, List.set_cons_zero, List.set_cons_succ]
      refine wpAnyH_take (i := 6) (oi := ({ dst := some 29, op := Op.pick (Operand.tmp 25) (Operand.tmp 28) (Operand.const (Value.bool false)), type := 4, pos := "law.go:95", after := #[{ on := 2, ground := Ground.data }, { on := 5, ground := Ground.data }], guard := none } : Oper)) (v := ?_) rfl (by kernel_rfl) (by kernel_rfl) (by kernel_rfl) (fun _ _ _ h => h) (Or.inl ⟨by rfl, ?_⟩) hS20 ?_
      rotate_left
      · intro w hSw; (try dsimp only at hSw); go_simp; (try with_reducible rfl)
      simp only [Act.put, List.setIfInBounds_toArray, List.set_cons_zero, List.set_cons_succ]
      refine wpAnyH_take (i := 7) (oi := ({ dst := some 30, op := Op.move (Operand.tmp 29), type := 4, pos := "law.go:95", after := #[{ on := 6, ground := Ground.data }, { on := 2, ground := Ground.chain }], guard := none } : Oper)) (v := ?_) rfl (by kernel_rfl) (by kernel_rfl) (by kernel_rfl) (fun _ _ _ h => h) (Or.inl ⟨by rfl, ?_⟩) hS20 ?_
      rotate_left
      · intro w hSw; (try dsimp only at hSw); go_simp; (try with_reducible rfl)
      simp only [Act.put, List.setIfInBounds_toArray, List.set_cons_zero, List.set_cons_succ]
      refine wpAnyH_take (i := 8) (oi := ({ dst := some 31, op := Op.load 24 (Operand.tmp 6), type := 24, pos := "law.go:95", after := #[{ on := 7, ground := Ground.guard }], guard := some (7, true) } : Oper)) (v := undef) rfl (by kernel_rfl) (by kernel_rfl) (by kernel_rfl) (fun _ _ _ h => h) (Or.inr ⟨by rfl, rfl⟩) hS20 ?_
      simp only [Act.put, List.setIfInBounds_toArray, List.set_cons_zero, List.set_cons_succ]
      refine wpAnyH_take (i := 9) (oi := ({ dst := some 32, op := Op.call { callee := Callee.value (Operand.func 16), args := #[Operand.tmp 31], argTypes := #[24] }, type := 9, pos := "law.go:95", after := #[{ on := 8, ground := Ground.data }, { on := 7, ground := Ground.chain }, { on := 7, ground := Ground.guard }], guard := some (7, true) } : Oper)) (v := undef) rfl (by kernel_rfl) (by kernel_rfl) (by kernel_rfl) (fun _ _ _ h => h) (Or.inr ⟨by rfl, rfl⟩) hS20 ?_
      simp only [Act.put, List.setIfInBounds_toArray, List.set_cons_zero, List.set_cons_succ]
      refine wpAnyH_take (i := 10) (oi := ({ dst := some 33, op := Op.call { callee := Callee.builtin Builtin.len, args := #[Operand.tmp 32], argTypes := #[9] }, type := 3, pos := "law.go:95", after := #[{ on := 9, ground := Ground.data }, { on := 7, ground := Ground.guard }], guard := some (7, true) } : Oper)) (v := undef) rfl (by kernel_rfl) (by kernel_rfl) (by kernel_rfl) (fun _ _ _ h => h) (Or.inr ⟨by rfl, rfl⟩) hS20 ?_
      simp only [Act.put, List.setIfInBounds_toArray, List.set_cons_zero, List.set_cons_succ]
      refine wpAnyH_take (i := 11) (oi := ({ dst := some 34, op := Op.load 24 (Operand.tmp 5), type := 24, pos := "law.go:95", after := #[{ on := 7, ground := Ground.guard }], guard := some (7, true) } : Oper)) (v := undef) rfl (by kernel_rfl) (by kernel_rfl) (by kernel_rfl) (fun _ _ _ h => h) (Or.inr ⟨by rfl, rfl⟩) hS20 ?_
      simp only [Act.put, List.setIfInBounds_toArray, List.set_cons_zero, List.set_cons_succ]
      refine wpAnyH_take (i := 12) (oi := ({ dst := some 35, op := Op.call { callee := Callee.value (Operand.func 16), args := #[Operand.tmp 34], argTypes := #[24] }, type := 9, pos := "law.go:95", after := #[{ on := 11, ground := Ground.data }, { on := 9, ground := Ground.chain }, { on := 7, ground := Ground.guard }], guard := some (7, true) } : Oper)) (v := undef) rfl (by kernel_rfl) (by kernel_rfl) (by kernel_rfl) (fun _ _ _ h => h) (Or.inr ⟨by rfl, rfl⟩) hS20 ?_
      simp only [Act.put, List.setIfInBounds_toArray, List.set_cons_zero, List.set_cons_succ]
      refine wpAnyH_take (i := 13) (oi := ({ dst := some 36, op := Op.call { callee := Callee.builtin Builtin.len, args := #[Operand.tmp 35], argTypes := #[9] }, type := 3, pos := "law.go:95", after := #[{ on := 12, ground := Ground.data }, { on := 7, ground := Ground.guard }], guard := some (7, true) } : Oper)) (v := undef) rfl (by kernel_rfl) (by kernel_rfl) (by kernel_rfl) (fun _ _ _ h => h) (Or.inr ⟨by rfl, rfl⟩) hS20 ?_
      simp only [Act.put, List.setIfInBounds_toArray, List.set_cons_zero, List.set_cons_succ]
      refine wpAnyH_take (i := 14) (oi := ({ dst := some 37, op := Op.binOp BinOp.lss 3 (Operand.tmp 33) (Operand.tmp 36) 3, type := 4, pos := "law.go:95", after := #[{ on := 10, ground := Ground.data }, { on := 13, ground := Ground.data }, { on := 7, ground := Ground.guard }], guard := some (7, true) } : Oper)) (v := undef) rfl (by kernel_rfl) (by kernel_rfl) (by kernel_rfl) (fun _ _ _ h => h) (Or.inr ⟨by rfl, rfl⟩) hS20 ?_
      simp only [Act.put, List.setIfInBounds_toArray, List.set_cons_zero, List.set_cons_succ]
      refine wpAnyH_take (i := 15) (oi := ({ dst := some 38, op := Op.pick (Operand.tmp 30) (Operand.tmp 37) (Operand.const (Value.bool false)), type := 4, pos := "law.go:95", after := #[{ on := 7, ground := Ground.data }, { on := 14, ground := Ground.data }], guard := none } : Oper)) (v := ?_) rfl (by kernel_rfl) (by kernel_rfl) (by kernel_rfl) (fun _ _ _ h => h) (Or.inl ⟨by rfl, ?_⟩) hS20 ?_
      rotate_left
      · intro w hSw; (try dsimp only at hSw); go_simp; (try with_reducible rfl)
      simp only [Act.put, List.setIfInBounds_toArray, List.set_cons_zero, List.set_cons_succ]
      refine wpAnyH_take (i := 16) (oi := ({ dst := some 39, op := Op.move (Operand.tmp 38), type := 4, pos := "law.go:95", after := #[{ on := 15, ground := Ground.data }, { on := 12, ground := Ground.chain }], guard := none } : Oper)) (v := ?_) rfl (by kernel_rfl) (by kernel_rfl) (by kernel_rfl) (fun _ _ _ h => h) (Or.inl ⟨by rfl, ?_⟩) hS20 ?_
      rotate_left
      · intro w hSw; (try dsimp only at hSw); go_simp; (try with_reducible rfl)
      simp only [Act.put, List.setIfInBounds_toArray, List.set_cons_zero, List.set_cons_succ]
      refine wpAnyH_take (i := 17) (oi := ({ dst := some 40, op := Op.move (Operand.tmp 0), type := 3, pos := "law.go:95", after := #[{ on := 16, ground := Ground.guard }], guard := some (16, false) } : Oper)) (v := ?_) rfl (by kernel_rfl) (by kernel_rfl) (by kernel_rfl) (fun _ _ _ h => h) (Or.inl ⟨by rfl, ?_⟩) hS20 ?_
      rotate_left
      · intro w hSw; (try dsimp only at hSw); go_simp; (try with_reducible rfl)
      simp only [Act.put, List.setIfInBounds_toArray, List.set_cons_zero, List.set_cons_succ]
      refine wpAnyH_take (i := 18) (oi := ({ dst := some 41, op := Op.binOp BinOp.lss 3 (Operand.tmp 40) (Operand.const (Value.int IntKind.i64 0)) 3, type := 4, pos := "law.go:95", after := #[{ on := 17, ground := Ground.data }, { on := 16, ground := Ground.guard }], guard := some (16, false) } : Oper)) (v := ?_) rfl (by kernel_rfl) (by kernel_rfl) (by kernel_rfl) (fun _ _ _ h => h) (Or.inl ⟨by rfl, ?_⟩) hS20 ?_
      rotate_left
      · intro w hSw; (try dsimp only at hSw); go_simp; (try with_reducible rfl)
      simp only [Act.put, List.setIfInBounds_toArray, List.set_cons_zero, List.set_cons_succ]
      refine wpAnyH_take (i := 19) (oi := ({ dst := some 42, op := Op.move (Operand.tmp 41), type := 4, pos := "law.go:95", after := #[{ on := 18, ground := Ground.data }, { on := 16, ground := Ground.chain }, { on := 16, ground := Ground.guard }], guard := some (16, false) } : Oper)) (v := ?_) rfl (by kernel_rfl) (by kernel_rfl) (by kernel_rfl) (fun _ _ _ h => h) (Or.inl ⟨by rfl, ?_⟩) hS20 ?_
      rotate_left
      · intro w hSw; (try dsimp only at hSw); go_simp; (try with_reducible rfl)
      simp only [Act.put, List.setIfInBounds_toArray, List.set_cons_zero, List.set_cons_succ]
      refine wpAnyH_take (i := 20) (oi := ({ dst := some 43, op := Op.move (Operand.tmp 1), type := 3, pos := "law.go:95", after := #[{ on := 19, ground := Ground.guard }], guard := some (19, true) } : Oper)) (v := ?_) rfl (by kernel_rfl) (by kernel_rfl) (by kernel_rfl) (fun _ _ _ h => h) (Or.inl ⟨by rfl, ?_⟩) hS20 ?_
      rotate_left
      · intro w hSw; (try dsimp only at hSw); go_simp; (try with_reducible rfl)
      simp only [Act.put, List.setIfInBounds_toArray, List.set_cons_zero, List.set_cons_succ]
      refine wpAnyH_take (i := 21) (oi := ({ dst := some 44, op := Op.move (Operand.tmp 0), type := 3, pos := "law.go:95", after := #[{ on := 19, ground := Ground.guard }], guard := some (19, true) } : Oper)) (v := ?_) rfl (by kernel_rfl) (by kernel_rfl) (by kernel_rfl) (fun _ _ _ h => h) (Or.inl ⟨by rfl, ?_⟩) hS20 ?_
      rotate_left
      · intro w hSw; (try dsimp only at hSw); go_simp; (try with_reducible rfl)
      simp only [Act.put, List.setIfInBounds_toArray, List.set_cons_zero, List.set_cons_succ]
      refine wpAnyH_take (i := 22) (oi := ({ dst := some 45, op := Op.binOp BinOp.leq 3 (Operand.tmp 43) (Operand.tmp 44) 3, type := 4, pos := "law.go:95", after := #[{ on := 20, ground := Ground.data }, { on := 21, ground := Ground.data }, { on := 19, ground := Ground.guard }], guard := some (19, true) } : Oper)) (v := ?_) rfl (by kernel_rfl) (by kernel_rfl) (by kernel_rfl) (fun _ _ _ h => h) (Or.inl ⟨by rfl, ?_⟩) hS20 ?_
      rotate_left
      · intro w hSw; (try dsimp only at hSw); go_simp; (try with_reducible rfl)
      simp only [Act.put, List.setIfInBounds_toArray, List.set_cons_zero, List.set_cons_succ]
      refine wpAnyH_take (i := 23) (oi := ({ dst := some 46, op := Op.pick (Operand.tmp 42) (Operand.tmp 45) (Operand.const (Value.bool false)), type := 4, pos := "law.go:95", after := #[{ on := 19, ground := Ground.data }, { on := 22, ground := Ground.data }, { on := 16, ground := Ground.guard }], guard := some (16, false) } : Oper)) (v := ?_) rfl (by kernel_rfl) (by kernel_rfl) (by kernel_rfl) (fun _ _ _ h => h) (Or.inl ⟨by rfl, ?_⟩) hS20 ?_
      rotate_left
      · intro w hSw; (try dsimp only at hSw); go_simp; (try with_reducible rfl)
      simp only [Act.put, List.setIfInBounds_toArray, List.set_cons_zero, List.set_cons_succ]
      refine wpAnyH_take (i := 24) (oi := ({ dst := some 47, op := Op.move (Operand.tmp 46), type := 4, pos := "law.go:95", after := #[{ on := 23, ground := Ground.data }, { on := 19, ground := Ground.chain }, { on := 16, ground := Ground.guard }], guard := some (16, false) } : Oper)) (v := ?_) rfl (by kernel_rfl) (by kernel_rfl) (by kernel_rfl) (fun _ _ _ h => h) (Or.inl ⟨by rfl, ?_⟩) hS20 ?_
      rotate_left
      · intro w hSw; (try dsimp only at hSw); go_simp; (try with_reducible rfl)
      simp only [Act.put, List.setIfInBounds_toArray, List.set_cons_zero, List.set_cons_succ]
      refine wpAnyH_take (i := 25) (oi := ({ dst := some 48, op := Op.load 24 (Operand.tmp 6), type := 24, pos := "law.go:95", after := #[{ on := 24, ground := Ground.guard }], guard := some (24, true) } : Oper)) (v := ?_) rfl (by kernel_rfl) (by kernel_rfl) (by kernel_rfl) (fun _ _ _ h => h) (Or.inl ⟨by rfl, ?_⟩) hS20 ?_
      rotate_left
      · intro w hSw; (try dsimp only at hSw); go_simp; (try with_reducible rfl)
      simp only [Act.put, List.setIfInBounds_toArray, List.set_cons_zero, List.set_cons_succ]
      refine wpAnyH_take (i := 28) (oi := ({ dst := some 51, op := Op.load 24 (Operand.tmp 5), type := 24, pos := "law.go:95", after := #[{ on := 24, ground := Ground.guard }], guard := some (24, true) } : Oper)) (v := ?_) rfl (by kernel_rfl) (by kernel_rfl) (by kernel_rfl) (fun _ _ _ h => h) (Or.inl ⟨by rfl, ?_⟩) hS20 ?_
      rotate_left
      · intro w hSw; (try dsimp only at hSw); go_simp; (try with_reducible rfl)
      simp only [Act.put, List.setIfInBounds_toArray, List.set_cons_zero, List.set_cons_succ]
      refine wpAnyH_ready (rs := [26]) (by kernel_rfl) (by simp) ?_
      refine AllReadyH.cons (o := ({ dst := some 49, op := Op.call { callee := Callee.value (Operand.func 16), args := #[Operand.tmp 48], argTypes := #[24] }, type := 9, pos := "law.go:95", after := #[{ on := 25, ground := Ground.data }, { on := 24, ground := Ground.chain }, { on := 24, ground := Ground.guard }], guard := some (24, true) } : Oper)) rfl (fun K hK => ?_) AllReadyH.nil
      go_simp
      refine (cn.out _).mono ?_; rintro e w21 ⟨rfl, hb21⟩
      go_wp2_with fail
      refine hK.out _ _ (mk20 _ (hnext hS20.1 hb21)) (fun hS21 => ?_)
      clear hK K
      (try simp only [Act.put, List.setIfInBounds_toArray, List.set_cons_zero, List.set_cons_succ])
      clear hb21 hS20
      refine wpAnyH_take (i := 27) (oi := ({ dst := some 50, op := Op.call { callee := Callee.builtin Builtin.len, args := #[Operand.tmp 49], argTypes := #[9] }, type := 3, pos := "law.go:95", after := #[{ on := 26, ground := Ground.data }, { on := 24, ground := Ground.guard }], guard := some (24, true) } : Oper)) (v := ?_) rfl (by kernel_rfl) (by kernel_rfl) (by kernel_rfl) (fun _ _ _ h => h) (Or.inl ⟨by rfl, ?_⟩) hS21 ?_
      rotate_left
      · intro w hSw; (try dsimp only at hSw); go_simp; (try with_reducible rfl)
      simp only [Act.put, List.setIfInBounds_toArray, List.set_cons_zero, List.set_cons_succ]
      refine wpAnyH_ready (rs := [29]) (by kernel_rfl) (by simp) ?_
      refine AllReadyH.cons (o := ({ dst := some 52, op := Op.call { callee := Callee.value (Operand.func 16), args := #[Operand.tmp 51], argTypes := #[24] }, type := 9, pos := "law.go:95", after := #[{ on := 28, ground := Ground.data }, { on := 26, ground := Ground.chain }, { on := 24, ground := Ground.guard }], guard := some (24, true) } : Oper)) rfl (fun K hK => ?_) AllReadyH.nil
      go_simp
      refine (cm.out _).mono ?_; rintro e w22 ⟨rfl, hb22⟩
      go_wp2_with fail
      refine hK.out _ _ (mk20 _ (hnext hS21.1 hb22)) (fun hS22 => ?_)
      clear hK K
      (try simp only [Act.put, List.setIfInBounds_toArray, List.set_cons_zero, List.set_cons_succ])
      clear hb22 hS21
      refine wpAnyH_take (i := 30) (oi := ({ dst := some 53, op := Op.call { callee := Callee.builtin Builtin.len, args := #[Operand.tmp 52], argTypes := #[9] }, type := 3, pos := "law.go:95", after := #[{ on := 29, ground := Ground.data }, { on := 24, ground := Ground.guard }], guard := some (24, true) } : Oper)) (v := ?_) rfl (by kernel_rfl) (by kernel_rfl) (by kernel_rfl) (fun _ _ _ h => h) (Or.inl ⟨by rfl, ?_⟩) hS22 ?_
      rotate_left
      · intro w hSw; (try dsimp only at hSw); go_simp; (try with_reducible rfl)
      simp only [Act.put, List.setIfInBounds_toArray, List.set_cons_zero, List.set_cons_succ]
      refine wpAnyH_take (i := 31) (oi := ({ dst := some 54, op := Op.binOp BinOp.lss 3 (Operand.tmp 50) (Operand.tmp 53) 3, type := 4, pos := "law.go:95", after := #[{ on := 27, ground := Ground.data }, { on := 30, ground := Ground.data }, { on := 24, ground := Ground.guard }], guard := some (24, true) } : Oper)) (v := ?_) rfl (by kernel_rfl) (by kernel_rfl) (by kernel_rfl) (fun _ _ _ h => h) (Or.inl ⟨by rfl, ?_⟩) hS22 ?_
      rotate_left
      · intro w hSw; (try dsimp only at hSw); go_simp; (try with_reducible rfl)
      simp only [Act.put, List.setIfInBounds_toArray, List.set_cons_zero, List.set_cons_succ]
      refine wpAnyH_take (i := 32) (oi := ({ dst := some 55, op := Op.pick (Operand.tmp 47) (Operand.tmp 54) (Operand.const (Value.bool false)), type := 4, pos := "law.go:95", after := #[{ on := 24, ground := Ground.data }, { on := 31, ground := Ground.data }, { on := 16, ground := Ground.guard }], guard := some (16, false) } : Oper)) (v := ?_) rfl (by kernel_rfl) (by kernel_rfl) (by kernel_rfl) (fun _ _ _ h => h) (Or.inl ⟨by rfl, ?_⟩) hS22 ?_
      rotate_left
      · intro w hSw; (try dsimp only at hSw); go_simp; (try with_reducible rfl)
      simp only [Act.put, List.setIfInBounds_toArray, List.set_cons_zero, List.set_cons_succ]
      refine wpAnyH_take (i := 33) (oi := ({ dst := some 56, op := Op.pick (Operand.tmp 39) (Operand.const (Value.bool true)) (Operand.tmp 55), type := 4, pos := "law.go:95", after := #[{ on := 16, ground := Ground.data }, { on := 32, ground := Ground.data }], guard := none } : Oper)) (v := ?_) rfl (by kernel_rfl) (by kernel_rfl) (by kernel_rfl) (fun _ _ _ h => h) (Or.inl ⟨by rfl, ?_⟩) hS22 ?_
      rotate_left
      · intro w hSw; (try dsimp only at hSw); go_simp; (try with_reducible rfl)
      simp only [Act.put, List.setIfInBounds_toArray, List.set_cons_zero, List.set_cons_succ]
      refine wpAnyH_done (by kernel_rfl) ?_ _
      have L21 := hid (hnext L4.out (hnext hd20 hS22.1))
      obtain ⟨_, e0, e1, e2, e3, e4, e5, e6, e7, e8, e9, e10, e11⟩ := hS22
      go_wp2_with fail
      refine (known_any _).mono ?_; rintro e w90 ⟨rfl, b90⟩
      go_wp2
      go_ret
      exact ⟨rfl, hnext L21.out b90⟩
    · have s1 : decide (m < 0) = false := decide_eq_false hs
      have s2 : decide ((0 : Int) ≤ m) = true := decide_eq_true (by omega)
      have hl : decide (Y.size < X.size) = false := decide_eq_false (by have := hlen (.inl ⟨by omega, by omega⟩); omega)
      clear hlen hs
      go_enter Try.func8, Try.ntmps8
      go_wp2_with fail
      obtain ⟨L1, V1, V2⟩ := boxes2 w 2 m 0 ⟨#[]⟩ 2 m 0 ⟨#[]⟩
      have LL := hid L1
      have HA := hid V1
      have HB := hid V2
      clear L1 V1 V2 L
      refine (cm.out _).mono ?_; rintro e w1 ⟨rfl, b1⟩
      have A1 := hid (HA.out.keep b1)
      have B1 := hid (HB.out.keep b1)
      have L1 := hid (hnext LL.out b1)
      clear b1
      obtain ⟨Ac0_1, Ac1_1, Ac2_1, Ac3_1, Af0_1, Af1_1, Af2_1, Af3_1, Al_1⟩ := A1.out.cells
      obtain ⟨Bc0_1, Bc1_1, Bc2_1, Bc3_1, Bf0_1, Bf1_1, Bf2_1, Bf3_1, Bl_1⟩ := B1.out.cells
      go_wp2_with fail
      refine (cp.out _).mono ?_; rintro e w2 ⟨rfl, b2⟩
      clear Ac0_1 Ac1_1 Ac2_1 Ac3_1 Af0_1 Af1_1 Af2_1 Af3_1 Al_1 Bc0_1 Bc1_1 Bc2_1 Bc3_1 Bf0_1 Bf1_1 Bf2_1 Bf3_1 Bl_1
      have A2 := hid (A1.out.keep b2)
      have B2 := hid (B1.out.keep b2)
      have L2 := hid (hnext L1.out b2)
      clear b2
      obtain ⟨Ac0_2, Ac1_2, Ac2_2, Ac3_2, Af0_2, Af1_2, Af2_2, Af3_2, Al_2⟩ := A2.out.cells
      obtain ⟨Bc0_2, Bc1_2, Bc2_2, Bc3_2, Bf0_2, Bf1_2, Bf2_2, Bf3_2, Bl_2⟩ := B2.out.cells
      go_wp2_with fail
      clear Ac0_2 Ac1_2 Ac2_2 Ac3_2 Af0_2 Af1_2 Af2_2 Af3_2 Al_2 Bc0_2 Bc1_2 Bc2_2 Bc3_2 Bf0_2 Bf1_2 Bf2_2 Bf3_2 Bl_2
      have hb := hba w2 (.cells #[.int .i64 2, .int .i64 m, .int .u64 0, .string ⟨#[]⟩] 24)
      have N0 := BV.new w2 2 m 0 ⟨#[]⟩
      change BV (World.alloc w2 (.cells #[.int .i64 2, .int .i64 m, .int .u64 0, .string ⟨#[]⟩] 24)) _ _ _ _ _ at N0
      have A2n := hid (A2.out.keep hb)
      have B2n := hid (B2.out.keep hb)
      have L2n := hid (hnext L2.out hb)
      obtain ⟨gX, hgX⟩ : ∃ g, w2.heap.size = g := ⟨_, rfl⟩
      rw [hgX] at N0 ⊢
      have X0 := hid N0
      clear hb hgX N0
      generalize World.alloc w2 (.cells #[.int .i64 2, .int .i64 m, .int .u64 0, .string ⟨#[]⟩] 24) = w3 at *
      obtain ⟨Ac0_3, Ac1_3, Ac2_3, Ac3_3, Af0_3, Af1_3, Af2_3, Af3_3, Al_3⟩ := A2n.out.cells
      obtain ⟨Bc0_3, Bc1_3, Bc2_3, Bc3_3, Bf0_3, Bf1_3, Bf2_3, Bf3_3, Bl_3⟩ := B2n.out.cells
      obtain ⟨Xc0_3, Xc1_3, Xc2_3, Xc3_3, Xf0_3, Xf1_3, Xf2_3, Xf3_3, Xl_3⟩ := X0.out.cells
      refine (cc.out _).mono ?_; rintro e w4 ⟨rfl, b4⟩
      clear Ac0_3 Ac1_3 Ac2_3 Ac3_3 Af0_3 Af1_3 Af2_3 Af3_3 Al_3 Bc0_3 Bc1_3 Bc2_3 Bc3_3 Bf0_3 Bf1_3 Bf2_3 Bf3_3 Bl_3 Xc0_3 Xc1_3 Xc2_3 Xc3_3 Xf0_3 Xf1_3 Xf2_3 Xf3_3 Xl_3
      have A4 := hid (A2n.out.keep b4)
      have B4 := hid (B2n.out.keep b4)
      have X4 := hid (X0.out.keep b4)
      have L4 := hid (hnext L2n.out b4)
      clear b4
      obtain ⟨Ac0_4, Ac1_4, Ac2_4, Ac3_4, Af0_4, Af1_4, Af2_4, Af3_4, Al_4⟩ := A4.out.cells
      obtain ⟨Bc0_4, Bc1_4, Bc2_4, Bc3_4, Bf0_4, Bf1_4, Bf2_4, Bf3_4, Bl_4⟩ := B4.out.cells
      obtain ⟨Xc0_4, Xc1_4, Xc2_4, Xc3_4, Xf0_4, Xf1_4, Xf2_4, Xf3_4, Xl_4⟩ := X4.out.cells
      go_wp2_with fail
      obtain ⟨w20, hw20⟩ : ∃ w20, (w4).drew = w20 := ⟨_, rfl⟩
      have hd20 : Below (w4).heap.size (w4) w20 := hw20 ▸ (Below.refl _ _).drew
      have mk20 : ∀ W, Below w20.heap.size w20 W → Below w20.heap.size w20 W ∧ W.cell? ⟨w.heap.size, 0, none⟩ = some (.int .i64 2) ∧ W.cell? ⟨w.heap.size, 1, none⟩ = some (.int .i64 m) ∧ W.cell? ⟨w.heap.size, 2, none⟩ = some (.int .u64 0) ∧ W.cell? ⟨w.heap.size, 3, none⟩ = some (.string ⟨#[]⟩) ∧ W.cell? ⟨w.heap.size + 1, 0, none⟩ = some (.int .i64 2) ∧ W.cell? ⟨w.heap.size + 1, 1, none⟩ = some (.int .i64 m) ∧ W.cell? ⟨w.heap.size + 1, 2, none⟩ = some (.int .u64 0) ∧ W.cell? ⟨w.heap.size + 1, 3, none⟩ = some (.string ⟨#[]⟩) ∧ W.cell? ⟨gX, 0, none⟩ = some (.int .i64 2) ∧ W.cell? ⟨gX, 1, none⟩ = some (.int .i64 m) ∧ W.cell? ⟨gX, 2, none⟩ = some (.int .u64 0) ∧ W.cell? ⟨gX, 3, none⟩ = some (.string ⟨#[]⟩) := fun W h => ⟨h, hkeep (hkeep Ac0_4 hd20) h, hkeep (hkeep Ac1_4 hd20) h, hkeep (hkeep Ac2_4 hd20) h, hkeep (hkeep Ac3_4 hd20) h, hkeep (hkeep Bc0_4 hd20) h, hkeep (hkeep Bc1_4 hd20) h, hkeep (hkeep Bc2_4 hd20) h, hkeep (hkeep Bc3_4 hd20) h, hkeep (hkeep Xc0_4 hd20) h, hkeep (hkeep Xc1_4 hd20) h, hkeep (hkeep Xc2_4 hd20) h, hkeep (hkeep Xc3_4 hd20) h⟩
      clear Ac0_4 Ac1_4 Ac2_4 Ac3_4 Af0_4 Af1_4 Af2_4 Af3_4 Al_4 Bc0_4 Bc1_4 Bc2_4 Bc3_4 Bf0_4 Bf1_4 Bf2_4 Bf3_4 Bl_4 Xc0_4 Xc1_4 Xc2_4 Xc3_4 Xf0_4 Xf1_4 Xf2_4 Xf3_4 Xl_4
      refine wp_region_held_drew (S := (fun W => Below w20.heap.size w20 W ∧ W.cell? ⟨w.heap.size, 0, none⟩ = some (.int .i64 2) ∧ W.cell? ⟨w.heap.size, 1, none⟩ = some (.int .i64 m) ∧ W.cell? ⟨w.heap.size, 2, none⟩ = some (.int .u64 0) ∧ W.cell? ⟨w.heap.size, 3, none⟩ = some (.string ⟨#[]⟩) ∧ W.cell? ⟨w.heap.size + 1, 0, none⟩ = some (.int .i64 2) ∧ W.cell? ⟨w.heap.size + 1, 1, none⟩ = some (.int .i64 m) ∧ W.cell? ⟨w.heap.size + 1, 2, none⟩ = some (.int .u64 0) ∧ W.cell? ⟨w.heap.size + 1, 3, none⟩ = some (.string ⟨#[]⟩) ∧ W.cell? ⟨gX, 0, none⟩ = some (.int .i64 2) ∧ W.cell? ⟨gX, 1, none⟩ = some (.int .i64 m) ∧ W.cell? ⟨gX, 2, none⟩ = some (.int .u64 0) ∧ W.cell? ⟨gX, 3, none⟩ = some (.string ⟨#[]⟩))) (by kernel_rfl) (by rw [hw20]; exact mk20 _ (Below.refl _ _)) (fun hS20 => ?_)
      rw [hw20] at hS20 ⊢
      clear hw20
      refine wpAnyH_take (i := 0) (oi := ({ dst := some 23, op := Op.move (Operand.tmp 0), type := 3, pos := "law.go:95", after := #[], guard := none } : Oper)) (v := ?_) rfl (by kernel_rfl) (by kernel_rfl) (by kernel_rfl) (fun _ _ _ h => h) (Or.inl ⟨by rfl, ?_⟩) hS20 ?_
      rotate_left
      · intro w hSw; (try dsimp only at hSw); go_simp; (try with_reducible rfl)
      simp only [Act.put, List.setIfInBounds_toArray, List.set_cons_zero, List.set_cons_succ]
      refine wpAnyH_take (i := 1) (oi := ({ dst := some 24, op := Op.binOp BinOp.geq 3 (Operand.tmp 23) (Operand.const (Value.int IntKind.i64 0)) 3, type := 4, pos := "law.go:95", after := #[{ on := 0, ground := Ground.data }], guard := none } : Oper)) (v := ?_) rfl (by kernel_rfl) (by kernel_rfl) (by kernel_rfl) (fun _ _ _ h => h) (Or.inl ⟨by rfl, ?_⟩) hS20 ?_
      rotate_left
      · intro w hSw; (try dsimp only at hSw); go_simp; (try with_reducible rfl)
      simp only [Act.put, List.setIfInBounds_toArray, List.set_cons_zero, List.set_cons_succ]
      refine wpAnyH_take (i := 2) (oi := ({ dst := some 25, op := Op.move (Operand.tmp 24), type := 4, pos := "law.go:95", after := #[{ on := 1, ground := Ground.data }], guard := none } : Oper)) (v := ?_) rfl (by kernel_rfl) (by kernel_rfl) (by kernel_rfl) (fun _ _ _ h => h) (Or.inl ⟨by rfl, ?_⟩) hS20 ?_
      rotate_left
      · intro w hSw; (try dsimp only at hSw); go_simp; (try with_reducible rfl)
      simp only [Act.put, List.setIfInBounds_toArray, List.set_cons_zero, List.set_cons_succ]
      refine wpAnyH_take (i := 3) (oi := ({ dst := some 26, op := Op.move (Operand.tmp 1), type := 3, pos := "law.go:95", after := #[{ on := 2, ground := Ground.guard }], guard := some (2, true) } : Oper)) (v := ?_) rfl (by kernel_rfl) (by kernel_rfl) (by kernel_rfl) (fun _ _ _ h => h) (Or.inl ⟨by rfl, ?_⟩) hS20 ?_
      rotate_left
      · intro w hSw; (try dsimp only at hSw); go_simp; (try with_reducible rfl)
      simp only [Act.put, List.setIfInBounds_toArray, List.set_cons_zero, List.set_cons_succ]
      refine wpAnyH_take (i := 4) (oi := ({ dst := some 27, op := Op.move (Operand.tmp 0), type := 3, pos := "law.go:95", after := #[{ on := 2, ground := Ground.guard }], guard := some (2, true) } : Oper)) (v := ?_) rfl (by kernel_rfl) (by kernel_rfl) (by kernel_rfl) (fun _ _ _ h => h) (Or.inl ⟨by rfl, ?_⟩) hS20 ?_
      rotate_left
      · intro w hSw; (try dsimp only at hSw); go_simp; (try with_reducible rfl)
      simp only [Act.put, List.setIfInBounds_toArray, List.set_cons_zero, List.set_cons_succ]
      refine wpAnyH_take (i := 5) (oi := ({ dst := some 28, op := Op.binOp BinOp.geq 3 (Operand.tmp 26) (Operand.tmp 27) 3, type := 4, pos := "law.go:95", after := #[{ on := 3, ground := Ground.data }, { on := 4, ground := Ground.data }, { on := 2, ground := Ground.guard }], guard := some (2, true) } : Oper)) (v := ?_) rfl (by kernel_rfl) (by kernel_rfl) (by kernel_rfl) (fun _ _ _ h => h) (Or.inl ⟨by rfl, ?_⟩) hS20 ?_
      rotate_left
      · intro w hSw; (try dsimp only at hSw); go_simp; (try with_reducible rfl)
      simp only [Act.put, List.setIfInBounds_toArray, List.set_cons_zero, List.set_cons_succ]
      refine wpAnyH_take (i := 6) (oi := ({ dst := some 29, op := Op.pick (Operand.tmp 25) (Operand.tmp 28) (Operand.const (Value.bool false)), type := 4, pos := "law.go:95", after := #[{ on := 2, ground := Ground.data }, { on := 5, ground := Ground.data }], guard := none } : Oper)) (v := ?_) rfl (by kernel_rfl) (by kernel_rfl) (by kernel_rfl) (fun _ _ _ h => h) (Or.inl ⟨by rfl, ?_⟩) hS20 ?_
      rotate_left
      · intro w hSw; (try dsimp only at hSw); go_simp; (try with_reducible rfl)
      simp only [Act.put, List.setIfInBounds_toArray, List.set_cons_zero, List.set_cons_succ]
      refine wpAnyH_take (i := 7) (oi := ({ dst := some 30, op := Op.move (Operand.tmp 29), type := 4, pos := "law.go:95", after := #[{ on := 6, ground := Ground.data }, { on := 2, ground := Ground.chain }], guard := none } : Oper)) (v := ?_) rfl (by kernel_rfl) (by kernel_rfl) (by kernel_rfl) (fun _ _ _ h => h) (Or.inl ⟨by rfl, ?_⟩) hS20 ?_
      rotate_left
      · intro w hSw; (try dsimp only at hSw); go_simp; (try with_reducible rfl)
      simp only [Act.put, List.setIfInBounds_toArray, List.set_cons_zero, List.set_cons_succ]
      refine wpAnyH_take (i := 8) (oi := ({ dst := some 31, op := Op.load 24 (Operand.tmp 6), type := 24, pos := "law.go:95", after := #[{ on := 7, ground := Ground.guard }], guard := some (7, true) } : Oper)) (v := ?_) rfl (by kernel_rfl) (by kernel_rfl) (by kernel_rfl) (fun _ _ _ h => h) (Or.inl ⟨by rfl, ?_⟩) hS20 ?_
      rotate_left
      · intro w hSw; (try dsimp only at hSw); go_simp; (try with_reducible rfl)
      simp only [Act.put, List.setIfInBounds_toArray, List.set_cons_zero, List.set_cons_succ]
      refine wpAnyH_take (i := 11) (oi := ({ dst := some 34, op := Op.load 24 (Operand.tmp 5), type := 24, pos := "law.go:95", after := #[{ on := 7, ground := Ground.guard }], guard := some (7, true) } : Oper)) (v := ?_) rfl (by kernel_rfl) (by kernel_rfl) (by kernel_rfl) (fun _ _ _ h => h) (Or.inl ⟨by rfl, ?_⟩) hS20 ?_
      rotate_left
      · intro w hSw; (try dsimp only at hSw); go_simp; (try with_reducible rfl)
      simp only [Act.put, List.setIfInBounds_toArray, List.set_cons_zero, List.set_cons_succ]
      refine wpAnyH_ready (rs := [9]) (by kernel_rfl) (by simp) ?_
      refine AllReadyH.cons (o := ({ dst := some 32, op := Op.call { callee := Callee.value (Operand.func 16), args := #[Operand.tmp 31], argTypes := #[24] }, type := 9, pos := "law.go:95", after := #[{ on := 8, ground := Ground.data }, { on := 7, ground := Ground.chain }, { on := 7, ground := Ground.guard }], guard := some (7, true) } : Oper)) rfl (fun K hK => ?_) AllReadyH.nil
      go_simp
      refine (cn.out _).mono ?_; rintro e w21 ⟨rfl, hb21⟩
      go_wp2_with fail
      refine hK.out _ _ (mk20 _ (hnext hS20.1 hb21)) (fun hS21 => ?_)
      clear hK K
      (try simp only [Act.put, List.setIfInBounds_toArray, List.set_cons_zero, List.set_cons_succ])
      clear hb21 hS20
      refine wpAnyH_take (i := 10) (oi := ({ dst := some 33, op := Op.call { callee := Callee.builtin Builtin.len, args := #[Operand.tmp 32], argTypes := #[9] }, type := 3, pos := "law.go:95", after := #[{ on := 9, ground := Ground.data }, { on := 7, ground := Ground.guard }], guard := some (7, true) } : Oper)) (v := ?_) rfl (by kernel_rfl) (by kernel_rfl) (by kernel_rfl) (fun _ _ _ h => h) (Or.inl ⟨by rfl, ?_⟩) hS21 ?_
      rotate_left
      · intro w hSw; (try dsimp only at hSw); go_simp; (try with_reducible rfl)
      simp only [Act.put, List.setIfInBounds_toArray, List.set_cons_zero, List.set_cons_succ]
      refine wpAnyH_ready (rs := [12]) (by kernel_rfl) (by simp) ?_
      refine AllReadyH.cons (o := ({ dst := some 35, op := Op.call { callee := Callee.value (Operand.func 16), args := #[Operand.tmp 34], argTypes := #[24] }, type := 9, pos := "law.go:95", after := #[{ on := 11, ground := Ground.data }, { on := 9, ground := Ground.chain }, { on := 7, ground := Ground.guard }], guard := some (7, true) } : Oper)) rfl (fun K hK => ?_) AllReadyH.nil
      go_simp
      refine (cm.out _).mono ?_; rintro e w22 ⟨rfl, hb22⟩
      go_wp2_with fail
      refine hK.out _ _ (mk20 _ (hnext hS21.1 hb22)) (fun hS22 => ?_)
      clear hK K
      (try simp only [Act.put, List.setIfInBounds_toArray, List.set_cons_zero, List.set_cons_succ])
      clear hb22 hS21
      refine wpAnyH_take (i := 13) (oi := ({ dst := some 36, op := Op.call { callee := Callee.builtin Builtin.len, args := #[Operand.tmp 35], argTypes := #[9] }, type := 3, pos := "law.go:95", after := #[{ on := 12, ground := Ground.data }, { on := 7, ground := Ground.guard }], guard := some (7, true) } : Oper)) (v := ?_) rfl (by kernel_rfl) (by kernel_rfl) (by kernel_rfl) (fun _ _ _ h => h) (Or.inl ⟨by rfl, ?_⟩) hS22 ?_
      rotate_left
      · intro w hSw; (try dsimp only at hSw); go_simp; (try with_reducible rfl)
      simp only [Act.put, List.setIfInBounds_toArray, List.set_cons_zero, List.set_cons_succ]
      refine wpAnyH_take (i := 14) (oi := ({ dst := some 37, op := Op.binOp BinOp.lss 3 (Operand.tmp 33) (Operand.tmp 36) 3, type := 4, pos := "law.go:95", after := #[{ on := 10, ground := Ground.data }, { on := 13, ground := Ground.data }, { on := 7, ground := Ground.guard }], guard := some (7, true) } : Oper)) (v := ?_) rfl (by kernel_rfl) (by kernel_rfl) (by kernel_rfl) (fun _ _ _ h => h) (Or.inl ⟨by rfl, ?_⟩) hS22 ?_
      rotate_left
      · intro w hSw; (try dsimp only at hSw); go_simp; (try with_reducible rfl)
      simp only [Act.put, List.setIfInBounds_toArray, List.set_cons_zero, List.set_cons_succ]
      refine wpAnyH_take (i := 15) (oi := ({ dst := some 38, op := Op.pick (Operand.tmp 30) (Operand.tmp 37) (Operand.const (Value.bool false)), type := 4, pos := "law.go:95", after := #[{ on := 7, ground := Ground.data }, { on := 14, ground := Ground.data }], guard := none } : Oper)) (v := ?_) rfl (by kernel_rfl) (by kernel_rfl) (by kernel_rfl) (fun _ _ _ h => h) (Or.inl ⟨by rfl, ?_⟩) hS22 ?_
      rotate_left
      · intro w hSw; (try dsimp only at hSw); go_simp; (try with_reducible rfl)
      simp only [Act.put, List.setIfInBounds_toArray, List.set_cons_zero, List.set_cons_succ]
      refine wpAnyH_take (i := 16) (oi := ({ dst := some 39, op := Op.move (Operand.tmp 38), type := 4, pos := "law.go:95", after := #[{ on := 15, ground := Ground.data }, { on := 12, ground := Ground.chain }], guard := none } : Oper)) (v := ?_) rfl (by kernel_rfl) (by kernel_rfl) (by kernel_rfl) (fun _ _ _ h => h) (Or.inl ⟨by rfl, ?_⟩) hS22 ?_
      rotate_left
      · intro w hSw; (try dsimp only at hSw); go_simp; (try with_reducible rfl)
      simp only [Act.put, List.setIfInBounds_toArray, List.set_cons_zero, List.set_cons_succ]
      refine wpAnyH_take (i := 17) (oi := ({ dst := some 40, op := Op.move (Operand.tmp 0), type := 3, pos := "law.go:95", after := #[{ on := 16, ground := Ground.guard }], guard := some (16, false) } : Oper)) (v := ?_) rfl (by kernel_rfl) (by kernel_rfl) (by kernel_rfl) (fun _ _ _ h => h) (Or.inl ⟨by rfl, ?_⟩) hS22 ?_
      rotate_left
      · intro w hSw; (try dsimp only at hSw); go_simp; (try with_reducible rfl)
      simp only [Act.put, List.setIfInBounds_toArray, List.set_cons_zero, List.set_cons_succ]
      refine wpAnyH_take (i := 18) (oi := ({ dst := some 41, op := Op.binOp BinOp.lss 3 (Operand.tmp 40) (Operand.const (Value.int IntKind.i64 0)) 3, type := 4, pos := "law.go:95", after := #[{ on := 17, ground := Ground.data }, { on := 16, ground := Ground.guard }], guard := some (16, false) } : Oper)) (v := ?_) rfl (by kernel_rfl) (by kernel_rfl) (by kernel_rfl) (fun _ _ _ h => h) (Or.inl ⟨by rfl, ?_⟩) hS22 ?_
      rotate_left
      · intro w hSw; (try dsimp only at hSw); go_simp; (try with_reducible rfl)
      simp only [Act.put, List.setIfInBounds_toArray, List.set_cons_zero, List.set_cons_succ]
      refine wpAnyH_take (i := 19) (oi := ({ dst := some 42, op := Op.move (Operand.tmp 41), type := 4, pos := "law.go:95", after := #[{ on := 18, ground := Ground.data }, { on := 16, ground := Ground.chain }, { on := 16, ground := Ground.guard }], guard := some (16, false) } : Oper)) (v := ?_) rfl (by kernel_rfl) (by kernel_rfl) (by kernel_rfl) (fun _ _ _ h => h) (Or.inl ⟨by rfl, ?_⟩) hS22 ?_
      rotate_left
      · intro w hSw; (try dsimp only at hSw); go_simp; (try with_reducible rfl)
      simp only [Act.put, List.setIfInBounds_toArray, List.set_cons_zero, List.set_cons_succ]
      refine wpAnyH_take (i := 20) (oi := ({ dst := some 43, op := Op.move (Operand.tmp 1), type := 3, pos := "law.go:95", after := #[{ on := 19, ground := Ground.guard }], guard := some (19, true) } : Oper)) (v := undef) rfl (by kernel_rfl) (by kernel_rfl) (by kernel_rfl) (fun _ _ _ h => h) (Or.inr ⟨by rfl, rfl⟩) hS22 ?_
      simp only [Act.put, List.setIfInBounds_toArray, List.set_cons_zero, List.set_cons_succ]
      refine wpAnyH_take (i := 21) (oi := ({ dst := some 44, op := Op.move (Operand.tmp 0), type := 3, pos := "law.go:95", after := #[{ on := 19, ground := Ground.guard }], guard := some (19, true) } : Oper)) (v := undef) rfl (by kernel_rfl) (by kernel_rfl) (by kernel_rfl) (fun _ _ _ h => h) (Or.inr ⟨by rfl, rfl⟩) hS22 ?_
      simp only [Act.put, List.setIfInBounds_toArray, List.set_cons_zero, List.set_cons_succ]
      refine wpAnyH_take (i := 22) (oi := ({ dst := some 45, op := Op.binOp BinOp.leq 3 (Operand.tmp 43) (Operand.tmp 44) 3, type := 4, pos := "law.go:95", after := #[{ on := 20, ground := Ground.data }, { on := 21, ground := Ground.data }, { on := 19, ground := Ground.guard }], guard := some (19, true) } : Oper)) (v := undef) rfl (by kernel_rfl) (by kernel_rfl) (by kernel_rfl) (fun _ _ _ h => h) (Or.inr ⟨by rfl, rfl⟩) hS22 ?_
      simp only [Act.put, List.setIfInBounds_toArray, List.set_cons_zero, List.set_cons_succ]
      refine wpAnyH_take (i := 23) (oi := ({ dst := some 46, op := Op.pick (Operand.tmp 42) (Operand.tmp 45) (Operand.const (Value.bool false)), type := 4, pos := "law.go:95", after := #[{ on := 19, ground := Ground.data }, { on := 22, ground := Ground.data }, { on := 16, ground := Ground.guard }], guard := some (16, false) } : Oper)) (v := ?_) rfl (by kernel_rfl) (by kernel_rfl) (by kernel_rfl) (fun _ _ _ h => h) (Or.inl ⟨by rfl, ?_⟩) hS22 ?_
      rotate_left
      · intro w hSw; (try dsimp only at hSw); go_simp; (try with_reducible rfl)
      simp only [Act.put, List.setIfInBounds_toArray, List.set_cons_zero, List.set_cons_succ]
      refine wpAnyH_take (i := 24) (oi := ({ dst := some 47, op := Op.move (Operand.tmp 46), type := 4, pos := "law.go:95", after := #[{ on := 23, ground := Ground.data }, { on := 19, ground := Ground.chain }, { on := 16, ground := Ground.guard }], guard := some (16, false) } : Oper)) (v := ?_) rfl (by kernel_rfl) (by kernel_rfl) (by kernel_rfl) (fun _ _ _ h => h) (Or.inl ⟨by rfl, ?_⟩) hS22 ?_
      rotate_left
      · intro w hSw; (try dsimp only at hSw); go_simp; (try with_reducible rfl)
      simp only [Act.put, List.setIfInBounds_toArray, List.set_cons_zero, List.set_cons_succ]
      refine wpAnyH_take (i := 25) (oi := ({ dst := some 48, op := Op.load 24 (Operand.tmp 6), type := 24, pos := "law.go:95", after := #[{ on := 24, ground := Ground.guard }], guard := some (24, true) } : Oper)) (v := undef) rfl (by kernel_rfl) (by kernel_rfl) (by kernel_rfl) (fun _ _ _ h => h) (Or.inr ⟨by rfl, rfl⟩) hS22 ?_
      simp only [Act.put, List.setIfInBounds_toArray, List.set_cons_zero, List.set_cons_succ]
      refine wpAnyH_take (i := 26) (oi := ({ dst := some 49, op := Op.call { callee := Callee.value (Operand.func 16), args := #[Operand.tmp 48], argTypes := #[24] }, type := 9, pos := "law.go:95", after := #[{ on := 25, ground := Ground.data }, { on := 24, ground := Ground.chain }, { on := 24, ground := Ground.guard }], guard := some (24, true) } : Oper)) (v := undef) rfl (by kernel_rfl) (by kernel_rfl) (by kernel_rfl) (fun _ _ _ h => h) (Or.inr ⟨by rfl, rfl⟩) hS22 ?_
      simp only [Act.put, List.setIfInBounds_toArray, List.set_cons_zero, List.set_cons_succ]
      refine wpAnyH_take (i := 27) (oi := ({ dst := some 50, op := Op.call { callee := Callee.builtin Builtin.len, args := #[Operand.tmp 49], argTypes := #[9] }, type := 3, pos := "law.go:95", after := #[{ on := 26, ground := Ground.data }, { on := 24, ground := Ground.guard }], guard := some (24, true) } : Oper)) (v := undef) rfl (by kernel_rfl) (by kernel_rfl) (by kernel_rfl) (fun _ _ _ h => h) (Or.inr ⟨by rfl, rfl⟩) hS22 ?_
      simp only [Act.put, List.setIfInBounds_toArray, List.set_cons_zero, List.set_cons_succ]
      refine wpAnyH_take (i := 28) (oi := ({ dst := some 51, op := Op.load 24 (Operand.tmp 5), type := 24, pos := "law.go:95", after := #[{ on := 24, ground := Ground.guard }], guard := some (24, true) } : Oper)) (v := undef) rfl (by kernel_rfl) (by kernel_rfl) (by kernel_rfl) (fun _ _ _ h => h) (Or.inr ⟨by rfl, rfl⟩) hS22 ?_
      simp only [Act.put, List.setIfInBounds_toArray, List.set_cons_zero, List.set_cons_succ]
      refine wpAnyH_take (i := 29) (oi := ({ dst := some 52, op := Op.call { callee := Callee.value (Operand.func 16), args := #[Operand.tmp 51], argTypes := #[24] }, type := 9, pos := "law.go:95", after := #[{ on := 28, ground := Ground.data }, { on := 26, ground := Ground.chain }, { on := 24, ground := Ground.guard }], guard := some (24, true) } : Oper)) (v := undef) rfl (by kernel_rfl) (by kernel_rfl) (by kernel_rfl) (fun _ _ _ h => h) (Or.inr ⟨by rfl, rfl⟩) hS22 ?_
      simp only [Act.put, List.setIfInBounds_toArray, List.set_cons_zero, List.set_cons_succ]
      refine wpAnyH_take (i := 30) (oi := ({ dst := some 53, op := Op.call { callee := Callee.builtin Builtin.len, args := #[Operand.tmp 52], argTypes := #[9] }, type := 3, pos := "law.go:95", after := #[{ on := 29, ground := Ground.data }, { on := 24, ground := Ground.guard }], guard := some (24, true) } : Oper)) (v := undef) rfl (by kernel_rfl) (by kernel_rfl) (by kernel_rfl) (fun _ _ _ h => h) (Or.inr ⟨by rfl, rfl⟩) hS22 ?_
      simp only [Act.put, List.setIfInBounds_toArray, List.set_cons_zero, List.set_cons_succ]
      refine wpAnyH_take (i := 31) (oi := ({ dst := some 54, op := Op.binOp BinOp.lss 3 (Operand.tmp 50) (Operand.tmp 53) 3, type := 4, pos := "law.go:95", after := #[{ on := 27, ground := Ground.data }, { on := 30, ground := Ground.data }, { on := 24, ground := Ground.guard }], guard := some (24, true) } : Oper)) (v := undef) rfl (by kernel_rfl) (by kernel_rfl) (by kernel_rfl) (fun _ _ _ h => h) (Or.inr ⟨by rfl, rfl⟩) hS22 ?_
      simp only [Act.put, List.setIfInBounds_toArray, List.set_cons_zero, List.set_cons_succ]
      refine wpAnyH_take (i := 32) (oi := ({ dst := some 55, op := Op.pick (Operand.tmp 47) (Operand.tmp 54) (Operand.const (Value.bool false)), type := 4, pos := "law.go:95", after := #[{ on := 24, ground := Ground.data }, { on := 31, ground := Ground.data }, { on := 16, ground := Ground.guard }], guard := some (16, false) } : Oper)) (v := ?_) rfl (by kernel_rfl) (by kernel_rfl) (by kernel_rfl) (fun _ _ _ h => h) (Or.inl ⟨by rfl, ?_⟩) hS22 ?_
      rotate_left
      · intro w hSw; (try dsimp only at hSw); go_simp; (try with_reducible rfl)
      simp only [Act.put, List.setIfInBounds_toArray, List.set_cons_zero, List.set_cons_succ]
      refine wpAnyH_take (i := 33) (oi := ({ dst := some 56, op := Op.pick (Operand.tmp 39) (Operand.const (Value.bool true)) (Operand.tmp 55), type := 4, pos := "law.go:95", after := #[{ on := 16, ground := Ground.data }, { on := 32, ground := Ground.data }], guard := none } : Oper)) (v := ?_) rfl (by kernel_rfl) (by kernel_rfl) (by kernel_rfl) (fun _ _ _ h => h) (Or.inl ⟨by rfl, ?_⟩) hS22 ?_
      rotate_left
      · intro w hSw; (try dsimp only at hSw); go_simp; (try with_reducible rfl)
      simp only [Act.put, List.setIfInBounds_toArray, List.set_cons_zero, List.set_cons_succ]
      refine wpAnyH_done (by kernel_rfl) ?_ _
      have L21 := hid (hnext L4.out (hnext hd20 hS22.1))
      obtain ⟨_, e0, e1, e2, e3, e4, e5, e6, e7, e8, e9, e10, e11⟩ := hS22
      go_wp2_with fail
      refine (known_any _).mono ?_; rintro e w90 ⟨rfl, b90⟩
      go_wp2
      go_ret
      exact ⟨rfl, hnext L21.out b90⟩
  · rw [Ky.ints_gt hmn] at cc
    have f1 : decide (m < n) = false := decide_eq_false (by omega)
    have f2 : decide (n < m) = true := decide_eq_true hmn
    have f3 : decide (m ≤ n) = false := decide_eq_false (by omega)
    have f4 : decide (n ≤ m) = true := decide_eq_true (by omega)
    by_cases hs : m < 0
    · have s1 : decide (m < 0) = true := decide_eq_true hs
      have s2 : decide ((0 : Int) ≤ m) = false := decide_eq_false (by omega)
      have hl : decide (Y.size < X.size) = false := decide_eq_false (by have := hlen (.inr ⟨hs, by omega⟩); omega)
      clear hlen hs hmn
      go_enter Try.func8, Try.ntmps8
      go_wp2_with fail
      obtain ⟨L1, V1, V2⟩ := boxes2 w 2 m 0 ⟨#[]⟩ 2 n 0 ⟨#[]⟩
      have LL := hid L1
      have HA := hid V1
      have HB := hid V2
      clear L1 V1 V2 L
      refine (cm.out _).mono ?_; rintro e w1 ⟨rfl, b1⟩
      have A1 := hid (HA.out.keep b1)
      have B1 := hid (HB.out.keep b1)
      have L1 := hid (hnext LL.out b1)
      clear b1
      obtain ⟨Ac0_1, Ac1_1, Ac2_1, Ac3_1, Af0_1, Af1_1, Af2_1, Af3_1, Al_1⟩ := A1.out.cells
      obtain ⟨Bc0_1, Bc1_1, Bc2_1, Bc3_1, Bf0_1, Bf1_1, Bf2_1, Bf3_1, Bl_1⟩ := B1.out.cells
      go_wp2_with fail
      refine (cp.out _).mono ?_; rintro e w2 ⟨rfl, b2⟩
      clear Ac0_1 Ac1_1 Ac2_1 Ac3_1 Af0_1 Af1_1 Af2_1 Af3_1 Al_1 Bc0_1 Bc1_1 Bc2_1 Bc3_1 Bf0_1 Bf1_1 Bf2_1 Bf3_1 Bl_1
      have A2 := hid (A1.out.keep b2)
      have B2 := hid (B1.out.keep b2)
      have L2 := hid (hnext L1.out b2)
      clear b2
      obtain ⟨Ac0_2, Ac1_2, Ac2_2, Ac3_2, Af0_2, Af1_2, Af2_2, Af3_2, Al_2⟩ := A2.out.cells
      obtain ⟨Bc0_2, Bc1_2, Bc2_2, Bc3_2, Bf0_2, Bf1_2, Bf2_2, Bf3_2, Bl_2⟩ := B2.out.cells
      go_wp2_with fail
      clear Ac0_2 Ac1_2 Ac2_2 Ac3_2 Af0_2 Af1_2 Af2_2 Af3_2 Al_2 Bc0_2 Bc1_2 Bc2_2 Bc3_2 Bf0_2 Bf1_2 Bf2_2 Bf3_2 Bl_2
      have hb := hba w2 (.cells #[.int .i64 2, .int .i64 m, .int .u64 0, .string ⟨#[]⟩] 24)
      have N0 := BV.new w2 2 m 0 ⟨#[]⟩
      change BV (World.alloc w2 (.cells #[.int .i64 2, .int .i64 m, .int .u64 0, .string ⟨#[]⟩] 24)) _ _ _ _ _ at N0
      have A2n := hid (A2.out.keep hb)
      have B2n := hid (B2.out.keep hb)
      have L2n := hid (hnext L2.out hb)
      obtain ⟨gX, hgX⟩ : ∃ g, w2.heap.size = g := ⟨_, rfl⟩
      rw [hgX] at N0 ⊢
      have X0 := hid N0
      clear hb hgX N0
      generalize World.alloc w2 (.cells #[.int .i64 2, .int .i64 m, .int .u64 0, .string ⟨#[]⟩] 24) = w3 at *
      obtain ⟨Ac0_3, Ac1_3, Ac2_3, Ac3_3, Af0_3, Af1_3, Af2_3, Af3_3, Al_3⟩ := A2n.out.cells
      obtain ⟨Bc0_3, Bc1_3, Bc2_3, Bc3_3, Bf0_3, Bf1_3, Bf2_3, Bf3_3, Bl_3⟩ := B2n.out.cells
      obtain ⟨Xc0_3, Xc1_3, Xc2_3, Xc3_3, Xf0_3, Xf1_3, Xf2_3, Xf3_3, Xl_3⟩ := X0.out.cells
      refine (cc.out _).mono ?_; rintro e w4 ⟨rfl, b4⟩
      clear Ac0_3 Ac1_3 Ac2_3 Ac3_3 Af0_3 Af1_3 Af2_3 Af3_3 Al_3 Bc0_3 Bc1_3 Bc2_3 Bc3_3 Bf0_3 Bf1_3 Bf2_3 Bf3_3 Bl_3 Xc0_3 Xc1_3 Xc2_3 Xc3_3 Xf0_3 Xf1_3 Xf2_3 Xf3_3 Xl_3
      have A4 := hid (A2n.out.keep b4)
      have B4 := hid (B2n.out.keep b4)
      have X4 := hid (X0.out.keep b4)
      have L4 := hid (hnext L2n.out b4)
      clear b4
      obtain ⟨Ac0_4, Ac1_4, Ac2_4, Ac3_4, Af0_4, Af1_4, Af2_4, Af3_4, Al_4⟩ := A4.out.cells
      obtain ⟨Bc0_4, Bc1_4, Bc2_4, Bc3_4, Bf0_4, Bf1_4, Bf2_4, Bf3_4, Bl_4⟩ := B4.out.cells
      obtain ⟨Xc0_4, Xc1_4, Xc2_4, Xc3_4, Xf0_4, Xf1_4, Xf2_4, Xf3_4, Xl_4⟩ := X4.out.cells
      go_wp2_with fail
      obtain ⟨w20, hw20⟩ : ∃ w20, (w4).drew = w20 := ⟨_, rfl⟩
      have hd20 : Below (w4).heap.size (w4) w20 := hw20 ▸ (Below.refl _ _).drew
      have mk20 : ∀ W, Below w20.heap.size w20 W → Below w20.heap.size w20 W ∧ W.cell? ⟨w.heap.size, 0, none⟩ = some (.int .i64 2) ∧ W.cell? ⟨w.heap.size, 1, none⟩ = some (.int .i64 m) ∧ W.cell? ⟨w.heap.size, 2, none⟩ = some (.int .u64 0) ∧ W.cell? ⟨w.heap.size, 3, none⟩ = some (.string ⟨#[]⟩) ∧ W.cell? ⟨w.heap.size + 1, 0, none⟩ = some (.int .i64 2) ∧ W.cell? ⟨w.heap.size + 1, 1, none⟩ = some (.int .i64 n) ∧ W.cell? ⟨w.heap.size + 1, 2, none⟩ = some (.int .u64 0) ∧ W.cell? ⟨w.heap.size + 1, 3, none⟩ = some (.string ⟨#[]⟩) ∧ W.cell? ⟨gX, 0, none⟩ = some (.int .i64 2) ∧ W.cell? ⟨gX, 1, none⟩ = some (.int .i64 m) ∧ W.cell? ⟨gX, 2, none⟩ = some (.int .u64 0) ∧ W.cell? ⟨gX, 3, none⟩ = some (.string ⟨#[]⟩) := fun W h => ⟨h, hkeep (hkeep Ac0_4 hd20) h, hkeep (hkeep Ac1_4 hd20) h, hkeep (hkeep Ac2_4 hd20) h, hkeep (hkeep Ac3_4 hd20) h, hkeep (hkeep Bc0_4 hd20) h, hkeep (hkeep Bc1_4 hd20) h, hkeep (hkeep Bc2_4 hd20) h, hkeep (hkeep Bc3_4 hd20) h, hkeep (hkeep Xc0_4 hd20) h, hkeep (hkeep Xc1_4 hd20) h, hkeep (hkeep Xc2_4 hd20) h, hkeep (hkeep Xc3_4 hd20) h⟩
      clear Ac0_4 Ac1_4 Ac2_4 Ac3_4 Af0_4 Af1_4 Af2_4 Af3_4 Al_4 Bc0_4 Bc1_4 Bc2_4 Bc3_4 Bf0_4 Bf1_4 Bf2_4 Bf3_4 Bl_4 Xc0_4 Xc1_4 Xc2_4 Xc3_4 Xf0_4 Xf1_4 Xf2_4 Xf3_4 Xl_4
      refine wp_region_held_drew (S := (fun W => Below w20.heap.size w20 W ∧ W.cell? ⟨w.heap.size, 0, none⟩ = some (.int .i64 2) ∧ W.cell? ⟨w.heap.size, 1, none⟩ = some (.int .i64 m) ∧ W.cell? ⟨w.heap.size, 2, none⟩ = some (.int .u64 0) ∧ W.cell? ⟨w.heap.size, 3, none⟩ = some (.string ⟨#[]⟩) ∧ W.cell? ⟨w.heap.size + 1, 0, none⟩ = some (.int .i64 2) ∧ W.cell? ⟨w.heap.size + 1, 1, none⟩ = some (.int .i64 n) ∧ W.cell? ⟨w.heap.size + 1, 2, none⟩ = some (.int .u64 0) ∧ W.cell? ⟨w.heap.size + 1, 3, none⟩ = some (.string ⟨#[]⟩) ∧ W.cell? ⟨gX, 0, none⟩ = some (.int .i64 2) ∧ W.cell? ⟨gX, 1, none⟩ = some (.int .i64 m) ∧ W.cell? ⟨gX, 2, none⟩ = some (.int .u64 0) ∧ W.cell? ⟨gX, 3, none⟩ = some (.string ⟨#[]⟩))) (by kernel_rfl) (by rw [hw20]; exact mk20 _ (Below.refl _ _)) (fun hS20 => ?_)
      rw [hw20] at hS20 ⊢
      clear hw20
      refine wpAnyH_take (i := 0) (oi := ({ dst := some 23, op := Op.move (Operand.tmp 0), type := 3, pos := "law.go:95", after := #[], guard := none } : Oper)) (v := ?_) rfl (by kernel_rfl) (by kernel_rfl) (by kernel_rfl) (fun _ _ _ h => h) (Or.inl ⟨by rfl, ?_⟩) hS20 ?_
      rotate_left
      · intro w hSw; (try dsimp only at hSw); go_simp; (try with_reducible rfl)
      simp only [Act.put, List.setIfInBounds_toArray, List.set_cons_zero, List.set_cons_succ]
      refine wpAnyH_take (i := 1) (oi := ({ dst := some 24, op := Op.binOp BinOp.geq 3 (Operand.tmp 23) (Operand.const (Value.int IntKind.i64 0)) 3, type := 4, pos := "law.go:95", after := #[{ on := 0, ground := Ground.data }], guard := none } : Oper)) (v := ?_) rfl (by kernel_rfl) (by kernel_rfl) (by kernel_rfl) (fun _ _ _ h => h) (Or.inl ⟨by rfl, ?_⟩) hS20 ?_
      rotate_left
      · intro w hSw; (try dsimp only at hSw); go_simp; (try with_reducible rfl)
      simp only [Act.put, List.setIfInBounds_toArray, List.set_cons_zero, List.set_cons_succ]
      refine wpAnyH_take (i := 2) (oi := ({ dst := some 25, op := Op.move (Operand.tmp 24), type := 4, pos := "law.go:95", after := #[{ on := 1, ground := Ground.data }], guard := none } : Oper)) (v := ?_) rfl (by kernel_rfl) (by kernel_rfl) (by kernel_rfl) (fun _ _ _ h => h) (Or.inl ⟨by rfl, ?_⟩) hS20 ?_
      rotate_left
      · intro w hSw; (try dsimp only at hSw); go_simp; (try with_reducible rfl)
      simp only [Act.put, List.setIfInBounds_toArray, List.set_cons_zero, List.set_cons_succ]
      refine wpAnyH_take (i := 3) (oi := ({ dst := some 26, op := Op.move (Operand.tmp 1), type := 3, pos := "law.go:95", after := #[{ on := 2, ground := Ground.guard }], guard := some (2, true) } : Oper)) (v := undef) rfl (by kernel_rfl) (by kernel_rfl) (by kernel_rfl) (fun _ _ _ h => h) (Or.inr ⟨by rfl, rfl⟩) hS20 ?_
      simp only [Act.put, List.setIfInBounds_toArray, List.set_cons_zero, List.set_cons_succ]
      refine wpAnyH_take (i := 4) (oi := ({ dst := some 27, op := Op.move (Operand.tmp 0), type := 3, pos := "law.go:95", after := #[{ on := 2, ground := Ground.guard }], guard := some (2, true) } : Oper)) (v := undef) rfl (by kernel_rfl) (by kernel_rfl) (by kernel_rfl) (fun _ _ _ h => h) (Or.inr ⟨by rfl, rfl⟩) hS20 ?_
      simp only [Act.put, List.setIfInBounds_toArray, List.set_cons_zero, List.set_cons_succ]
      refine wpAnyH_take (i := 5) (oi := ({ dst := some 28, op := Op.binOp BinOp.geq 3 (Operand.tmp 26) (Operand.tmp 27) 3, type := 4, pos := "law.go:95", after := #[{ on := 3, ground := Ground.data }, { on := 4, ground := Ground.data }, { on := 2, ground := Ground.guard }], guard := some (2, true) } : Oper)) (v := undef) rfl (by kernel_rfl) (by kernel_rfl) (by kernel_rfl) (fun _ _ _ h => h) (Or.inr ⟨by rfl, rfl⟩) hS20 ?_
      simp only [Act.put, List.setIfInBounds_toArray, List.set_cons_zero, List.set_cons_succ]
      refine wpAnyH_take (i := 6) (oi := ({ dst := some 29, op := Op.pick (Operand.tmp 25) (Operand.tmp 28) (Operand.const (Value.bool false)), type := 4, pos := "law.go:95", after := #[{ on := 2, ground := Ground.data }, { on := 5, ground := Ground.data }], guard := none } : Oper)) (v := ?_) rfl (by kernel_rfl) (by kernel_rfl) (by kernel_rfl) (fun _ _ _ h => h) (Or.inl ⟨by rfl, ?_⟩) hS20 ?_
      rotate_left
      · intro w hSw; (try dsimp only at hSw); go_simp; (try with_reducible rfl)
      simp only [Act.put, List.setIfInBounds_toArray, List.set_cons_zero, List.set_cons_succ]
      refine wpAnyH_take (i := 7) (oi := ({ dst := some 30, op := Op.move (Operand.tmp 29), type := 4, pos := "law.go:95", after := #[{ on := 6, ground := Ground.data }, { on := 2, ground := Ground.chain }], guard := none } : Oper)) (v := ?_) rfl (by kernel_rfl) (by kernel_rfl) (by kernel_rfl) (fun _ _ _ h => h) (Or.inl ⟨by rfl, ?_⟩) hS20 ?_
      rotate_left
      · intro w hSw; (try dsimp only at hSw); go_simp; (try with_reducible rfl)
      simp only [Act.put, List.setIfInBounds_toArray, List.set_cons_zero, List.set_cons_succ]
      refine wpAnyH_take (i := 8) (oi := ({ dst := some 31, op := Op.load 24 (Operand.tmp 6), type := 24, pos := "law.go:95", after := #[{ on := 7, ground := Ground.guard }], guard := some (7, true) } : Oper)) (v := undef) rfl (by kernel_rfl) (by kernel_rfl) (by kernel_rfl) (fun _ _ _ h => h) (Or.inr ⟨by rfl, rfl⟩) hS20 ?_
      simp only [Act.put, List.setIfInBounds_toArray, List.set_cons_zero, List.set_cons_succ]
      refine wpAnyH_take (i := 9) (oi := ({ dst := some 32, op := Op.call { callee := Callee.value (Operand.func 16), args := #[Operand.tmp 31], argTypes := #[24] }, type := 9, pos := "law.go:95", after := #[{ on := 8, ground := Ground.data }, { on := 7, ground := Ground.chain }, { on := 7, ground := Ground.guard }], guard := some (7, true) } : Oper)) (v := undef) rfl (by kernel_rfl) (by kernel_rfl) (by kernel_rfl) (fun _ _ _ h => h) (Or.inr ⟨by rfl, rfl⟩) hS20 ?_
      simp only [Act.put, List.setIfInBounds_toArray, List.set_cons_zero, List.set_cons_succ]
      refine wpAnyH_take (i := 10) (oi := ({ dst := some 33, op := Op.call { callee := Callee.builtin Builtin.len, args := #[Operand.tmp 32], argTypes := #[9] }, type := 3, pos := "law.go:95", after := #[{ on := 9, ground := Ground.data }, { on := 7, ground := Ground.guard }], guard := some (7, true) } : Oper)) (v := undef) rfl (by kernel_rfl) (by kernel_rfl) (by kernel_rfl) (fun _ _ _ h => h) (Or.inr ⟨by rfl, rfl⟩) hS20 ?_
      simp only [Act.put, List.setIfInBounds_toArray, List.set_cons_zero, List.set_cons_succ]
      refine wpAnyH_take (i := 11) (oi := ({ dst := some 34, op := Op.load 24 (Operand.tmp 5), type := 24, pos := "law.go:95", after := #[{ on := 7, ground := Ground.guard }], guard := some (7, true) } : Oper)) (v := undef) rfl (by kernel_rfl) (by kernel_rfl) (by kernel_rfl) (fun _ _ _ h => h) (Or.inr ⟨by rfl, rfl⟩) hS20 ?_
      simp only [Act.put, List.setIfInBounds_toArray, List.set_cons_zero, List.set_cons_succ]
      refine wpAnyH_take (i := 12) (oi := ({ dst := some 35, op := Op.call { callee := Callee.value (Operand.func 16), args := #[Operand.tmp 34], argTypes := #[24] }, type := 9, pos := "law.go:95", after := #[{ on := 11, ground := Ground.data }, { on := 9, ground := Ground.chain }, { on := 7, ground := Ground.guard }], guard := some (7, true) } : Oper)) (v := undef) rfl (by kernel_rfl) (by kernel_rfl) (by kernel_rfl) (fun _ _ _ h => h) (Or.inr ⟨by rfl, rfl⟩) hS20 ?_
      simp only [Act.put, List.setIfInBounds_toArray, List.set_cons_zero, List.set_cons_succ]
      refine wpAnyH_take (i := 13) (oi := ({ dst := some 36, op := Op.call { callee := Callee.builtin Builtin.len, args := #[Operand.tmp 35], argTypes := #[9] }, type := 3, pos := "law.go:95", after := #[{ on := 12, ground := Ground.data }, { on := 7, ground := Ground.guard }], guard := some (7, true) } : Oper)) (v := undef) rfl (by kernel_rfl) (by kernel_rfl) (by kernel_rfl) (fun _ _ _ h => h) (Or.inr ⟨by rfl, rfl⟩) hS20 ?_
      simp only [Act.put, List.setIfInBounds_toArray, List.set_cons_zero, List.set_cons_succ]
      refine wpAnyH_take (i := 14) (oi := ({ dst := some 37, op := Op.binOp BinOp.lss 3 (Operand.tmp 33) (Operand.tmp 36) 3, type := 4, pos := "law.go:95", after := #[{ on := 10, ground := Ground.data }, { on := 13, ground := Ground.data }, { on := 7, ground := Ground.guard }], guard := some (7, true) } : Oper)) (v := undef) rfl (by kernel_rfl) (by kernel_rfl) (by kernel_rfl) (fun _ _ _ h => h) (Or.inr ⟨by rfl, rfl⟩) hS20 ?_
      simp only [Act.put, List.setIfInBounds_toArray, List.set_cons_zero, List.set_cons_succ]
      refine wpAnyH_take (i := 15) (oi := ({ dst := some 38, op := Op.pick (Operand.tmp 30) (Operand.tmp 37) (Operand.const (Value.bool false)), type := 4, pos := "law.go:95", after := #[{ on := 7, ground := Ground.data }, { on := 14, ground := Ground.data }], guard := none } : Oper)) (v := ?_) rfl (by kernel_rfl) (by kernel_rfl) (by kernel_rfl) (fun _ _ _ h => h) (Or.inl ⟨by rfl, ?_⟩) hS20 ?_
      rotate_left
      · intro w hSw; (try dsimp only at hSw); go_simp; (try with_reducible rfl)
      simp only [Act.put, List.setIfInBounds_toArray, List.set_cons_zero, List.set_cons_succ]
      refine wpAnyH_take (i := 16) (oi := ({ dst := some 39, op := Op.move (Operand.tmp 38), type := 4, pos := "law.go:95", after := #[{ on := 15, ground := Ground.data }, { on := 12, ground := Ground.chain }], guard := none } : Oper)) (v := ?_) rfl (by kernel_rfl) (by kernel_rfl) (by kernel_rfl) (fun _ _ _ h => h) (Or.inl ⟨by rfl, ?_⟩) hS20 ?_
      rotate_left
      · intro w hSw; (try dsimp only at hSw); go_simp; (try with_reducible rfl)
      simp only [Act.put, List.setIfInBounds_toArray, List.set_cons_zero, List.set_cons_succ]
      refine wpAnyH_take (i := 17) (oi := ({ dst := some 40, op := Op.move (Operand.tmp 0), type := 3, pos := "law.go:95", after := #[{ on := 16, ground := Ground.guard }], guard := some (16, false) } : Oper)) (v := ?_) rfl (by kernel_rfl) (by kernel_rfl) (by kernel_rfl) (fun _ _ _ h => h) (Or.inl ⟨by rfl, ?_⟩) hS20 ?_
      rotate_left
      · intro w hSw; (try dsimp only at hSw); go_simp; (try with_reducible rfl)
      simp only [Act.put, List.setIfInBounds_toArray, List.set_cons_zero, List.set_cons_succ]
      refine wpAnyH_take (i := 18) (oi := ({ dst := some 41, op := Op.binOp BinOp.lss 3 (Operand.tmp 40) (Operand.const (Value.int IntKind.i64 0)) 3, type := 4, pos := "law.go:95", after := #[{ on := 17, ground := Ground.data }, { on := 16, ground := Ground.guard }], guard := some (16, false) } : Oper)) (v := ?_) rfl (by kernel_rfl) (by kernel_rfl) (by kernel_rfl) (fun _ _ _ h => h) (Or.inl ⟨by rfl, ?_⟩) hS20 ?_
      rotate_left
      · intro w hSw; (try dsimp only at hSw); go_simp; (try with_reducible rfl)
      simp only [Act.put, List.setIfInBounds_toArray, List.set_cons_zero, List.set_cons_succ]
      refine wpAnyH_take (i := 19) (oi := ({ dst := some 42, op := Op.move (Operand.tmp 41), type := 4, pos := "law.go:95", after := #[{ on := 18, ground := Ground.data }, { on := 16, ground := Ground.chain }, { on := 16, ground := Ground.guard }], guard := some (16, false) } : Oper)) (v := ?_) rfl (by kernel_rfl) (by kernel_rfl) (by kernel_rfl) (fun _ _ _ h => h) (Or.inl ⟨by rfl, ?_⟩) hS20 ?_
      rotate_left
      · intro w hSw; (try dsimp only at hSw); go_simp; (try with_reducible rfl)
      simp only [Act.put, List.setIfInBounds_toArray, List.set_cons_zero, List.set_cons_succ]
      refine wpAnyH_take (i := 20) (oi := ({ dst := some 43, op := Op.move (Operand.tmp 1), type := 3, pos := "law.go:95", after := #[{ on := 19, ground := Ground.guard }], guard := some (19, true) } : Oper)) (v := ?_) rfl (by kernel_rfl) (by kernel_rfl) (by kernel_rfl) (fun _ _ _ h => h) (Or.inl ⟨by rfl, ?_⟩) hS20 ?_
      rotate_left
      · intro w hSw; (try dsimp only at hSw); go_simp; (try with_reducible rfl)
      simp only [Act.put, List.setIfInBounds_toArray, List.set_cons_zero, List.set_cons_succ]
      refine wpAnyH_take (i := 21) (oi := ({ dst := some 44, op := Op.move (Operand.tmp 0), type := 3, pos := "law.go:95", after := #[{ on := 19, ground := Ground.guard }], guard := some (19, true) } : Oper)) (v := ?_) rfl (by kernel_rfl) (by kernel_rfl) (by kernel_rfl) (fun _ _ _ h => h) (Or.inl ⟨by rfl, ?_⟩) hS20 ?_
      rotate_left
      · intro w hSw; (try dsimp only at hSw); go_simp; (try with_reducible rfl)
      simp only [Act.put, List.setIfInBounds_toArray, List.set_cons_zero, List.set_cons_succ]
      refine wpAnyH_take (i := 22) (oi := ({ dst := some 45, op := Op.binOp BinOp.leq 3 (Operand.tmp 43) (Operand.tmp 44) 3, type := 4, pos := "law.go:95", after := #[{ on := 20, ground := Ground.data }, { on := 21, ground := Ground.data }, { on := 19, ground := Ground.guard }], guard := some (19, true) } : Oper)) (v := ?_) rfl (by kernel_rfl) (by kernel_rfl) (by kernel_rfl) (fun _ _ _ h => h) (Or.inl ⟨by rfl, ?_⟩) hS20 ?_
      rotate_left
      · intro w hSw; (try dsimp only at hSw); go_simp; (try with_reducible rfl)
      simp only [Act.put, List.setIfInBounds_toArray, List.set_cons_zero, List.set_cons_succ]
      refine wpAnyH_take (i := 23) (oi := ({ dst := some 46, op := Op.pick (Operand.tmp 42) (Operand.tmp 45) (Operand.const (Value.bool false)), type := 4, pos := "law.go:95", after := #[{ on := 19, ground := Ground.data }, { on := 22, ground := Ground.data }, { on := 16, ground := Ground.guard }], guard := some (16, false) } : Oper)) (v := ?_) rfl (by kernel_rfl) (by kernel_rfl) (by kernel_rfl) (fun _ _ _ h => h) (Or.inl ⟨by rfl, ?_⟩) hS20 ?_
      rotate_left
      · intro w hSw; (try dsimp only at hSw); go_simp; (try with_reducible rfl)
      simp only [Act.put, List.setIfInBounds_toArray, List.set_cons_zero, List.set_cons_succ]
      refine wpAnyH_take (i := 24) (oi := ({ dst := some 47, op := Op.move (Operand.tmp 46), type := 4, pos := "law.go:95", after := #[{ on := 23, ground := Ground.data }, { on := 19, ground := Ground.chain }, { on := 16, ground := Ground.guard }], guard := some (16, false) } : Oper)) (v := ?_) rfl (by kernel_rfl) (by kernel_rfl) (by kernel_rfl) (fun _ _ _ h => h) (Or.inl ⟨by rfl, ?_⟩) hS20 ?_
      rotate_left
      · intro w hSw; (try dsimp only at hSw); go_simp; (try with_reducible rfl)
      simp only [Act.put, List.setIfInBounds_toArray, List.set_cons_zero, List.set_cons_succ]
      refine wpAnyH_take (i := 25) (oi := ({ dst := some 48, op := Op.load 24 (Operand.tmp 6), type := 24, pos := "law.go:95", after := #[{ on := 24, ground := Ground.guard }], guard := some (24, true) } : Oper)) (v := ?_) rfl (by kernel_rfl) (by kernel_rfl) (by kernel_rfl) (fun _ _ _ h => h) (Or.inl ⟨by rfl, ?_⟩) hS20 ?_
      rotate_left
      · intro w hSw; (try dsimp only at hSw); go_simp; (try with_reducible rfl)
      simp only [Act.put, List.setIfInBounds_toArray, List.set_cons_zero, List.set_cons_succ]
      refine wpAnyH_take (i := 28) (oi := ({ dst := some 51, op := Op.load 24 (Operand.tmp 5), type := 24, pos := "law.go:95", after := #[{ on := 24, ground := Ground.guard }], guard := some (24, true) } : Oper)) (v := ?_) rfl (by kernel_rfl) (by kernel_rfl) (by kernel_rfl) (fun _ _ _ h => h) (Or.inl ⟨by rfl, ?_⟩) hS20 ?_
      rotate_left
      · intro w hSw; (try dsimp only at hSw); go_simp; (try with_reducible rfl)
      simp only [Act.put, List.setIfInBounds_toArray, List.set_cons_zero, List.set_cons_succ]
      refine wpAnyH_ready (rs := [26]) (by kernel_rfl) (by simp) ?_
      refine AllReadyH.cons (o := ({ dst := some 49, op := Op.call { callee := Callee.value (Operand.func 16), args := #[Operand.tmp 48], argTypes := #[24] }, type := 9, pos := "law.go:95", after := #[{ on := 25, ground := Ground.data }, { on := 24, ground := Ground.chain }, { on := 24, ground := Ground.guard }], guard := some (24, true) } : Oper)) rfl (fun K hK => ?_) AllReadyH.nil
      go_simp
      refine (cn.out _).mono ?_; rintro e w21 ⟨rfl, hb21⟩
      go_wp2_with fail
      refine hK.out _ _ (mk20 _ (hnext hS20.1 hb21)) (fun hS21 => ?_)
      clear hK K
      (try simp only [Act.put, List.setIfInBounds_toArray, List.set_cons_zero, List.set_cons_succ])
      clear hb21 hS20
      refine wpAnyH_take (i := 27) (oi := ({ dst := some 50, op := Op.call { callee := Callee.builtin Builtin.len, args := #[Operand.tmp 49], argTypes := #[9] }, type := 3, pos := "law.go:95", after := #[{ on := 26, ground := Ground.data }, { on := 24, ground := Ground.guard }], guard := some (24, true) } : Oper)) (v := ?_) rfl (by kernel_rfl) (by kernel_rfl) (by kernel_rfl) (fun _ _ _ h => h) (Or.inl ⟨by rfl, ?_⟩) hS21 ?_
      rotate_left
      · intro w hSw; (try dsimp only at hSw); go_simp; (try with_reducible rfl)
      simp only [Act.put, List.setIfInBounds_toArray, List.set_cons_zero, List.set_cons_succ]
      refine wpAnyH_ready (rs := [29]) (by kernel_rfl) (by simp) ?_
      refine AllReadyH.cons (o := ({ dst := some 52, op := Op.call { callee := Callee.value (Operand.func 16), args := #[Operand.tmp 51], argTypes := #[24] }, type := 9, pos := "law.go:95", after := #[{ on := 28, ground := Ground.data }, { on := 26, ground := Ground.chain }, { on := 24, ground := Ground.guard }], guard := some (24, true) } : Oper)) rfl (fun K hK => ?_) AllReadyH.nil
      go_simp
      refine (cm.out _).mono ?_; rintro e w22 ⟨rfl, hb22⟩
      go_wp2_with fail
      refine hK.out _ _ (mk20 _ (hnext hS21.1 hb22)) (fun hS22 => ?_)
      clear hK K
      (try simp only [Act.put, List.setIfInBounds_toArray, List.set_cons_zero, List.set_cons_succ])
      clear hb22 hS21
      refine wpAnyH_take (i := 30) (oi := ({ dst := some 53, op := Op.call { callee := Callee.builtin Builtin.len, args := #[Operand.tmp 52], argTypes := #[9] }, type := 3, pos := "law.go:95", after := #[{ on := 29, ground := Ground.data }, { on := 24, ground := Ground.guard }], guard := some (24, true) } : Oper)) (v := ?_) rfl (by kernel_rfl) (by kernel_rfl) (by kernel_rfl) (fun _ _ _ h => h) (Or.inl ⟨by rfl, ?_⟩) hS22 ?_
      rotate_left
      · intro w hSw; (try dsimp only at hSw); go_simp; (try with_reducible rfl)
      simp only [Act.put, List.setIfInBounds_toArray, List.set_cons_zero, List.set_cons_succ]
      refine wpAnyH_take (i := 31) (oi := ({ dst := some 54, op := Op.binOp BinOp.lss 3 (Operand.tmp 50) (Operand.tmp 53) 3, type := 4, pos := "law.go:95", after := #[{ on := 27, ground := Ground.data }, { on := 30, ground := Ground.data }, { on := 24, ground := Ground.guard }], guard := some (24, true) } : Oper)) (v := ?_) rfl (by kernel_rfl) (by kernel_rfl) (by kernel_rfl) (fun _ _ _ h => h) (Or.inl ⟨by rfl, ?_⟩) hS22 ?_
      rotate_left
      · intro w hSw; (try dsimp only at hSw); go_simp; (try with_reducible rfl)
      simp only [Act.put, List.setIfInBounds_toArray, List.set_cons_zero, List.set_cons_succ]
      refine wpAnyH_take (i := 32) (oi := ({ dst := some 55, op := Op.pick (Operand.tmp 47) (Operand.tmp 54) (Operand.const (Value.bool false)), type := 4, pos := "law.go:95", after := #[{ on := 24, ground := Ground.data }, { on := 31, ground := Ground.data }, { on := 16, ground := Ground.guard }], guard := some (16, false) } : Oper)) (v := ?_) rfl (by kernel_rfl) (by kernel_rfl) (by kernel_rfl) (fun _ _ _ h => h) (Or.inl ⟨by rfl, ?_⟩) hS22 ?_
      rotate_left
      · intro w hSw; (try dsimp only at hSw); go_simp; (try with_reducible rfl)
      simp only [Act.put, List.setIfInBounds_toArray, List.set_cons_zero, List.set_cons_succ]
      refine wpAnyH_take (i := 33) (oi := ({ dst := some 56, op := Op.pick (Operand.tmp 39) (Operand.const (Value.bool true)) (Operand.tmp 55), type := 4, pos := "law.go:95", after := #[{ on := 16, ground := Ground.data }, { on := 32, ground := Ground.data }], guard := none } : Oper)) (v := ?_) rfl (by kernel_rfl) (by kernel_rfl) (by kernel_rfl) (fun _ _ _ h => h) (Or.inl ⟨by rfl, ?_⟩) hS22 ?_
      rotate_left
      · intro w hSw; (try dsimp only at hSw); go_simp; (try with_reducible rfl)
      simp only [Act.put, List.setIfInBounds_toArray, List.set_cons_zero, List.set_cons_succ]
      refine wpAnyH_done (by kernel_rfl) ?_ _
      have L21 := hid (hnext L4.out (hnext hd20 hS22.1))
      obtain ⟨_, e0, e1, e2, e3, e4, e5, e6, e7, e8, e9, e10, e11⟩ := hS22
      go_wp2_with fail
      refine (known_any _).mono ?_; rintro e w90 ⟨rfl, b90⟩
      go_wp2
      go_ret
      exact ⟨rfl, hnext L21.out b90⟩
    · have s1 : decide (m < 0) = false := decide_eq_false hs
      have s2 : decide ((0 : Int) ≤ m) = true := decide_eq_true (by omega)
      clear hlen hs hmn
      go_enter Try.func8, Try.ntmps8
      go_wp2_with fail
      obtain ⟨L1, V1, V2⟩ := boxes2 w 2 m 0 ⟨#[]⟩ 2 n 0 ⟨#[]⟩
      have LL := hid L1
      have HA := hid V1
      have HB := hid V2
      clear L1 V1 V2 L
      refine (cm.out _).mono ?_; rintro e w1 ⟨rfl, b1⟩
      have A1 := hid (HA.out.keep b1)
      have B1 := hid (HB.out.keep b1)
      have L1 := hid (hnext LL.out b1)
      clear b1
      obtain ⟨Ac0_1, Ac1_1, Ac2_1, Ac3_1, Af0_1, Af1_1, Af2_1, Af3_1, Al_1⟩ := A1.out.cells
      obtain ⟨Bc0_1, Bc1_1, Bc2_1, Bc3_1, Bf0_1, Bf1_1, Bf2_1, Bf3_1, Bl_1⟩ := B1.out.cells
      go_wp2_with fail
      refine (cp.out _).mono ?_; rintro e w2 ⟨rfl, b2⟩
      clear Ac0_1 Ac1_1 Ac2_1 Ac3_1 Af0_1 Af1_1 Af2_1 Af3_1 Al_1 Bc0_1 Bc1_1 Bc2_1 Bc3_1 Bf0_1 Bf1_1 Bf2_1 Bf3_1 Bl_1
      have A2 := hid (A1.out.keep b2)
      have B2 := hid (B1.out.keep b2)
      have L2 := hid (hnext L1.out b2)
      clear b2
      obtain ⟨Ac0_2, Ac1_2, Ac2_2, Ac3_2, Af0_2, Af1_2, Af2_2, Af3_2, Al_2⟩ := A2.out.cells
      obtain ⟨Bc0_2, Bc1_2, Bc2_2, Bc3_2, Bf0_2, Bf1_2, Bf2_2, Bf3_2, Bl_2⟩ := B2.out.cells
      go_wp2_with fail
      clear Ac0_2 Ac1_2 Ac2_2 Ac3_2 Af0_2 Af1_2 Af2_2 Af3_2 Al_2 Bc0_2 Bc1_2 Bc2_2 Bc3_2 Bf0_2 Bf1_2 Bf2_2 Bf3_2 Bl_2
      have hb := hba w2 (.cells #[.int .i64 2, .int .i64 m, .int .u64 0, .string ⟨#[]⟩] 24)
      have N0 := BV.new w2 2 m 0 ⟨#[]⟩
      change BV (World.alloc w2 (.cells #[.int .i64 2, .int .i64 m, .int .u64 0, .string ⟨#[]⟩] 24)) _ _ _ _ _ at N0
      have A2n := hid (A2.out.keep hb)
      have B2n := hid (B2.out.keep hb)
      have L2n := hid (hnext L2.out hb)
      obtain ⟨gX, hgX⟩ : ∃ g, w2.heap.size = g := ⟨_, rfl⟩
      rw [hgX] at N0 ⊢
      have X0 := hid N0
      clear hb hgX N0
      generalize World.alloc w2 (.cells #[.int .i64 2, .int .i64 m, .int .u64 0, .string ⟨#[]⟩] 24) = w3 at *
      obtain ⟨Ac0_3, Ac1_3, Ac2_3, Ac3_3, Af0_3, Af1_3, Af2_3, Af3_3, Al_3⟩ := A2n.out.cells
      obtain ⟨Bc0_3, Bc1_3, Bc2_3, Bc3_3, Bf0_3, Bf1_3, Bf2_3, Bf3_3, Bl_3⟩ := B2n.out.cells
      obtain ⟨Xc0_3, Xc1_3, Xc2_3, Xc3_3, Xf0_3, Xf1_3, Xf2_3, Xf3_3, Xl_3⟩ := X0.out.cells
      refine (cc.out _).mono ?_; rintro e w4 ⟨rfl, b4⟩
      clear Ac0_3 Ac1_3 Ac2_3 Ac3_3 Af0_3 Af1_3 Af2_3 Af3_3 Al_3 Bc0_3 Bc1_3 Bc2_3 Bc3_3 Bf0_3 Bf1_3 Bf2_3 Bf3_3 Bl_3 Xc0_3 Xc1_3 Xc2_3 Xc3_3 Xf0_3 Xf1_3 Xf2_3 Xf3_3 Xl_3
      have A4 := hid (A2n.out.keep b4)
      have B4 := hid (B2n.out.keep b4)
      have X4 := hid (X0.out.keep b4)
      have L4 := hid (hnext L2n.out b4)
      clear b4
      obtain ⟨Ac0_4, Ac1_4, Ac2_4, Ac3_4, Af0_4, Af1_4, Af2_4, Af3_4, Al_4⟩ := A4.out.cells
      obtain ⟨Bc0_4, Bc1_4, Bc2_4, Bc3_4, Bf0_4, Bf1_4, Bf2_4, Bf3_4, Bl_4⟩ := B4.out.cells
      obtain ⟨Xc0_4, Xc1_4, Xc2_4, Xc3_4, Xf0_4, Xf1_4, Xf2_4, Xf3_4, Xl_4⟩ := X4.out.cells
      go_wp2_with fail
      obtain ⟨w20, hw20⟩ : ∃ w20, (w4).drew = w20 := ⟨_, rfl⟩
      have hd20 : Below (w4).heap.size (w4) w20 := hw20 ▸ (Below.refl _ _).drew
      have mk20 : ∀ W, Below w20.heap.size w20 W → Below w20.heap.size w20 W ∧ W.cell? ⟨w.heap.size, 0, none⟩ = some (.int .i64 2) ∧ W.cell? ⟨w.heap.size, 1, none⟩ = some (.int .i64 m) ∧ W.cell? ⟨w.heap.size, 2, none⟩ = some (.int .u64 0) ∧ W.cell? ⟨w.heap.size, 3, none⟩ = some (.string ⟨#[]⟩) ∧ W.cell? ⟨w.heap.size + 1, 0, none⟩ = some (.int .i64 2) ∧ W.cell? ⟨w.heap.size + 1, 1, none⟩ = some (.int .i64 n) ∧ W.cell? ⟨w.heap.size + 1, 2, none⟩ = some (.int .u64 0) ∧ W.cell? ⟨w.heap.size + 1, 3, none⟩ = some (.string ⟨#[]⟩) ∧ W.cell? ⟨gX, 0, none⟩ = some (.int .i64 2) ∧ W.cell? ⟨gX, 1, none⟩ = some (.int .i64 m) ∧ W.cell? ⟨gX, 2, none⟩ = some (.int .u64 0) ∧ W.cell? ⟨gX, 3, none⟩ = some (.string ⟨#[]⟩) := fun W h => ⟨h, hkeep (hkeep Ac0_4 hd20) h, hkeep (hkeep Ac1_4 hd20) h, hkeep (hkeep Ac2_4 hd20) h, hkeep (hkeep Ac3_4 hd20) h, hkeep (hkeep Bc0_4 hd20) h, hkeep (hkeep Bc1_4 hd20) h, hkeep (hkeep Bc2_4 hd20) h, hkeep (hkeep Bc3_4 hd20) h, hkeep (hkeep Xc0_4 hd20) h, hkeep (hkeep Xc1_4 hd20) h, hkeep (hkeep Xc2_4 hd20) h, hkeep (hkeep Xc3_4 hd20) h⟩
      clear Ac0_4 Ac1_4 Ac2_4 Ac3_4 Af0_4 Af1_4 Af2_4 Af3_4 Al_4 Bc0_4 Bc1_4 Bc2_4 Bc3_4 Bf0_4 Bf1_4 Bf2_4 Bf3_4 Bl_4 Xc0_4 Xc1_4 Xc2_4 Xc3_4 Xf0_4 Xf1_4 Xf2_4 Xf3_4 Xl_4
      refine wp_region_held_drew (S := (fun W => Below w20.heap.size w20 W ∧ W.cell? ⟨w.heap.size, 0, none⟩ = some (.int .i64 2) ∧ W.cell? ⟨w.heap.size, 1, none⟩ = some (.int .i64 m) ∧ W.cell? ⟨w.heap.size, 2, none⟩ = some (.int .u64 0) ∧ W.cell? ⟨w.heap.size, 3, none⟩ = some (.string ⟨#[]⟩) ∧ W.cell? ⟨w.heap.size + 1, 0, none⟩ = some (.int .i64 2) ∧ W.cell? ⟨w.heap.size + 1, 1, none⟩ = some (.int .i64 n) ∧ W.cell? ⟨w.heap.size + 1, 2, none⟩ = some (.int .u64 0) ∧ W.cell? ⟨w.heap.size + 1, 3, none⟩ = some (.string ⟨#[]⟩) ∧ W.cell? ⟨gX, 0, none⟩ = some (.int .i64 2) ∧ W.cell? ⟨gX, 1, none⟩ = some (.int .i64 m) ∧ W.cell? ⟨gX, 2, none⟩ = some (.int .u64 0) ∧ W.cell? ⟨gX, 3, none⟩ = some (.string ⟨#[]⟩))) (by kernel_rfl) (by rw [hw20]; exact mk20 _ (Below.refl _ _)) (fun hS20 => ?_)
      rw [hw20] at hS20 ⊢
      clear hw20
      refine wpAnyH_take (i := 0) (oi := ({ dst := some 23, op := Op.move (Operand.tmp 0), type := 3, pos := "law.go:95", after := #[], guard := none } : Oper)) (v := ?_) rfl (by kernel_rfl) (by kernel_rfl) (by kernel_rfl) (fun _ _ _ h => h) (Or.inl ⟨by rfl, ?_⟩) hS20 ?_
      rotate_left
      · intro w hSw; (try dsimp only at hSw); go_simp; (try with_reducible rfl)
      simp only [Act.put, List.setIfInBounds_toArray, List.set_cons_zero, List.set_cons_succ]
      refine wpAnyH_take (i := 1) (oi := ({ dst := some 24, op := Op.binOp BinOp.geq 3 (Operand.tmp 23) (Operand.const (Value.int IntKind.i64 0)) 3, type := 4, pos := "law.go:95", after := #[{ on := 0, ground := Ground.data }], guard := none } : Oper)) (v := ?_) rfl (by kernel_rfl) (by kernel_rfl) (by kernel_rfl) (fun _ _ _ h => h) (Or.inl ⟨by rfl, ?_⟩) hS20 ?_
      rotate_left
      · intro w hSw; (try dsimp only at hSw); go_simp; (try with_reducible rfl)
      simp only [Act.put, List.setIfInBounds_toArray, List.set_cons_zero, List.set_cons_succ]
      refine wpAnyH_take (i := 2) (oi := ({ dst := some 25, op := Op.move (Operand.tmp 24), type := 4, pos := "law.go:95", after := #[{ on := 1, ground := Ground.data }], guard := none } : Oper)) (v := ?_) rfl (by kernel_rfl) (by kernel_rfl) (by kernel_rfl) (fun _ _ _ h => h) (Or.inl ⟨by rfl, ?_⟩) hS20 ?_
      rotate_left
      · intro w hSw; (try dsimp only at hSw); go_simp; (try with_reducible rfl)
      simp only [Act.put, List.setIfInBounds_toArray, List.set_cons_zero, List.set_cons_succ]
      refine wpAnyH_take (i := 3) (oi := ({ dst := some 26, op := Op.move (Operand.tmp 1), type := 3, pos := "law.go:95", after := #[{ on := 2, ground := Ground.guard }], guard := some (2, true) } : Oper)) (v := ?_) rfl (by kernel_rfl) (by kernel_rfl) (by kernel_rfl) (fun _ _ _ h => h) (Or.inl ⟨by rfl, ?_⟩) hS20 ?_
      rotate_left
      · intro w hSw; (try dsimp only at hSw); go_simp; (try with_reducible rfl)
      simp only [Act.put, List.setIfInBounds_toArray, List.set_cons_zero, List.set_cons_succ]
      refine wpAnyH_take (i := 4) (oi := ({ dst := some 27, op := Op.move (Operand.tmp 0), type := 3, pos := "law.go:95", after := #[{ on := 2, ground := Ground.guard }], guard := some (2, true) } : Oper)) (v := ?_) rfl (by kernel_rfl) (by kernel_rfl) (by kernel_rfl) (fun _ _ _ h => h) (Or.inl ⟨by rfl, ?_⟩) hS20 ?_
      rotate_left
      · intro w hSw; (try dsimp only at hSw); go_simp; (try with_reducible rfl)
      simp only [Act.put, List.setIfInBounds_toArray, List.set_cons_zero, List.set_cons_succ]
      refine wpAnyH_take (i := 5) (oi := ({ dst := some 28, op := Op.binOp BinOp.geq 3 (Operand.tmp 26) (Operand.tmp 27) 3, type := 4, pos := "law.go:95", after := #[{ on := 3, ground := Ground.data }, { on := 4, ground := Ground.data }, { on := 2, ground := Ground.guard }], guard := some (2, true) } : Oper)) (v := ?_) rfl (by kernel_rfl) (by kernel_rfl) (by kernel_rfl) (fun _ _ _ h => h) (Or.inl ⟨by rfl, ?_⟩) hS20 ?_
      rotate_left
      · intro w hSw; (try dsimp only at hSw); go_simp; (try with_reducible rfl)
      simp only [Act.put, List.setIfInBounds_toArray, List.set_cons_zero, List.set_cons_succ]
      refine wpAnyH_take (i := 6) (oi := ({ dst := some 29, op := Op.pick (Operand.tmp 25) (Operand.tmp 28) (Operand.const (Value.bool false)), type := 4, pos := "law.go:95", after := #[{ on := 2, ground := Ground.data }, { on := 5, ground := Ground.data }], guard := none } : Oper)) (v := ?_) rfl (by kernel_rfl) (by kernel_rfl) (by kernel_rfl) (fun _ _ _ h => h) (Or.inl ⟨by rfl, ?_⟩) hS20 ?_
      rotate_left
      · intro w hSw; (try dsimp only at hSw); go_simp; (try with_reducible rfl)
      simp only [Act.put, List.setIfInBounds_toArray, List.set_cons_zero, List.set_cons_succ]
      refine wpAnyH_take (i := 7) (oi := ({ dst := some 30, op := Op.move (Operand.tmp 29), type := 4, pos := "law.go:95", after := #[{ on := 6, ground := Ground.data }, { on := 2, ground := Ground.chain }], guard := none } : Oper)) (v := ?_) rfl (by kernel_rfl) (by kernel_rfl) (by kernel_rfl) (fun _ _ _ h => h) (Or.inl ⟨by rfl, ?_⟩) hS20 ?_
      rotate_left
      · intro w hSw; (try dsimp only at hSw); go_simp; (try with_reducible rfl)
      simp only [Act.put, List.setIfInBounds_toArray, List.set_cons_zero, List.set_cons_succ]
      refine wpAnyH_take (i := 8) (oi := ({ dst := some 31, op := Op.load 24 (Operand.tmp 6), type := 24, pos := "law.go:95", after := #[{ on := 7, ground := Ground.guard }], guard := some (7, true) } : Oper)) (v := undef) rfl (by kernel_rfl) (by kernel_rfl) (by kernel_rfl) (fun _ _ _ h => h) (Or.inr ⟨by rfl, rfl⟩) hS20 ?_
      simp only [Act.put, List.setIfInBounds_toArray, List.set_cons_zero, List.set_cons_succ]
      refine wpAnyH_take (i := 9) (oi := ({ dst := some 32, op := Op.call { callee := Callee.value (Operand.func 16), args := #[Operand.tmp 31], argTypes := #[24] }, type := 9, pos := "law.go:95", after := #[{ on := 8, ground := Ground.data }, { on := 7, ground := Ground.chain }, { on := 7, ground := Ground.guard }], guard := some (7, true) } : Oper)) (v := undef) rfl (by kernel_rfl) (by kernel_rfl) (by kernel_rfl) (fun _ _ _ h => h) (Or.inr ⟨by rfl, rfl⟩) hS20 ?_
      simp only [Act.put, List.setIfInBounds_toArray, List.set_cons_zero, List.set_cons_succ]
      refine wpAnyH_take (i := 10) (oi := ({ dst := some 33, op := Op.call { callee := Callee.builtin Builtin.len, args := #[Operand.tmp 32], argTypes := #[9] }, type := 3, pos := "law.go:95", after := #[{ on := 9, ground := Ground.data }, { on := 7, ground := Ground.guard }], guard := some (7, true) } : Oper)) (v := undef) rfl (by kernel_rfl) (by kernel_rfl) (by kernel_rfl) (fun _ _ _ h => h) (Or.inr ⟨by rfl, rfl⟩) hS20 ?_
      simp only [Act.put, List.setIfInBounds_toArray, List.set_cons_zero, List.set_cons_succ]
      refine wpAnyH_take (i := 11) (oi := ({ dst := some 34, op := Op.load 24 (Operand.tmp 5), type := 24, pos := "law.go:95", after := #[{ on := 7, ground := Ground.guard }], guard := some (7, true) } : Oper)) (v := undef) rfl (by kernel_rfl) (by kernel_rfl) (by kernel_rfl) (fun _ _ _ h => h) (Or.inr ⟨by rfl, rfl⟩) hS20 ?_
      simp only [Act.put, List.setIfInBounds_toArray, List.set_cons_zero, List.set_cons_succ]
      refine wpAnyH_take (i := 12) (oi := ({ dst := some 35, op := Op.call { callee := Callee.value (Operand.func 16), args := #[Operand.tmp 34], argTypes := #[24] }, type := 9, pos := "law.go:95", after := #[{ on := 11, ground := Ground.data }, { on := 9, ground := Ground.chain }, { on := 7, ground := Ground.guard }], guard := some (7, true) } : Oper)) (v := undef) rfl (by kernel_rfl) (by kernel_rfl) (by kernel_rfl) (fun _ _ _ h => h) (Or.inr ⟨by rfl, rfl⟩) hS20 ?_
      simp only [Act.put, List.setIfInBounds_toArray, List.set_cons_zero, List.set_cons_succ]
      refine wpAnyH_take (i := 13) (oi := ({ dst := some 36, op := Op.call { callee := Callee.builtin Builtin.len, args := #[Operand.tmp 35], argTypes := #[9] }, type := 3, pos := "law.go:95", after := #[{ on := 12, ground := Ground.data }, { on := 7, ground := Ground.guard }], guard := some (7, true) } : Oper)) (v := undef) rfl (by kernel_rfl) (by kernel_rfl) (by kernel_rfl) (fun _ _ _ h => h) (Or.inr ⟨by rfl, rfl⟩) hS20 ?_
      simp only [Act.put, List.setIfInBounds_toArray, List.set_cons_zero, List.set_cons_succ]
      refine wpAnyH_take (i := 14) (oi := ({ dst := some 37, op := Op.binOp BinOp.lss 3 (Operand.tmp 33) (Operand.tmp 36) 3, type := 4, pos := "law.go:95", after := #[{ on := 10, ground := Ground.data }, { on := 13, ground := Ground.data }, { on := 7, ground := Ground.guard }], guard := some (7, true) } : Oper)) (v := undef) rfl (by kernel_rfl) (by kernel_rfl) (by kernel_rfl) (fun _ _ _ h => h) (Or.inr ⟨by rfl, rfl⟩) hS20 ?_
      simp only [Act.put, List.setIfInBounds_toArray, List.set_cons_zero, List.set_cons_succ]
      refine wpAnyH_take (i := 15) (oi := ({ dst := some 38, op := Op.pick (Operand.tmp 30) (Operand.tmp 37) (Operand.const (Value.bool false)), type := 4, pos := "law.go:95", after := #[{ on := 7, ground := Ground.data }, { on := 14, ground := Ground.data }], guard := none } : Oper)) (v := ?_) rfl (by kernel_rfl) (by kernel_rfl) (by kernel_rfl) (fun _ _ _ h => h) (Or.inl ⟨by rfl, ?_⟩) hS20 ?_
      rotate_left
      · intro w hSw; (try dsimp only at hSw); go_simp; (try with_reducible rfl)
      simp only [Act.put, List.setIfInBounds_toArray, List.set_cons_zero, List.set_cons_succ]
      refine wpAnyH_take (i := 16) (oi := ({ dst := some 39, op := Op.move (Operand.tmp 38), type := 4, pos := "law.go:95", after := #[{ on := 15, ground := Ground.data }, { on := 12, ground := Ground.chain }], guard := none } : Oper)) (v := ?_) rfl (by kernel_rfl) (by kernel_rfl) (by kernel_rfl) (fun _ _ _ h => h) (Or.inl ⟨by rfl, ?_⟩) hS20 ?_
      rotate_left
      · intro w hSw; (try dsimp only at hSw); go_simp; (try with_reducible rfl)
      simp only [Act.put, List.setIfInBounds_toArray, List.set_cons_zero, List.set_cons_succ]
      refine wpAnyH_take (i := 17) (oi := ({ dst := some 40, op := Op.move (Operand.tmp 0), type := 3, pos := "law.go:95", after := #[{ on := 16, ground := Ground.guard }], guard := some (16, false) } : Oper)) (v := ?_) rfl (by kernel_rfl) (by kernel_rfl) (by kernel_rfl) (fun _ _ _ h => h) (Or.inl ⟨by rfl, ?_⟩) hS20 ?_
      rotate_left
      · intro w hSw; (try dsimp only at hSw); go_simp; (try with_reducible rfl)
      simp only [Act.put, List.setIfInBounds_toArray, List.set_cons_zero, List.set_cons_succ]
      refine wpAnyH_take (i := 18) (oi := ({ dst := some 41, op := Op.binOp BinOp.lss 3 (Operand.tmp 40) (Operand.const (Value.int IntKind.i64 0)) 3, type := 4, pos := "law.go:95", after := #[{ on := 17, ground := Ground.data }, { on := 16, ground := Ground.guard }], guard := some (16, false) } : Oper)) (v := ?_) rfl (by kernel_rfl) (by kernel_rfl) (by kernel_rfl) (fun _ _ _ h => h) (Or.inl ⟨by rfl, ?_⟩) hS20 ?_
      rotate_left
      · intro w hSw; (try dsimp only at hSw); go_simp; (try with_reducible rfl)
      simp only [Act.put, List.setIfInBounds_toArray, List.set_cons_zero, List.set_cons_succ]
      refine wpAnyH_take (i := 19) (oi := ({ dst := some 42, op := Op.move (Operand.tmp 41), type := 4, pos := "law.go:95", after := #[{ on := 18, ground := Ground.data }, { on := 16, ground := Ground.chain }, { on := 16, ground := Ground.guard }], guard := some (16, false) } : Oper)) (v := ?_) rfl (by kernel_rfl) (by kernel_rfl) (by kernel_rfl) (fun _ _ _ h => h) (Or.inl ⟨by rfl, ?_⟩) hS20 ?_
      rotate_left
      · intro w hSw; (try dsimp only at hSw); go_simp; (try with_reducible rfl)
      simp only [Act.put, List.setIfInBounds_toArray, List.set_cons_zero, List.set_cons_succ]
      refine wpAnyH_take (i := 20) (oi := ({ dst := some 43, op := Op.move (Operand.tmp 1), type := 3, pos := "law.go:95", after := #[{ on := 19, ground := Ground.guard }], guard := some (19, true) } : Oper)) (v := undef) rfl (by kernel_rfl) (by kernel_rfl) (by kernel_rfl) (fun _ _ _ h => h) (Or.inr ⟨by rfl, rfl⟩) hS20 ?_
      simp only [Act.put, List.setIfInBounds_toArray, List.set_cons_zero, List.set_cons_succ]
      refine wpAnyH_take (i := 21) (oi := ({ dst := some 44, op := Op.move (Operand.tmp 0), type := 3, pos := "law.go:95", after := #[{ on := 19, ground := Ground.guard }], guard := some (19, true) } : Oper)) (v := undef) rfl (by kernel_rfl) (by kernel_rfl) (by kernel_rfl) (fun _ _ _ h => h) (Or.inr ⟨by rfl, rfl⟩) hS20 ?_
      simp only [Act.put, List.setIfInBounds_toArray, List.set_cons_zero, List.set_cons_succ]
      refine wpAnyH_take (i := 22) (oi := ({ dst := some 45, op := Op.binOp BinOp.leq 3 (Operand.tmp 43) (Operand.tmp 44) 3, type := 4, pos := "law.go:95", after := #[{ on := 20, ground := Ground.data }, { on := 21, ground := Ground.data }, { on := 19, ground := Ground.guard }], guard := some (19, true) } : Oper)) (v := undef) rfl (by kernel_rfl) (by kernel_rfl) (by kernel_rfl) (fun _ _ _ h => h) (Or.inr ⟨by rfl, rfl⟩) hS20 ?_
      simp only [Act.put, List.setIfInBounds_toArray, List.set_cons_zero, List.set_cons_succ]
      refine wpAnyH_take (i := 23) (oi := ({ dst := some 46, op := Op.pick (Operand.tmp 42) (Operand.tmp 45) (Operand.const (Value.bool false)), type := 4, pos := "law.go:95", after := #[{ on := 19, ground := Ground.data }, { on := 22, ground := Ground.data }, { on := 16, ground := Ground.guard }], guard := some (16, false) } : Oper)) (v := ?_) rfl (by kernel_rfl) (by kernel_rfl) (by kernel_rfl) (fun _ _ _ h => h) (Or.inl ⟨by rfl, ?_⟩) hS20 ?_
      rotate_left
      · intro w hSw; (try dsimp only at hSw); go_simp; (try with_reducible rfl)
      simp only [Act.put, List.setIfInBounds_toArray, List.set_cons_zero, List.set_cons_succ]
      refine wpAnyH_take (i := 24) (oi := ({ dst := some 47, op := Op.move (Operand.tmp 46), type := 4, pos := "law.go:95", after := #[{ on := 23, ground := Ground.data }, { on := 19, ground := Ground.chain }, { on := 16, ground := Ground.guard }], guard := some (16, false) } : Oper)) (v := ?_) rfl (by kernel_rfl) (by kernel_rfl) (by kernel_rfl) (fun _ _ _ h => h) (Or.inl ⟨by rfl, ?_⟩) hS20 ?_
      rotate_left
      · intro w hSw; (try dsimp only at hSw); go_simp; (try with_reducible rfl)
      simp only [Act.put, List.setIfInBounds_toArray, List.set_cons_zero, List.set_cons_succ]
      refine wpAnyH_take (i := 25) (oi := ({ dst := some 48, op := Op.load 24 (Operand.tmp 6), type := 24, pos := "law.go:95", after := #[{ on := 24, ground := Ground.guard }], guard := some (24, true) } : Oper)) (v := undef) rfl (by kernel_rfl) (by kernel_rfl) (by kernel_rfl) (fun _ _ _ h => h) (Or.inr ⟨by rfl, rfl⟩) hS20 ?_
      simp only [Act.put, List.setIfInBounds_toArray, List.set_cons_zero, List.set_cons_succ]
      refine wpAnyH_take (i := 26) (oi := ({ dst := some 49, op := Op.call { callee := Callee.value (Operand.func 16), args := #[Operand.tmp 48], argTypes := #[24] }, type := 9, pos := "law.go:95", after := #[{ on := 25, ground := Ground.data }, { on := 24, ground := Ground.chain }, { on := 24, ground := Ground.guard }], guard := some (24, true) } : Oper)) (v := undef) rfl (by kernel_rfl) (by kernel_rfl) (by kernel_rfl) (fun _ _ _ h => h) (Or.inr ⟨by rfl, rfl⟩) hS20 ?_
      simp only [Act.put, List.setIfInBounds_toArray, List.set_cons_zero, List.set_cons_succ]
      refine wpAnyH_take (i := 27) (oi := ({ dst := some 50, op := Op.call { callee := Callee.builtin Builtin.len, args := #[Operand.tmp 49], argTypes := #[9] }, type := 3, pos := "law.go:95", after := #[{ on := 26, ground := Ground.data }, { on := 24, ground := Ground.guard }], guard := some (24, true) } : Oper)) (v := undef) rfl (by kernel_rfl) (by kernel_rfl) (by kernel_rfl) (fun _ _ _ h => h) (Or.inr ⟨by rfl, rfl⟩) hS20 ?_
      simp only [Act.put, List.setIfInBounds_toArray, List.set_cons_zero, List.set_cons_succ]
      refine wpAnyH_take (i := 28) (oi := ({ dst := some 51, op := Op.load 24 (Operand.tmp 5), type := 24, pos := "law.go:95", after := #[{ on := 24, ground := Ground.guard }], guard := some (24, true) } : Oper)) (v := undef) rfl (by kernel_rfl) (by kernel_rfl) (by kernel_rfl) (fun _ _ _ h => h) (Or.inr ⟨by rfl, rfl⟩) hS20 ?_
      simp only [Act.put, List.setIfInBounds_toArray, List.set_cons_zero, List.set_cons_succ]
      refine wpAnyH_take (i := 29) (oi := ({ dst := some 52, op := Op.call { callee := Callee.value (Operand.func 16), args := #[Operand.tmp 51], argTypes := #[24] }, type := 9, pos := "law.go:95", after := #[{ on := 28, ground := Ground.data }, { on := 26, ground := Ground.chain }, { on := 24, ground := Ground.guard }], guard := some (24, true) } : Oper)) (v := undef) rfl (by kernel_rfl) (by kernel_rfl) (by kernel_rfl) (fun _ _ _ h => h) (Or.inr ⟨by rfl, rfl⟩) hS20 ?_
      simp only [Act.put, List.setIfInBounds_toArray, List.set_cons_zero, List.set_cons_succ]
      refine wpAnyH_take (i := 30) (oi := ({ dst := some 53, op := Op.call { callee := Callee.builtin Builtin.len, args := #[Operand.tmp 52], argTypes := #[9] }, type := 3, pos := "law.go:95", after := #[{ on := 29, ground := Ground.data }, { on := 24, ground := Ground.guard }], guard := some (24, true) } : Oper)) (v := undef) rfl (by kernel_rfl) (by kernel_rfl) (by kernel_rfl) (fun _ _ _ h => h) (Or.inr ⟨by rfl, rfl⟩) hS20 ?_
      simp only [Act.put, List.setIfInBounds_toArray, List.set_cons_zero, List.set_cons_succ]
      refine wpAnyH_take (i := 31) (oi := ({ dst := some 54, op := Op.binOp BinOp.lss 3 (Operand.tmp 50) (Operand.tmp 53) 3, type := 4, pos := "law.go:95", after := #[{ on := 27, ground := Ground.data }, { on := 30, ground := Ground.data }, { on := 24, ground := Ground.guard }], guard := some (24, true) } : Oper)) (v := undef) rfl (by kernel_rfl) (by kernel_rfl) (by kernel_rfl) (fun _ _ _ h => h) (Or.inr ⟨by rfl, rfl⟩) hS20 ?_
      simp only [Act.put, List.setIfInBounds_toArray, List.set_cons_zero, List.set_cons_succ]
      refine wpAnyH_take (i := 32) (oi := ({ dst := some 55, op := Op.pick (Operand.tmp 47) (Operand.tmp 54) (Operand.const (Value.bool false)), type := 4, pos := "law.go:95", after := #[{ on := 24, ground := Ground.data }, { on := 31, ground := Ground.data }, { on := 16, ground := Ground.guard }], guard := some (16, false) } : Oper)) (v := ?_) rfl (by kernel_rfl) (by kernel_rfl) (by kernel_rfl) (fun _ _ _ h => h) (Or.inl ⟨by rfl, ?_⟩) hS20 ?_
      rotate_left
      · intro w hSw; (try dsimp only at hSw); go_simp; (try with_reducible rfl)
      simp only [Act.put, List.setIfInBounds_toArray, List.set_cons_zero, List.set_cons_succ]
      refine wpAnyH_take (i := 33) (oi := ({ dst := some 56, op := Op.pick (Operand.tmp 39) (Operand.const (Value.bool true)) (Operand.tmp 55), type := 4, pos := "law.go:95", after := #[{ on := 16, ground := Ground.data }, { on := 32, ground := Ground.data }], guard := none } : Oper)) (v := ?_) rfl (by kernel_rfl) (by kernel_rfl) (by kernel_rfl) (fun _ _ _ h => h) (Or.inl ⟨by rfl, ?_⟩) hS20 ?_
      rotate_left
      · intro w hSw; (try dsimp only at hSw); go_simp; (try with_reducible rfl)
      simp only [Act.put, List.setIfInBounds_toArray, List.set_cons_zero, List.set_cons_succ]
      refine wpAnyH_done (by kernel_rfl) ?_ _
      have L21 := hid (hnext L4.out (hnext hd20 hS20.1))
      obtain ⟨_, e0, e1, e2, e3, e4, e5, e6, e7, e8, e9, e10, e11⟩ := hS20
      go_wp2_with fail
      refine (known_any _).mono ?_; rintro e w90 ⟨rfl, b90⟩
      go_wp2
      go_ret
      exact ⟨rfl, hnext L21.out b90⟩
end Go.Proofs.Ytgdegoacjobpdaa
