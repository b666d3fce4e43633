/-
  CodeOne answers true at any text and number. No condition.
-/
import Derived.Test.YtanmomlkdfnakaaCdC
import Derived.Test.YtanmomlkdfnakaaBk
namespace Go.Proofs.Ytanmomlkdfnakaa
open Go.RowKit

theorem u16_of {n : Int} (h : (Lit.int .u16 n).wf = true) : ∃ k : Nat, n = (k : Int) ∧ k < 65536 := by
  have hx : 0 ≤ n ∧ n ≤ 65535 := by simpa [Lit.wf, IntKind.min, IntKind.max, IntKind.signed, IntKind.bits] using h
  exact ⟨n.toNat, by omega, by omega⟩
theorem row_bytes {s : ByteArray} {l : List Cd.V} {j : Nat} (h : s.data.toList.drop 0 = Cd.row l ++ s.data.toList.drop j) (hj : j ≤ s.size) : bstr (Cd.row l) = s.extract 0 j := by
  rw [List.drop_zero] at h
  have e0 : s.data.toList.length = s.size := by simp
  have hl := congrArg List.length h
  rw [List.length_append, List.length_drop, e0] at hl
  rw [extract_bstr]
  congr 1
  rw [h, List.take_append_of_le_length (by omega), List.take_of_length_le (by omega)]
set_option maxRecDepth 100000 in
set_option maxHeartbeats 3200000 in
theorem codeOne_walk (s : ByteArray) (k0 : Int) (hs : s.size ≤ maxLen) (hk0 : (Lit.int .u16 k0).wf = true) (w : World) :
    Calls Try.prog 6 #[.string s, .int .u16 k0] w fun e w' => e = .returned (.bool true) ∧ Below w.heap.size w w' := by
  obtain ⟨k, rfl, hk⟩ := u16_of hk0
  unfold maxLen at hs
  clear hk0
  by_cases h : s.size ≤ 1000
  · have h2 : ¬ (1000 : Int) < s.size := by omega
    cases hrow : Cd.rowR s 0 with
    | error x =>
      have hx := Cd.row_errs s 0 x hrow
      have hx0 : x ≠ 0 := by omega
      have t1 := top_err (z := []) hrow
      have m1 := hid (fun g W h => mRow g s 0 0 W h (by omega) (by omega))
      have m2 := hid (fun g W h => err_any g s 0 x W h)
      have m3 := hid (fun g W h => left_any g s 0 x W h (by omega) (by omega))
      have m4 := hid (fun g W h => mUint g s 0 x W h (by omega) (by omega))
      have m5 := hid (fun g W h => mText g s 0 x W h (by omega) (by omega))
      rw [t1] at m1
      rw [Nat.sub_zero] at m3
      rw [top_was 0 _ 0 hx0] at m4
      rw [top_was (⟨#[]⟩ : ByteArray) _ 0 hx0] at m5
      have hxb : (x != 0) = true := by rw [bne_iff_ne]; exact hx0
      clear t1 hrow hx hx0
      go_enter Try.func6, Try.ntmps6
      go_wp2_with fail
      refine (new_any s _).mono ?_; rintro e w10 ⟨rfl, hw10⟩
      have R0 := new_rdr s w
      rw [← hw10] at R0
      have b10 := hba w (.cells #[.string s, .int .i64 0, .int .i64 0] 60)
      rw [← hw10] at b10
      have B10 := hid b10
      have hg0 := Nat.le_refl w.heap.size
      have hG := hid hg0
      clear hw10 hg0 b10
      generalize hgg : w.heap.size = g at R0 ⊢
      have HGG := hid hgg
      clear hgg
      go_wp2_with fail
      refine (m1.out g _ R0).mono ?_; rintro e w11 ⟨⟨v', rfl, hown⟩, u11, R1, _⟩
      obtain ⟨adr, cap, rfl, _⟩ := VsAt.own hown
      have U1 := hid u11
      clear hown u11 R0
      go_wp2_with fail
      refine (m2.out g _ R1).mono ?_; rintro e w12 ⟨rfl, rfl⟩
      go_wp2_with fail
      refine (m3.out g _ R1).mono ?_; rintro e w13 ⟨rfl, b13⟩
      have R3 := R1.keep b13
      have U3 := hid (U1.out.trans (Upd.of b13))
      clear U1 b13 R1
      go_wp2_with fail
      refine (m4.out g _ R3).mono ?_; rintro e w14 ⟨rfl, u14, R4, _⟩
      have U4 := hid (U3.out.trans u14)
      clear U3 u14 R3
      go_wp2_with fail
      refine (m5.out g _ R4).mono ?_; rintro e w15 ⟨rfl, u15, R5, _⟩
      have U5 := hid (U4.out.trans u15)
      clear U4 u15 R4
      go_wp2_with fail
      refine (m3.out g _ R5).mono ?_; rintro e w16 ⟨rfl, b16⟩
      have U6 := hid (U5.out.trans (Upd.of b16))
      clear U5 b16 R5
      go_wp2_with fail
      refine (known_any _).mono ?_; rintro e w17 ⟨rfl, b17⟩
      go_wp2
      go_ret
      refine ⟨rfl, ?_⟩
      have D := B10.out.grown U6.out B10.out.size (fun q hq => by cases hq; exact Nat.le_of_eq HGG.out)
      exact hnext D b17
    | ok p =>
      obtain ⟨l, j⟩ := p
      obtain ⟨i1, i2, i3, i4, i5, i6⟩ := Cd.row_inv hrow
      have hcut := (Cd.row_cuts s 0 l j hrow).2 (k % j) (Nat.zero_le _)
      have hcj : k % j < j := Nat.mod_lt _ (by omega)
      have hc8 := hcut.1 hcj
      have hby := row_bytes i4 i6
      have t1 := top_ok (z := []) hrow
      have t2 := top_err (z := []) hc8
      have hcs : (s.extract 0 (k % j)).size ≤ 1000 := by rw [ByteArray.size_extract]; omega
      have hrem : Int.tmod (k : Int) (j : Int) = ((k % j : Nat) : Int) := by rw [Int.tmod_eq_emod_of_nonneg (by omega)]; omega
      have m1 := hid (fun g W h => mRow g s 0 0 W h (by omega) (by omega))
      have m2 := hid (fun g W h => err_any g s j 0 W h)
      have m3 := hid (fun g W h => left_any g s j 0 W h i6 (by omega))
      have hsub : IntKind.i64.wrap ((s.size : Int) - ((s.size - j : Nat) : Int)) = (j : Int) := by rw [IntKind.wrap_i64]; omega
      generalize s.size - j = d at *
      generalize k % j = c at *
      have m4 := hid (fun g W h => mRow g (s.extract 0 c) 0 0 W h (by omega) (by omega))
      have m5 := hid (fun g W h => err_any g (s.extract 0 c) 0 8 W h)
      have m6 := hid (fun (W : World) (v : Value) h => row_any v l W h i2 (by omega))
      rw [t1] at m1
      rw [t2] at m4
      rw [hby] at m6
      obtain ⟨J, hJ⟩ : ∃ J : Int, J = (j : Int) := ⟨_, rfl⟩
      rw [← hJ] at hsub hrem
      have i5' : ¬ J < 1 := by omega
      have i6' : ¬ (s.size : Int) < J := by omega
      have i7' : 0 ≤ J := by omega
      have i8' : J ≤ s.size := by omega
      have hJn : J.toNat = j := by omega
      have hcs' : (c : Int) ≤ s.size := by omega
      have hj0 : ¬ J = 0 := by omega
      have hj1 : (J == 0) = false := by rw [beq_eq_false_iff_ne]; exact hj0
      have hd1 : decide (J < 1) = false := decide_eq_false i5'
      have hd2 : decide ((s.size : Int) < J) = false := decide_eq_false i6'
      clear hJ
      clear i1 i2 i3 i4 hrow hcut hc8 hby t1 t2
      go_enter Try.func6, Try.ntmps6
      go_wp2_with fail
      refine (new_any s _).mono ?_; rintro e w10 ⟨rfl, hw10⟩
      have R0 := new_rdr s w
      rw [← hw10] at R0
      have b10 := hba w (.cells #[.string s, .int .i64 0, .int .i64 0] 60)
      rw [← hw10] at b10
      have B10 := hid b10
      clear hw10 b10
      generalize hgg : w.heap.size = g at R0 ⊢
      have HGG := hid hgg
      clear hgg
      go_wp2_with fail
      refine (m1.out g _ R0).mono ?_; rintro e w11 ⟨⟨v', rfl, hown⟩, u11, R1, _⟩
      have hgl := R0.cells.2.2.2.2.2
      have HO := hid hown
      have U1 := hid u11
      clear hown u11 R0
      go_wp2_with fail
      refine (m2.out g _ R1).mono ?_; rintro e w12 ⟨rfl, rfl⟩
      go_wp2_with fail
      refine (m3.out g _ R1).mono ?_; rintro e w13 ⟨rfl, b13⟩
      have R3 := R1.keep b13
      have U3 := hid (U1.out.trans (Upd.of b13))
      have HO3 := hid (VsAt.own (own_upd HO.out (Upd.of b13) hgl))
      clear U1 b13 R1 HO
      go_wp2_with fail
      have B13 := B10.out.grown U3.out B10.out.size (fun q hq => by cases hq; exact Nat.le_of_eq HGG.out)
      obtain ⟨w20, hw20⟩ : ∃ w20, (w13).drew = w20 := ⟨_, rfl⟩
      have hd20 : Below (w13).heap.size (w13) w20 := hw20 ▸ (Below.refl _ _).drew
      have DB := hid (hnext B13 hd20)
      have HO20 := hid (HO3.out.below hd20)
      have mk20 : ∀ W, Below w20.heap.size w20 W → Below w20.heap.size w20 W := fun _ h => h
      clear B13 hd20 HO3 U3 R3 B10
      refine wp_region_held_drew (S := (fun W => Below w20.heap.size w20 W)) (by kernel_rfl) (by rw [hw20]; exact mk20 _ (Below.refl _ _)) (fun hS20 => ?_)
      rw [hw20] at hS20 ⊢
      clear hw20
      refine wpAnyH_take (i := 0) (oi := ({ dst := some 57, op := Op.move (Operand.tmp 7), type := 3, pos := "law.go:131", after := #[], guard := none } : Oper)) (v := ?_) rfl (by kernel_rfl) (by kernel_rfl) (by kernel_rfl) (fun _ _ _ h => h) (Or.inl ⟨by rfl, ?_⟩) hS20 ?_
      rotate_left
      · intro w hSw; (try dsimp only at hSw); go_simp; (try with_reducible rfl)
      simp only [Act.put, List.setIfInBounds_toArray, List.set_cons_zero, List.set_cons_succ]
      refine wpAnyH_take (i := 1) (oi := ({ dst := some 58, op := Op.binOp BinOp.lss 3 (Operand.tmp 57) (Operand.const (Value.int IntKind.i64 1)) 3, type := 4, pos := "law.go:131", after := #[{ on := 0, ground := Ground.data }], guard := none } : Oper)) (v := ?_) rfl (by kernel_rfl) (by kernel_rfl) (by kernel_rfl) (fun _ _ _ h => h) (Or.inl ⟨by rfl, ?_⟩) hS20 ?_
      rotate_left
      · intro w hSw; (try dsimp only at hSw); go_simp; (try with_reducible rfl)
      simp only [Act.put, List.setIfInBounds_toArray, List.set_cons_zero, List.set_cons_succ]
      refine wpAnyH_take (i := 2) (oi := ({ dst := some 59, op := Op.move (Operand.tmp 58), type := 4, pos := "law.go:131", after := #[{ on := 1, ground := Ground.data }], guard := none } : Oper)) (v := ?_) rfl (by kernel_rfl) (by kernel_rfl) (by kernel_rfl) (fun _ _ _ h => h) (Or.inl ⟨by rfl, ?_⟩) hS20 ?_
      rotate_left
      · intro w hSw; (try dsimp only at hSw); go_simp; (try with_reducible rfl)
      simp only [Act.put, List.setIfInBounds_toArray, List.set_cons_zero, List.set_cons_succ]
      refine wpAnyH_take (i := 3) (oi := ({ dst := some 60, op := Op.move (Operand.tmp 7), type := 3, pos := "law.go:131", after := #[{ on := 2, ground := Ground.guard }], guard := some (2, false) } : Oper)) (v := ?_) rfl (by kernel_rfl) (by kernel_rfl) (by kernel_rfl) (fun _ _ _ h => h) (Or.inl ⟨by rfl, ?_⟩) hS20 ?_
      rotate_left
      · intro w hSw; (try dsimp only at hSw); go_simp; (try with_reducible rfl)
      simp only [Act.put, List.setIfInBounds_toArray, List.set_cons_zero, List.set_cons_succ]
      refine wpAnyH_take (i := 4) (oi := ({ dst := some 61, op := Op.move (Operand.tmp 0), type := 9, pos := "law.go:131", after := #[{ on := 2, ground := Ground.guard }], guard := some (2, false) } : Oper)) (v := ?_) rfl (by kernel_rfl) (by kernel_rfl) (by kernel_rfl) (fun _ _ _ h => h) (Or.inl ⟨by rfl, ?_⟩) hS20 ?_
      rotate_left
      · intro w hSw; (try dsimp only at hSw); go_simp; (try with_reducible rfl)
      simp only [Act.put, List.setIfInBounds_toArray, List.set_cons_zero, List.set_cons_succ]
      refine wpAnyH_take (i := 5) (oi := ({ dst := some 62, op := Op.call { callee := Callee.builtin Builtin.len, args := #[Operand.tmp 61], argTypes := #[9] }, type := 3, pos := "law.go:131", after := #[{ on := 4, ground := Ground.data }, { on := 2, ground := Ground.guard }], guard := some (2, false) } : Oper)) (v := ?_) rfl (by kernel_rfl) (by kernel_rfl) (by kernel_rfl) (fun _ _ _ h => h) (Or.inl ⟨by rfl, ?_⟩) hS20 ?_
      rotate_left
      · intro w hSw; (try dsimp only at hSw); go_simp; (try with_reducible rfl)
      simp only [Act.put, List.setIfInBounds_toArray, List.set_cons_zero, List.set_cons_succ]
      refine wpAnyH_take (i := 6) (oi := ({ dst := some 63, op := Op.binOp BinOp.gtr 3 (Operand.tmp 60) (Operand.tmp 62) 3, type := 4, pos := "law.go:131", after := #[{ on := 3, ground := Ground.data }, { on := 5, ground := Ground.data }, { on := 2, ground := Ground.guard }], guard := some (2, false) } : Oper)) (v := ?_) rfl (by kernel_rfl) (by kernel_rfl) (by kernel_rfl) (fun _ _ _ h => h) (Or.inl ⟨by rfl, ?_⟩) hS20 ?_
      rotate_left
      · intro w hSw; (try dsimp only at hSw); go_simp; (try with_reducible rfl)
      simp only [Act.put, List.setIfInBounds_toArray, List.set_cons_zero, List.set_cons_succ]
      refine wpAnyH_take (i := 7) (oi := ({ dst := some 64, op := Op.pick (Operand.tmp 59) (Operand.const (Value.bool true)) (Operand.tmp 63), type := 4, pos := "law.go:131", after := #[{ on := 2, ground := Ground.data }, { on := 6, ground := Ground.data }], guard := none } : Oper)) (v := ?_) rfl (by kernel_rfl) (by kernel_rfl) (by kernel_rfl) (fun _ _ _ h => h) (Or.inl ⟨by rfl, ?_⟩) hS20 ?_
      rotate_left
      · intro w hSw; (try dsimp only at hSw); go_simp; (try with_reducible rfl)
      simp only [Act.put, List.setIfInBounds_toArray, List.set_cons_zero, List.set_cons_succ]
      refine wpAnyH_take (i := 8) (oi := ({ dst := some 65, op := Op.move (Operand.tmp 64), type := 4, pos := "law.go:131", after := #[{ on := 7, ground := Ground.data }, { on := 2, ground := Ground.chain }], guard := none } : Oper)) (v := ?_) rfl (by kernel_rfl) (by kernel_rfl) (by kernel_rfl) (fun _ _ _ h => h) (Or.inl ⟨by rfl, ?_⟩) hS20 ?_
      rotate_left
      · intro w hSw; (try dsimp only at hSw); go_simp; (try with_reducible rfl)
      simp only [Act.put, List.setIfInBounds_toArray, List.set_cons_zero, List.set_cons_succ]
      refine wpAnyH_take (i := 9) (oi := ({ dst := some 66, op := Op.move (Operand.tmp 6), type := 24, pos := "law.go:131", after := #[{ on := 8, ground := Ground.guard }], guard := some (8, false) } : Oper)) (v := ?_) rfl (by kernel_rfl) (by kernel_rfl) (by kernel_rfl) (fun _ _ _ h => h) (Or.inl ⟨by rfl, ?_⟩) hS20 ?_
      rotate_left
      · intro w hSw; (try dsimp only at hSw); go_simp; (try with_reducible rfl)
      simp only [Act.put, List.setIfInBounds_toArray, List.set_cons_zero, List.set_cons_succ]
      refine wpAnyH_take (i := 11) (oi := ({ dst := some 68, op := Op.move (Operand.tmp 0), type := 9, pos := "law.go:131", after := #[{ on := 8, ground := Ground.guard }], guard := some (8, false) } : Oper)) (v := ?_) rfl (by kernel_rfl) (by kernel_rfl) (by kernel_rfl) (fun _ _ _ h => h) (Or.inl ⟨by rfl, ?_⟩) hS20 ?_
      rotate_left
      · intro w hSw; (try dsimp only at hSw); go_simp; (try with_reducible rfl)
      simp only [Act.put, List.setIfInBounds_toArray, List.set_cons_zero, List.set_cons_succ]
      refine wpAnyH_take (i := 12) (oi := ({ dst := some 69, op := Op.move (Operand.tmp 7), type := 3, pos := "law.go:131", after := #[{ on := 8, ground := Ground.guard }], guard := some (8, false) } : Oper)) (v := ?_) rfl (by kernel_rfl) (by kernel_rfl) (by kernel_rfl) (fun _ _ _ h => h) (Or.inl ⟨by rfl, ?_⟩) hS20 ?_
      rotate_left
      · intro w hSw; (try dsimp only at hSw); go_simp; (try with_reducible rfl)
      simp only [Act.put, List.setIfInBounds_toArray, List.set_cons_zero, List.set_cons_succ]
      refine wpAnyH_take (i := 13) (oi := ({ dst := some 70, op := Op.slice 9 (Operand.tmp 68) none (some (Operand.tmp 69)) none, type := 9, pos := "law.go:131", after := #[{ on := 11, ground := Ground.data }, { on := 12, ground := Ground.data }, { on := 8, ground := Ground.guard }], guard := some (8, false) } : Oper)) (v := ?_) rfl (by kernel_rfl) (by kernel_rfl) (by kernel_rfl) (fun _ _ _ h => h) (Or.inl ⟨by rfl, ?_⟩) hS20 ?_
      rotate_left
      · intro w hSw; (try dsimp only at hSw); go_simp; (try with_reducible rfl)
      simp only [Act.put, List.setIfInBounds_toArray, List.set_cons_zero, List.set_cons_succ]
      refine wpAnyH_ready (rs := [10]) (by kernel_rfl) (by simp) ?_
      refine AllReadyH.cons (o := ({ dst := some 67, op := Op.call { callee := Callee.value (Operand.func 21), args := #[Operand.tmp 66], argTypes := #[24] }, type := 9, pos := "law.go:131", after := #[{ on := 9, ground := Ground.data }, { on := 8, ground := Ground.chain }, { on := 8, ground := Ground.guard }], guard := some (8, false) } : Oper)) rfl (fun K hK => ?_) AllReadyH.nil
      go_simp
      refine (m6.out _ _ (HO20.out.below hS20)).mono ?_; rintro e w21 ⟨rfl, hb21⟩
      go_wp2_with fail
      refine hK.out _ _ (mk20 _ (hnext hS20 hb21)) (fun hS21 => ?_)
      clear hK K
      (try simp only [Act.put, List.setIfInBounds_toArray, List.set_cons_zero, List.set_cons_succ])
      clear hb21 hS20
      refine wpAnyH_take (i := 14) (oi := ({ dst := some 71, op := Op.binOp BinOp.neq 9 (Operand.tmp 67) (Operand.tmp 70) 9, type := 4, pos := "law.go:131", after := #[{ on := 10, ground := Ground.data }, { on := 13, ground := Ground.data }, { on := 8, ground := Ground.guard }], guard := some (8, false) } : Oper)) (v := ?_) rfl (by kernel_rfl) (by kernel_rfl) (by kernel_rfl) (fun _ _ _ h => h) (Or.inl ⟨by rfl, ?_⟩) hS21 ?_
      rotate_left
      · intro w hSw; (try dsimp only at hSw); go_simp; (try with_reducible rfl)
      simp only [Act.put, List.setIfInBounds_toArray, List.set_cons_zero, List.set_cons_succ]
      refine wpAnyH_take (i := 15) (oi := ({ dst := some 72, op := Op.pick (Operand.tmp 65) (Operand.const (Value.bool true)) (Operand.tmp 71), type := 4, pos := "law.go:131", after := #[{ on := 8, ground := Ground.data }, { on := 14, ground := Ground.data }], guard := none } : Oper)) (v := ?_) rfl (by kernel_rfl) (by kernel_rfl) (by kernel_rfl) (fun _ _ _ h => h) (Or.inl ⟨by rfl, ?_⟩) hS21 ?_
      rotate_left
      · intro w hSw; (try dsimp only at hSw); go_simp; (try with_reducible rfl)
      simp only [Act.put, List.setIfInBounds_toArray, List.set_cons_zero, List.set_cons_succ]
      refine wpAnyH_done (by kernel_rfl) ?_ _
      go_wp2_with fail
      refine (new_any _ _).mono ?_; rintro e w30 ⟨rfl, hw30⟩
      have X0 := new_rdr (s.extract 0 c) w21
      rw [← hw30] at X0
      have b30 := hba w21 (.cells #[.string (s.extract 0 c), .int .i64 0, .int .i64 0] 60)
      rw [← hw30] at b30
      have Dn := hnext DB.out hS21
      have hg30 := Dn.size
      have D30 := hid (hnext Dn b30)
      clear hw30 b30 Dn hS21
      generalize w21.heap.size = g2 at X0 hg30 ⊢
      go_wp2_with fail
      refine (m4.out g2 _ X0).mono ?_; rintro e w31 ⟨⟨v2, rfl, hown2⟩, u31, X1, _⟩
      obtain ⟨adr2, cap2, rfl, _⟩ := VsAt.own hown2
      have D31 := hid (D30.out.grown u31 D30.out.size (fun q hq => by cases hq; first | exact hg30 | (rw [HGG.out]; exact hg30)))
      clear hown2 u31 X0 D30
      go_wp2_with fail
      refine (m5.out g2 _ X1).mono ?_; rintro e w32 ⟨rfl, rfl⟩
      go_wp2_with fail
      refine (known_any _).mono ?_; rintro e w33 ⟨rfl, b33⟩
      go_wp2
      go_ret
      refine ⟨rfl, ?_⟩
      have E := hnext D31.out b33
      first | exact E | (rw [HGG.out] at E; exact E)
  · have h' : (1000 : Int) < s.size := by omega
    go_enter Try.func6, Try.ntmps6
    go_wp2_with fail
    refine (known_any _).mono ?_; rintro e w3 ⟨rfl, b3⟩
    go_wp2
    go_ret
    exact ⟨rfl, b3⟩
end Go.Proofs.Ytanmomlkdfnakaa
