/-
  The reference's guess, Parse: their contracts. Condition: the text has at most 1000000 bytes.
-/
import Derived.Test.YtgdegoacjobpdaaGx
namespace Go.Proofs.Ytgdegoacjobpdaa
open Go.RowKit

theorem two_new (w : World) (k : Int) : Below w.heap.size w ((w.alloc (.cells #[.int .i64 0, .int .i64 0, .int .u64 0, .string ⟨#[]⟩] 24)).alloc (.cells #[.int .i64 k, .int .i64 0, .int .u64 0, .string ⟨#[]⟩] 24)) ∧ BV ((w.alloc (.cells #[.int .i64 0, .int .i64 0, .int .u64 0, .string ⟨#[]⟩] 24)).alloc (.cells #[.int .i64 k, .int .i64 0, .int .u64 0, .string ⟨#[]⟩] 24)) w.heap.size 0 0 0 ⟨#[]⟩ ∧ BV ((w.alloc (.cells #[.int .i64 0, .int .i64 0, .int .u64 0, .string ⟨#[]⟩] 24)).alloc (.cells #[.int .i64 k, .int .i64 0, .int .u64 0, .string ⟨#[]⟩] 24)) (w.heap.size + 1) k 0 0 ⟨#[]⟩ := by
  refine ⟨hnext (hba w _) (hba _ _), BV.keep (BV.new w 0 0 0 ⟨#[]⟩) (hba _ _), ?_⟩
  have := BV.new (w.alloc (.cells #[.int .i64 0, .int .i64 0, .int .u64 0, .string ⟨#[]⟩] 24)) k 0 0 ⟨#[]⟩
  rwa [show (w.alloc (.cells #[.int .i64 0, .int .i64 0, .int .u64 0, .string ⟨#[]⟩] 24)).heap.size = w.heap.size + 1 by simp] at this
theorem BV.setK {w : World} {g : Nat} {k n : Int} {b : Nat} {s : ByteArray} (h : BV w g k n b s) (m : Int) : BV (w.setCell ⟨g, 0, none⟩ (.int .i64 m)) g m n b s := heap_setCell_same w g 0 _ _ (.int .i64 m) h
theorem BV.setB {w : World} {g : Nat} {k n : Int} {b : Nat} {s : ByteArray} (h : BV w g k n b s) (m : Nat) : BV (w.setCell ⟨g, 2, none⟩ (.int .u64 (m : Int))) g k n m s := heap_setCell_same w g 2 _ _ (.int .u64 (m : Int)) h
theorem BV.far {w : World} {g q f : Nat} {k n : Int} {b : Nat} {s : ByteArray} (h : BV w g k n b s) (v : Value) (hq : q ≠ g) : BV (w.setCell ⟨q, f, none⟩ v) g k n b s := by
  show (w.setCell ⟨q, f, none⟩ v).heap[g]? = _
  rw [heap_setCell_other _ _ _ _ (fun e => hq e.symm)]; exact h
set_option maxRecDepth 100000 in
set_option maxHeartbeats 3200000 in
theorem guessN_any (w : World) : Calls Try.prog 41 #[.string (bstr [110, 117, 108, 108])] w fun e w' => e = .returned (.agg #[.int .i64 0, .int .i64 0, .int .u64 0, .string ⟨#[]⟩]) ∧ Below w.heap.size w w' := by
  have e1 : ((bstr [110, 117, 108, 108]).toList == [110, 117, 108, 108]) = true := by rw [str_beq]; decide
  have e2 : ((bstr [110, 117, 108, 108]).toList == [116, 114, 117, 101]) = false := by rw [str_beq]; decide
  have e3 : ((bstr [110, 117, 108, 108]).toList == [102, 97, 108, 115, 101]) = false := by rw [str_beq]; decide
  obtain ⟨L2, bz, bv⟩ := two_new w 1
  generalize bstr [110, 117, 108, 108] = s at *
  go_enter Try.func41, Try.ntmps41
  go_wp2_with fail
  refine bodyPost_ret (v := .agg #[.int .i64 0, .int .i64 0, .int .u64 0, .string ⟨#[]⟩]) (by simp [results, Try.results41, go_sem]) rfl ?_
  first | exact ⟨rfl, hba _ _⟩ | exact ⟨rfl, hnext (hba _ _) (hba _ _)⟩
set_option maxRecDepth 100000 in
set_option maxHeartbeats 3200000 in
theorem guessT_any (w : World) : Calls Try.prog 41 #[.string (bstr [116, 114, 117, 101])] w fun e w' => e = .returned (.agg #[.int .i64 1, .int .i64 1, .int .u64 0, .string ⟨#[]⟩]) ∧ Below w.heap.size w w' := by
  have e1 : ((bstr [116, 114, 117, 101]).toList == [110, 117, 108, 108]) = false := by rw [str_beq]; decide
  have e2 : ((bstr [116, 114, 117, 101]).toList == [116, 114, 117, 101]) = true := by rw [str_beq]; decide
  have e3 : ((bstr [116, 114, 117, 101]).toList == [102, 97, 108, 115, 101]) = false := by rw [str_beq]; decide
  obtain ⟨L2, bz, bv⟩ := two_new w 1
  generalize bstr [116, 114, 117, 101] = s at *
  go_enter Try.func41, Try.ntmps41
  go_wp2_with fail
  refine bodyPost_ret (v := .agg #[.int .i64 1, .int .i64 1, .int .u64 0, .string ⟨#[]⟩]) (by simp [results, Try.results41, go_sem]) rfl ?_
  exact ⟨rfl, hnext (hba _ _) (hba _ _)⟩
set_option maxRecDepth 100000 in
set_option maxHeartbeats 3200000 in
theorem guessA_any (w : World) : Calls Try.prog 41 #[.string (bstr [102, 97, 108, 115, 101])] w fun e w' => e = .returned (.agg #[.int .i64 1, .int .i64 0, .int .u64 0, .string ⟨#[]⟩]) ∧ Below w.heap.size w w' := by
  have e1 : ((bstr [102, 97, 108, 115, 101]).toList == [110, 117, 108, 108]) = false := by rw [str_beq]; decide
  have e2 : ((bstr [102, 97, 108, 115, 101]).toList == [116, 114, 117, 101]) = false := by rw [str_beq]; decide
  have e3 : ((bstr [102, 97, 108, 115, 101]).toList == [102, 97, 108, 115, 101]) = true := by rw [str_beq]; decide
  obtain ⟨L2, bz, bv⟩ := two_new w 1
  generalize bstr [102, 97, 108, 115, 101] = s at *
  go_enter Try.func41, Try.ntmps41
  go_wp2_with fail
  refine bodyPost_ret (v := .agg #[.int .i64 1, .int .i64 0, .int .u64 0, .string ⟨#[]⟩]) (by simp [results, Try.results41, go_sem]) rfl ?_
  exact ⟨rfl, hnext (hba _ _) (hba _ _)⟩
set_option maxRecDepth 100000 in
set_option maxHeartbeats 3200000 in
theorem guessF_any (l r : List UInt8) (hll : l = 102 :: r) (hLL : l.length ≤ 1000000) (h1 : l ≠ [110, 117, 108, 108]) (h2 : l ≠ [116, 114, 117, 101]) (h3 : l ≠ [102, 97, 108, 115, 101]) (w : World) : Calls Try.prog 41 #[.string (bstr l)] w fun e w' => e = .returned (.agg #[.int .i64 3, .int .i64 0, .int .u64 ((Vl.gX r 0 : Nat) : Int), .string ⟨#[]⟩]) ∧ Below w.heap.size w w' := by
  have HR : Hid (r = l.drop 1) := by show _ = _; rw [hll]; rfl
  have hL1 : 1 ≤ l.length := by rw [hll]; simp
  have hix0 : ∀ h : 0 < (bstr l).size, (bstr l)[0]'h = 102 := by subst hll; exact fun _ => rfl
  have hs : (bstr l).size = l.length := rfl
  have hL1' : (1 : Int) ≤ (l.length : Int) := by omega
  have hL0' : (0 : Int) < (l.length : Int) := by omega
  have e1 : ((bstr l).toList == [110, 117, 108, 108]) = false := by rw [str_beq]; exact decide_eq_false h1
  have e2 : ((bstr l).toList == [116, 114, 117, 101]) = false := by rw [str_beq]; exact decide_eq_false h2
  have e3 : ((bstr l).toList == [102, 97, 108, 115, 101]) = false := by rw [str_beq]; exact decide_eq_false h3
  clear hll h1 h2 h3
  obtain ⟨L2, bz, bv⟩ := two_new w 2
  have L2' := hid L2
  go_enter Try.func41, Try.ntmps41
  go_wp2_with fail
  go_loopw [5] (fun i wr => ∃ (j nn : Nat), 1 ≤ j ∧ j ≤ l.length ∧ i = .int .i64 (j : Int) ∧ nn < 18446744073709551616 ∧ Hid (Vl.gX r 0 = Vl.gX (l.drop j) nn) ∧ BV wr w.heap.size 0 0 0 ⟨#[]⟩ ∧ BV wr (w.heap.size + 1) 3 0 nn ⟨#[]⟩ ∧ Below w.heap.size w wr) (fun i _ => l.length - (intOf i).toNat)
  case atStart =>
    refine ⟨1, 0, by omega, hL1, rfl, by decide, by show _ = _; rw [HR.out], ?_⟩
    first
      | exact ⟨bz.far _ (Nat.succ_ne_self _), bv.setK 3, L2.setCell (Nat.le_succ _) _⟩
      | (obtain ⟨L3, bz3, bv3⟩ := two_new w 3; exact ⟨bz3, bv3, L3⟩)
  case round =>
    obtain ⟨j, nn, hj1, hj, rfl, hnn, hE, bz1, bv1, hbel⟩ := hrel
    clear bz bv L2 L2'
    obtain ⟨w4, rfl⟩ : ∃ w4 : World, w4 = wr := ⟨_, rfl⟩
    have HZ := hid bz1
    have HV := hid bv1
    have HB := hid hbel
    have hj0 : (0 : Int) ≤ (j : Int) := by omega
    by_cases hjl : j < l.length
    · clear bz1 bv1 hbel
      have hjl' : (j : Int) < (l.length : Int) := by omega
      have hidx : ∀ h : j < (bstr l).size, (bstr l)[j]'h = l[j]'hjl := fun _ => rfl
      have HD := hid (hE.out.trans (by rw [List.drop_eq_getElem_cons hjl]))
      generalize l[j]'hjl = c at hidx HD
      have HN : Hid (Vl.gX r 0 = Vl.gX (l.drop (j + 1)) ((16 * nn + Vl.digR c) % 18446744073709551616)) := HD.out
      have cd := hid (fun W => digitR_any c W)
      have dl := Vl.digR_lt c
      generalize Vl.digR c = d at *
      have w1 : IntKind.u64.wrap (d : Int) = (d : Int) := by rw [IntKind.wrap_u64]; omega
      have w2 : IntKind.u64.wrap (IntKind.u64.wrap (16 * (nn : Int)) + (d : Int)) = (((16 * nn + d) % 18446744073709551616 : Nat) : Int) := by rw [IntKind.wrap_u64, IntKind.wrap_u64]; omega
      have hlt : (16 * nn + d) % 18446744073709551616 < 18446744073709551616 := Nat.mod_lt _ (by decide)
      generalize (16 * nn + d) % 18446744073709551616 = m at w2 hlt HN
      clear HD hE
      go_wp2_with fail
      refine wp_region_held_drew (S := fun _ => True) (by kernel_rfl) trivial (fun hS => ?_)
      obtain ⟨w20, hw20⟩ : ∃ w20, w4.drew = w20 := ⟨_, rfl⟩
      have hd20 : Below w4.heap.size w4 w20 := hw20 ▸ (Below.refl _ _).drew
      rw [hw20]
      have Z20 := hid (HZ.out.keep hd20)
      have V20 := hid (HV.out.keep hd20)
      have B20 := hid (hnext HB.out hd20)
      clear hd20 hw20 HZ HV HB
      refine wpAnyH_take (i := 0) (oi := ({ dst := some 32, op := Op.fieldAddr 24 (Operand.tmp 4) 2, type := 0, pos := "ref.go:201", after := #[], guard := none } : Oper)) (v := ?_) rfl (by kernel_rfl) (by kernel_rfl) (by kernel_rfl) (fun _ _ _ h => h) (Or.inl ⟨by rfl, ?_⟩) hS ?_
      rotate_left
      · intro w hSw; (try dsimp only at hSw); go_simp; (try with_reducible rfl)
      simp only [Act.put, List.setIfInBounds_toArray, List.set_cons_zero, List.set_cons_succ]
      refine wpAnyH_take (i := 3) (oi := ({ dst := some 35, op := Op.move (Operand.tmp 0), type := 9, pos := "ref.go:201", after := #[], guard := none } : Oper)) (v := ?_) rfl (by kernel_rfl) (by kernel_rfl) (by kernel_rfl) (fun _ _ _ h => h) (Or.inl ⟨by rfl, ?_⟩) hS ?_
      rotate_left
      · intro w hSw; (try dsimp only at hSw); go_simp; (try with_reducible rfl)
      simp only [Act.put, List.setIfInBounds_toArray, List.set_cons_zero, List.set_cons_succ]
      refine wpAnyH_take (i := 4) (oi := ({ dst := some 36, op := Op.move (Operand.tmp 5), type := 3, pos := "ref.go:201", after := #[], guard := none } : Oper)) (v := ?_) rfl (by kernel_rfl) (by kernel_rfl) (by kernel_rfl) (fun _ _ _ h => h) (Or.inl ⟨by rfl, ?_⟩) hS ?_
      rotate_left
      · intro w hSw; (try dsimp only at hSw); go_simp; (try with_reducible rfl)
      simp only [Act.put, List.setIfInBounds_toArray, List.set_cons_zero, List.set_cons_succ]
      refine wpAnyH_take (i := 5) (oi := ({ dst := some 37, op := Op.index 9 (Operand.tmp 35) (Operand.tmp 36), type := 5, pos := "ref.go:201", after := #[{ on := 3, ground := Ground.data }, { on := 4, ground := Ground.data }], guard := none } : Oper)) (v := ?_) rfl (by kernel_rfl) (by kernel_rfl) (by kernel_rfl) (fun _ _ _ h => h) (Or.inl ⟨by rfl, ?_⟩) hS ?_
      rotate_left
      · intro w hSw; (try dsimp only at hSw); go_simp; (try with_reducible rfl)
      simp only [Act.put, List.setIfInBounds_toArray, List.set_cons_zero, List.set_cons_succ]
      refine wpAnyH_ready (rs := [1, 6]) (by kernel_rfl) (by simp) ?_
      refine AllReadyH.cons (o := ({ dst := some 33, op := Op.load 22 (Operand.tmp 32), type := 22, pos := "ref.go:201", after := #[{ on := 0, ground := Ground.data }], guard := none } : Oper)) rfl (fun K hK => ?_) (AllReadyH.cons (o := ({ dst := some 38, op := Op.call { callee := Callee.value (Operand.func 51), args := #[Operand.tmp 37], argTypes := #[5] }, type := 3, pos := "ref.go:201", after := #[{ on := 5, ground := Ground.data }], guard := none } : Oper)) rfl (fun K hK => ?_) AllReadyH.nil)
      · obtain ⟨v0, v1, v2, v3, vf0, vf1, vf2, vf3, vl⟩ := V20.out.cells
        go_simp
        refine hK.out _ _ trivial (fun _ => ?_)
        clear hK K
        (try simp only [Act.put, List.setIfInBounds_toArray, List.set_cons_zero, List.set_cons_succ])
        clear v0 v1 v2 v3 vf0 vf1 vf2 vf3 vl
        refine wpAnyH_take (i := 2) (oi := ({ dst := some 34, op := Op.binOp BinOp.mul 22 (Operand.const (Value.int IntKind.u64 16)) (Operand.tmp 33) 22, type := 22, pos := "ref.go:201", after := #[{ on := 1, ground := Ground.data }], guard := none } : Oper)) (v := ?_) rfl (by kernel_rfl) (by kernel_rfl) (by kernel_rfl) (fun _ _ _ h => h) (Or.inl ⟨by rfl, ?_⟩) hS ?_
        rotate_left
        · intro w hSw; (try dsimp only at hSw); go_simp; (try with_reducible rfl)
        simp only [Act.put, List.setIfInBounds_toArray, List.set_cons_zero, List.set_cons_succ]
        refine wpAnyH_ready (rs := [6]) (by kernel_rfl) (by simp) ?_
        refine AllReadyH.cons (o := ({ dst := some 38, op := Op.call { callee := Callee.value (Operand.func 51), args := #[Operand.tmp 37], argTypes := #[5] }, type := 3, pos := "ref.go:201", after := #[{ on := 5, ground := Ground.data }], guard := none } : Oper)) rfl (fun K hK => ?_) AllReadyH.nil
        go_simp
        refine (cd.out _).mono ?_; rintro e w21 ⟨rfl, b21⟩
        have Z21 := hid (Z20.out.keep b21)
        have V21 := hid (V20.out.keep b21)
        have B21 := hid (hnext B20.out b21)
        clear b21 Z20 V20 B20
        go_wp2_with fail
        refine hK.out _ _ trivial (fun _ => ?_)
        clear hK K
        (try simp only [Act.put, List.setIfInBounds_toArray, List.set_cons_zero, List.set_cons_succ])
        refine wpAnyH_take (i := 7) (oi := ({ dst := some 39, op := Op.convert 3 22 (Operand.tmp 38), type := 22, pos := "ref.go:201", after := #[{ on := 6, ground := Ground.data }], guard := none } : Oper)) (v := ?_) rfl (by kernel_rfl) (by kernel_rfl) (by kernel_rfl) (fun _ _ _ h => h) (Or.inl ⟨by rfl, ?_⟩) hS ?_
        rotate_left
        · intro w hSw; (try dsimp only at hSw); go_simp; (try with_reducible rfl)
        simp only [Act.put, List.setIfInBounds_toArray, List.set_cons_zero, List.set_cons_succ]
        refine wpAnyH_take (i := 8) (oi := ({ dst := some 40, op := Op.binOp BinOp.add 22 (Operand.tmp 34) (Operand.tmp 39) 22, type := 22, pos := "ref.go:201", after := #[{ on := 2, ground := Ground.data }, { on := 7, ground := Ground.data }], guard := none } : Oper)) (v := ?_) rfl (by kernel_rfl) (by kernel_rfl) (by kernel_rfl) (fun _ _ _ h => h) (Or.inl ⟨by rfl, ?_⟩) hS ?_
        rotate_left
        · intro w hSw; (try dsimp only at hSw); go_simp; (try with_reducible rfl)
        simp only [Act.put, List.setIfInBounds_toArray, List.set_cons_zero, List.set_cons_succ]
        refine wpAnyH_take (i := 9) (oi := ({ dst := some 41, op := Op.fieldAddr 24 (Operand.tmp 4) 2, type := 0, pos := "ref.go:201", after := #[{ on := 0, ground := Ground.phase }, { on := 1, ground := Ground.phase }, { on := 2, ground := Ground.phase }, { on := 3, ground := Ground.phase }, { on := 4, ground := Ground.phase }, { on := 5, ground := Ground.phase }, { on := 6, ground := Ground.phase }, { on := 7, ground := Ground.phase }, { on := 8, ground := Ground.phase }], guard := none } : Oper)) (v := ?_) rfl (by kernel_rfl) (by kernel_rfl) (by kernel_rfl) (fun _ _ _ h => h) (Or.inl ⟨by rfl, ?_⟩) hS ?_
        rotate_left
        · intro w hSw; (try dsimp only at hSw); go_simp; (try with_reducible rfl)
        simp only [Act.put, List.setIfInBounds_toArray, List.set_cons_zero, List.set_cons_succ]
        refine wpAnyH_ready (rs := [10]) (by kernel_rfl) (by simp) ?_
        refine AllReadyH.cons (o := ({ dst := none, op := Op.store 22 (Operand.tmp 41) (Operand.tmp 40), type := 0, pos := "ref.go:201", after := #[{ on := 9, ground := Ground.data }, { on := 8, ground := Ground.data }, { on := 6, ground := Ground.chain }, { on := 0, ground := Ground.phase }, { on := 1, ground := Ground.phase }, { on := 2, ground := Ground.phase }, { on := 3, ground := Ground.phase }, { on := 4, ground := Ground.phase }, { on := 5, ground := Ground.phase }, { on := 6, ground := Ground.phase }, { on := 7, ground := Ground.phase }, { on := 8, ground := Ground.phase }], guard := none } : Oper)) rfl (fun K hK => ?_) AllReadyH.nil
        obtain ⟨v0, v1, v2, v3, vf0, vf1, vf2, vf3, vl⟩ := V21.out.cells
        go_simp
        refine hK.out _ _ trivial (fun _ => ?_)
        clear hK K
        (try simp only [Act.put, List.setIfInBounds_toArray, List.set_cons_zero, List.set_cons_succ])
        clear v0 v1 v2 v3 vf0 vf1 vf2 vf3 vl
        refine wpAnyH_done (by kernel_rfl) ?_ _
        go_wp2_with fail
        go_roundw
        case rel => exact ⟨j + 1, m, by omega, by omega, by first | rfl | go_num, hlt, HN, Z21.out.far _ (Nat.succ_ne_self _), V21.out.setB m, B21.out.setCell (Nat.le_succ _) _⟩
        case measure => simp [intOf]; omega
      · go_simp
        refine (cd.out _).mono ?_; rintro e w21 ⟨rfl, b21⟩
        have Z21 := hid (Z20.out.keep b21)
        have V21 := hid (V20.out.keep b21)
        have B21 := hid (hnext B20.out b21)
        clear b21 Z20 V20 B20
        go_wp2_with fail
        refine hK.out _ _ trivial (fun _ => ?_)
        clear hK K
        (try simp only [Act.put, List.setIfInBounds_toArray, List.set_cons_zero, List.set_cons_succ])
        refine wpAnyH_take (i := 7) (oi := ({ dst := some 39, op := Op.convert 3 22 (Operand.tmp 38), type := 22, pos := "ref.go:201", after := #[{ on := 6, ground := Ground.data }], guard := none } : Oper)) (v := ?_) rfl (by kernel_rfl) (by kernel_rfl) (by kernel_rfl) (fun _ _ _ h => h) (Or.inl ⟨by rfl, ?_⟩) hS ?_
        rotate_left
        · intro w hSw; (try dsimp only at hSw); go_simp; (try with_reducible rfl)
        simp only [Act.put, List.setIfInBounds_toArray, List.set_cons_zero, List.set_cons_succ]
        refine wpAnyH_ready (rs := [1]) (by kernel_rfl) (by simp) ?_
        refine AllReadyH.cons (o := ({ dst := some 33, op := Op.load 22 (Operand.tmp 32), type := 22, pos := "ref.go:201", after := #[{ on := 0, ground := Ground.data }], guard := none } : Oper)) rfl (fun K hK => ?_) AllReadyH.nil
        obtain ⟨v0, v1, v2, v3, vf0, vf1, vf2, vf3, vl⟩ := V21.out.cells
        go_simp
        refine hK.out _ _ trivial (fun _ => ?_)
        clear hK K
        (try simp only [Act.put, List.setIfInBounds_toArray, List.set_cons_zero, List.set_cons_succ])
        clear v0 v1 v2 v3 vf0 vf1 vf2 vf3 vl
        refine wpAnyH_take (i := 2) (oi := ({ dst := some 34, op := Op.binOp BinOp.mul 22 (Operand.const (Value.int IntKind.u64 16)) (Operand.tmp 33) 22, type := 22, pos := "ref.go:201", after := #[{ on := 1, ground := Ground.data }], guard := none } : Oper)) (v := ?_) rfl (by kernel_rfl) (by kernel_rfl) (by kernel_rfl) (fun _ _ _ h => h) (Or.inl ⟨by rfl, ?_⟩) hS ?_
        rotate_left
        · intro w hSw; (try dsimp only at hSw); go_simp; (try with_reducible rfl)
        simp only [Act.put, List.setIfInBounds_toArray, List.set_cons_zero, List.set_cons_succ]
        refine wpAnyH_take (i := 8) (oi := ({ dst := some 40, op := Op.binOp BinOp.add 22 (Operand.tmp 34) (Operand.tmp 39) 22, type := 22, pos := "ref.go:201", after := #[{ on := 2, ground := Ground.data }, { on := 7, ground := Ground.data }], guard := none } : Oper)) (v := ?_) rfl (by kernel_rfl) (by kernel_rfl) (by kernel_rfl) (fun _ _ _ h => h) (Or.inl ⟨by rfl, ?_⟩) hS ?_
        rotate_left
        · intro w hSw; (try dsimp only at hSw); go_simp; (try with_reducible rfl)
        simp only [Act.put, List.setIfInBounds_toArray, List.set_cons_zero, List.set_cons_succ]
        refine wpAnyH_take (i := 9) (oi := ({ dst := some 41, op := Op.fieldAddr 24 (Operand.tmp 4) 2, type := 0, pos := "ref.go:201", after := #[{ on := 0, ground := Ground.phase }, { on := 1, ground := Ground.phase }, { on := 2, ground := Ground.phase }, { on := 3, ground := Ground.phase }, { on := 4, ground := Ground.phase }, { on := 5, ground := Ground.phase }, { on := 6, ground := Ground.phase }, { on := 7, ground := Ground.phase }, { on := 8, ground := Ground.phase }], guard := none } : Oper)) (v := ?_) rfl (by kernel_rfl) (by kernel_rfl) (by kernel_rfl) (fun _ _ _ h => h) (Or.inl ⟨by rfl, ?_⟩) hS ?_
        rotate_left
        · intro w hSw; (try dsimp only at hSw); go_simp; (try with_reducible rfl)
        simp only [Act.put, List.setIfInBounds_toArray, List.set_cons_zero, List.set_cons_succ]
        refine wpAnyH_ready (rs := [10]) (by kernel_rfl) (by simp) ?_
        refine AllReadyH.cons (o := ({ dst := none, op := Op.store 22 (Operand.tmp 41) (Operand.tmp 40), type := 0, pos := "ref.go:201", after := #[{ on := 9, ground := Ground.data }, { on := 8, ground := Ground.data }, { on := 6, ground := Ground.chain }, { on := 0, ground := Ground.phase }, { on := 1, ground := Ground.phase }, { on := 2, ground := Ground.phase }, { on := 3, ground := Ground.phase }, { on := 4, ground := Ground.phase }, { on := 5, ground := Ground.phase }, { on := 6, ground := Ground.phase }, { on := 7, ground := Ground.phase }, { on := 8, ground := Ground.phase }], guard := none } : Oper)) rfl (fun K hK => ?_) AllReadyH.nil
        obtain ⟨v0, v1, v2, v3, vf0, vf1, vf2, vf3, vl⟩ := V21.out.cells
        go_simp
        refine hK.out _ _ trivial (fun _ => ?_)
        clear hK K
        (try simp only [Act.put, List.setIfInBounds_toArray, List.set_cons_zero, List.set_cons_succ])
        clear v0 v1 v2 v3 vf0 vf1 vf2 vf3 vl
        refine wpAnyH_done (by kernel_rfl) ?_ _
        go_wp2_with fail
        go_roundw
        case rel => exact ⟨j + 1, m, by omega, by omega, by first | rfl | go_num, hlt, HN, Z21.out.far _ (Nat.succ_ne_self _), V21.out.setB m, B21.out.setCell (Nat.le_succ _) _⟩
        case measure => simp [intOf]; omega
    · obtain rfl : j = l.length := by omega
      have HF : Hid (Vl.gX r 0 = nn) := by show _ = _; rw [hE.out, List.drop_length]; rfl
      obtain ⟨v0, v1, v2, v3, vf0, vf1, vf2, vf3, vl⟩ := bv1.cells
      obtain ⟨z0, z1, z2, z3, zf0, zf1, zf2, zf3, zl⟩ := bz1.cells
      go_wp2_with fail
      refine bodyPost_ret (v := .agg #[.int .i64 3, .int .i64 0, .int .u64 (nn : Int), .string ⟨#[]⟩]) (by simp [results, Try.results41, go_sem, z0, z1, z2, z3]) rfl ?_
      rw [HF.out]
      exact ⟨rfl, ((((hbel.setCell (p := ⟨w.heap.size, 0, none⟩) (Nat.le_refl _) _).setCell (p := ⟨w.heap.size, 1, none⟩) (Nat.le_refl _) _).setCell (p := ⟨w.heap.size, 2, none⟩) (Nat.le_refl _) _).setCell (p := ⟨w.heap.size, 3, none⟩) (Nat.le_refl _) _)⟩
set_option maxRecDepth 100000 in
set_option maxHeartbeats 3200000 in
theorem guessI_any (l r : List UInt8) (c0 : UInt8) (hll : l = c0 :: r) (g1 : c0 ≠ 102) (g2 : c0 ≠ 120) (g3 : c0 ≠ 34) (g4 : c0 ≠ 45) (hLL : l.length ≤ 1000000) (h1 : l ≠ [110, 117, 108, 108]) (h2 : l ≠ [116, 114, 117, 101]) (h3 : l ≠ [102, 97, 108, 115, 101]) (w : World) : Calls Try.prog 41 #[.string (bstr l)] w fun e w' => e = .returned (.agg #[.int .i64 2, .int .i64 (Vl.gW 1 l 0), .int .u64 0, .string ⟨#[]⟩]) ∧ Below w.heap.size w w' := by
  have HR : Hid (r = l.drop 1) := by show _ = _; rw [hll]; rfl
  have hL1 : 1 ≤ l.length := by rw [hll]; simp
  have hix0 : ∀ h : 0 < (bstr l).size, (bstr l)[0]'h = c0 := by subst hll; exact fun _ => rfl
  have hs : (bstr l).size = l.length := rfl
  have hL1' : (1 : Int) ≤ (l.length : Int) := by omega
  have hL0' : (0 : Int) < (l.length : Int) := by omega
  have e1 : ((bstr l).toList == [110, 117, 108, 108]) = false := by rw [str_beq]; exact decide_eq_false h1
  have e2 : ((bstr l).toList == [116, 114, 117, 101]) = false := by rw [str_beq]; exact decide_eq_false h2
  have e3 : ((bstr l).toList == [102, 97, 108, 115, 101]) = false := by rw [str_beq]; exact decide_eq_false h3
  have n1 : ((c0.toNat : Int) == 102) = false := by rw [beq_eq_false_iff_ne]; intro h; exact g1 (UInt8.toNat_inj.1 (by show c0.toNat = 102; omega))
  have n2 : ((c0.toNat : Int) == 120) = false := by rw [beq_eq_false_iff_ne]; intro h; exact g2 (UInt8.toNat_inj.1 (by show c0.toNat = 120; omega))
  have n3 : ((c0.toNat : Int) == 34) = false := by rw [beq_eq_false_iff_ne]; intro h; exact g3 (UInt8.toNat_inj.1 (by show c0.toNat = 34; omega))
  have n4 : ((c0.toNat : Int) == 45) = false := by rw [beq_eq_false_iff_ne]; intro h; exact g4 (UInt8.toNat_inj.1 (by show c0.toNat = 45; omega))
  clear g1 g2 g3 g4
  clear hll h1 h2 h3
  obtain ⟨L2, bz, bv⟩ := two_new w 2
  go_enter Try.func41, Try.ntmps41
  go_wp2_with fail
  go_loopw [6] (fun i wr => ∃ (j : Nat) (z : Int), j ≤ l.length ∧ i = .int .i64 (j : Int) ∧ Hid (Vl.gW 1 l 0 = Vl.gW 1 (l.drop j) z) ∧ BV wr w.heap.size 0 0 0 ⟨#[]⟩ ∧ BV wr (w.heap.size + 1) 2 z 0 ⟨#[]⟩ ∧ Below w.heap.size w wr) (fun i _ => l.length - (intOf i).toNat)
  case atStart => exact ⟨0, 0, by omega, rfl, by rfl, bz, bv, L2⟩
  case round =>
    obtain ⟨j, z, hj, rfl, hE, bz1, bv1, hbel⟩ := hrel
    clear bz bv L2
    obtain ⟨w4, rfl⟩ : ∃ w4 : World, w4 = wr := ⟨_, rfl⟩
    have HZ := hid bz1
    have HV := hid bv1
    have HB := hid hbel
    have hj0 : (0 : Int) ≤ (j : Int) := by omega
    by_cases hjl : j < l.length
    · clear bz1 bv1 hbel
      have hjl' : (j : Int) < (l.length : Int) := by omega
      have hidx : ∀ h : j < (bstr l).size, (bstr l)[j]'h = l[j]'hjl := fun _ => rfl
      have HD := hid (hE.out.trans (by rw [List.drop_eq_getElem_cons hjl]))
      generalize l[j]'hjl = c at hidx HD
      have hcl := c.toNat_lt
      obtain ⟨q, hq⟩ : ∃ q : Int, ((c.toNat : Int) - 48) % 256 = q := ⟨_, rfl⟩
      have w1 : IntKind.u8.wrap ((c.toNat : Int) - 48) = q := by rw [IntKind.wrap_u8]; exact hq
      have hq0 : 0 ≤ q := by omega
      have hq1 : q < 256 := by omega
      have w2 : IntKind.i64.wrap q = q := by rw [IntKind.wrap_i64]; omega
      have w3 : IntKind.i64.wrap (-q) = -q := by rw [IntKind.wrap_i64]; omega
      have HN : Hid (Vl.gW 1 l 0 = Vl.gW 1 (l.drop (j + 1)) (IntKind.i64.wrap (IntKind.i64.wrap (10 * z) + 1 * q))) := by rw [← hq]; exact HD.out
      have HN2 : Hid (Vl.gW 1 l 0 = Vl.gW 1 (l.drop (j + 1)) (wrap64 (wrap64 (10 * z) + q))) := by
        have h := HN.out
        simp only [Int.one_mul] at h
        rw [wrap64_step] at h
        exact h
      clear HD hE HN hq
      go_wp2_with fail
      refine wp_region_held_drew (S := fun _ => True) (by kernel_rfl) trivial (fun hS => ?_)
      obtain ⟨w20, hw20⟩ : ∃ w20, w4.drew = w20 := ⟨_, rfl⟩
      have hd20 : Below w4.heap.size w4 w20 := hw20 ▸ (Below.refl _ _).drew
      rw [hw20]
      have Z20 := hid (HZ.out.keep hd20)
      have V20 := hid (HV.out.keep hd20)
      have B20 := hid (hnext HB.out hd20)
      clear hd20 hw20 HZ HV HB
      refine wpAnyH_take (i := 0) (oi := ({ dst := some 74, op := Op.fieldAddr 24 (Operand.tmp 4) 1, type := 0, pos := "ref.go:214", after := #[], guard := none } : Oper)) (v := ?_) rfl (by kernel_rfl) (by kernel_rfl) (by kernel_rfl) (fun _ _ _ h => h) (Or.inl ⟨by rfl, ?_⟩) hS ?_
      rotate_left
      · intro w hSw; (try dsimp only at hSw); go_simp; (try with_reducible rfl)
      simp only [Act.put, List.setIfInBounds_toArray, List.set_cons_zero, List.set_cons_succ]
      refine wpAnyH_take (i := 3) (oi := ({ dst := some 77, op := Op.move (Operand.tmp 0), type := 9, pos := "ref.go:214", after := #[], guard := none } : Oper)) (v := ?_) rfl (by kernel_rfl) (by kernel_rfl) (by kernel_rfl) (fun _ _ _ h => h) (Or.inl ⟨by rfl, ?_⟩) hS ?_
      rotate_left
      · intro w hSw; (try dsimp only at hSw); go_simp; (try with_reducible rfl)
      simp only [Act.put, List.setIfInBounds_toArray, List.set_cons_zero, List.set_cons_succ]
      refine wpAnyH_take (i := 4) (oi := ({ dst := some 78, op := Op.move (Operand.tmp 6), type := 3, pos := "ref.go:214", after := #[], guard := none } : Oper)) (v := ?_) rfl (by kernel_rfl) (by kernel_rfl) (by kernel_rfl) (fun _ _ _ h => h) (Or.inl ⟨by rfl, ?_⟩) hS ?_
      rotate_left
      · intro w hSw; (try dsimp only at hSw); go_simp; (try with_reducible rfl)
      simp only [Act.put, List.setIfInBounds_toArray, List.set_cons_zero, List.set_cons_succ]
      refine wpAnyH_take (i := 5) (oi := ({ dst := some 79, op := Op.index 9 (Operand.tmp 77) (Operand.tmp 78), type := 5, pos := "ref.go:214", after := #[{ on := 3, ground := Ground.data }, { on := 4, ground := Ground.data }], guard := none } : Oper)) (v := ?_) rfl (by kernel_rfl) (by kernel_rfl) (by kernel_rfl) (fun _ _ _ h => h) (Or.inl ⟨by rfl, ?_⟩) hS ?_
      rotate_left
      · intro w hSw; (try dsimp only at hSw); go_simp; (try with_reducible rfl)
      simp only [Act.put, List.setIfInBounds_toArray, List.set_cons_zero, List.set_cons_succ]
      refine wpAnyH_take (i := 6) (oi := ({ dst := some 80, op := Op.binOp BinOp.sub 5 (Operand.tmp 79) (Operand.const (Value.int IntKind.u8 48)) 5, type := 5, pos := "ref.go:214", after := #[{ on := 5, ground := Ground.data }], guard := none } : Oper)) (v := ?_) rfl (by kernel_rfl) (by kernel_rfl) (by kernel_rfl) (fun _ _ _ h => h) (Or.inl ⟨by rfl, ?_⟩) hS ?_
      rotate_left
      · intro w hSw; (try dsimp only at hSw); go_simp; (try with_reducible rfl)
      simp only [Act.put, List.setIfInBounds_toArray, List.set_cons_zero, List.set_cons_succ]
      refine wpAnyH_take (i := 7) (oi := ({ dst := some 81, op := Op.convert 5 3 (Operand.tmp 80), type := 3, pos := "ref.go:214", after := #[{ on := 6, ground := Ground.data }], guard := none } : Oper)) (v := ?_) rfl (by kernel_rfl) (by kernel_rfl) (by kernel_rfl) (fun _ _ _ h => h) (Or.inl ⟨by rfl, ?_⟩) hS ?_
      rotate_left
      · intro w hSw; (try dsimp only at hSw); go_simp; (try with_reducible rfl)
      simp only [Act.put, List.setIfInBounds_toArray, List.set_cons_zero, List.set_cons_succ]
      refine wpAnyH_ready (rs := [1]) (by kernel_rfl) (by simp) ?_
      refine AllReadyH.cons (o := ({ dst := some 75, op := Op.load 3 (Operand.tmp 74), type := 3, pos := "ref.go:214", after := #[{ on := 0, ground := Ground.data }], guard := none } : Oper)) rfl (fun K hK => ?_) AllReadyH.nil
      obtain ⟨v0, v1, v2, v3, vf0, vf1, vf2, vf3, vl⟩ := V20.out.cells
      go_simp
      refine hK.out _ _ trivial (fun _ => ?_)
      clear hK K
      (try simp only [Act.put, List.setIfInBounds_toArray, List.set_cons_zero, List.set_cons_succ])
      clear v0 v1 v2 v3 vf0 vf1 vf2 vf3 vl
      refine wpAnyH_take (i := 2) (oi := ({ dst := some 76, op := Op.binOp BinOp.mul 3 (Operand.const (Value.int IntKind.i64 10)) (Operand.tmp 75) 3, type := 3, pos := "ref.go:214", after := #[{ on := 1, ground := Ground.data }], guard := none } : Oper)) (v := ?_) rfl (by kernel_rfl) (by kernel_rfl) (by kernel_rfl) (fun _ _ _ h => h) (Or.inl ⟨by rfl, ?_⟩) hS ?_
      rotate_left
      · intro w hSw; (try dsimp only at hSw); go_simp; (try with_reducible rfl)
      simp only [Act.put, List.setIfInBounds_toArray, List.set_cons_zero, List.set_cons_succ]
      refine wpAnyH_take (i := 8) (oi := ({ dst := some 82, op := Op.binOp BinOp.add 3 (Operand.tmp 76) (Operand.tmp 81) 3, type := 3, pos := "ref.go:214", after := #[{ on := 2, ground := Ground.data }, { on := 7, ground := Ground.data }], guard := none } : Oper)) (v := ?_) rfl (by kernel_rfl) (by kernel_rfl) (by kernel_rfl) (fun _ _ _ h => h) (Or.inl ⟨by rfl, ?_⟩) hS ?_
      rotate_left
      · intro w hSw; (try dsimp only at hSw); go_simp; (try with_reducible rfl)
      simp only [Act.put, List.setIfInBounds_toArray, List.set_cons_zero, List.set_cons_succ]
      refine wpAnyH_take (i := 9) (oi := ({ dst := some 83, op := Op.fieldAddr 24 (Operand.tmp 4) 1, type := 0, pos := "ref.go:214", after := #[{ on := 0, ground := Ground.phase }, { on := 1, ground := Ground.phase }, { on := 2, ground := Ground.phase }, { on := 3, ground := Ground.phase }, { on := 4, ground := Ground.phase }, { on := 5, ground := Ground.phase }, { on := 6, ground := Ground.phase }, { on := 7, ground := Ground.phase }, { on := 8, ground := Ground.phase }], guard := none } : Oper)) (v := ?_) rfl (by kernel_rfl) (by kernel_rfl) (by kernel_rfl) (fun _ _ _ h => h) (Or.inl ⟨by rfl, ?_⟩) hS ?_
      rotate_left
      · intro w hSw; (try dsimp only at hSw); go_simp; (try with_reducible rfl)
      simp only [Act.put, List.setIfInBounds_toArray, List.set_cons_zero, List.set_cons_succ]
      refine wpAnyH_ready (rs := [10]) (by kernel_rfl) (by simp) ?_
      refine AllReadyH.cons (o := ({ dst := none, op := Op.store 3 (Operand.tmp 83) (Operand.tmp 82), type := 0, pos := "ref.go:214", after := #[{ on := 9, ground := Ground.data }, { on := 8, ground := Ground.data }, { on := 0, ground := Ground.phase }, { on := 1, ground := Ground.phase }, { on := 2, ground := Ground.phase }, { on := 3, ground := Ground.phase }, { on := 4, ground := Ground.phase }, { on := 5, ground := Ground.phase }, { on := 6, ground := Ground.phase }, { on := 7, ground := Ground.phase }, { on := 8, ground := Ground.phase }], guard := none } : Oper)) rfl (fun K hK => ?_) AllReadyH.nil
      obtain ⟨v0, v1, v2, v3, vf0, vf1, vf2, vf3, vl⟩ := V20.out.cells
      go_simp
      refine hK.out _ _ trivial (fun _ => ?_)
      clear hK K
      (try simp only [Act.put, List.setIfInBounds_toArray, List.set_cons_zero, List.set_cons_succ])
      clear v0 v1 v2 v3 vf0 vf1 vf2 vf3 vl
      refine wpAnyH_done (by kernel_rfl) ?_ _
      go_wp2_with fail
      go_roundw
      case rel => exact ⟨j + 1, _, by omega, by first | rfl | go_num, HN2, Z20.out.far _ (Nat.succ_ne_self _), V20.out.setN _, B20.out.setCell (Nat.le_succ _) _⟩
      case measure => simp [intOf]; omega
    · obtain rfl : j = l.length := by omega
      have HF : Hid (Vl.gW 1 l 0 = z) := by show _ = _; rw [hE.out, List.drop_length]; rfl
      obtain ⟨v0, v1, v2, v3, vf0, vf1, vf2, vf3, vl⟩ := bv1.cells
      obtain ⟨z0, z1, z2, z3, zf0, zf1, zf2, zf3, zl⟩ := bz1.cells
      go_wp2_with fail
      refine bodyPost_ret (v := .agg #[.int .i64 2, .int .i64 z, .int .u64 0, .string ⟨#[]⟩]) (by simp [results, Try.results41, go_sem, z0, z1, z2, z3]) rfl ?_
      rw [HF.out]
      exact ⟨rfl, ((((hbel.setCell (p := ⟨w.heap.size, 0, none⟩) (Nat.le_refl _) _).setCell (p := ⟨w.heap.size, 1, none⟩) (Nat.le_refl _) _).setCell (p := ⟨w.heap.size, 2, none⟩) (Nat.le_refl _) _).setCell (p := ⟨w.heap.size, 3, none⟩) (Nat.le_refl _) _)⟩
set_option maxRecDepth 100000 in
set_option maxHeartbeats 3200000 in
theorem guessJ_any (l r : List UInt8) (hll : l = 45 :: r) (hLL : l.length ≤ 1000000) (h1 : l ≠ [110, 117, 108, 108]) (h2 : l ≠ [116, 114, 117, 101]) (h3 : l ≠ [102, 97, 108, 115, 101]) (w : World) : Calls Try.prog 41 #[.string (bstr l)] w fun e w' => e = .returned (.agg #[.int .i64 2, .int .i64 (Vl.gW (-1) r 0), .int .u64 0, .string ⟨#[]⟩]) ∧ Below w.heap.size w w' := by
  have HR : Hid (r = l.drop 1) := by show _ = _; rw [hll]; rfl
  have hL1 : 1 ≤ l.length := by rw [hll]; simp
  have hix0 : ∀ h : 0 < (bstr l).size, (bstr l)[0]'h = 45 := by subst hll; exact fun _ => rfl
  have hs : (bstr l).size = l.length := rfl
  have hL1' : (1 : Int) ≤ (l.length : Int) := by omega
  have hL0' : (0 : Int) < (l.length : Int) := by omega
  have e1 : ((bstr l).toList == [110, 117, 108, 108]) = false := by rw [str_beq]; exact decide_eq_false h1
  have e2 : ((bstr l).toList == [116, 114, 117, 101]) = false := by rw [str_beq]; exact decide_eq_false h2
  have e3 : ((bstr l).toList == [102, 97, 108, 115, 101]) = false := by rw [str_beq]; exact decide_eq_false h3
  clear hll h1 h2 h3
  obtain ⟨L2, bz, bv⟩ := two_new w 2
  go_enter Try.func41, Try.ntmps41
  go_wp2_with fail
  go_loopw [6] (fun i wr => ∃ (j : Nat) (z : Int), j ≤ l.length ∧ i = .int .i64 (j : Int) ∧ Hid (Vl.gW (-1) r 0 = Vl.gW (-1) (l.drop (max j 1)) z) ∧ BV wr w.heap.size 0 0 0 ⟨#[]⟩ ∧ BV wr (w.heap.size + 1) 2 z 0 ⟨#[]⟩ ∧ Below w.heap.size w wr) (fun i _ => l.length - (intOf i).toNat)
  case atStart => exact ⟨0, 0, by omega, rfl, by show _ = _; rw [HR.out]; rfl, bz, bv, L2⟩
  case round =>
    obtain ⟨j, z, hj, rfl, hE, bz1, bv1, hbel⟩ := hrel
    clear bz bv L2
    obtain ⟨w4, rfl⟩ : ∃ w4 : World, w4 = wr := ⟨_, rfl⟩
    have HZ := hid bz1
    have HV := hid bv1
    have HB := hid hbel
    have hj0 : (0 : Int) ≤ (j : Int) := by omega
    by_cases hjl : j < l.length
    · clear bz1 bv1 hbel
      by_cases hj1 : j = 0
      · subst hj1
        go_wp2_with fail
        go_roundw
        case rel => exact ⟨1, z, hL1, rfl, hE, HZ.out, HV.out, HB.out⟩
        case measure => simp [intOf]; omega
      · have hjp : (0 : Int) < (j : Int) := by omega
        have hjl' : (j : Int) < (l.length : Int) := by omega
        have hidx : ∀ h : j < (bstr l).size, (bstr l)[j]'h = l[j]'hjl := fun _ => rfl
        have HD := hid (hE.out.trans (by rw [show max j 1 = j by omega, List.drop_eq_getElem_cons hjl]))
        generalize l[j]'hjl = c at hidx HD
        have hcl := c.toNat_lt
        obtain ⟨q, hq⟩ : ∃ q : Int, ((c.toNat : Int) - 48) % 256 = q := ⟨_, rfl⟩
        have w1 : IntKind.u8.wrap ((c.toNat : Int) - 48) = q := by rw [IntKind.wrap_u8]; exact hq
        have hq0 : 0 ≤ q := by omega
        have hq1 : q < 256 := by omega
        have w2 : IntKind.i64.wrap q = q := by rw [IntKind.wrap_i64]; omega
        have w3 : IntKind.i64.wrap (-q) = -q := by rw [IntKind.wrap_i64]; omega
        have HN : Hid (Vl.gW (-1) r 0 = Vl.gW (-1) (l.drop (j + 1)) (IntKind.i64.wrap (IntKind.i64.wrap (10 * z) + (-1) * q))) := by rw [← hq]; exact HD.out
        have HN2 : Hid (Vl.gW (-1) r 0 = Vl.gW (-1) (l.drop (max (j + 1) 1)) (wrap64 (wrap64 (10 * z) - q))) := by
          have h := HN.out
          simp only [Int.one_mul, Int.neg_mul] at h
          rw [wrap64_step] at h
          rw [show max (j + 1) 1 = j + 1 by omega, Int.sub_eq_add_neg]; exact h
        clear HD hE HN hq
        go_wp2_with fail
        refine wp_region_held_drew (S := fun _ => True) (by kernel_rfl) trivial (fun hS => ?_)
        obtain ⟨w20, hw20⟩ : ∃ w20, w4.drew = w20 := ⟨_, rfl⟩
        have hd20 : Below w4.heap.size w4 w20 := hw20 ▸ (Below.refl _ _).drew
        rw [hw20]
        have Z20 := hid (HZ.out.keep hd20)
        have V20 := hid (HV.out.keep hd20)
        have B20 := hid (hnext HB.out hd20)
        clear hd20 hw20 HZ HV HB
        refine wpAnyH_take (i := 0) (oi := ({ dst := some 64, op := Op.fieldAddr 24 (Operand.tmp 4) 1, type := 0, pos := "ref.go:211", after := #[], guard := none } : Oper)) (v := ?_) rfl (by kernel_rfl) (by kernel_rfl) (by kernel_rfl) (fun _ _ _ h => h) (Or.inl ⟨by rfl, ?_⟩) hS ?_
        rotate_left
        · intro w hSw; (try dsimp only at hSw); go_simp; (try with_reducible rfl)
        simp only [Act.put, List.setIfInBounds_toArray, List.set_cons_zero, List.set_cons_succ]
        refine wpAnyH_take (i := 3) (oi := ({ dst := some 67, op := Op.move (Operand.tmp 0), type := 9, pos := "ref.go:211", after := #[], guard := none } : Oper)) (v := ?_) rfl (by kernel_rfl) (by kernel_rfl) (by kernel_rfl) (fun _ _ _ h => h) (Or.inl ⟨by rfl, ?_⟩) hS ?_
        rotate_left
        · intro w hSw; (try dsimp only at hSw); go_simp; (try with_reducible rfl)
        simp only [Act.put, List.setIfInBounds_toArray, List.set_cons_zero, List.set_cons_succ]
        refine wpAnyH_take (i := 4) (oi := ({ dst := some 68, op := Op.move (Operand.tmp 6), type := 3, pos := "ref.go:211", after := #[], guard := none } : Oper)) (v := ?_) rfl (by kernel_rfl) (by kernel_rfl) (by kernel_rfl) (fun _ _ _ h => h) (Or.inl ⟨by rfl, ?_⟩) hS ?_
        rotate_left
        · intro w hSw; (try dsimp only at hSw); go_simp; (try with_reducible rfl)
        simp only [Act.put, List.setIfInBounds_toArray, List.set_cons_zero, List.set_cons_succ]
        refine wpAnyH_take (i := 5) (oi := ({ dst := some 69, op := Op.index 9 (Operand.tmp 67) (Operand.tmp 68), type := 5, pos := "ref.go:211", after := #[{ on := 3, ground := Ground.data }, { on := 4, ground := Ground.data }], guard := none } : Oper)) (v := ?_) rfl (by kernel_rfl) (by kernel_rfl) (by kernel_rfl) (fun _ _ _ h => h) (Or.inl ⟨by rfl, ?_⟩) hS ?_
        rotate_left
        · intro w hSw; (try dsimp only at hSw); go_simp; (try with_reducible rfl)
        simp only [Act.put, List.setIfInBounds_toArray, List.set_cons_zero, List.set_cons_succ]
        refine wpAnyH_take (i := 6) (oi := ({ dst := some 70, op := Op.binOp BinOp.sub 5 (Operand.tmp 69) (Operand.const (Value.int IntKind.u8 48)) 5, type := 5, pos := "ref.go:211", after := #[{ on := 5, ground := Ground.data }], guard := none } : Oper)) (v := ?_) rfl (by kernel_rfl) (by kernel_rfl) (by kernel_rfl) (fun _ _ _ h => h) (Or.inl ⟨by rfl, ?_⟩) hS ?_
        rotate_left
        · intro w hSw; (try dsimp only at hSw); go_simp; (try with_reducible rfl)
        simp only [Act.put, List.setIfInBounds_toArray, List.set_cons_zero, List.set_cons_succ]
        refine wpAnyH_take (i := 7) (oi := ({ dst := some 71, op := Op.convert 5 3 (Operand.tmp 70), type := 3, pos := "ref.go:211", after := #[{ on := 6, ground := Ground.data }], guard := none } : Oper)) (v := ?_) rfl (by kernel_rfl) (by kernel_rfl) (by kernel_rfl) (fun _ _ _ h => h) (Or.inl ⟨by rfl, ?_⟩) hS ?_
        rotate_left
        · intro w hSw; (try dsimp only at hSw); go_simp; (try with_reducible rfl)
        simp only [Act.put, List.setIfInBounds_toArray, List.set_cons_zero, List.set_cons_succ]
        refine wpAnyH_ready (rs := [1]) (by kernel_rfl) (by simp) ?_
        refine AllReadyH.cons (o := ({ dst := some 65, op := Op.load 3 (Operand.tmp 64), type := 3, pos := "ref.go:211", after := #[{ on := 0, ground := Ground.data }], guard := none } : Oper)) rfl (fun K hK => ?_) AllReadyH.nil
        obtain ⟨v0, v1, v2, v3, vf0, vf1, vf2, vf3, vl⟩ := V20.out.cells
        go_simp
        refine hK.out _ _ trivial (fun _ => ?_)
        clear hK K
        (try simp only [Act.put, List.setIfInBounds_toArray, List.set_cons_zero, List.set_cons_succ])
        clear v0 v1 v2 v3 vf0 vf1 vf2 vf3 vl
        refine wpAnyH_take (i := 2) (oi := ({ dst := some 66, op := Op.binOp BinOp.mul 3 (Operand.const (Value.int IntKind.i64 10)) (Operand.tmp 65) 3, type := 3, pos := "ref.go:211", after := #[{ on := 1, ground := Ground.data }], guard := none } : Oper)) (v := ?_) rfl (by kernel_rfl) (by kernel_rfl) (by kernel_rfl) (fun _ _ _ h => h) (Or.inl ⟨by rfl, ?_⟩) hS ?_
        rotate_left
        · intro w hSw; (try dsimp only at hSw); go_simp; (try with_reducible rfl)
        simp only [Act.put, List.setIfInBounds_toArray, List.set_cons_zero, List.set_cons_succ]
        refine wpAnyH_take (i := 8) (oi := ({ dst := some 72, op := Op.binOp BinOp.sub 3 (Operand.tmp 66) (Operand.tmp 71) 3, type := 3, pos := "ref.go:211", after := #[{ on := 2, ground := Ground.data }, { on := 7, ground := Ground.data }], guard := none } : Oper)) (v := ?_) rfl (by kernel_rfl) (by kernel_rfl) (by kernel_rfl) (fun _ _ _ h => h) (Or.inl ⟨by rfl, ?_⟩) hS ?_
        rotate_left
        · intro w hSw; (try dsimp only at hSw); go_simp; (try with_reducible rfl)
        simp only [Act.put, List.setIfInBounds_toArray, List.set_cons_zero, List.set_cons_succ]
        refine wpAnyH_take (i := 9) (oi := ({ dst := some 73, op := Op.fieldAddr 24 (Operand.tmp 4) 1, type := 0, pos := "ref.go:211", after := #[{ on := 0, ground := Ground.phase }, { on := 1, ground := Ground.phase }, { on := 2, ground := Ground.phase }, { on := 3, ground := Ground.phase }, { on := 4, ground := Ground.phase }, { on := 5, ground := Ground.phase }, { on := 6, ground := Ground.phase }, { on := 7, ground := Ground.phase }, { on := 8, ground := Ground.phase }], guard := none } : Oper)) (v := ?_) rfl (by kernel_rfl) (by kernel_rfl) (by kernel_rfl) (fun _ _ _ h => h) (Or.inl ⟨by rfl, ?_⟩) hS ?_
        rotate_left
        · intro w hSw; (try dsimp only at hSw); go_simp; (try with_reducible rfl)
        simp only [Act.put, List.setIfInBounds_toArray, List.set_cons_zero, List.set_cons_succ]
        refine wpAnyH_ready (rs := [10]) (by kernel_rfl) (by simp) ?_
        refine AllReadyH.cons (o := ({ dst := none, op := Op.store 3 (Operand.tmp 73) (Operand.tmp 72), type := 0, pos := "ref.go:211", after := #[{ on := 9, ground := Ground.data }, { on := 8, ground := Ground.data }, { on := 0, ground := Ground.phase }, { on := 1, ground := Ground.phase }, { on := 2, ground := Ground.phase }, { on := 3, ground := Ground.phase }, { on := 4, ground := Ground.phase }, { on := 5, ground := Ground.phase }, { on := 6, ground := Ground.phase }, { on := 7, ground := Ground.phase }, { on := 8, ground := Ground.phase }], guard := none } : Oper)) rfl (fun K hK => ?_) AllReadyH.nil
        obtain ⟨v0, v1, v2, v3, vf0, vf1, vf2, vf3, vl⟩ := V20.out.cells
        go_simp
        refine hK.out _ _ trivial (fun _ => ?_)
        clear hK K
        (try simp only [Act.put, List.setIfInBounds_toArray, List.set_cons_zero, List.set_cons_succ])
        clear v0 v1 v2 v3 vf0 vf1 vf2 vf3 vl
        refine wpAnyH_done (by kernel_rfl) ?_ _
        go_wp2_with fail
        go_roundw
        case rel => exact ⟨j + 1, _, by omega, by first | rfl | go_num, HN2, Z20.out.far _ (Nat.succ_ne_self _), V20.out.setN _, B20.out.setCell (Nat.le_succ _) _⟩
        case measure => simp [intOf]; omega
    · obtain rfl : j = l.length := by omega
      have HF : Hid (Vl.gW (-1) r 0 = z) := by show _ = _; rw [hE.out, show max l.length 1 = l.length by omega, List.drop_length]; rfl
      obtain ⟨v0, v1, v2, v3, vf0, vf1, vf2, vf3, vl⟩ := bv1.cells
      obtain ⟨z0, z1, z2, z3, zf0, zf1, zf2, zf3, zl⟩ := bz1.cells
      go_wp2_with fail
      refine bodyPost_ret (v := .agg #[.int .i64 2, .int .i64 z, .int .u64 0, .string ⟨#[]⟩]) (by simp [results, Try.results41, go_sem, z0, z1, z2, z3]) rfl ?_
      rw [HF.out]
      exact ⟨rfl, ((((hbel.setCell (p := ⟨w.heap.size, 0, none⟩) (Nat.le_refl _) _).setCell (p := ⟨w.heap.size, 1, none⟩) (Nat.le_refl _) _).setCell (p := ⟨w.heap.size, 2, none⟩) (Nat.le_refl _) _).setCell (p := ⟨w.heap.size, 3, none⟩) (Nat.le_refl _) _)⟩
set_option maxRecDepth 100000 in
set_option maxHeartbeats 3200000 in
theorem guessX_any (l r : List UInt8) (hll : l = 120 :: r) (hLL : r.length ≤ 999999) (h1 : l ≠ [110, 117, 108, 108]) (h2 : l ≠ [116, 114, 117, 101]) (h3 : l ≠ [102, 97, 108, 115, 101]) (w : World) : Calls Try.prog 41 #[.string (bstr l)] w fun e w' => e = .returned (.agg #[.int .i64 4, .int .i64 0, .int .u64 0, .string (bstr (Vl.gP r))]) ∧ Below w.heap.size w w' := by
  have HR : Hid (r = l.drop 1) := by show _ = _; rw [hll]; rfl
  have hL1 : 1 ≤ l.length := by rw [hll]; simp
  have hix0 : ∀ h : 0 < (bstr l).size, (bstr l)[0]'h = 120 := by subst hll; exact fun _ => rfl
  have hs : (bstr l).size = l.length := rfl
  have hL1' : (1 : Int) ≤ (l.length : Int) := by omega
  have hL0' : (0 : Int) < (l.length : Int) := by omega
  have e1 : ((bstr l).toList == [110, 117, 108, 108]) = false := by rw [str_beq]; exact decide_eq_false h1
  have e2 : ((bstr l).toList == [116, 114, 117, 101]) = false := by rw [str_beq]; exact decide_eq_false h2
  have e3 : ((bstr l).toList == [102, 97, 108, 115, 101]) = false := by rw [str_beq]; exact decide_eq_false h3
  have cb := hid (fun W => bytesG120_any r hLL W)
  rw [← hll] at cb
  clear hll h1 h2 h3
  obtain ⟨L2, bz, bv⟩ := two_new w 2
  generalize bstr (Vl.gP r) = t at *
  go_enter Try.func41, Try.ntmps41
  go_wp2_with fail
  refine (cb.out _).mono ?_; rintro e w5 ⟨rfl, b5⟩
  have bz5 := bz.keep b5
  have L5 := hid (hnext L2 b5)
  obtain ⟨z0, z1, z2, z3, zf0, zf1, zf2, zf3, zl⟩ := bz5.cells
  clear b5 L2 bz bv
  go_wp2_with fail
  refine bodyPost_ret (v := .agg #[.int .i64 4, .int .i64 0, .int .u64 0, .string t]) (by simp [results, Try.results41, go_sem, z0, z1, z2, z3]) rfl ?_
  exact ⟨rfl, ((((L5.out.setCell (p := ⟨w.heap.size, 0, none⟩) (Nat.le_refl _) _).setCell (p := ⟨w.heap.size, 1, none⟩) (Nat.le_refl _) _).setCell (p := ⟨w.heap.size, 2, none⟩) (Nat.le_refl _) _).setCell (p := ⟨w.heap.size, 3, none⟩) (Nat.le_refl _) _)⟩
set_option maxRecDepth 100000 in
set_option maxHeartbeats 3200000 in
theorem guessQ_any (l r : List UInt8) (hll : l = 34 :: r) (hLL : r.length ≤ 999999) (h1 : l ≠ [110, 117, 108, 108]) (h2 : l ≠ [116, 114, 117, 101]) (h3 : l ≠ [102, 97, 108, 115, 101]) (w : World) : Calls Try.prog 41 #[.string (bstr l)] w fun e w' => e = .returned (.agg #[.int .i64 5, .int .i64 0, .int .u64 0, .string (bstr (Vl.gQ r))]) ∧ Below w.heap.size w w' := by
  have HR : Hid (r = l.drop 1) := by show _ = _; rw [hll]; rfl
  have hL1 : 1 ≤ l.length := by rw [hll]; simp
  have hix0 : ∀ h : 0 < (bstr l).size, (bstr l)[0]'h = 34 := by subst hll; exact fun _ => rfl
  have hs : (bstr l).size = l.length := rfl
  have hL1' : (1 : Int) ≤ (l.length : Int) := by omega
  have hL0' : (0 : Int) < (l.length : Int) := by omega
  have e1 : ((bstr l).toList == [110, 117, 108, 108]) = false := by rw [str_beq]; exact decide_eq_false h1
  have e2 : ((bstr l).toList == [116, 114, 117, 101]) = false := by rw [str_beq]; exact decide_eq_false h2
  have e3 : ((bstr l).toList == [102, 97, 108, 115, 101]) = false := by rw [str_beq]; exact decide_eq_false h3
  have cb := hid (fun W => bytesG34_any r hLL W)
  rw [← hll] at cb
  clear hll h1 h2 h3
  obtain ⟨L2, bz, bv⟩ := two_new w 2
  generalize bstr (Vl.gQ r) = t at *
  go_enter Try.func41, Try.ntmps41
  go_wp2_with fail
  refine (cb.out _).mono ?_; rintro e w5 ⟨rfl, b5⟩
  have bz5 := bz.keep b5
  have L5 := hid (hnext L2 b5)
  obtain ⟨z0, z1, z2, z3, zf0, zf1, zf2, zf3, zl⟩ := bz5.cells
  clear b5 L2 bz bv
  go_wp2_with fail
  refine bodyPost_ret (v := .agg #[.int .i64 5, .int .i64 0, .int .u64 0, .string t]) (by simp [results, Try.results41, go_sem, z0, z1, z2, z3]) rfl ?_
  exact ⟨rfl, ((((L5.out.setCell (p := ⟨w.heap.size, 0, none⟩) (Nat.le_refl _) _).setCell (p := ⟨w.heap.size, 1, none⟩) (Nat.le_refl _) _).setCell (p := ⟨w.heap.size, 2, none⟩) (Nat.le_refl _) _).setCell (p := ⟨w.heap.size, 3, none⟩) (Nat.le_refl _) _)⟩
theorem guessG_any (l : List UInt8) (h0 : l ≠ []) (hl : l.length ≤ 1000000) (w : World) : Calls Try.prog 41 #[.string (bstr l)] w fun e w' => e = .returned (vvV (Vl.gs l)) ∧ Below w.heap.size w w' := by
  by_cases h1 : l = [110, 117, 108, 108]
  · subst h1; exact guessN_any w
  by_cases h2 : l = [116, 114, 117, 101]
  · subst h2; exact guessT_any w
  by_cases h3 : l = [102, 97, 108, 115, 101]
  · subst h3; exact guessA_any w
  match l with
  | [] => exact absurd rfl h0
  | c :: r =>
    have hr : r.length ≤ 999999 := by simp at hl; omega
    rw [Vl.gs_more h1 h3 h2]
    by_cases c1 : c = 102
    · rw [if_pos c1]; subst c1; exact guessF_any _ r rfl hl h1 h2 h3 w
    rw [if_neg c1]
    by_cases c2 : c = 120
    · rw [if_pos c2]; subst c2; exact guessX_any _ r rfl hr h1 h2 h3 w
    rw [if_neg c2]
    by_cases c3 : c = 34
    · rw [if_pos c3]; subst c3; exact guessQ_any _ r rfl hr h1 h2 h3 w
    rw [if_neg c3]
    by_cases c4 : c = 45
    · rw [if_pos c4]; subst c4; exact guessJ_any _ r rfl hl h1 h2 h3 w
    rw [if_neg c4]
    exact guessI_any _ r c rfl c1 c2 c3 c4 hl h1 h2 h3 w
set_option maxRecDepth 100000 in
set_option maxHeartbeats 3200000 in
theorem parseR_any (l : List UInt8) (hl : l.length ≤ 1000000) (w : World) : Calls Try.prog 20 #[.string (bstr l)] w fun e w' => e = .returned (parV (Vl.parse l)) ∧ Below w.heap.size w w' := by
  by_cases h0 : l = []
  · subst h0
    have e0 : ((bstr []).toList == []) = true := by rw [str_beq]; decide
    go_enter Try.func20, Try.ntmps20
    go_wp2_with fail
    refine bodyPost_ret (v := .tuple #[.agg #[.int .i64 0, .int .i64 0, .int .u64 0, .string ⟨#[]⟩], .int .i64 7]) (by simp [results, Try.results20, go_sem]) rfl ?_
    exact ⟨rfl, hba _ _⟩
  have cg := hid (fun W => guessG_any l h0 hl W)
  have HP := hid (Vl.parG_eq h0 hl)
  obtain ⟨⟨f0, f1⟩, f2, f3⟩ := Vl.gs_fits l hl
  have e0 : ((bstr l).toList == []) = false := by rw [str_beq]; exact decide_eq_false h0
  have e0' : (bstr l).toList.isEmpty = false := by rw [ByteArray.toList_eq, bstr_toList]; cases l with | nil => exact absurd rfl h0 | cons c r => rfl
  unfold Vl.parG at HP
  generalize Vl.gs l = v at *
  obtain ⟨k, n, b, s⟩ := v
  have cs := hid (fun W => showR_any k n b s (by unfold maxLen; have : s.size ≤ 1000000 := f3; omega) f0 f1 f2 W)
  have HP' : Hid ((if Vl.txt k n b s = l then some ⟨k, n, b, s⟩ else none) = Vl.parse l) := HP.out
  clear HP
  unfold vvV vv at cg
  unfold vv at cs
  by_cases ht : Vl.txt k n b s = l
  · have HR : Hid (Vl.parse l = some ⟨k, n, b, s⟩) := by show _ = _; rw [← HP'.out, if_pos ht]
    have e1 : (!(bstr (Vl.txt k n b s)).toList == (bstr l).toList) = false := by rw [ht]; simp
    have e1' : ((bstr (Vl.txt k n b s)).toList != (bstr l).toList) = false := by rw [ht]; simp
    generalize bstr (Vl.txt k n b s) = t at *
    clear ht HP' h0 f0 f1 f2 f3
    have bz := BV.new w 0 0 0 ⟨#[]⟩
    have L0 := hid (hba w (.cells #[.int .i64 0, .int .i64 0, .int .u64 0, .string ⟨#[]⟩] 24))
    go_enter Try.func20, Try.ntmps20
    go_wp2_with fail
    refine (cg.out _).mono ?_; rintro e w1 ⟨rfl, b1⟩
    have bz1 := bz.keep b1
    have L1 := hid (hnext L0.out b1)
    clear b1 bz L0
    obtain ⟨z0, z1, z2, z3, zf0, zf1, zf2, zf3, zl⟩ := bz1.cells
    go_wp2_with fail
    have bz2 := bz1.keep (hba w1 (.cells #[.int .i64 k, .int .i64 n, .int .u64 (b : Int), .string s] 24))
    have bv2 := BV.new w1 k n b s
    have LL := hid (hnext L1.out (hba w1 (.cells #[.int .i64 k, .int .i64 n, .int .u64 (b : Int), .string s] 24)))
    clear z0 z1 z2 z3 zf0 zf1 zf2 zf3 zl bz1 L1
    change BV (World.alloc w1 (.cells #[.int .i64 k, .int .i64 n, .int .u64 (b : Int), .string s] 24)) _ _ _ _ _ at bv2
    generalize World.alloc w1 (.cells #[.int .i64 k, .int .i64 n, .int .u64 (b : Int), .string s] 24) = w2 at *
    refine (cs.out _).mono ?_; rintro e w3 ⟨rfl, b3⟩
    have bz3 := bz2.keep b3
    have bv3 := bv2.keep b3
    have L2 := hid (hnext LL.out b3)
    clear b3 bz2 bv2 LL
    obtain ⟨z0, z1, z2, z3, zf0, zf1, zf2, zf3, zl⟩ := bz3.cells
    obtain ⟨v0, v1, v2, v3, vf0, vf1, vf2, vf3, vl⟩ := bv3.cells
    go_wp2_with fail
    refine bodyPost_ret (v := .tuple #[.agg #[.int .i64 k, .int .i64 n, .int .u64 (b : Int), .string s], .int .i64 0]) (by simp [results, Try.results20, go_sem, z0, z1, z2, z3]) rfl ?_
    rw [HR.out]
    exact ⟨rfl, ((((L2.out.setCell (p := ⟨w.heap.size, 0, none⟩) (Nat.le_refl _) _).setCell (p := ⟨w.heap.size, 1, none⟩) (Nat.le_refl _) _).setCell (p := ⟨w.heap.size, 2, none⟩) (Nat.le_refl _) _).setCell (p := ⟨w.heap.size, 3, none⟩) (Nat.le_refl _) _)⟩
  · have HR : Hid (Vl.parse l = none) := by show _ = _; rw [← HP'.out, if_neg ht]
    have e1 : (!(bstr (Vl.txt k n b s)).toList == (bstr l).toList) = true := by rw [ByteArray.toList_eq, ByteArray.toList_eq, bstr_toList, bstr_toList]; simpa using ht
    have e1' : ((bstr (Vl.txt k n b s)).toList != (bstr l).toList) = true := e1
    generalize bstr (Vl.txt k n b s) = t at *
    clear ht HP' h0 f0 f1 f2 f3
    have bz := BV.new w 0 0 0 ⟨#[]⟩
    have L0 := hid (hba w (.cells #[.int .i64 0, .int .i64 0, .int .u64 0, .string ⟨#[]⟩] 24))
    go_enter Try.func20, Try.ntmps20
    go_wp2_with fail
    refine (cg.out _).mono ?_; rintro e w1 ⟨rfl, b1⟩
    have bz1 := bz.keep b1
    have L1 := hid (hnext L0.out b1)
    clear b1 bz L0
    obtain ⟨z0, z1, z2, z3, zf0, zf1, zf2, zf3, zl⟩ := bz1.cells
    go_wp2_with fail
    have bz2 := bz1.keep (hba w1 (.cells #[.int .i64 k, .int .i64 n, .int .u64 (b : Int), .string s] 24))
    have bv2 := BV.new w1 k n b s
    have LL := hid (hnext L1.out (hba w1 (.cells #[.int .i64 k, .int .i64 n, .int .u64 (b : Int), .string s] 24)))
    clear z0 z1 z2 z3 zf0 zf1 zf2 zf3 zl bz1 L1
    change BV (World.alloc w1 (.cells #[.int .i64 k, .int .i64 n, .int .u64 (b : Int), .string s] 24)) _ _ _ _ _ at bv2
    generalize World.alloc w1 (.cells #[.int .i64 k, .int .i64 n, .int .u64 (b : Int), .string s] 24) = w2 at *
    refine (cs.out _).mono ?_; rintro e w3 ⟨rfl, b3⟩
    have bz3 := bz2.keep b3
    have bv3 := bv2.keep b3
    have L2 := hid (hnext LL.out b3)
    clear b3 bz2 bv2 LL
    obtain ⟨z0, z1, z2, z3, zf0, zf1, zf2, zf3, zl⟩ := bz3.cells
    obtain ⟨v0, v1, v2, v3, vf0, vf1, vf2, vf3, vl⟩ := bv3.cells
    go_wp2_with fail
    refine bodyPost_ret (v := .tuple #[.agg #[.int .i64 0, .int .i64 0, .int .u64 0, .string ⟨#[]⟩], .int .i64 7]) (by simp [results, Try.results20, go_sem, z0, z1, z2, z3]) rfl ?_
    rw [HR.out]
    exact ⟨rfl, ((((L2.out.setCell (p := ⟨w.heap.size, 0, none⟩) (Nat.le_refl _) _).setCell (p := ⟨w.heap.size, 1, none⟩) (Nat.le_refl _) _).setCell (p := ⟨w.heap.size, 2, none⟩) (Nat.le_refl _) _).setCell (p := ⟨w.heap.size, 3, none⟩) (Nat.le_refl _) _)⟩
end Go.Proofs.Ytgdegoacjobpdaa
