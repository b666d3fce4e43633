/-
  CrcPairs answers true, whatever the text and the two bytes: the walk. No condition but that the text's length is an int.
-/
import Derived.Test.YtfockiaommiohaaKnown
import Derived.Deep.RegionWith
import Derived.BigRegion
import Derived.Test.YtfockiaommiohaaReg
namespace Go.Proofs.Ytfockiaommiohaa
open Go.RowKit

theorem u8_of {n : Int} (h : (Lit.int .u8 n).wf = true) : ∃ c : UInt8, n = (c.toNat : Int) := by
  have hx : 0 ≤ n ∧ n ≤ 255 := by simpa [Lit.wf, IntKind.min, IntKind.max, IntKind.signed, IntKind.bits] using h
  refine ⟨UInt8.ofNat n.toNat, ?_⟩
  rw [UInt8.toNat_ofNat']
  omega

set_option maxRecDepth 100000 in
set_option maxHeartbeats 3200000 in
theorem crcPairs_walk (s : ByteArray) (n m : Int) (hs : s.size ≤ maxLen) (hn : (Lit.int .u8 n).wf = true) (hm : (Lit.int .u8 m).wf = true) (w : World) :
    Calls Try.prog 8 #[.string s, .int .u8 n, .int .u8 m] w fun e w' => e = .returned (.bool true) ∧ Below w.heap.size w w' := by
  obtain ⟨a, rfl⟩ := u8_of hn
  obtain ⟨b, rfl⟩ := u8_of hm
  unfold maxLen at hs
  by_cases h : s.size ≤ 1000
  · have hsa := run_string_cell (P := Try.prog) 32 9 5 a Try.underlying32 Try.underlying5 Try.underlying9
    have hsb := run_string_cell (P := Try.prog) 32 9 5 b Try.underlying32 Try.underlying5 Try.underlying9
    have h1 : ∀ c, (bstr [c]).size = 1 := fun _ => rfl
    have c1 : ∀ c, Hid (∀ W, Calls Try.prog 12 #[.string (s ++ bstr [c])] W fun e w' => e = .returned (.int .u32 ((Crc.sumOf (s.data.toList ++ [c])).toNat : Int)) ∧ Below W.heap.size W w') := fun c W => by
      have := of_any (s ++ bstr [c]) W (by rw [ByteArray.size_append, bstr_size]; simp; omega)
      rwa [ByteArray.data_append, Array.toList_append] at this
    have c2 : ∀ c, Hid (∀ W, Calls Try.prog 16 #[.string (s ++ bstr [c])] W fun e w' => e = .returned (.string (bstr (Crc.put (s.data.toList ++ [c])))) ∧ Below W.heap.size W w') := fun c W => by
      have := put_any (s ++ bstr [c]) W (by rw [ByteArray.size_append, bstr_size]; simp; omega)
      rwa [ByteArray.data_append, Array.toList_append] at this
    have c1a := c1 a
    have c1b := c1 b
    have c2a := c2 a
    have c2b := c2 b
    clear c1 c2
    have e1 := Crc.pair_sum s.data.toList a b
    have e2 := Crc.pair_put s.data.toList a b
    generalize Crc.sumOf (s.data.toList ++ [a]) = x at *
    generalize Crc.sumOf (s.data.toList ++ [b]) = y at *
    generalize Crc.put (s.data.toList ++ [a]) = p at *
    generalize Crc.put (s.data.toList ++ [b]) = q at *
    obtain ⟨d, t1, t2, t3⟩ : ∃ d : Bool, ((x.toNat : Int) == (y.toNat : Int)) = d ∧ ((a.toNat : Int) == (b.toNat : Int)) = d ∧ ((bstr p).toList == (bstr q).toList) = d := by
      refine ⟨decide (a = b), ?_, ?_, ?_⟩
      · rw [Bool.eq_iff_iff, beq_iff_eq, Int.natCast_inj, BitVec.toNat_inj, decide_eq_true_iff]; exact e1
      · rw [Bool.eq_iff_iff, beq_iff_eq, Int.natCast_inj, UInt8.toNat_inj, decide_eq_true_iff]
      · rw [bytes_beq, Bool.eq_iff_iff, decide_eq_true_iff, decide_eq_true_iff]
        exact ⟨fun h => e2.1 (by have := congrArg (fun z : ByteArray => z.data.toList) h; simpa [bstr_toList] using this), fun h => by rw [e2.2 h]⟩
    clear e1 e2
    go_enter Try.func8, Try.ntmps8
    go_wp2_with fail
    have hB := (Below.refl w.heap.size w).alloc (Nat.le_refl _) (.cells #[.int .u8 (a.toNat : Int)] 5)
    refine (after hB (c1a.out _)).mono ?_; rintro e w1 ⟨rfl, hB1⟩
    go_wp2_with fail
    have hB2 := hB1.alloc hB1.size (.cells #[.int .u8 (b.toNat : Int)] 5)
    refine (after hB2 (c1b.out _)).mono ?_; rintro e w3 ⟨rfl, hB3⟩
    go_wp2_with fail
    clear hn hm hB hB1 hB2
    have hsx : ¬ (9223372036854775807 < s.size + 1) := by omega
    cases d
    all_goals
      have hB4 := hB3.drew
      refine wp_region_held_drew (S := (fun _ => True)) (by kernel_rfl) trivial (fun hH4 => ?_)
      generalize w3.drew = w4 at hB4 hH4 ⊢
      refine wpAnyH_take (i := 0) (oi := ({ dst := some 25, op := Op.move (Operand.tmp 7), type := 22, pos := "law.go:81", after := #[], guard := none } : Oper)) (v := ?_) rfl (by kernel_rfl) (by kernel_rfl) (by kernel_rfl) (fun _ _ _ h => h) (Or.inl ⟨by rfl, ?_⟩) hH4 ?_
      rotate_left
      · intro w hSw; (try dsimp only at hSw); go_simp; (try with_reducible rfl)
      simp only [Act.put, List.setIfInBounds_toArray, List.set_cons_zero, List.set_cons_succ]
      refine wpAnyH_take (i := 1) (oi := ({ dst := some 26, op := Op.move (Operand.tmp 8), type := 22, pos := "law.go:81", after := #[], guard := none } : Oper)) (v := ?_) rfl (by kernel_rfl) (by kernel_rfl) (by kernel_rfl) (fun _ _ _ h => h) (Or.inl ⟨by rfl, ?_⟩) hH4 ?_
      rotate_left
      · intro w hSw; (try dsimp only at hSw); go_simp; (try with_reducible rfl)
      simp only [Act.put, List.setIfInBounds_toArray, List.set_cons_zero, List.set_cons_succ]
      refine wpAnyH_take (i := 2) (oi := ({ dst := some 27, op := Op.binOp BinOp.eql 22 (Operand.tmp 25) (Operand.tmp 26) 22, type := 4, pos := "law.go:81", after := #[{ on := 0, ground := Ground.data }, { on := 1, ground := Ground.data }], guard := none } : Oper)) (v := ?_) rfl (by kernel_rfl) (by kernel_rfl) (by kernel_rfl) (fun _ _ _ h => h) (Or.inl ⟨by rfl, ?_⟩) hH4 ?_
      rotate_left
      · intro w hSw; (try dsimp only at hSw); go_simp; (try with_reducible rfl)
      simp only [Act.put, List.setIfInBounds_toArray, List.set_cons_zero, List.set_cons_succ]
      refine wpAnyH_take (i := 3) (oi := ({ dst := some 28, op := Op.move (Operand.tmp 1), type := 5, pos := "law.go:81", after := #[], guard := none } : Oper)) (v := ?_) rfl (by kernel_rfl) (by kernel_rfl) (by kernel_rfl) (fun _ _ _ h => h) (Or.inl ⟨by rfl, ?_⟩) hH4 ?_
      rotate_left
      · intro w hSw; (try dsimp only at hSw); go_simp; (try with_reducible rfl)
      simp only [Act.put, List.setIfInBounds_toArray, List.set_cons_zero, List.set_cons_succ]
      refine wpAnyH_take (i := 4) (oi := ({ dst := some 29, op := Op.move (Operand.tmp 2), type := 5, pos := "law.go:81", after := #[], guard := none } : Oper)) (v := ?_) rfl (by kernel_rfl) (by kernel_rfl) (by kernel_rfl) (fun _ _ _ h => h) (Or.inl ⟨by rfl, ?_⟩) hH4 ?_
      rotate_left
      · intro w hSw; (try dsimp only at hSw); go_simp; (try with_reducible rfl)
      simp only [Act.put, List.setIfInBounds_toArray, List.set_cons_zero, List.set_cons_succ]
      refine wpAnyH_take (i := 5) (oi := ({ dst := some 30, op := Op.binOp BinOp.eql 5 (Operand.tmp 28) (Operand.tmp 29) 5, type := 4, pos := "law.go:81", after := #[{ on := 3, ground := Ground.data }, { on := 4, ground := Ground.data }], guard := none } : Oper)) (v := ?_) rfl (by kernel_rfl) (by kernel_rfl) (by kernel_rfl) (fun _ _ _ h => h) (Or.inl ⟨by rfl, ?_⟩) hH4 ?_
      rotate_left
      · intro w hSw; (try dsimp only at hSw); go_simp; (try with_reducible rfl)
      simp only [Act.put, List.setIfInBounds_toArray, List.set_cons_zero, List.set_cons_succ]
      refine wpAnyH_take (i := 6) (oi := ({ dst := some 31, op := Op.binOp BinOp.eql 4 (Operand.tmp 27) (Operand.tmp 30) 4, type := 4, pos := "law.go:81", after := #[{ on := 2, ground := Ground.data }, { on := 5, ground := Ground.data }], guard := none } : Oper)) (v := ?_) rfl (by kernel_rfl) (by kernel_rfl) (by kernel_rfl) (fun _ _ _ h => h) (Or.inl ⟨by rfl, ?_⟩) hH4 ?_
      rotate_left
      · intro w hSw; (try dsimp only at hSw); go_simp; (try with_reducible rfl)
      simp only [Act.put, List.setIfInBounds_toArray, List.set_cons_zero, List.set_cons_succ]
      refine wpAnyH_take (i := 7) (oi := ({ dst := some 32, op := Op.move (Operand.tmp 31), type := 4, pos := "law.go:81", after := #[{ on := 6, ground := Ground.data }], guard := none } : Oper)) (v := ?_) rfl (by kernel_rfl) (by kernel_rfl) (by kernel_rfl) (fun _ _ _ h => h) (Or.inl ⟨by rfl, ?_⟩) hH4 ?_
      rotate_left
      · intro w hSw; (try dsimp only at hSw); go_simp; (try with_reducible rfl)
      simp only [Act.put, List.setIfInBounds_toArray, List.set_cons_zero, List.set_cons_succ]
      refine wpAnyH_take (i := 8) (oi := ({ dst := some 33, op := Op.move (Operand.tmp 0), type := 9, pos := "law.go:81", after := #[{ on := 7, ground := Ground.guard }], guard := some (7, true) } : Oper)) (v := ?_) rfl (by kernel_rfl) (by kernel_rfl) (by kernel_rfl) (fun _ _ _ h => h) (Or.inl ⟨by rfl, ?_⟩) hH4 ?_
      rotate_left
      · intro w hSw; (try dsimp only at hSw); go_simp; (try with_reducible rfl)
      simp only [Act.put, List.setIfInBounds_toArray, List.set_cons_zero, List.set_cons_succ]
      refine wpAnyH_take (i := 9) (oi := ({ dst := some 34, op := Op.move (Operand.tmp 1), type := 5, pos := "law.go:81", after := #[{ on := 7, ground := Ground.guard }], guard := some (7, true) } : Oper)) (v := ?_) rfl (by kernel_rfl) (by kernel_rfl) (by kernel_rfl) (fun _ _ _ h => h) (Or.inl ⟨by rfl, ?_⟩) hH4 ?_
      rotate_left
      · intro w hSw; (try dsimp only at hSw); go_simp; (try with_reducible rfl)
      simp only [Act.put, List.setIfInBounds_toArray, List.set_cons_zero, List.set_cons_succ]
      refine wpAnyH_take (i := 14) (oi := ({ dst := some 39, op := Op.move (Operand.tmp 0), type := 9, pos := "law.go:81", after := #[{ on := 7, ground := Ground.guard }], guard := some (7, true) } : Oper)) (v := ?_) rfl (by kernel_rfl) (by kernel_rfl) (by kernel_rfl) (fun _ _ _ h => h) (Or.inl ⟨by rfl, ?_⟩) hH4 ?_
      rotate_left
      · intro w hSw; (try dsimp only at hSw); go_simp; (try with_reducible rfl)
      simp only [Act.put, List.setIfInBounds_toArray, List.set_cons_zero, List.set_cons_succ]
      refine wpAnyH_take (i := 15) (oi := ({ dst := some 40, op := Op.move (Operand.tmp 2), type := 5, pos := "law.go:81", after := #[{ on := 7, ground := Ground.guard }], guard := some (7, true) } : Oper)) (v := ?_) rfl (by kernel_rfl) (by kernel_rfl) (by kernel_rfl) (fun _ _ _ h => h) (Or.inl ⟨by rfl, ?_⟩) hH4 ?_
      rotate_left
      · intro w hSw; (try dsimp only at hSw); go_simp; (try with_reducible rfl)
      simp only [Act.put, List.setIfInBounds_toArray, List.set_cons_zero, List.set_cons_succ]
      refine wpAnyH_take (i := 21) (oi := ({ dst := some 46, op := Op.move (Operand.tmp 1), type := 5, pos := "law.go:81", after := #[{ on := 7, ground := Ground.guard }], guard := some (7, true) } : Oper)) (v := ?_) rfl (by kernel_rfl) (by kernel_rfl) (by kernel_rfl) (fun _ _ _ h => h) (Or.inl ⟨by rfl, ?_⟩) hH4 ?_
      rotate_left
      · intro w hSw; (try dsimp only at hSw); go_simp; (try with_reducible rfl)
      simp only [Act.put, List.setIfInBounds_toArray, List.set_cons_zero, List.set_cons_succ]
      refine wpAnyH_take (i := 22) (oi := ({ dst := some 47, op := Op.move (Operand.tmp 2), type := 5, pos := "law.go:81", after := #[{ on := 7, ground := Ground.guard }], guard := some (7, true) } : Oper)) (v := ?_) rfl (by kernel_rfl) (by kernel_rfl) (by kernel_rfl) (fun _ _ _ h => h) (Or.inl ⟨by rfl, ?_⟩) hH4 ?_
      rotate_left
      · intro w hSw; (try dsimp only at hSw); go_simp; (try with_reducible rfl)
      simp only [Act.put, List.setIfInBounds_toArray, List.set_cons_zero, List.set_cons_succ]
      refine wpAnyH_take (i := 23) (oi := ({ dst := some 48, op := Op.binOp BinOp.eql 5 (Operand.tmp 46) (Operand.tmp 47) 5, type := 4, pos := "law.go:81", after := #[{ on := 21, ground := Ground.data }, { on := 22, ground := Ground.data }, { on := 7, ground := Ground.guard }], guard := some (7, true) } : Oper)) (v := ?_) rfl (by kernel_rfl) (by kernel_rfl) (by kernel_rfl) (fun _ _ _ h => h) (Or.inl ⟨by rfl, ?_⟩) hH4 ?_
      rotate_left
      · intro w hSw; (try dsimp only at hSw); go_simp; (try with_reducible rfl)
      simp only [Act.put, List.setIfInBounds_toArray, List.set_cons_zero, List.set_cons_succ]
      refine wpAnyH_ready (rs := [10, 16]) (by kernel_rfl) (by simp) ?_
      refine AllReadyH.cons (o := ({ dst := some 35, op := Op.buildSlice 32 1 #[(0, Operand.tmp 34)], type := 32, pos := "law.go:81", after := #[{ on := 9, ground := Ground.data }, { on := 7, ground := Ground.guard }], guard := some (7, true) } : Oper)) rfl (fun K hK => ?_) (AllReadyH.cons (o := ({ dst := some 41, op := Op.buildSlice 32 1 #[(0, Operand.tmp 40)], type := 32, pos := "law.go:81", after := #[{ on := 15, ground := Ground.data }, { on := 7, ground := Ground.guard }], guard := some (7, true) } : Oper)) rfl (fun K hK => ?_) AllReadyH.nil)
      · go_simp
        refine hK.out _ _ trivial (fun hH5 => ?_)
        clear hK K
        (try simp only [Act.put, List.setIfInBounds_toArray, List.set_cons_zero, List.set_cons_succ])
        refine wpAnyH_more (S' := (fun W => W.cell? ⟨w4.heap.size, 0, none⟩ = some (.int .u8 (a.toNat : Int)) ∧ True)) (fun _ h => trivial) _ _ _ _ ?_
        have hT5 : (fun W => W.cell? ⟨w4.heap.size, 0, none⟩ = some (.int .u8 (a.toNat : Int)) ∧ True) (World.alloc w4 (.cells #[.int .u8 (a.toNat : Int)] 5)) := ⟨by simp, trivial⟩
        have hB5 := hB4.alloc hB4.size (.cells #[.int .u8 (a.toNat : Int)] 5)
        generalize World.alloc w4 (.cells #[.int .u8 (a.toNat : Int)] 5) = w5 at hT5 hB5 ⊢
        clear hH5
        have hs5 := hB5.size
        refine wpAnyH_take (i := 11) (oi := ({ dst := some 36, op := Op.convert 32 9 (Operand.tmp 35), type := 9, pos := "law.go:81", after := #[{ on := 10, ground := Ground.data }, { on := 7, ground := Ground.guard }], guard := some (7, true) } : Oper)) (v := ?_) rfl (by kernel_rfl) (by kernel_rfl) (by kernel_rfl) (fun _ _ _ h => h) (Or.inl ⟨by rfl, ?_⟩) hT5 ?_
        rotate_left
        · intro w hSw; (try dsimp only at hSw); go_simp; (try with_reducible rfl)
        simp only [Act.put, List.setIfInBounds_toArray, List.set_cons_zero, List.set_cons_succ]
        refine wpAnyH_take (i := 12) (oi := ({ dst := some 37, op := Op.binOp BinOp.add 9 (Operand.tmp 33) (Operand.tmp 36) 9, type := 9, pos := "law.go:81", after := #[{ on := 8, ground := Ground.data }, { on := 11, ground := Ground.data }, { on := 7, ground := Ground.guard }], guard := some (7, true) } : Oper)) (v := ?_) rfl (by kernel_rfl) (by kernel_rfl) (by kernel_rfl) (fun _ _ _ h => h) (Or.inl ⟨by rfl, ?_⟩) hT5 ?_
        rotate_left
        · intro w hSw; (try dsimp only at hSw); go_simp; (try with_reducible rfl)
        simp only [Act.put, List.setIfInBounds_toArray, List.set_cons_zero, List.set_cons_succ]
        refine wpAnyH_ready (rs := [13, 16]) (by kernel_rfl) (by simp) ?_
        refine AllReadyH.cons (o := ({ dst := some 38, op := Op.call { callee := Callee.value (Operand.func 16), args := #[Operand.tmp 37], argTypes := #[9] }, type := 9, pos := "law.go:81", after := #[{ on := 12, ground := Ground.data }, { on := 7, ground := Ground.chain }, { on := 7, ground := Ground.guard }], guard := some (7, true) } : Oper)) rfl (fun K hK => ?_) (AllReadyH.cons (o := ({ dst := some 41, op := Op.buildSlice 32 1 #[(0, Operand.tmp 40)], type := 32, pos := "law.go:81", after := #[{ on := 15, ground := Ground.data }, { on := 7, ground := Ground.guard }], guard := some (7, true) } : Oper)) rfl (fun K hK => ?_) AllReadyH.nil)
        · go_simp
          refine (c2a.out _).mono ?_; rintro e w6 ⟨rfl, hb6⟩
          go_wp2_with fail
          refine hK.out _ _ ⟨hkeep hT5.1 (hb6), trivial⟩ (fun hH6 => ?_)
          clear hK K
          (try simp only [Act.put, List.setIfInBounds_toArray, List.set_cons_zero, List.set_cons_succ])
          have hB6 := hnext hB5 hb6
          clear hb6
          refine wpAnyH_ready (rs := [16]) (by kernel_rfl) (by simp) ?_
          refine AllReadyH.cons (o := ({ dst := some 41, op := Op.buildSlice 32 1 #[(0, Operand.tmp 40)], type := 32, pos := "law.go:81", after := #[{ on := 15, ground := Ground.data }, { on := 7, ground := Ground.guard }], guard := some (7, true) } : Oper)) rfl (fun K hK => ?_) AllReadyH.nil
          go_simp
          refine hK.out _ _ ⟨hkeep hH6.1 (hba w6 (.cells #[.int .u8 (b.toNat : Int)] 5)), trivial⟩ (fun hH7 => ?_)
          clear hK K
          (try simp only [Act.put, List.setIfInBounds_toArray, List.set_cons_zero, List.set_cons_succ])
          refine wpAnyH_more (S' := (fun W => W.cell? ⟨w4.heap.size, 0, none⟩ = some (.int .u8 (a.toNat : Int)) ∧ W.cell? ⟨w6.heap.size, 0, none⟩ = some (.int .u8 (b.toNat : Int)) ∧ True)) (fun _ h => ⟨h.1, trivial⟩) _ _ _ _ ?_
          have hT7 : (fun W => W.cell? ⟨w4.heap.size, 0, none⟩ = some (.int .u8 (a.toNat : Int)) ∧ W.cell? ⟨w6.heap.size, 0, none⟩ = some (.int .u8 (b.toNat : Int)) ∧ True) (World.alloc w6 (.cells #[.int .u8 (b.toNat : Int)] 5)) := ⟨hH7.1, by simp, trivial⟩
          have hB7 := hB6.alloc hB6.size (.cells #[.int .u8 (b.toNat : Int)] 5)
          generalize World.alloc w6 (.cells #[.int .u8 (b.toNat : Int)] 5) = w7 at hT7 hB7 ⊢
          clear hH7
          have hs7 := hB7.size
          refine wpAnyH_take (i := 17) (oi := ({ dst := some 42, op := Op.convert 32 9 (Operand.tmp 41), type := 9, pos := "law.go:81", after := #[{ on := 16, ground := Ground.data }, { on := 7, ground := Ground.guard }], guard := some (7, true) } : Oper)) (v := ?_) rfl (by kernel_rfl) (by kernel_rfl) (by kernel_rfl) (fun _ _ _ h => h) (Or.inl ⟨by rfl, ?_⟩) hT7 ?_
          rotate_left
          · intro w hSw; (try dsimp only at hSw); go_simp; (try with_reducible rfl)
          simp only [Act.put, List.setIfInBounds_toArray, List.set_cons_zero, List.set_cons_succ]
          refine wpAnyH_take (i := 18) (oi := ({ dst := some 43, op := Op.binOp BinOp.add 9 (Operand.tmp 39) (Operand.tmp 42) 9, type := 9, pos := "law.go:81", after := #[{ on := 14, ground := Ground.data }, { on := 17, ground := Ground.data }, { on := 7, ground := Ground.guard }], guard := some (7, true) } : Oper)) (v := ?_) rfl (by kernel_rfl) (by kernel_rfl) (by kernel_rfl) (fun _ _ _ h => h) (Or.inl ⟨by rfl, ?_⟩) hT7 ?_
          rotate_left
          · intro w hSw; (try dsimp only at hSw); go_simp; (try with_reducible rfl)
          simp only [Act.put, List.setIfInBounds_toArray, List.set_cons_zero, List.set_cons_succ]
          refine wpAnyH_ready (rs := [19]) (by kernel_rfl) (by simp) ?_
          refine AllReadyH.cons (o := ({ dst := some 44, op := Op.call { callee := Callee.value (Operand.func 16), args := #[Operand.tmp 43], argTypes := #[9] }, type := 9, pos := "law.go:81", after := #[{ on := 18, ground := Ground.data }, { on := 13, ground := Ground.chain }, { on := 7, ground := Ground.guard }], guard := some (7, true) } : Oper)) rfl (fun K hK => ?_) AllReadyH.nil
          go_simp
          refine (c2b.out _).mono ?_; rintro e w8 ⟨rfl, hb8⟩
          go_wp2_with fail
          refine hK.out _ _ ⟨hkeep hT7.1 (hb8), hkeep hT7.2.1 (hb8), trivial⟩ (fun hH8 => ?_)
          clear hK K
          (try simp only [Act.put, List.setIfInBounds_toArray, List.set_cons_zero, List.set_cons_succ])
          have hB8 := hnext hB7 hb8
          clear hb8
          refine wpAnyH_take (i := 20) (oi := ({ dst := some 45, op := Op.binOp BinOp.eql 9 (Operand.tmp 38) (Operand.tmp 44) 9, type := 4, pos := "law.go:81", after := #[{ on := 13, ground := Ground.data }, { on := 19, ground := Ground.data }, { on := 7, ground := Ground.guard }], guard := some (7, true) } : Oper)) (v := ?_) rfl (by kernel_rfl) (by kernel_rfl) (by kernel_rfl) (fun _ _ _ h => h) (Or.inl ⟨by rfl, ?_⟩) hH8 ?_
          rotate_left
          · intro w hSw; (try dsimp only at hSw); go_simp; (try with_reducible rfl)
          simp only [Act.put, List.setIfInBounds_toArray, List.set_cons_zero, List.set_cons_succ]
          refine wpAnyH_take (i := 24) (oi := ({ dst := some 49, op := Op.binOp BinOp.eql 4 (Operand.tmp 45) (Operand.tmp 48) 4, type := 4, pos := "law.go:81", after := #[{ on := 20, ground := Ground.data }, { on := 23, ground := Ground.data }, { on := 7, ground := Ground.guard }], guard := some (7, true) } : Oper)) (v := ?_) rfl (by kernel_rfl) (by kernel_rfl) (by kernel_rfl) (fun _ _ _ h => h) (Or.inl ⟨by rfl, ?_⟩) hH8 ?_
          rotate_left
          · intro w hSw; (try dsimp only at hSw); go_simp; (try with_reducible rfl)
          simp only [Act.put, List.setIfInBounds_toArray, List.set_cons_zero, List.set_cons_succ]
          refine wpAnyH_take (i := 25) (oi := ({ dst := some 50, op := Op.pick (Operand.tmp 32) (Operand.tmp 49) (Operand.const (Value.bool false)), type := 4, pos := "law.go:81", after := #[{ on := 7, ground := Ground.data }, { on := 24, ground := Ground.data }], guard := none } : Oper)) (v := ?_) rfl (by kernel_rfl) (by kernel_rfl) (by kernel_rfl) (fun _ _ _ h => h) (Or.inl ⟨by rfl, ?_⟩) hH8 ?_
          rotate_left
          · intro w hSw; (try dsimp only at hSw); go_simp; (try with_reducible rfl)
          simp only [Act.put, List.setIfInBounds_toArray, List.set_cons_zero, List.set_cons_succ]
          refine wpAnyH_take (i := 26) (oi := ({ dst := some 51, op := Op.move (Operand.tmp 50), type := 4, pos := "law.go:81", after := #[{ on := 25, ground := Ground.data }, { on := 19, ground := Ground.chain }], guard := none } : Oper)) (v := ?_) rfl (by kernel_rfl) (by kernel_rfl) (by kernel_rfl) (fun _ _ _ h => h) (Or.inl ⟨by rfl, ?_⟩) hH8 ?_
          rotate_left
          · intro w hSw; (try dsimp only at hSw); go_simp; (try with_reducible rfl)
          simp only [Act.put, List.setIfInBounds_toArray, List.set_cons_zero, List.set_cons_succ]
          refine wpAnyH_ready (rs := [27]) (by kernel_rfl) (by simp) ?_
          refine AllReadyH.cons (o := ({ dst := some 52, op := Op.call { callee := Callee.value (Operand.func 9), args := #[], argTypes := #[] }, type := 4, pos := "law.go:81", after := #[{ on := 26, ground := Ground.chain }, { on := 26, ground := Ground.guard }], guard := some (26, true) } : Oper)) rfl (fun K hK => ?_) AllReadyH.nil
          go_simp
          refine (known_any _).mono ?_; rintro e w9 ⟨rfl, hb9⟩
          go_wp2_with fail
          refine hK.out _ _ ⟨hkeep hH8.1 (hb9), hkeep hH8.2.1 (hb9), trivial⟩ (fun hH9 => ?_)
          clear hK K
          (try simp only [Act.put, List.setIfInBounds_toArray, List.set_cons_zero, List.set_cons_succ])
          have hB9 := hnext hB8 hb9
          clear hb9
          refine wpAnyH_take (i := 28) (oi := ({ dst := some 53, op := Op.pick (Operand.tmp 51) (Operand.tmp 52) (Operand.const (Value.bool false)), type := 4, pos := "law.go:81", after := #[{ on := 26, ground := Ground.data }, { on := 27, ground := Ground.data }], guard := none } : Oper)) (v := ?_) rfl (by kernel_rfl) (by kernel_rfl) (by kernel_rfl) (fun _ _ _ h => h) (Or.inl ⟨by rfl, ?_⟩) hH9 ?_
          rotate_left
          · intro w hSw; (try dsimp only at hSw); go_simp; (try with_reducible rfl)
          simp only [Act.put, List.setIfInBounds_toArray, List.set_cons_zero, List.set_cons_succ]
          refine wpAnyH_take (i := 29) (oi := ({ dst := some 6, op := Op.assign (Operand.tmp 53), type := 4, pos := "law.go:81", after := #[{ on := 28, ground := Ground.data }, { on := 27, ground := Ground.chain }, { on := 0, ground := Ground.phase }, { on := 1, ground := Ground.phase }, { on := 2, ground := Ground.phase }, { on := 3, ground := Ground.phase }, { on := 4, ground := Ground.phase }, { on := 5, ground := Ground.phase }, { on := 6, ground := Ground.phase }, { on := 7, ground := Ground.phase }, { on := 8, ground := Ground.phase }, { on := 9, ground := Ground.phase }, { on := 10, ground := Ground.phase }, { on := 11, ground := Ground.phase }, { on := 12, ground := Ground.phase }, { on := 13, ground := Ground.phase }, { on := 14, ground := Ground.phase }, { on := 15, ground := Ground.phase }, { on := 16, ground := Ground.phase }, { on := 17, ground := Ground.phase }, { on := 18, ground := Ground.phase }, { on := 19, ground := Ground.phase }, { on := 20, ground := Ground.phase }, { on := 21, ground := Ground.phase }, { on := 22, ground := Ground.phase }, { on := 23, ground := Ground.phase }, { on := 24, ground := Ground.phase }, { on := 25, ground := Ground.phase }, { on := 26, ground := Ground.phase }, { on := 27, ground := Ground.phase }, { on := 28, ground := Ground.phase }], guard := none } : Oper)) (v := ?_) rfl (by kernel_rfl) (by kernel_rfl) (by kernel_rfl) (fun _ _ _ h => h) (Or.inl ⟨by rfl, ?_⟩) hH9 ?_
          rotate_left
          · intro w hSw; (try dsimp only at hSw); go_simp; (try with_reducible rfl)
          simp only [Act.put, List.setIfInBounds_toArray, List.set_cons_zero, List.set_cons_succ]
          refine wpAnyH_done (by kernel_rfl) ?_ _
          go_wp2_with fail
          go_ret
          exact ⟨rfl, hB9⟩
        · go_simp
          refine hK.out _ _ ⟨hkeep hT5.1 (hba w5 (.cells #[.int .u8 (b.toNat : Int)] 5)), trivial⟩ (fun hH6 => ?_)
          clear hK K
          (try simp only [Act.put, List.setIfInBounds_toArray, List.set_cons_zero, List.set_cons_succ])
          refine wpAnyH_more (S' := (fun W => W.cell? ⟨w4.heap.size, 0, none⟩ = some (.int .u8 (a.toNat : Int)) ∧ W.cell? ⟨w5.heap.size, 0, none⟩ = some (.int .u8 (b.toNat : Int)) ∧ True)) (fun _ h => ⟨h.1, trivial⟩) _ _ _ _ ?_
          have hT6 : (fun W => W.cell? ⟨w4.heap.size, 0, none⟩ = some (.int .u8 (a.toNat : Int)) ∧ W.cell? ⟨w5.heap.size, 0, none⟩ = some (.int .u8 (b.toNat : Int)) ∧ True) (World.alloc w5 (.cells #[.int .u8 (b.toNat : Int)] 5)) := ⟨hH6.1, by simp, trivial⟩
          have hB6 := hB5.alloc hB5.size (.cells #[.int .u8 (b.toNat : Int)] 5)
          generalize World.alloc w5 (.cells #[.int .u8 (b.toNat : Int)] 5) = w6 at hT6 hB6 ⊢
          clear hH6
          have hs6 := hB6.size
          refine wpAnyH_take (i := 17) (oi := ({ dst := some 42, op := Op.convert 32 9 (Operand.tmp 41), type := 9, pos := "law.go:81", after := #[{ on := 16, ground := Ground.data }, { on := 7, ground := Ground.guard }], guard := some (7, true) } : Oper)) (v := ?_) rfl (by kernel_rfl) (by kernel_rfl) (by kernel_rfl) (fun _ _ _ h => h) (Or.inl ⟨by rfl, ?_⟩) hT6 ?_
          rotate_left
          · intro w hSw; (try dsimp only at hSw); go_simp; (try with_reducible rfl)
          simp only [Act.put, List.setIfInBounds_toArray, List.set_cons_zero, List.set_cons_succ]
          refine wpAnyH_take (i := 18) (oi := ({ dst := some 43, op := Op.binOp BinOp.add 9 (Operand.tmp 39) (Operand.tmp 42) 9, type := 9, pos := "law.go:81", after := #[{ on := 14, ground := Ground.data }, { on := 17, ground := Ground.data }, { on := 7, ground := Ground.guard }], guard := some (7, true) } : Oper)) (v := ?_) rfl (by kernel_rfl) (by kernel_rfl) (by kernel_rfl) (fun _ _ _ h => h) (Or.inl ⟨by rfl, ?_⟩) hT6 ?_
          rotate_left
          · intro w hSw; (try dsimp only at hSw); go_simp; (try with_reducible rfl)
          simp only [Act.put, List.setIfInBounds_toArray, List.set_cons_zero, List.set_cons_succ]
          refine wpAnyH_ready (rs := [13]) (by kernel_rfl) (by simp) ?_
          refine AllReadyH.cons (o := ({ dst := some 38, op := Op.call { callee := Callee.value (Operand.func 16), args := #[Operand.tmp 37], argTypes := #[9] }, type := 9, pos := "law.go:81", after := #[{ on := 12, ground := Ground.data }, { on := 7, ground := Ground.chain }, { on := 7, ground := Ground.guard }], guard := some (7, true) } : Oper)) rfl (fun K hK => ?_) AllReadyH.nil
          go_simp
          refine (c2a.out _).mono ?_; rintro e w7 ⟨rfl, hb7⟩
          go_wp2_with fail
          refine hK.out _ _ ⟨hkeep hT6.1 (hb7), hkeep hT6.2.1 (hb7), trivial⟩ (fun hH7 => ?_)
          clear hK K
          (try simp only [Act.put, List.setIfInBounds_toArray, List.set_cons_zero, List.set_cons_succ])
          have hB7 := hnext hB6 hb7
          clear hb7
          refine wpAnyH_ready (rs := [19]) (by kernel_rfl) (by simp) ?_
          refine AllReadyH.cons (o := ({ dst := some 44, op := Op.call { callee := Callee.value (Operand.func 16), args := #[Operand.tmp 43], argTypes := #[9] }, type := 9, pos := "law.go:81", after := #[{ on := 18, ground := Ground.data }, { on := 13, ground := Ground.chain }, { on := 7, ground := Ground.guard }], guard := some (7, true) } : Oper)) rfl (fun K hK => ?_) AllReadyH.nil
          go_simp
          refine (c2b.out _).mono ?_; rintro e w8 ⟨rfl, hb8⟩
          go_wp2_with fail
          refine hK.out _ _ ⟨hkeep hH7.1 (hb8), hkeep hH7.2.1 (hb8), trivial⟩ (fun hH8 => ?_)
          clear hK K
          (try simp only [Act.put, List.setIfInBounds_toArray, List.set_cons_zero, List.set_cons_succ])
          have hB8 := hnext hB7 hb8
          clear hb8
          refine wpAnyH_take (i := 20) (oi := ({ dst := some 45, op := Op.binOp BinOp.eql 9 (Operand.tmp 38) (Operand.tmp 44) 9, type := 4, pos := "law.go:81", after := #[{ on := 13, ground := Ground.data }, { on := 19, ground := Ground.data }, { on := 7, ground := Ground.guard }], guard := some (7, true) } : Oper)) (v := ?_) rfl (by kernel_rfl) (by kernel_rfl) (by kernel_rfl) (fun _ _ _ h => h) (Or.inl ⟨by rfl, ?_⟩) hH8 ?_
          rotate_left
          · intro w hSw; (try dsimp only at hSw); go_simp; (try with_reducible rfl)
          simp only [Act.put, List.setIfInBounds_toArray, List.set_cons_zero, List.set_cons_succ]
          refine wpAnyH_take (i := 24) (oi := ({ dst := some 49, op := Op.binOp BinOp.eql 4 (Operand.tmp 45) (Operand.tmp 48) 4, type := 4, pos := "law.go:81", after := #[{ on := 20, ground := Ground.data }, { on := 23, ground := Ground.data }, { on := 7, ground := Ground.guard }], guard := some (7, true) } : Oper)) (v := ?_) rfl (by kernel_rfl) (by kernel_rfl) (by kernel_rfl) (fun _ _ _ h => h) (Or.inl ⟨by rfl, ?_⟩) hH8 ?_
          rotate_left
          · intro w hSw; (try dsimp only at hSw); go_simp; (try with_reducible rfl)
          simp only [Act.put, List.setIfInBounds_toArray, List.set_cons_zero, List.set_cons_succ]
          refine wpAnyH_take (i := 25) (oi := ({ dst := some 50, op := Op.pick (Operand.tmp 32) (Operand.tmp 49) (Operand.const (Value.bool false)), type := 4, pos := "law.go:81", after := #[{ on := 7, ground := Ground.data }, { on := 24, ground := Ground.data }], guard := none } : Oper)) (v := ?_) rfl (by kernel_rfl) (by kernel_rfl) (by kernel_rfl) (fun _ _ _ h => h) (Or.inl ⟨by rfl, ?_⟩) hH8 ?_
          rotate_left
          · intro w hSw; (try dsimp only at hSw); go_simp; (try with_reducible rfl)
          simp only [Act.put, List.setIfInBounds_toArray, List.set_cons_zero, List.set_cons_succ]
          refine wpAnyH_take (i := 26) (oi := ({ dst := some 51, op := Op.move (Operand.tmp 50), type := 4, pos := "law.go:81", after := #[{ on := 25, ground := Ground.data }, { on := 19, ground := Ground.chain }], guard := none } : Oper)) (v := ?_) rfl (by kernel_rfl) (by kernel_rfl) (by kernel_rfl) (fun _ _ _ h => h) (Or.inl ⟨by rfl, ?_⟩) hH8 ?_
          rotate_left
          · intro w hSw; (try dsimp only at hSw); go_simp; (try with_reducible rfl)
          simp only [Act.put, List.setIfInBounds_toArray, List.set_cons_zero, List.set_cons_succ]
          refine wpAnyH_ready (rs := [27]) (by kernel_rfl) (by simp) ?_
          refine AllReadyH.cons (o := ({ dst := some 52, op := Op.call { callee := Callee.value (Operand.func 9), args := #[], argTypes := #[] }, type := 4, pos := "law.go:81", after := #[{ on := 26, ground := Ground.chain }, { on := 26, ground := Ground.guard }], guard := some (26, true) } : Oper)) rfl (fun K hK => ?_) AllReadyH.nil
          go_simp
          refine (known_any _).mono ?_; rintro e w9 ⟨rfl, hb9⟩
          go_wp2_with fail
          refine hK.out _ _ ⟨hkeep hH8.1 (hb9), hkeep hH8.2.1 (hb9), trivial⟩ (fun hH9 => ?_)
          clear hK K
          (try simp only [Act.put, List.setIfInBounds_toArray, List.set_cons_zero, List.set_cons_succ])
          have hB9 := hnext hB8 hb9
          clear hb9
          refine wpAnyH_take (i := 28) (oi := ({ dst := some 53, op := Op.pick (Operand.tmp 51) (Operand.tmp 52) (Operand.const (Value.bool false)), type := 4, pos := "law.go:81", after := #[{ on := 26, ground := Ground.data }, { on := 27, ground := Ground.data }], guard := none } : Oper)) (v := ?_) rfl (by kernel_rfl) (by kernel_rfl) (by kernel_rfl) (fun _ _ _ h => h) (Or.inl ⟨by rfl, ?_⟩) hH9 ?_
          rotate_left
          · intro w hSw; (try dsimp only at hSw); go_simp; (try with_reducible rfl)
          simp only [Act.put, List.setIfInBounds_toArray, List.set_cons_zero, List.set_cons_succ]
          refine wpAnyH_take (i := 29) (oi := ({ dst := some 6, op := Op.assign (Operand.tmp 53), type := 4, pos := "law.go:81", after := #[{ on := 28, ground := Ground.data }, { on := 27, ground := Ground.chain }, { on := 0, ground := Ground.phase }, { on := 1, ground := Ground.phase }, { on := 2, ground := Ground.phase }, { on := 3, ground := Ground.phase }, { on := 4, ground := Ground.phase }, { on := 5, ground := Ground.phase }, { on := 6, ground := Ground.phase }, { on := 7, ground := Ground.phase }, { on := 8, ground := Ground.phase }, { on := 9, ground := Ground.phase }, { on := 10, ground := Ground.phase }, { on := 11, ground := Ground.phase }, { on := 12, ground := Ground.phase }, { on := 13, ground := Ground.phase }, { on := 14, ground := Ground.phase }, { on := 15, ground := Ground.phase }, { on := 16, ground := Ground.phase }, { on := 17, ground := Ground.phase }, { on := 18, ground := Ground.phase }, { on := 19, ground := Ground.phase }, { on := 20, ground := Ground.phase }, { on := 21, ground := Ground.phase }, { on := 22, ground := Ground.phase }, { on := 23, ground := Ground.phase }, { on := 24, ground := Ground.phase }, { on := 25, ground := Ground.phase }, { on := 26, ground := Ground.phase }, { on := 27, ground := Ground.phase }, { on := 28, ground := Ground.phase }], guard := none } : Oper)) (v := ?_) rfl (by kernel_rfl) (by kernel_rfl) (by kernel_rfl) (fun _ _ _ h => h) (Or.inl ⟨by rfl, ?_⟩) hH9 ?_
          rotate_left
          · intro w hSw; (try dsimp only at hSw); go_simp; (try with_reducible rfl)
          simp only [Act.put, List.setIfInBounds_toArray, List.set_cons_zero, List.set_cons_succ]
          refine wpAnyH_done (by kernel_rfl) ?_ _
          go_wp2_with fail
          go_ret
          exact ⟨rfl, hB9⟩
      · go_simp
        refine hK.out _ _ trivial (fun hH5 => ?_)
        clear hK K
        (try simp only [Act.put, List.setIfInBounds_toArray, List.set_cons_zero, List.set_cons_succ])
        refine wpAnyH_more (S' := (fun W => W.cell? ⟨w4.heap.size, 0, none⟩ = some (.int .u8 (b.toNat : Int)) ∧ True)) (fun _ h => trivial) _ _ _ _ ?_
        have hT5 : (fun W => W.cell? ⟨w4.heap.size, 0, none⟩ = some (.int .u8 (b.toNat : Int)) ∧ True) (World.alloc w4 (.cells #[.int .u8 (b.toNat : Int)] 5)) := ⟨by simp, trivial⟩
        have hB5 := hB4.alloc hB4.size (.cells #[.int .u8 (b.toNat : Int)] 5)
        generalize World.alloc w4 (.cells #[.int .u8 (b.toNat : Int)] 5) = w5 at hT5 hB5 ⊢
        clear hH5
        have hs5 := hB5.size
        refine wpAnyH_take (i := 17) (oi := ({ dst := some 42, op := Op.convert 32 9 (Operand.tmp 41), type := 9, pos := "law.go:81", after := #[{ on := 16, ground := Ground.data }, { on := 7, ground := Ground.guard }], guard := some (7, true) } : Oper)) (v := ?_) rfl (by kernel_rfl) (by kernel_rfl) (by kernel_rfl) (fun _ _ _ h => h) (Or.inl ⟨by rfl, ?_⟩) hT5 ?_
        rotate_left
        · intro w hSw; (try dsimp only at hSw); go_simp; (try with_reducible rfl)
        simp only [Act.put, List.setIfInBounds_toArray, List.set_cons_zero, List.set_cons_succ]
        refine wpAnyH_take (i := 18) (oi := ({ dst := some 43, op := Op.binOp BinOp.add 9 (Operand.tmp 39) (Operand.tmp 42) 9, type := 9, pos := "law.go:81", after := #[{ on := 14, ground := Ground.data }, { on := 17, ground := Ground.data }, { on := 7, ground := Ground.guard }], guard := some (7, true) } : Oper)) (v := ?_) rfl (by kernel_rfl) (by kernel_rfl) (by kernel_rfl) (fun _ _ _ h => h) (Or.inl ⟨by rfl, ?_⟩) hT5 ?_
        rotate_left
        · intro w hSw; (try dsimp only at hSw); go_simp; (try with_reducible rfl)
        simp only [Act.put, List.setIfInBounds_toArray, List.set_cons_zero, List.set_cons_succ]
        refine wpAnyH_ready (rs := [10]) (by kernel_rfl) (by simp) ?_
        refine AllReadyH.cons (o := ({ dst := some 35, op := Op.buildSlice 32 1 #[(0, Operand.tmp 34)], type := 32, pos := "law.go:81", after := #[{ on := 9, ground := Ground.data }, { on := 7, ground := Ground.guard }], guard := some (7, true) } : Oper)) rfl (fun K hK => ?_) AllReadyH.nil
        go_simp
        refine hK.out _ _ ⟨hkeep hT5.1 (hba w5 (.cells #[.int .u8 (a.toNat : Int)] 5)), trivial⟩ (fun hH6 => ?_)
        clear hK K
        (try simp only [Act.put, List.setIfInBounds_toArray, List.set_cons_zero, List.set_cons_succ])
        refine wpAnyH_more (S' := (fun W => W.cell? ⟨w4.heap.size, 0, none⟩ = some (.int .u8 (b.toNat : Int)) ∧ W.cell? ⟨w5.heap.size, 0, none⟩ = some (.int .u8 (a.toNat : Int)) ∧ True)) (fun _ h => ⟨h.1, trivial⟩) _ _ _ _ ?_
        have hT6 : (fun W => W.cell? ⟨w4.heap.size, 0, none⟩ = some (.int .u8 (b.toNat : Int)) ∧ W.cell? ⟨w5.heap.size, 0, none⟩ = some (.int .u8 (a.toNat : Int)) ∧ True) (World.alloc w5 (.cells #[.int .u8 (a.toNat : Int)] 5)) := ⟨hH6.1, by simp, trivial⟩
        have hB6 := hB5.alloc hB5.size (.cells #[.int .u8 (a.toNat : Int)] 5)
        generalize World.alloc w5 (.cells #[.int .u8 (a.toNat : Int)] 5) = w6 at hT6 hB6 ⊢
        clear hH6
        have hs6 := hB6.size
        refine wpAnyH_take (i := 11) (oi := ({ dst := some 36, op := Op.convert 32 9 (Operand.tmp 35), type := 9, pos := "law.go:81", after := #[{ on := 10, ground := Ground.data }, { on := 7, ground := Ground.guard }], guard := some (7, true) } : Oper)) (v := ?_) rfl (by kernel_rfl) (by kernel_rfl) (by kernel_rfl) (fun _ _ _ h => h) (Or.inl ⟨by rfl, ?_⟩) hT6 ?_
        rotate_left
        · intro w hSw; (try dsimp only at hSw); go_simp; (try with_reducible rfl)
        simp only [Act.put, List.setIfInBounds_toArray, List.set_cons_zero, List.set_cons_succ]
        refine wpAnyH_take (i := 12) (oi := ({ dst := some 37, op := Op.binOp BinOp.add 9 (Operand.tmp 33) (Operand.tmp 36) 9, type := 9, pos := "law.go:81", after := #[{ on := 8, ground := Ground.data }, { on := 11, ground := Ground.data }, { on := 7, ground := Ground.guard }], guard := some (7, true) } : Oper)) (v := ?_) rfl (by kernel_rfl) (by kernel_rfl) (by kernel_rfl) (fun _ _ _ h => h) (Or.inl ⟨by rfl, ?_⟩) hT6 ?_
        rotate_left
        · intro w hSw; (try dsimp only at hSw); go_simp; (try with_reducible rfl)
        simp only [Act.put, List.setIfInBounds_toArray, List.set_cons_zero, List.set_cons_succ]
        refine wpAnyH_ready (rs := [13]) (by kernel_rfl) (by simp) ?_
        refine AllReadyH.cons (o := ({ dst := some 38, op := Op.call { callee := Callee.value (Operand.func 16), args := #[Operand.tmp 37], argTypes := #[9] }, type := 9, pos := "law.go:81", after := #[{ on := 12, ground := Ground.data }, { on := 7, ground := Ground.chain }, { on := 7, ground := Ground.guard }], guard := some (7, true) } : Oper)) rfl (fun K hK => ?_) AllReadyH.nil
        go_simp
        refine (c2a.out _).mono ?_; rintro e w7 ⟨rfl, hb7⟩
        go_wp2_with fail
        refine hK.out _ _ ⟨hkeep hT6.1 (hb7), hkeep hT6.2.1 (hb7), trivial⟩ (fun hH7 => ?_)
        clear hK K
        (try simp only [Act.put, List.setIfInBounds_toArray, List.set_cons_zero, List.set_cons_succ])
        have hB7 := hnext hB6 hb7
        clear hb7
        refine wpAnyH_ready (rs := [19]) (by kernel_rfl) (by simp) ?_
        refine AllReadyH.cons (o := ({ dst := some 44, op := Op.call { callee := Callee.value (Operand.func 16), args := #[Operand.tmp 43], argTypes := #[9] }, type := 9, pos := "law.go:81", after := #[{ on := 18, ground := Ground.data }, { on := 13, ground := Ground.chain }, { on := 7, ground := Ground.guard }], guard := some (7, true) } : Oper)) rfl (fun K hK => ?_) AllReadyH.nil
        go_simp
        refine (c2b.out _).mono ?_; rintro e w8 ⟨rfl, hb8⟩
        go_wp2_with fail
        refine hK.out _ _ ⟨hkeep hH7.1 (hb8), hkeep hH7.2.1 (hb8), trivial⟩ (fun hH8 => ?_)
        clear hK K
        (try simp only [Act.put, List.setIfInBounds_toArray, List.set_cons_zero, List.set_cons_succ])
        have hB8 := hnext hB7 hb8
        clear hb8
        refine wpAnyH_take (i := 20) (oi := ({ dst := some 45, op := Op.binOp BinOp.eql 9 (Operand.tmp 38) (Operand.tmp 44) 9, type := 4, pos := "law.go:81", after := #[{ on := 13, ground := Ground.data }, { on := 19, ground := Ground.data }, { on := 7, ground := Ground.guard }], guard := some (7, true) } : Oper)) (v := ?_) rfl (by kernel_rfl) (by kernel_rfl) (by kernel_rfl) (fun _ _ _ h => h) (Or.inl ⟨by rfl, ?_⟩) hH8 ?_
        rotate_left
        · intro w hSw; (try dsimp only at hSw); go_simp; (try with_reducible rfl)
        simp only [Act.put, List.setIfInBounds_toArray, List.set_cons_zero, List.set_cons_succ]
        refine wpAnyH_take (i := 24) (oi := ({ dst := some 49, op := Op.binOp BinOp.eql 4 (Operand.tmp 45) (Operand.tmp 48) 4, type := 4, pos := "law.go:81", after := #[{ on := 20, ground := Ground.data }, { on := 23, ground := Ground.data }, { on := 7, ground := Ground.guard }], guard := some (7, true) } : Oper)) (v := ?_) rfl (by kernel_rfl) (by kernel_rfl) (by kernel_rfl) (fun _ _ _ h => h) (Or.inl ⟨by rfl, ?_⟩) hH8 ?_
        rotate_left
        · intro w hSw; (try dsimp only at hSw); go_simp; (try with_reducible rfl)
        simp only [Act.put, List.setIfInBounds_toArray, List.set_cons_zero, List.set_cons_succ]
        refine wpAnyH_take (i := 25) (oi := ({ dst := some 50, op := Op.pick (Operand.tmp 32) (Operand.tmp 49) (Operand.const (Value.bool false)), type := 4, pos := "law.go:81", after := #[{ on := 7, ground := Ground.data }, { on := 24, ground := Ground.data }], guard := none } : Oper)) (v := ?_) rfl (by kernel_rfl) (by kernel_rfl) (by kernel_rfl) (fun _ _ _ h => h) (Or.inl ⟨by rfl, ?_⟩) hH8 ?_
        rotate_left
        · intro w hSw; (try dsimp only at hSw); go_simp; (try with_reducible rfl)
        simp only [Act.put, List.setIfInBounds_toArray, List.set_cons_zero, List.set_cons_succ]
        refine wpAnyH_take (i := 26) (oi := ({ dst := some 51, op := Op.move (Operand.tmp 50), type := 4, pos := "law.go:81", after := #[{ on := 25, ground := Ground.data }, { on := 19, ground := Ground.chain }], guard := none } : Oper)) (v := ?_) rfl (by kernel_rfl) (by kernel_rfl) (by kernel_rfl) (fun _ _ _ h => h) (Or.inl ⟨by rfl, ?_⟩) hH8 ?_
        rotate_left
        · intro w hSw; (try dsimp only at hSw); go_simp; (try with_reducible rfl)
        simp only [Act.put, List.setIfInBounds_toArray, List.set_cons_zero, List.set_cons_succ]
        refine wpAnyH_ready (rs := [27]) (by kernel_rfl) (by simp) ?_
        refine AllReadyH.cons (o := ({ dst := some 52, op := Op.call { callee := Callee.value (Operand.func 9), args := #[], argTypes := #[] }, type := 4, pos := "law.go:81", after := #[{ on := 26, ground := Ground.chain }, { on := 26, ground := Ground.guard }], guard := some (26, true) } : Oper)) rfl (fun K hK => ?_) AllReadyH.nil
        go_simp
        refine (known_any _).mono ?_; rintro e w9 ⟨rfl, hb9⟩
        go_wp2_with fail
        refine hK.out _ _ ⟨hkeep hH8.1 (hb9), hkeep hH8.2.1 (hb9), trivial⟩ (fun hH9 => ?_)
        clear hK K
        (try simp only [Act.put, List.setIfInBounds_toArray, List.set_cons_zero, List.set_cons_succ])
        have hB9 := hnext hB8 hb9
        clear hb9
        refine wpAnyH_take (i := 28) (oi := ({ dst := some 53, op := Op.pick (Operand.tmp 51) (Operand.tmp 52) (Operand.const (Value.bool false)), type := 4, pos := "law.go:81", after := #[{ on := 26, ground := Ground.data }, { on := 27, ground := Ground.data }], guard := none } : Oper)) (v := ?_) rfl (by kernel_rfl) (by kernel_rfl) (by kernel_rfl) (fun _ _ _ h => h) (Or.inl ⟨by rfl, ?_⟩) hH9 ?_
        rotate_left
        · intro w hSw; (try dsimp only at hSw); go_simp; (try with_reducible rfl)
        simp only [Act.put, List.setIfInBounds_toArray, List.set_cons_zero, List.set_cons_succ]
        refine wpAnyH_take (i := 29) (oi := ({ dst := some 6, op := Op.assign (Operand.tmp 53), type := 4, pos := "law.go:81", after := #[{ on := 28, ground := Ground.data }, { on := 27, ground := Ground.chain }, { on := 0, ground := Ground.phase }, { on := 1, ground := Ground.phase }, { on := 2, ground := Ground.phase }, { on := 3, ground := Ground.phase }, { on := 4, ground := Ground.phase }, { on := 5, ground := Ground.phase }, { on := 6, ground := Ground.phase }, { on := 7, ground := Ground.phase }, { on := 8, ground := Ground.phase }, { on := 9, ground := Ground.phase }, { on := 10, ground := Ground.phase }, { on := 11, ground := Ground.phase }, { on := 12, ground := Ground.phase }, { on := 13, ground := Ground.phase }, { on := 14, ground := Ground.phase }, { on := 15, ground := Ground.phase }, { on := 16, ground := Ground.phase }, { on := 17, ground := Ground.phase }, { on := 18, ground := Ground.phase }, { on := 19, ground := Ground.phase }, { on := 20, ground := Ground.phase }, { on := 21, ground := Ground.phase }, { on := 22, ground := Ground.phase }, { on := 23, ground := Ground.phase }, { on := 24, ground := Ground.phase }, { on := 25, ground := Ground.phase }, { on := 26, ground := Ground.phase }, { on := 27, ground := Ground.phase }, { on := 28, ground := Ground.phase }], guard := none } : Oper)) (v := ?_) rfl (by kernel_rfl) (by kernel_rfl) (by kernel_rfl) (fun _ _ _ h => h) (Or.inl ⟨by rfl, ?_⟩) hH9 ?_
        rotate_left
        · intro w hSw; (try dsimp only at hSw); go_simp; (try with_reducible rfl)
        simp only [Act.put, List.setIfInBounds_toArray, List.set_cons_zero, List.set_cons_succ]
        refine wpAnyH_done (by kernel_rfl) ?_ _
        go_wp2_with fail
        go_ret
        exact ⟨rfl, hB9⟩
  · have hs2 : (1000 : Int) < s.size := by omega
    go_enter Try.func8, Try.ntmps8
    go_wp2_with fail
    refine (known_any _).mono ?_; rintro e w9 ⟨rfl, hb9⟩
    go_wp2
    go_ret
    exact ⟨rfl, hb9⟩
end Go.Proofs.Ytfockiaommiohaa
