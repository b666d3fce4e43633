/-
  The bytes of changes and of transactions: the contracts of number, change, Body, of the program and of the reference. Conditions: the sizes that the statements hold.
-/
import Derived.Test.YtmmegicaeaifaaaFv
namespace Go.Proofs.Ytmmegicaeaifaaa
open Go.RowKit Fr

namespace Fr
theorem row_len16 {l : List Cd.V} (h : l.length ≤ 16) : (bstr (Cd.row l)).size ≤ 80010 := by
  have := row_length l
  have h2 : l.length * 5000 ≤ 16 * 5000 := Nat.mul_le_mul_right _ h
  rw [bstr_size]; omega
theorem text_len {s : ByteArray} {n : Nat} (h : s.size ≤ n) : (bstr (Cd.text s)).size ≤ 10 + n := by
  have := text_length s
  rw [bstr_size]; omega
theorem enc_len (n : Nat) : (bstr (Cd.enc n)).size ≤ 10 := (Cd.enc_length n).2
theorem chL_len {c : Ch} (h : chB c = true) : (bstr (chL c)).size ≤ 80082 := by
  obtain ⟨h1, h2, h3, h4, h5, h6, h7, h8⟩ := ch_nums h
  unfold chL
  split
  · rw [← bstr_append, ByteArray.size_append]
    have a := enc_len c.op.toNat
    have b := text_len (s := bstr (Sc.encode c.df)) (n := 1100) (by rw [bstr_size]; exact encode_len c.df)
    omega
  · simp only [← bstr_append, ByteArray.size_append]
    have a := enc_len c.op.toNat
    have b := text_len h7
    have d := row_len16 h8
    have e := enc_len c.fr.toNat
    have f := enc_len c.to.toNat
    omega
theorem chL_tab {c : Ch} (h : c.op = 3) : chL c = Cd.enc 3 ++ Cd.text (bstr (Sc.encode c.df)) := by unfold chL; rw [if_pos h, h]; rfl
theorem chL_put {c : Ch} (h : c.op ≠ 3) : chL c = Cd.enc c.op.toNat ++ Cd.text c.table ++ Cd.row c.row ++ Cd.enc c.fr.toNat ++ Cd.enc c.to.toNat := by unfold chL; rw [if_neg h]
theorem ch_snoc {t : Tx} {k : Nat} (hk : k < t.cs.length) : headL t ++ (t.cs.take (k + 1)).flatMap chL = (headL t ++ (t.cs.take k).flatMap chL) ++ chL t.cs[k] := by
  rw [List.take_succ_eq_append_getElem hk, List.flatMap_append, List.append_assoc]
  simp
theorem body_no {t : Tx} (h : txB t = false) : body t = [] := by unfold body; rw [h]; rfl
theorem body_yes {t : Tx} (h : txB t = true) : body t = if 100000 < (bodyL t).length then [] else bodyL t := by unfold body; rw [h]; rfl
end Fr
theorem ret_str' {a b : ByteArray} (h : a = b) : Ending.returned (.string a) = Ending.returned (.string b) := by rw [h]
set_option maxRecDepth 100000 in
set_option maxHeartbeats 12800000 in
theorem fnumber_any (n : Int) (h0 : 0 ≤ n) (h1 : n ≤ 9223372036854775807) (w : World) : Calls Try.prog 38 #[.int .i64 n] w fun e w' => e = .returned (.string (bstr (Cd.enc n.toNat))) ∧ Below w.heap.size w w' := by
  obtain ⟨m, rfl⟩ : ∃ m : Nat, n = (m : Int) := ⟨n.toNat, by omega⟩
  have c := hid (fun W => uint_any m (by omega) W)
  have hw : IntKind.u64.wrap (m : Int) = (m : Int) := by rw [IntKind.wrap_u64]; omega
  rw [Int.toNat_natCast]
  clear h0 h1
  go_enter Try.func38, Try.ntmps38
  go_wp2_with fail
  refine (c.out _).mono ?_; rintro e w1 ⟨rfl, b1⟩
  go_wp2_with fail
  go_ret
  exact ⟨rfl, b1⟩
theorem uintR_int (n : Int) (h0 : 0 ≤ n) (h1 : n ≤ 9223372036854775807) (w : World) : Calls Try.prog 40 #[.int .u64 n] w fun e w' => e = .returned (.string (bstr (Cd.enc n.toNat))) ∧ Below w.heap.size w w' := by
  obtain ⟨m, rfl⟩ : ∃ m : Nat, n = (m : Int) := ⟨n.toNat, by omega⟩
  exact uintR_exact m (by omega) w
theorem wrap_u64_pos {n : Int} (h0 : 0 ≤ n) (h1 : n ≤ 9223372036854775807) : IntKind.u64.wrap n = n := by rw [IntKind.wrap_u64]; omega
set_option maxRecDepth 100000 in
set_option maxHeartbeats 12800000 in
theorem fbytes_any (c : Ch) (vr vc : Value) (w : World) (h1 : VsAt w vr c.row) (h2 : CsAt w vc c.df.cols) (hk : Chk c) (hb : chB c = true) : Calls Try.prog 39 #[cvv c vr vc] w fun e w' => e = .returned (.string (bstr (chL c))) ∧ Below w.heap.size w w' := by
  have hbx := hba w (.cells #[.int .i64 c.op, .string c.table, vr, .int .i64 c.fr, .int .i64 c.to, .string c.df.name, vc, .int .i64 c.df.keys] 32)
  have VR := hid (h1.below hbx)
  have VC := hid (h2.below hbx)
  have LB := hid hbx
  have BX := hid (BH.new w c vr vc)
  obtain ⟨n1, n2, n3, n4, n5, n6, n7, n8⟩ := ch_nums hb
  have CN1 := hid (fun W => fnumber_any c.op (by omega) (by omega) W)
  have CN2 := hid (fun W => fnumber_any c.fr (by omega) (by omega) W)
  have CN3 := hid (fun W => fnumber_any c.to (by omega) (by omega) W)
  have ce := fun W (h : CsAt W vc c.df.cols) => encode_any c.df vc W h hk.2.2.2.2.2
  have CT1 := hid (fun W => text_any (bstr (Sc.encode c.df)) (by have := encode_len c.df; rw [bstr_size]; omega) W)
  have CT2 := hid (fun W => text_any c.table (by omega) W)
  have CR := hid (fun W (h : VsAt W vr c.row) => row_any vr c.row W h hk.2.2.2.2.1 (by omega))
  have hA := enc_len c.op.toNat
  have hB := enc_len c.fr.toNat
  have hC := enc_len c.to.toNat
  have hT1 := text_len (s := bstr (Sc.encode c.df)) (n := 1100) (by rw [bstr_size]; exact encode_len c.df)
  have hT2 := text_len n7
  have hR := row_len16 n8
  have HL1 := hid (fun h => chL_tab (c := c) h)
  have HL2 := hid (fun h => chL_put (c := c) h)
  obtain ⟨radr, rcap, rfl⟩ := vs_slc h1
  obtain ⟨cadr, ccap, rfl⟩ := h2.slc
  clear h1 h2 hbx hk hb n1 n2 n3 n4 n5 n6 n7 n8
  obtain ⟨op, tb, row, fr, to, ⟨nm, cols, ky⟩⟩ := c
  unfold cvv
  unfold sv at ce
  have CE := hid ce
  clear ce
  simp only at *
  by_cases h3 : op = 3
  · subst h3
    have HQ : Hid (bstr (Cd.enc 3) ++ bstr (Cd.text (bstr (Sc.encode ⟨nm, cols, ky⟩))) = bstr (chL ⟨3, tb, row, fr, to, ⟨nm, cols, ky⟩⟩)) := by
      show _ = _
      rw [HL1.out rfl, bstr_append]
    change (bstr (Cd.enc 3)).size ≤ 10 at hA
    replace CN1 : Hid (∀ W, Calls Try.prog 38 #[.int .i64 3] W fun e w' => e = .returned (.string (bstr (Cd.enc 3))) ∧ Below W.heap.size W w') := CN1
    clear HL1 HL2 CN2 CN3 CT2 CR hB hC hT2 hR
    generalize bstr (Cd.text (bstr (Sc.encode ⟨nm, cols, ky⟩))) = T at CT1 hT1 HQ
    generalize bstr (Sc.encode ⟨nm, cols, ky⟩) = E at CT1 CE
    generalize bstr (Cd.enc 3) = A at CN1 hA HQ
    have hx1 : ¬ 9223372036854775807 < A.size + T.size := by omega
    clear hA hT1
    go_enter Try.func39, Try.ntmps39
    go_wp2_with fail
    obtain ⟨w20, hw20⟩ : ∃ w20, (w.alloc (.cells #[.int .i64 3, .string tb, .slice radr row.length rcap, .int .i64 fr, .int .i64 to, .string nm, .slice cadr cols.length ccap, .int .i64 ky] 32)).drew = w20 := ⟨_, rfl⟩
    have hd20 : Below (w.alloc (.cells #[.int .i64 3, .string tb, .slice radr row.length rcap, .int .i64 fr, .int .i64 to, .string nm, .slice cadr cols.length ccap, .int .i64 ky] 32)).heap.size (w.alloc (.cells #[.int .i64 3, .string tb, .slice radr row.length rcap, .int .i64 fr, .int .i64 to, .string nm, .slice cadr cols.length ccap, .int .i64 ky] 32)) w20 := hw20 ▸ (Below.refl _ _).drew
    have LB20 := hid (hnext LB.out hd20)
    have VR20 := hid (VR.out.below hd20)
    have VC20 := hid (VC.out.below hd20)
    obtain ⟨x0, x1, x2, x3, x4, x5, x6, x7, f0, f1, f2, f3, f4, f5, f6, f7, xl⟩ := (BX.out.keep hd20).cells
    simp only at x0 x1 x2 x3 x4 x5 x6 x7
    clear f0 f1 f2 f3 f4 f5 f6 f7 xl
    have mk20 : ∀ W, Below w20.heap.size w20 W → Below w20.heap.size w20 W ∧ W.cell? ⟨w.heap.size, 0, none⟩ = some (.int .i64 3) ∧ W.cell? ⟨w.heap.size, 1, none⟩ = some (.string tb) ∧ W.cell? ⟨w.heap.size, 2, none⟩ = some (.slice radr row.length rcap) ∧ W.cell? ⟨w.heap.size, 3, none⟩ = some (.int .i64 fr) ∧ W.cell? ⟨w.heap.size, 4, none⟩ = some (.int .i64 to) ∧ W.cell? ⟨w.heap.size, 5, none⟩ = some (.string nm) ∧ W.cell? ⟨w.heap.size, 6, none⟩ = some (.slice cadr cols.length ccap) ∧ W.cell? ⟨w.heap.size, 7, none⟩ = some (.int .i64 ky) := fun W h => ⟨h, hkeep x0 h, hkeep x1 h, hkeep x2 h, hkeep x3 h, hkeep x4 h, hkeep x5 h, hkeep x6 h, hkeep x7 h⟩
    clear x0 x1 x2 x3 x4 x5 x6 x7
    refine wp_region_held_drew (S := (fun W => Below w20.heap.size w20 W ∧ W.cell? ⟨w.heap.size, 0, none⟩ = some (.int .i64 3) ∧ W.cell? ⟨w.heap.size, 1, none⟩ = some (.string tb) ∧ W.cell? ⟨w.heap.size, 2, none⟩ = some (.slice radr row.length rcap) ∧ W.cell? ⟨w.heap.size, 3, none⟩ = some (.int .i64 fr) ∧ W.cell? ⟨w.heap.size, 4, none⟩ = some (.int .i64 to) ∧ W.cell? ⟨w.heap.size, 5, none⟩ = some (.string nm) ∧ W.cell? ⟨w.heap.size, 6, none⟩ = some (.slice cadr cols.length ccap) ∧ W.cell? ⟨w.heap.size, 7, none⟩ = some (.int .i64 ky))) (by kernel_rfl) (by rw [hw20]; exact mk20 _ (Below.refl _ _)) (fun hS20 => ?_)
    rw [hw20] at hS20 ⊢
    clear hw20
    refine wpAnyH_take (i := 0) (oi := ({ dst := some 6, op := Op.fieldAddr 32 (Operand.tmp 1) 0, type := 0, pos := "frame.go:65", after := #[], guard := none } : Oper)) (v := ?_) rfl (by kernel_rfl) (by kernel_rfl) (by kernel_rfl) (fun _ _ _ h => h) (Or.inl ⟨by rfl, ?_⟩) hS20 ?_
    rotate_left
    · intro w hSw; (try dsimp only at hSw); go_simp; (try with_reducible rfl)
    simp only [Act.put, List.setIfInBounds_toArray, List.set_cons_zero, List.set_cons_succ]
    refine wpAnyH_take (i := 1) (oi := ({ dst := some 7, op := Op.load 3 (Operand.tmp 6), type := 3, pos := "frame.go:65", after := #[{ on := 0, ground := Ground.data }], guard := none } : Oper)) (v := ?_) rfl (by kernel_rfl) (by kernel_rfl) (by kernel_rfl) (fun _ _ _ h => h) (Or.inl ⟨by rfl, ?_⟩) hS20 ?_
    rotate_left
    · intro w hSw; (try dsimp only at hSw); go_simp; (try with_reducible rfl)
    simp only [Act.put, List.setIfInBounds_toArray, List.set_cons_zero, List.set_cons_succ]
    refine wpAnyH_take (i := 3) (oi := ({ dst := some 9, op := Op.fieldAddr 32 (Operand.tmp 1) 4, type := 0, pos := "frame.go:65", after := #[], guard := none } : Oper)) (v := ?_) rfl (by kernel_rfl) (by kernel_rfl) (by kernel_rfl) (fun _ _ _ h => h) (Or.inl ⟨by rfl, ?_⟩) hS20 ?_
    rotate_left
    · intro w hSw; (try dsimp only at hSw); go_simp; (try with_reducible rfl)
    simp only [Act.put, List.setIfInBounds_toArray, List.set_cons_zero, List.set_cons_succ]
    refine wpAnyH_take (i := 4) (oi := ({ dst := some 10, op := Op.load 30 (Operand.tmp 9), type := 30, pos := "frame.go:65", after := #[{ on := 3, ground := Ground.data }], guard := none } : Oper)) (v := ?_) rfl (by kernel_rfl) (by kernel_rfl) (by kernel_rfl) (fun _ _ _ h => h) (Or.inl ⟨by rfl, ?_⟩) hS20 ?_
    rotate_left
    · intro w hSw; (try dsimp only at hSw); go_simp; (try with_reducible rfl)
    simp only [Act.put, List.setIfInBounds_toArray, List.set_cons_zero, List.set_cons_succ]
    refine wpAnyH_ready (rs := [2]) (by kernel_rfl) (by simp) ?_
    refine AllReadyH.cons (o := ({ dst := some 8, op := Op.call { callee := Callee.value (Operand.func 38), args := #[Operand.tmp 7], argTypes := #[3] }, type := 9, pos := "frame.go:65", after := #[{ on := 1, ground := Ground.data }], guard := none } : Oper)) rfl (fun K hK => ?_) AllReadyH.nil
    go_simp
    refine (CN1.out _).mono ?_; rintro e w21 ⟨rfl, hb21⟩
    go_wp2_with fail
    refine hK.out _ _ (mk20 _ (hnext hS20.1 hb21)) (fun hS21 => ?_)
    clear hK K
    (try simp only [Act.put, List.setIfInBounds_toArray, List.set_cons_zero, List.set_cons_succ])
    clear hb21 hS20
    refine wpAnyH_ready (rs := [5]) (by kernel_rfl) (by simp) ?_
    refine AllReadyH.cons (o := ({ dst := some 11, op := Op.call { callee := Callee.value (Operand.func 62), args := #[Operand.tmp 10], argTypes := #[30] }, type := 9, pos := "frame.go:65", after := #[{ on := 4, ground := Ground.data }, { on := 2, ground := Ground.chain }], guard := none } : Oper)) rfl (fun K hK => ?_) AllReadyH.nil
    go_simp
    refine (CE.out _ (VC20.out.below hS21.1)).mono ?_; rintro e w22 ⟨rfl, hb22⟩
    go_wp2_with fail
    refine hK.out _ _ (mk20 _ (hnext hS21.1 hb22)) (fun hS22 => ?_)
    clear hK K
    (try simp only [Act.put, List.setIfInBounds_toArray, List.set_cons_zero, List.set_cons_succ])
    clear hb22 hS21
    refine wpAnyH_ready (rs := [6]) (by kernel_rfl) (by simp) ?_
    refine AllReadyH.cons (o := ({ dst := some 12, op := Op.call { callee := Callee.value (Operand.func 61), args := #[Operand.tmp 11], argTypes := #[9] }, type := 9, pos := "frame.go:65", after := #[{ on := 5, ground := Ground.data }, { on := 5, ground := Ground.chain }], guard := none } : Oper)) rfl (fun K hK => ?_) AllReadyH.nil
    go_simp
    refine (CT1.out _).mono ?_; rintro e w23 ⟨rfl, hb23⟩
    go_wp2_with fail
    refine hK.out _ _ (mk20 _ (hnext hS22.1 hb23)) (fun hS23 => ?_)
    clear hK K
    (try simp only [Act.put, List.setIfInBounds_toArray, List.set_cons_zero, List.set_cons_succ])
    clear hb23 hS22
    refine wpAnyH_take (i := 7) (oi := ({ dst := some 13, op := Op.binOp BinOp.add 9 (Operand.tmp 8) (Operand.tmp 12) 9, type := 9, pos := "frame.go:65", after := #[{ on := 2, ground := Ground.data }, { on := 6, ground := Ground.data }], guard := none } : Oper)) (v := ?_) rfl (by kernel_rfl) (by kernel_rfl) (by kernel_rfl) (fun _ _ _ h => h) (Or.inl ⟨by rfl, ?_⟩) hS23 ?_
    rotate_left
    · intro w hSw; (try dsimp only at hSw); go_simp; (try with_reducible rfl)
    simp only [Act.put, List.setIfInBounds_toArray, List.set_cons_zero, List.set_cons_succ]
    refine wpAnyH_take (i := 8) (oi := ({ dst := some 2, op := Op.assign (Operand.tmp 13), type := 9, pos := "frame.go:65", after := #[{ on := 7, ground := Ground.data }, { on := 6, ground := Ground.chain }, { on := 0, ground := Ground.phase }, { on := 1, ground := Ground.phase }, { on := 2, ground := Ground.phase }, { on := 3, ground := Ground.phase }, { on := 4, ground := Ground.phase }, { on := 5, ground := Ground.phase }, { on := 6, ground := Ground.phase }, { on := 7, ground := Ground.phase }], guard := none } : Oper)) (v := ?_) rfl (by kernel_rfl) (by kernel_rfl) (by kernel_rfl) (fun _ _ _ h => h) (Or.inl ⟨by rfl, ?_⟩) hS23 ?_
    rotate_left
    · intro w hSw; (try dsimp only at hSw); go_simp; (try with_reducible rfl)
    simp only [Act.put, List.setIfInBounds_toArray, List.set_cons_zero, List.set_cons_succ]
    refine wpAnyH_done (by kernel_rfl) ?_ _
    go_wp2_with fail
    go_ret
    exact ⟨ret_str' HQ.out, hnext LB20.out hS23.1⟩
  · have n3 : (op == 3) = false := by rw [beq_eq_false_iff_ne]; exact h3
    have HQ : Hid (bstr (Cd.enc op.toNat) ++ bstr (Cd.text tb) ++ bstr (Cd.row row) ++ bstr (Cd.enc fr.toNat) ++ bstr (Cd.enc to.toNat) = bstr (chL ⟨op, tb, row, fr, to, ⟨nm, cols, ky⟩⟩)) := by
      show _ = _
      rw [HL2.out h3]
      simp only [bstr_append]
    clear HL1 HL2 CT1 CE hT1 h3
    generalize bstr (Cd.enc op.toNat) = A at CN1 hA HQ
    generalize bstr (Cd.enc fr.toNat) = B at CN2 hB HQ
    generalize bstr (Cd.enc to.toNat) = C at CN3 hC HQ
    generalize bstr (Cd.text tb) = T at CT2 hT2 HQ
    generalize bstr (Cd.row row) = R at CR hR HQ
    have hx1 : ¬ 9223372036854775807 < A.size + T.size := by omega
    have hx2 : ¬ 9223372036854775807 < A.size + T.size + R.size := by omega
    have hx3 : ¬ 9223372036854775807 < A.size + T.size + R.size + B.size := by omega
    have hx4 : ¬ 9223372036854775807 < A.size + T.size + R.size + B.size + C.size := by omega
    clear hA hT2 hR hB hC
    go_enter Try.func39, Try.ntmps39
    go_wp2_with fail
    obtain ⟨w20, hw20⟩ : ∃ w20, (w.alloc (.cells #[.int .i64 op, .string tb, .slice radr row.length rcap, .int .i64 fr, .int .i64 to, .string nm, .slice cadr cols.length ccap, .int .i64 ky] 32)).drew = w20 := ⟨_, rfl⟩
    have hd20 : Below (w.alloc (.cells #[.int .i64 op, .string tb, .slice radr row.length rcap, .int .i64 fr, .int .i64 to, .string nm, .slice cadr cols.length ccap, .int .i64 ky] 32)).heap.size (w.alloc (.cells #[.int .i64 op, .string tb, .slice radr row.length rcap, .int .i64 fr, .int .i64 to, .string nm, .slice cadr cols.length ccap, .int .i64 ky] 32)) w20 := hw20 ▸ (Below.refl _ _).drew
    have LB20 := hid (hnext LB.out hd20)
    have VR20 := hid (VR.out.below hd20)
    have VC20 := hid (VC.out.below hd20)
    obtain ⟨x0, x1, x2, x3, x4, x5, x6, x7, f0, f1, f2, f3, f4, f5, f6, f7, xl⟩ := (BX.out.keep hd20).cells
    simp only at x0 x1 x2 x3 x4 x5 x6 x7
    clear f0 f1 f2 f3 f4 f5 f6 f7 xl
    have mk20 : ∀ W, Below w20.heap.size w20 W → Below w20.heap.size w20 W ∧ W.cell? ⟨w.heap.size, 0, none⟩ = some (.int .i64 op) ∧ W.cell? ⟨w.heap.size, 1, none⟩ = some (.string tb) ∧ W.cell? ⟨w.heap.size, 2, none⟩ = some (.slice radr row.length rcap) ∧ W.cell? ⟨w.heap.size, 3, none⟩ = some (.int .i64 fr) ∧ W.cell? ⟨w.heap.size, 4, none⟩ = some (.int .i64 to) ∧ W.cell? ⟨w.heap.size, 5, none⟩ = some (.string nm) ∧ W.cell? ⟨w.heap.size, 6, none⟩ = some (.slice cadr cols.length ccap) ∧ W.cell? ⟨w.heap.size, 7, none⟩ = some (.int .i64 ky) := fun W h => ⟨h, hkeep x0 h, hkeep x1 h, hkeep x2 h, hkeep x3 h, hkeep x4 h, hkeep x5 h, hkeep x6 h, hkeep x7 h⟩
    clear x0 x1 x2 x3 x4 x5 x6 x7
    refine wp_region_held_drew (S := (fun W => Below w20.heap.size w20 W ∧ W.cell? ⟨w.heap.size, 0, none⟩ = some (.int .i64 op) ∧ W.cell? ⟨w.heap.size, 1, none⟩ = some (.string tb) ∧ W.cell? ⟨w.heap.size, 2, none⟩ = some (.slice radr row.length rcap) ∧ W.cell? ⟨w.heap.size, 3, none⟩ = some (.int .i64 fr) ∧ W.cell? ⟨w.heap.size, 4, none⟩ = some (.int .i64 to) ∧ W.cell? ⟨w.heap.size, 5, none⟩ = some (.string nm) ∧ W.cell? ⟨w.heap.size, 6, none⟩ = some (.slice cadr cols.length ccap) ∧ W.cell? ⟨w.heap.size, 7, none⟩ = some (.int .i64 ky))) (by kernel_rfl) (by rw [hw20]; exact mk20 _ (Below.refl _ _)) (fun hS20 => ?_)
    rw [hw20] at hS20 ⊢
    clear hw20
    refine wpAnyH_take (i := 0) (oi := ({ dst := some 14, op := Op.fieldAddr 32 (Operand.tmp 1) 0, type := 0, pos := "frame.go:67", after := #[], guard := none } : Oper)) (v := ?_) rfl (by kernel_rfl) (by kernel_rfl) (by kernel_rfl) (fun _ _ _ h => h) (Or.inl ⟨by rfl, ?_⟩) hS20 ?_
    rotate_left
    · intro w hSw; (try dsimp only at hSw); go_simp; (try with_reducible rfl)
    simp only [Act.put, List.setIfInBounds_toArray, List.set_cons_zero, List.set_cons_succ]
    refine wpAnyH_take (i := 1) (oi := ({ dst := some 15, op := Op.load 3 (Operand.tmp 14), type := 3, pos := "frame.go:67", after := #[{ on := 0, ground := Ground.data }], guard := none } : Oper)) (v := ?_) rfl (by kernel_rfl) (by kernel_rfl) (by kernel_rfl) (fun _ _ _ h => h) (Or.inl ⟨by rfl, ?_⟩) hS20 ?_
    rotate_left
    · intro w hSw; (try dsimp only at hSw); go_simp; (try with_reducible rfl)
    simp only [Act.put, List.setIfInBounds_toArray, List.set_cons_zero, List.set_cons_succ]
    refine wpAnyH_take (i := 3) (oi := ({ dst := some 17, op := Op.fieldAddr 32 (Operand.tmp 1) 1, type := 0, pos := "frame.go:67", after := #[], guard := none } : Oper)) (v := ?_) rfl (by kernel_rfl) (by kernel_rfl) (by kernel_rfl) (fun _ _ _ h => h) (Or.inl ⟨by rfl, ?_⟩) hS20 ?_
    rotate_left
    · intro w hSw; (try dsimp only at hSw); go_simp; (try with_reducible rfl)
    simp only [Act.put, List.setIfInBounds_toArray, List.set_cons_zero, List.set_cons_succ]
    refine wpAnyH_take (i := 4) (oi := ({ dst := some 18, op := Op.load 9 (Operand.tmp 17), type := 9, pos := "frame.go:67", after := #[{ on := 3, ground := Ground.data }], guard := none } : Oper)) (v := ?_) rfl (by kernel_rfl) (by kernel_rfl) (by kernel_rfl) (fun _ _ _ h => h) (Or.inl ⟨by rfl, ?_⟩) hS20 ?_
    rotate_left
    · intro w hSw; (try dsimp only at hSw); go_simp; (try with_reducible rfl)
    simp only [Act.put, List.setIfInBounds_toArray, List.set_cons_zero, List.set_cons_succ]
    refine wpAnyH_take (i := 7) (oi := ({ dst := some 21, op := Op.fieldAddr 32 (Operand.tmp 1) 2, type := 0, pos := "frame.go:67", after := #[], guard := none } : Oper)) (v := ?_) rfl (by kernel_rfl) (by kernel_rfl) (by kernel_rfl) (fun _ _ _ h => h) (Or.inl ⟨by rfl, ?_⟩) hS20 ?_
    rotate_left
    · intro w hSw; (try dsimp only at hSw); go_simp; (try with_reducible rfl)
    simp only [Act.put, List.setIfInBounds_toArray, List.set_cons_zero, List.set_cons_succ]
    refine wpAnyH_take (i := 8) (oi := ({ dst := some 22, op := Op.load 25 (Operand.tmp 21), type := 25, pos := "frame.go:67", after := #[{ on := 7, ground := Ground.data }], guard := none } : Oper)) (v := ?_) rfl (by kernel_rfl) (by kernel_rfl) (by kernel_rfl) (fun _ _ _ h => h) (Or.inl ⟨by rfl, ?_⟩) hS20 ?_
    rotate_left
    · intro w hSw; (try dsimp only at hSw); go_simp; (try with_reducible rfl)
    simp only [Act.put, List.setIfInBounds_toArray, List.set_cons_zero, List.set_cons_succ]
    refine wpAnyH_take (i := 11) (oi := ({ dst := some 25, op := Op.fieldAddr 32 (Operand.tmp 1) 3, type := 0, pos := "frame.go:67", after := #[], guard := none } : Oper)) (v := ?_) rfl (by kernel_rfl) (by kernel_rfl) (by kernel_rfl) (fun _ _ _ h => h) (Or.inl ⟨by rfl, ?_⟩) hS20 ?_
    rotate_left
    · intro w hSw; (try dsimp only at hSw); go_simp; (try with_reducible rfl)
    simp only [Act.put, List.setIfInBounds_toArray, List.set_cons_zero, List.set_cons_succ]
    refine wpAnyH_take (i := 12) (oi := ({ dst := some 26, op := Op.fieldAddr 27 (Operand.tmp 25) 0, type := 0, pos := "frame.go:67", after := #[{ on := 11, ground := Ground.data }], guard := none } : Oper)) (v := ?_) rfl (by kernel_rfl) (by kernel_rfl) (by kernel_rfl) (fun _ _ _ h => h) (Or.inl ⟨by rfl, ?_⟩) hS20 ?_
    rotate_left
    · intro w hSw; (try dsimp only at hSw); go_simp; (try with_reducible rfl)
    simp only [Act.put, List.setIfInBounds_toArray, List.set_cons_zero, List.set_cons_succ]
    refine wpAnyH_take (i := 13) (oi := ({ dst := some 27, op := Op.load 3 (Operand.tmp 26), type := 3, pos := "frame.go:67", after := #[{ on := 12, ground := Ground.data }], guard := none } : Oper)) (v := ?_) rfl (by kernel_rfl) (by kernel_rfl) (by kernel_rfl) (fun _ _ _ h => h) (Or.inl ⟨by rfl, ?_⟩) hS20 ?_
    rotate_left
    · intro w hSw; (try dsimp only at hSw); go_simp; (try with_reducible rfl)
    simp only [Act.put, List.setIfInBounds_toArray, List.set_cons_zero, List.set_cons_succ]
    refine wpAnyH_take (i := 16) (oi := ({ dst := some 30, op := Op.fieldAddr 32 (Operand.tmp 1) 3, type := 0, pos := "frame.go:67", after := #[], guard := none } : Oper)) (v := ?_) rfl (by kernel_rfl) (by kernel_rfl) (by kernel_rfl) (fun _ _ _ h => h) (Or.inl ⟨by rfl, ?_⟩) hS20 ?_
    rotate_left
    · intro w hSw; (try dsimp only at hSw); go_simp; (try with_reducible rfl)
    simp only [Act.put, List.setIfInBounds_toArray, List.set_cons_zero, List.set_cons_succ]
    refine wpAnyH_take (i := 17) (oi := ({ dst := some 31, op := Op.fieldAddr 27 (Operand.tmp 30) 1, type := 0, pos := "frame.go:67", after := #[{ on := 16, ground := Ground.data }], guard := none } : Oper)) (v := ?_) rfl (by kernel_rfl) (by kernel_rfl) (by kernel_rfl) (fun _ _ _ h => h) (Or.inl ⟨by rfl, ?_⟩) hS20 ?_
    rotate_left
    · intro w hSw; (try dsimp only at hSw); go_simp; (try with_reducible rfl)
    simp only [Act.put, List.setIfInBounds_toArray, List.set_cons_zero, List.set_cons_succ]
    refine wpAnyH_take (i := 18) (oi := ({ dst := some 32, op := Op.load 3 (Operand.tmp 31), type := 3, pos := "frame.go:67", after := #[{ on := 17, ground := Ground.data }], guard := none } : Oper)) (v := ?_) rfl (by kernel_rfl) (by kernel_rfl) (by kernel_rfl) (fun _ _ _ h => h) (Or.inl ⟨by rfl, ?_⟩) hS20 ?_
    rotate_left
    · intro w hSw; (try dsimp only at hSw); go_simp; (try with_reducible rfl)
    simp only [Act.put, List.setIfInBounds_toArray, List.set_cons_zero, List.set_cons_succ]
    refine wpAnyH_ready (rs := [2]) (by kernel_rfl) (by simp) ?_
    refine AllReadyH.cons (o := ({ dst := some 16, op := Op.call { callee := Callee.value (Operand.func 38), args := #[Operand.tmp 15], argTypes := #[3] }, type := 9, pos := "frame.go:67", after := #[{ on := 1, ground := Ground.data }], guard := none } : Oper)) rfl (fun K hK => ?_) AllReadyH.nil
    go_simp
    refine (CN1.out _).mono ?_; rintro e w21 ⟨rfl, hb21⟩
    go_wp2_with fail
    refine hK.out _ _ (mk20 _ (hnext hS20.1 hb21)) (fun hS21 => ?_)
    clear hK K
    (try simp only [Act.put, List.setIfInBounds_toArray, List.set_cons_zero, List.set_cons_succ])
    clear hb21 hS20
    refine wpAnyH_ready (rs := [5]) (by kernel_rfl) (by simp) ?_
    refine AllReadyH.cons (o := ({ dst := some 19, op := Op.call { callee := Callee.value (Operand.func 61), args := #[Operand.tmp 18], argTypes := #[9] }, type := 9, pos := "frame.go:67", after := #[{ on := 4, ground := Ground.data }, { on := 2, ground := Ground.chain }], guard := none } : Oper)) rfl (fun K hK => ?_) AllReadyH.nil
    go_simp
    refine (CT2.out _).mono ?_; rintro e w22 ⟨rfl, hb22⟩
    go_wp2_with fail
    refine hK.out _ _ (mk20 _ (hnext hS21.1 hb22)) (fun hS22 => ?_)
    clear hK K
    (try simp only [Act.put, List.setIfInBounds_toArray, List.set_cons_zero, List.set_cons_succ])
    clear hb22 hS21
    refine wpAnyH_take (i := 6) (oi := ({ dst := some 20, op := Op.binOp BinOp.add 9 (Operand.tmp 16) (Operand.tmp 19) 9, type := 9, pos := "frame.go:67", after := #[{ on := 2, ground := Ground.data }, { on := 5, ground := Ground.data }], guard := none } : Oper)) (v := ?_) rfl (by kernel_rfl) (by kernel_rfl) (by kernel_rfl) (fun _ _ _ h => h) (Or.inl ⟨by rfl, ?_⟩) hS22 ?_
    rotate_left
    · intro w hSw; (try dsimp only at hSw); go_simp; (try with_reducible rfl)
    simp only [Act.put, List.setIfInBounds_toArray, List.set_cons_zero, List.set_cons_succ]
    refine wpAnyH_ready (rs := [9]) (by kernel_rfl) (by simp) ?_
    refine AllReadyH.cons (o := ({ dst := some 23, op := Op.call { callee := Callee.value (Operand.func 63), args := #[Operand.tmp 22], argTypes := #[25] }, type := 9, pos := "frame.go:67", after := #[{ on := 8, ground := Ground.data }, { on := 5, ground := Ground.chain }], guard := none } : Oper)) rfl (fun K hK => ?_) AllReadyH.nil
    go_simp
    refine (CR.out _ (VR20.out.below hS22.1)).mono ?_; rintro e w23 ⟨rfl, hb23⟩
    go_wp2_with fail
    refine hK.out _ _ (mk20 _ (hnext hS22.1 hb23)) (fun hS23 => ?_)
    clear hK K
    (try simp only [Act.put, List.setIfInBounds_toArray, List.set_cons_zero, List.set_cons_succ])
    clear hb23 hS22
    refine wpAnyH_take (i := 10) (oi := ({ dst := some 24, op := Op.binOp BinOp.add 9 (Operand.tmp 20) (Operand.tmp 23) 9, type := 9, pos := "frame.go:67", after := #[{ on := 6, ground := Ground.data }, { on := 9, ground := Ground.data }], guard := none } : Oper)) (v := ?_) rfl (by kernel_rfl) (by kernel_rfl) (by kernel_rfl) (fun _ _ _ h => h) (Or.inl ⟨by rfl, ?_⟩) hS23 ?_
    rotate_left
    · intro w hSw; (try dsimp only at hSw); go_simp; (try with_reducible rfl)
    simp only [Act.put, List.setIfInBounds_toArray, List.set_cons_zero, List.set_cons_succ]
    refine wpAnyH_ready (rs := [14]) (by kernel_rfl) (by simp) ?_
    refine AllReadyH.cons (o := ({ dst := some 28, op := Op.call { callee := Callee.value (Operand.func 38), args := #[Operand.tmp 27], argTypes := #[3] }, type := 9, pos := "frame.go:67", after := #[{ on := 13, ground := Ground.data }, { on := 9, ground := Ground.chain }], guard := none } : Oper)) rfl (fun K hK => ?_) AllReadyH.nil
    go_simp
    refine (CN2.out _).mono ?_; rintro e w24 ⟨rfl, hb24⟩
    go_wp2_with fail
    refine hK.out _ _ (mk20 _ (hnext hS23.1 hb24)) (fun hS24 => ?_)
    clear hK K
    (try simp only [Act.put, List.setIfInBounds_toArray, List.set_cons_zero, List.set_cons_succ])
    clear hb24 hS23
    refine wpAnyH_take (i := 15) (oi := ({ dst := some 29, op := Op.binOp BinOp.add 9 (Operand.tmp 24) (Operand.tmp 28) 9, type := 9, pos := "frame.go:67", after := #[{ on := 10, ground := Ground.data }, { on := 14, ground := Ground.data }], guard := none } : Oper)) (v := ?_) rfl (by kernel_rfl) (by kernel_rfl) (by kernel_rfl) (fun _ _ _ h => h) (Or.inl ⟨by rfl, ?_⟩) hS24 ?_
    rotate_left
    · intro w hSw; (try dsimp only at hSw); go_simp; (try with_reducible rfl)
    simp only [Act.put, List.setIfInBounds_toArray, List.set_cons_zero, List.set_cons_succ]
    refine wpAnyH_ready (rs := [19]) (by kernel_rfl) (by simp) ?_
    refine AllReadyH.cons (o := ({ dst := some 33, op := Op.call { callee := Callee.value (Operand.func 38), args := #[Operand.tmp 32], argTypes := #[3] }, type := 9, pos := "frame.go:67", after := #[{ on := 18, ground := Ground.data }, { on := 14, ground := Ground.chain }], guard := none } : Oper)) rfl (fun K hK => ?_) AllReadyH.nil
    go_simp
    refine (CN3.out _).mono ?_; rintro e w25 ⟨rfl, hb25⟩
    go_wp2_with fail
    refine hK.out _ _ (mk20 _ (hnext hS24.1 hb25)) (fun hS25 => ?_)
    clear hK K
    (try simp only [Act.put, List.setIfInBounds_toArray, List.set_cons_zero, List.set_cons_succ])
    clear hb25 hS24
    refine wpAnyH_take (i := 20) (oi := ({ dst := some 34, op := Op.binOp BinOp.add 9 (Operand.tmp 29) (Operand.tmp 33) 9, type := 9, pos := "frame.go:67", after := #[{ on := 15, ground := Ground.data }, { on := 19, ground := Ground.data }], guard := none } : Oper)) (v := ?_) rfl (by kernel_rfl) (by kernel_rfl) (by kernel_rfl) (fun _ _ _ h => h) (Or.inl ⟨by rfl, ?_⟩) hS25 ?_
    rotate_left
    · intro w hSw; (try dsimp only at hSw); go_simp; (try with_reducible rfl)
    simp only [Act.put, List.setIfInBounds_toArray, List.set_cons_zero, List.set_cons_succ]
    refine wpAnyH_take (i := 21) (oi := ({ dst := some 2, op := Op.assign (Operand.tmp 34), type := 9, pos := "frame.go:67", after := #[{ on := 20, ground := Ground.data }, { on := 19, ground := Ground.chain }, { on := 0, ground := Ground.phase }, { on := 1, ground := Ground.phase }, { on := 2, ground := Ground.phase }, { on := 3, ground := Ground.phase }, { on := 4, ground := Ground.phase }, { on := 5, ground := Ground.phase }, { on := 6, ground := Ground.phase }, { on := 7, ground := Ground.phase }, { on := 8, ground := Ground.phase }, { on := 9, ground := Ground.phase }, { on := 10, ground := Ground.phase }, { on := 11, ground := Ground.phase }, { on := 12, ground := Ground.phase }, { on := 13, ground := Ground.phase }, { on := 14, ground := Ground.phase }, { on := 15, ground := Ground.phase }, { on := 16, ground := Ground.phase }, { on := 17, ground := Ground.phase }, { on := 18, ground := Ground.phase }, { on := 19, ground := Ground.phase }, { on := 20, ground := Ground.phase }], guard := none } : Oper)) (v := ?_) rfl (by kernel_rfl) (by kernel_rfl) (by kernel_rfl) (fun _ _ _ h => h) (Or.inl ⟨by rfl, ?_⟩) hS25 ?_
    rotate_left
    · intro w hSw; (try dsimp only at hSw); go_simp; (try with_reducible rfl)
    simp only [Act.put, List.setIfInBounds_toArray, List.set_cons_zero, List.set_cons_succ]
    refine wpAnyH_done (by kernel_rfl) ?_ _
    go_wp2_with fail
    go_ret
    exact ⟨ret_str' HQ.out, hnext LB20.out hS25.1⟩
set_option maxRecDepth 100000 in
set_option maxHeartbeats 12800000 in
theorem fbody_any (t : Tx) (v : Value) (w : World) (hv : HsAt w v t.cs) (hk : Hok t.cs) : Calls Try.prog 15 #[tv t v] w fun e w' => e = .returned (.string (bstr (body t))) ∧ Below w.heap.size w w' := by
  have hbx := hba w (.cells #[.int .i64 t.seq, .int .i64 t.time, v] 24)
  have BX := hid (BT.new w t v)
  have LB := hid hbx
  have HK := hid hk.2
  have cr0 := fright_any t v _ (hv.below hbx) hk
  have HV := hid (hv.below hbx)
  obtain ⟨adr, cap, rfl⟩ := hv.slc
  clear hv hbx
  unfold tv at *
  cases hr : txB t with
  | false =>
    rw [hr] at cr0
    have cr := hid cr0
    have HR := hid (body_no hr)
    obtain ⟨s0, s1, s2, g0, g1, g2, sl⟩ := BX.out.cells
    clear cr0 hr g0 g1 g2
    go_enter Try.func15, Try.ntmps15
    go_wp2_with fail
    refine cr.out.mono ?_; rintro e w1 ⟨rfl, b1⟩
    have L1 := hid (hnext LB.out b1)
    clear b1
    go_wp2_with fail
    go_ret
    rw [HR.out]
    exact ⟨rfl, L1.out⟩
  | true =>
    rw [hr] at cr0
    have cr := hid cr0
    have HBY := hid (body_yes hr)
    obtain ⟨ha, hh⟩ := txB_iff.1 hr
    obtain ⟨e1, e2, e3, e4, e5⟩ := headB_iff.1 hh
    have HA := hid ha
    have CN1 := hid (fun W => fnumber_any t.seq (by omega) (by omega) W)
    have CN2 := hid (fun W => fnumber_any t.time (by omega) (by omega) W)
    have CN3 := hid (fun W => fnumber_any (t.cs.length : Int) (by omega) (by omega) W)
    have HH : Hid (headL t = Cd.enc t.seq.toNat ++ Cd.enc t.time.toNat ++ Cd.enc t.cs.length) := rfl
    rw [Int.toNat_natCast] at CN3
    have hA := enc_len t.seq.toNat
    have hB := enc_len t.time.toNat
    have hC := enc_len t.cs.length
    have HL5 := hid e5
    obtain ⟨s0, s1, s2, g0, g1, g2, sl⟩ := BX.out.cells
    clear cr0 hr ha hh g0 g1 g2 e1 e2 e3 e4
    have HHB : Hid (bstr (Cd.enc t.seq.toNat) ++ bstr (Cd.enc t.time.toNat) ++ bstr (Cd.enc t.cs.length) = bstr (headL t)) := by
      show _ = _
      rw [HH.out]
      simp only [bstr_append]
    clear HH
    generalize bstr (Cd.enc t.seq.toNat) = A at CN1 hA HHB
    generalize bstr (Cd.enc t.time.toNat) = B at CN2 hB HHB
    generalize bstr (Cd.enc t.cs.length) = C at CN3 hC HHB
    have hx1 : ¬ 9223372036854775807 < A.size + B.size := by omega
    have hx2 : ¬ 9223372036854775807 < A.size + B.size + C.size := by omega
    have HSZ : Hid ((bstr (headL t)).size ≤ 30) := by
      show _ ≤ _
      rw [← HHB.out, ByteArray.size_append, ByteArray.size_append]; omega
    clear hA hB hC
    go_enter Try.func15, Try.ntmps15
    go_wp2_with fail
    refine cr.out.mono ?_; rintro e w1 ⟨rfl, b1⟩
    have L1 := hid (hnext LB.out b1)
    have BX1 := hid (BX.out.keep b1)
    have HV1 := hid (HV.out.below b1)
    clear b1 s0 s1 s2 sl
    obtain ⟨s0, s1, s2, g0, g1, g2, sl⟩ := BX1.out.cells
    clear g0 g1 g2
    go_wp2_with fail
    obtain ⟨w20, hw20⟩ : ∃ w20, (w1).drew = w20 := ⟨_, rfl⟩
    have hd20 : Below (w1).heap.size (w1) w20 := hw20 ▸ (Below.refl _ _).drew
    have L20 := hid (hnext L1.out hd20)
    have BX20 := hid (BX1.out.keep hd20)
    have HV20 := hid (HV1.out.below hd20)
    replace s0 := hkeep s0 hd20
    replace s1 := hkeep s1 hd20
    replace s2 := hkeep s2 hd20
    have mk20 : ∀ W, Below w20.heap.size w20 W → Below w20.heap.size w20 W ∧ W.cell? ⟨w.heap.size, 0, none⟩ = some (.int .i64 t.seq) ∧ W.cell? ⟨w.heap.size, 1, none⟩ = some (.int .i64 t.time) ∧ W.cell? ⟨w.heap.size, 2, none⟩ = some (.slice adr t.cs.length cap) := fun W h => ⟨h, hkeep s0 h, hkeep s1 h, hkeep s2 h⟩
    clear s0 s1 s2 sl
    refine wp_region_held_drew (S := (fun W => Below w20.heap.size w20 W ∧ W.cell? ⟨w.heap.size, 0, none⟩ = some (.int .i64 t.seq) ∧ W.cell? ⟨w.heap.size, 1, none⟩ = some (.int .i64 t.time) ∧ W.cell? ⟨w.heap.size, 2, none⟩ = some (.slice adr t.cs.length cap))) (by kernel_rfl) (by rw [hw20]; exact mk20 _ (Below.refl _ _)) (fun hS20 => ?_)
    rw [hw20] at hS20 ⊢
    clear hw20
    refine wpAnyH_take (i := 0) (oi := ({ dst := some 9, op := Op.fieldAddr 24 (Operand.tmp 1) 0, type := 0, pos := "frame.go:75", after := #[], guard := none } : Oper)) (v := ?_) rfl (by kernel_rfl) (by kernel_rfl) (by kernel_rfl) (fun _ _ _ h => h) (Or.inl ⟨by rfl, ?_⟩) hS20 ?_
    rotate_left
    · intro w hSw; (try dsimp only at hSw); go_simp; (try with_reducible rfl)
    simp only [Act.put, List.setIfInBounds_toArray, List.set_cons_zero, List.set_cons_succ]
    refine wpAnyH_take (i := 1) (oi := ({ dst := some 10, op := Op.load 3 (Operand.tmp 9), type := 3, pos := "frame.go:75", after := #[{ on := 0, ground := Ground.data }], guard := none } : Oper)) (v := ?_) rfl (by kernel_rfl) (by kernel_rfl) (by kernel_rfl) (fun _ _ _ h => h) (Or.inl ⟨by rfl, ?_⟩) hS20 ?_
    rotate_left
    · intro w hSw; (try dsimp only at hSw); go_simp; (try with_reducible rfl)
    simp only [Act.put, List.setIfInBounds_toArray, List.set_cons_zero, List.set_cons_succ]
    refine wpAnyH_take (i := 3) (oi := ({ dst := some 12, op := Op.fieldAddr 24 (Operand.tmp 1) 1, type := 0, pos := "frame.go:75", after := #[], guard := none } : Oper)) (v := ?_) rfl (by kernel_rfl) (by kernel_rfl) (by kernel_rfl) (fun _ _ _ h => h) (Or.inl ⟨by rfl, ?_⟩) hS20 ?_
    rotate_left
    · intro w hSw; (try dsimp only at hSw); go_simp; (try with_reducible rfl)
    simp only [Act.put, List.setIfInBounds_toArray, List.set_cons_zero, List.set_cons_succ]
    refine wpAnyH_take (i := 4) (oi := ({ dst := some 13, op := Op.load 3 (Operand.tmp 12), type := 3, pos := "frame.go:75", after := #[{ on := 3, ground := Ground.data }], guard := none } : Oper)) (v := ?_) rfl (by kernel_rfl) (by kernel_rfl) (by kernel_rfl) (fun _ _ _ h => h) (Or.inl ⟨by rfl, ?_⟩) hS20 ?_
    rotate_left
    · intro w hSw; (try dsimp only at hSw); go_simp; (try with_reducible rfl)
    simp only [Act.put, List.setIfInBounds_toArray, List.set_cons_zero, List.set_cons_succ]
    refine wpAnyH_take (i := 7) (oi := ({ dst := some 16, op := Op.fieldAddr 24 (Operand.tmp 1) 2, type := 0, pos := "frame.go:75", after := #[], guard := none } : Oper)) (v := ?_) rfl (by kernel_rfl) (by kernel_rfl) (by kernel_rfl) (fun _ _ _ h => h) (Or.inl ⟨by rfl, ?_⟩) hS20 ?_
    rotate_left
    · intro w hSw; (try dsimp only at hSw); go_simp; (try with_reducible rfl)
    simp only [Act.put, List.setIfInBounds_toArray, List.set_cons_zero, List.set_cons_succ]
    refine wpAnyH_take (i := 8) (oi := ({ dst := some 17, op := Op.load 22 (Operand.tmp 16), type := 22, pos := "frame.go:75", after := #[{ on := 7, ground := Ground.data }], guard := none } : Oper)) (v := ?_) rfl (by kernel_rfl) (by kernel_rfl) (by kernel_rfl) (fun _ _ _ h => h) (Or.inl ⟨by rfl, ?_⟩) hS20 ?_
    rotate_left
    · intro w hSw; (try dsimp only at hSw); go_simp; (try with_reducible rfl)
    simp only [Act.put, List.setIfInBounds_toArray, List.set_cons_zero, List.set_cons_succ]
    refine wpAnyH_take (i := 9) (oi := ({ dst := some 18, op := Op.call { callee := Callee.builtin Builtin.len, args := #[Operand.tmp 17], argTypes := #[22] }, type := 3, pos := "frame.go:75", after := #[{ on := 8, ground := Ground.data }], guard := none } : Oper)) (v := ?_) rfl (by kernel_rfl) (by kernel_rfl) (by kernel_rfl) (fun _ _ _ h => h) (Or.inl ⟨by rfl, ?_⟩) hS20 ?_
    rotate_left
    · intro w hSw; (try dsimp only at hSw); go_simp; (try with_reducible rfl)
    simp only [Act.put, List.setIfInBounds_toArray, List.set_cons_zero, List.set_cons_succ]
    refine wpAnyH_ready (rs := [2]) (by kernel_rfl) (by simp) ?_
    refine AllReadyH.cons (o := ({ dst := some 11, op := Op.call { callee := Callee.value (Operand.func 38), args := #[Operand.tmp 10], argTypes := #[3] }, type := 9, pos := "frame.go:75", after := #[{ on := 1, ground := Ground.data }], guard := none } : Oper)) rfl (fun K hK => ?_) AllReadyH.nil
    go_simp
    refine (CN1.out _).mono ?_; rintro e w21 ⟨rfl, hb21⟩
    go_wp2_with fail
    refine hK.out _ _ (mk20 _ (hnext hS20.1 hb21)) (fun hS21 => ?_)
    clear hK K
    (try simp only [Act.put, List.setIfInBounds_toArray, List.set_cons_zero, List.set_cons_succ])
    clear hb21 hS20
    refine wpAnyH_ready (rs := [5]) (by kernel_rfl) (by simp) ?_
    refine AllReadyH.cons (o := ({ dst := some 14, op := Op.call { callee := Callee.value (Operand.func 38), args := #[Operand.tmp 13], argTypes := #[3] }, type := 9, pos := "frame.go:75", after := #[{ on := 4, ground := Ground.data }, { on := 2, ground := Ground.chain }], guard := none } : Oper)) rfl (fun K hK => ?_) AllReadyH.nil
    go_simp
    refine (CN2.out _).mono ?_; rintro e w22 ⟨rfl, hb22⟩
    go_wp2_with fail
    refine hK.out _ _ (mk20 _ (hnext hS21.1 hb22)) (fun hS22 => ?_)
    clear hK K
    (try simp only [Act.put, List.setIfInBounds_toArray, List.set_cons_zero, List.set_cons_succ])
    clear hb22 hS21
    refine wpAnyH_take (i := 6) (oi := ({ dst := some 15, op := Op.binOp BinOp.add 9 (Operand.tmp 11) (Operand.tmp 14) 9, type := 9, pos := "frame.go:75", after := #[{ on := 2, ground := Ground.data }, { on := 5, ground := Ground.data }], guard := none } : Oper)) (v := ?_) rfl (by kernel_rfl) (by kernel_rfl) (by kernel_rfl) (fun _ _ _ h => h) (Or.inl ⟨by rfl, ?_⟩) hS22 ?_
    rotate_left
    · intro w hSw; (try dsimp only at hSw); go_simp; (try with_reducible rfl)
    simp only [Act.put, List.setIfInBounds_toArray, List.set_cons_zero, List.set_cons_succ]
    refine wpAnyH_ready (rs := [10]) (by kernel_rfl) (by simp) ?_
    refine AllReadyH.cons (o := ({ dst := some 19, op := Op.call { callee := Callee.value (Operand.func 38), args := #[Operand.tmp 18], argTypes := #[3] }, type := 9, pos := "frame.go:75", after := #[{ on := 9, ground := Ground.data }, { on := 5, ground := Ground.chain }], guard := none } : Oper)) rfl (fun K hK => ?_) AllReadyH.nil
    go_simp
    refine (CN3.out _).mono ?_; rintro e w23 ⟨rfl, hb23⟩
    go_wp2_with fail
    refine hK.out _ _ (mk20 _ (hnext hS22.1 hb23)) (fun hS23 => ?_)
    clear hK K
    (try simp only [Act.put, List.setIfInBounds_toArray, List.set_cons_zero, List.set_cons_succ])
    clear hb23 hS22
    refine wpAnyH_take (i := 11) (oi := ({ dst := some 20, op := Op.binOp BinOp.add 9 (Operand.tmp 15) (Operand.tmp 19) 9, type := 9, pos := "frame.go:75", after := #[{ on := 6, ground := Ground.data }, { on := 10, ground := Ground.data }], guard := none } : Oper)) (v := ?_) rfl (by kernel_rfl) (by kernel_rfl) (by kernel_rfl) (fun _ _ _ h => h) (Or.inl ⟨by rfl, ?_⟩) hS23 ?_
    rotate_left
    · intro w hSw; (try dsimp only at hSw); go_simp; (try with_reducible rfl)
    simp only [Act.put, List.setIfInBounds_toArray, List.set_cons_zero, List.set_cons_succ]
    refine wpAnyH_take (i := 12) (oi := ({ dst := some 3, op := Op.assign (Operand.tmp 20), type := 9, pos := "frame.go:75", after := #[{ on := 11, ground := Ground.data }, { on := 10, ground := Ground.chain }, { on := 0, ground := Ground.phase }, { on := 1, ground := Ground.phase }, { on := 2, ground := Ground.phase }, { on := 3, ground := Ground.phase }, { on := 4, ground := Ground.phase }, { on := 5, ground := Ground.phase }, { on := 6, ground := Ground.phase }, { on := 7, ground := Ground.phase }, { on := 8, ground := Ground.phase }, { on := 9, ground := Ground.phase }, { on := 10, ground := Ground.phase }, { on := 11, ground := Ground.phase }], guard := none } : Oper)) (v := ?_) rfl (by kernel_rfl) (by kernel_rfl) (by kernel_rfl) (fun _ _ _ h => h) (Or.inl ⟨by rfl, ?_⟩) hS23 ?_
    rotate_left
    · intro w hSw; (try dsimp only at hSw); go_simp; (try with_reducible rfl)
    simp only [Act.put, List.setIfInBounds_toArray, List.set_cons_zero, List.set_cons_succ]
    refine wpAnyH_done (by kernel_rfl) ?_ _
    have L3 := hid (hnext L20.out hS23.1)
    have BX3 := hid (BX20.out.keep hS23.1)
    have HV3 := hid (HV20.out.below hS23.1)
    clear mk20 hS23 L20 BX20 HV20
    obtain ⟨w3, hw3'⟩ : ∃ w3, w3 = w23 := ⟨_, rfl⟩
    subst hw3'
    obtain ⟨s0, s1, s2, g0, g1, g2, sl⟩ := BX3.out.cells
    clear g0 g1 g2
    go_wp2_with fail
    clear s0 s1 s2 sl
    rw [HHB.out]
    go_loopw [24, 3] (fun i s wr => ∃ (k : Nat) (b : ByteArray), k ≤ t.cs.length ∧ i = .int .i64 (k : Int) ∧ s = .string b ∧ Hid (b = bstr (headL t ++ (t.cs.take k).flatMap chL)) ∧ Hid (b.size ≤ 30 + 80082 * k) ∧ Below w.heap.size w wr ∧ BT wr w.heap.size t (.slice adr t.cs.length cap) ∧ HsAt wr (.slice adr t.cs.length cap) t.cs) (fun i _ _ => t.cs.length - (intOf i).toNat)
    case atStart => exact ⟨0, _, by omega, rfl, rfl, by show _ = _; simp, HSZ.out, L3.out, BX3.out, HV3.out⟩
    case round =>
      obtain ⟨k, s, hk, rfl, rfl, hs, hsz, hbel, hbt, hhv⟩ := hrel
      obtain ⟨w4, rfl⟩ : ∃ w4 : World, w4 = wr := ⟨_, rfl⟩
      clear L3 BX3 HV3 HSZ HHB
      have hk0 : (0 : Int) ≤ (k : Int) := by omega
      have hszn := hsz.out
      have h100 := HL5.out
      by_cases hkl : k < t.cs.length
      · have hkl' : (k : Int) < (t.cs.length : Int) := by omega
        obtain ⟨adr', cap', e', hc⟩ := id hhv
        cases e'
        obtain ⟨g, off, vr, vc, rfl, q0, q1, q2, q3, q4, q5, q6, q7, p1, p2⟩ := hc k hkl
        have HN := hid (ch_snoc hkl)
        have hcb := HA.out t.cs[k] (List.getElem_mem hkl)
        have hxs := HK.out t.cs[k] (List.getElem_mem hkl)
        generalize hx : t.cs[k] = c at q0 q1 q2 q3 q4 q5 q6 q7 p1 p2 HN hcb hxs
        clear hx hc
        obtain ⟨radr, rcap, rfl⟩ := vs_slc p1
        obtain ⟨cadr, ccap, rfl⟩ := p2.slc
        have hb1 := hba w4 (.cells #[.int .i64 c.op, .string c.table, .slice radr c.row.length rcap, .int .i64 c.fr, .int .i64 c.to, .string c.df.name, .slice cadr c.df.cols.length ccap, .int .i64 c.df.keys] 32)
        have BC := hid (BH.new w4 c (.slice radr c.row.length rcap) (.slice cadr c.df.cols.length ccap))
        have L5 := hid (hnext hbel hb1)
        have BT5 := hid (hbt.keep hb1)
        have HV5 := hid (hhv.below hb1)
        have P1 := hid (p1.below hb1)
        have P2 := hid (p2.below hb1)
        obtain ⟨s0, s1, s2, g0, g1, g2, sl⟩ := hbt.cells
        have hlen := chL_len hcb
        clear g0 g1 g2 hbel hbt hhv p1 p2 hb1
        have cb0 := fbytes_any c _ _ _ P1.out P2.out hxs.1 hcb
        unfold cvv at cb0
        have CB := hid cb0
        have HQ : Hid (s ++ bstr (chL c) = bstr (headL t ++ (t.cs.take (k + 1)).flatMap chL)) := by
          show _ = _
          rw [HN.out, hs.out, bstr_append]
        clear cb0 hcb hxs HN hs
        generalize bstr (chL c) = T at CB HQ hlen
        have hx3 : ¬ 9223372036854775807 < s.size + T.size := by omega
        have HZ : Hid ((s ++ T).size ≤ 30 + 80082 * (k + 1)) := by
          show _ ≤ _
          rw [ByteArray.size_append]; omega
        clear hszn hlen h100
        go_wp2_with fail
        refine CB.out.mono ?_; rintro e w6 ⟨rfl, b6⟩
        have L6 := hid (hnext L5.out b6)
        have BT6 := hid (BT5.out.keep b6)
        have HV6 := hid (HV5.out.below b6)
        clear b6
        go_wp2_with fail
        go_roundw
        case rel => exact ⟨k + 1, _, by omega, by first | rfl | go_num, rfl, HQ.out, HZ.out, L6.out, BT6.out, HV6.out⟩
        case measure => simp [intOf]; omega
      · obtain rfl : k = t.cs.length := by omega
        have HS2 : Hid (s = bstr (bodyL t)) := by
          have := hs.out
          rw [List.take_length] at this
          exact this
        obtain ⟨s0, s1, s2, g0, g1, g2, sl⟩ := hbt.cells
        have HB := hid hbel
        clear hs hkl hbel hbt hhv g0 g1 g2
        by_cases hbig : 100000 < s.size
        · have hbig' : (100000 : Int) < (s.size : Int) := by omega
          have HR : Hid (body t = []) := by
            show _ = _
            rw [HBY.out, if_pos (by have h := hbig; rw [HS2.out] at h; exact h)]
          clear hbig
          go_wp2_with fail
          go_ret
          rw [HR.out]
          exact ⟨rfl, HB.out⟩
        · have hbig' : ¬ (100000 : Int) < (s.size : Int) := by omega
          have HR : Hid (body t = bodyL t) := by
            show _ = _
            rw [HBY.out, if_neg (by have h := hbig; rw [HS2.out] at h; exact h)]
          clear hbig
          go_wp2_with fail
          go_ret
          rw [HR.out, ← HS2.out]
          exact ⟨rfl, HB.out⟩
set_option maxRecDepth 100000 in
set_option maxHeartbeats 12800000 in
theorem fbodyR_any (t : Tx) (v : Value) (w : World) (hv : HsAt w v t.cs) (hk : Hok t.cs) : Calls Try.prog 16 #[tv t v] w fun e w' => e = .returned (.string (bstr (body t))) ∧ Below w.heap.size w w' := by
  have hbx := hba w (.cells #[.int .i64 t.seq, .int .i64 t.time, v] 24)
  have BX := hid (BT.new w t v)
  have LB := hid hbx
  have HK := hid hk.2
  have cr0 := frightR_any t v _ (hv.below hbx) hk
  have HV := hid (hv.below hbx)
  obtain ⟨adr, cap, rfl⟩ := hv.slc
  clear hv hbx
  unfold tv at *
  cases hr : txB t with
  | false =>
    rw [hr] at cr0
    have cr := hid cr0
    have HR := hid (body_no hr)
    obtain ⟨s0, s1, s2, g0, g1, g2, sl⟩ := BX.out.cells
    clear cr0 hr g0 g1 g2
    go_enter Try.func16, Try.ntmps16
    go_wp2_with fail
    refine cr.out.mono ?_; rintro e w1 ⟨rfl, b1⟩
    have L1 := hid (hnext LB.out b1)
    clear b1
    go_wp2_with fail
    go_ret
    rw [HR.out]
    exact ⟨rfl, L1.out⟩
  | true =>
    rw [hr] at cr0
    have cr := hid cr0
    have HBY := hid (body_yes hr)
    obtain ⟨ha, hh⟩ := txB_iff.1 hr
    obtain ⟨e1, e2, e3, e4, e5⟩ := headB_iff.1 hh
    have HA := hid ha
    have CN1 := hid (fun W => uintR_int t.seq (by omega) (by omega) W)
    have CN2 := hid (fun W => uintR_int t.time (by omega) (by omega) W)
    have CN3 := hid (fun W => uintR_int (t.cs.length : Int) (by omega) (by omega) W)
    have HH : Hid (headL t = Cd.enc t.seq.toNat ++ Cd.enc t.time.toNat ++ Cd.enc t.cs.length) := rfl
    rw [Int.toNat_natCast] at CN3
    have hw1 := wrap_u64_pos (n := t.seq) (by omega) (by omega)
    have hw2 := wrap_u64_pos (n := t.time) (by omega) (by omega)
    have hw3 := wrap_u64_pos (n := (t.cs.length : Int)) (by omega) (by omega)
    have hA := enc_len t.seq.toNat
    have hB := enc_len t.time.toNat
    have hC := enc_len t.cs.length
    have HL5 := hid e5
    obtain ⟨s0, s1, s2, g0, g1, g2, sl⟩ := BX.out.cells
    clear cr0 hr ha hh g0 g1 g2 e1 e2 e3 e4
    have HHB : Hid (bstr (Cd.enc t.seq.toNat) ++ bstr (Cd.enc t.time.toNat) ++ bstr (Cd.enc t.cs.length) = bstr (headL t)) := by
      show _ = _
      rw [HH.out]
      simp only [bstr_append]
    clear HH
    generalize bstr (Cd.enc t.seq.toNat) = A at CN1 hA HHB
    generalize bstr (Cd.enc t.time.toNat) = B at CN2 hB HHB
    generalize bstr (Cd.enc t.cs.length) = C at CN3 hC HHB
    have hx1 : ¬ 9223372036854775807 < A.size + B.size := by omega
    have hx2 : ¬ 9223372036854775807 < A.size + B.size + C.size := by omega
    have HSZ : Hid ((bstr (headL t)).size ≤ 30) := by
      show _ ≤ _
      rw [← HHB.out, ByteArray.size_append, ByteArray.size_append]; omega
    clear hA hB hC
    go_enter Try.func16, Try.ntmps16
    go_wp2_with fail
    refine cr.out.mono ?_; rintro e w1 ⟨rfl, b1⟩
    have L1 := hid (hnext LB.out b1)
    have BX1 := hid (BX.out.keep b1)
    have HV1 := hid (HV.out.below b1)
    clear b1 s0 s1 s2 sl
    obtain ⟨s0, s1, s2, g0, g1, g2, sl⟩ := BX1.out.cells
    clear g0 g1 g2
    go_wp2_with fail
    obtain ⟨w20, hw20⟩ : ∃ w20, (w1).drew = w20 := ⟨_, rfl⟩
    have hd20 : Below (w1).heap.size (w1) w20 := hw20 ▸ (Below.refl _ _).drew
    have L20 := hid (hnext L1.out hd20)
    have BX20 := hid (BX1.out.keep hd20)
    have HV20 := hid (HV1.out.below hd20)
    replace s0 := hkeep s0 hd20
    replace s1 := hkeep s1 hd20
    replace s2 := hkeep s2 hd20
    have mk20 : ∀ W, Below w20.heap.size w20 W → Below w20.heap.size w20 W ∧ W.cell? ⟨w.heap.size, 0, none⟩ = some (.int .i64 t.seq) ∧ W.cell? ⟨w.heap.size, 1, none⟩ = some (.int .i64 t.time) ∧ W.cell? ⟨w.heap.size, 2, none⟩ = some (.slice adr t.cs.length cap) := fun W h => ⟨h, hkeep s0 h, hkeep s1 h, hkeep s2 h⟩
    clear s0 s1 s2 sl
    refine wp_region_held_drew (S := (fun W => Below w20.heap.size w20 W ∧ W.cell? ⟨w.heap.size, 0, none⟩ = some (.int .i64 t.seq) ∧ W.cell? ⟨w.heap.size, 1, none⟩ = some (.int .i64 t.time) ∧ W.cell? ⟨w.heap.size, 2, none⟩ = some (.slice adr t.cs.length cap))) (by kernel_rfl) (by rw [hw20]; exact mk20 _ (Below.refl _ _)) (fun hS20 => ?_)
    rw [hw20] at hS20 ⊢
    clear hw20
    refine wpAnyH_take (i := 0) (oi := ({ dst := some 9, op := Op.fieldAddr 24 (Operand.tmp 1) 0, type := 0, pos := "ref.go:52", after := #[], guard := none } : Oper)) (v := ?_) rfl (by kernel_rfl) (by kernel_rfl) (by kernel_rfl) (fun _ _ _ h => h) (Or.inl ⟨by rfl, ?_⟩) hS20 ?_
    rotate_left
    · intro w hSw; (try dsimp only at hSw); go_simp; (try with_reducible rfl)
    simp only [Act.put, List.setIfInBounds_toArray, List.set_cons_zero, List.set_cons_succ]
    refine wpAnyH_take (i := 1) (oi := ({ dst := some 10, op := Op.load 3 (Operand.tmp 9), type := 3, pos := "ref.go:52", after := #[{ on := 0, ground := Ground.data }], guard := none } : Oper)) (v := ?_) rfl (by kernel_rfl) (by kernel_rfl) (by kernel_rfl) (fun _ _ _ h => h) (Or.inl ⟨by rfl, ?_⟩) hS20 ?_
    rotate_left
    · intro w hSw; (try dsimp only at hSw); go_simp; (try with_reducible rfl)
    simp only [Act.put, List.setIfInBounds_toArray, List.set_cons_zero, List.set_cons_succ]
    refine wpAnyH_take (i := 2) (oi := ({ dst := some 11, op := Op.convert 3 57 (Operand.tmp 10), type := 57, pos := "ref.go:52", after := #[{ on := 1, ground := Ground.data }], guard := none } : Oper)) (v := ?_) rfl (by kernel_rfl) (by kernel_rfl) (by kernel_rfl) (fun _ _ _ h => h) (Or.inl ⟨by rfl, ?_⟩) hS20 ?_
    rotate_left
    · intro w hSw; (try dsimp only at hSw); go_simp; (try with_reducible rfl)
    simp only [Act.put, List.setIfInBounds_toArray, List.set_cons_zero, List.set_cons_succ]
    refine wpAnyH_take (i := 4) (oi := ({ dst := some 13, op := Op.fieldAddr 24 (Operand.tmp 1) 1, type := 0, pos := "ref.go:52", after := #[], guard := none } : Oper)) (v := ?_) rfl (by kernel_rfl) (by kernel_rfl) (by kernel_rfl) (fun _ _ _ h => h) (Or.inl ⟨by rfl, ?_⟩) hS20 ?_
    rotate_left
    · intro w hSw; (try dsimp only at hSw); go_simp; (try with_reducible rfl)
    simp only [Act.put, List.setIfInBounds_toArray, List.set_cons_zero, List.set_cons_succ]
    refine wpAnyH_take (i := 5) (oi := ({ dst := some 14, op := Op.load 3 (Operand.tmp 13), type := 3, pos := "ref.go:52", after := #[{ on := 4, ground := Ground.data }], guard := none } : Oper)) (v := ?_) rfl (by kernel_rfl) (by kernel_rfl) (by kernel_rfl) (fun _ _ _ h => h) (Or.inl ⟨by rfl, ?_⟩) hS20 ?_
    rotate_left
    · intro w hSw; (try dsimp only at hSw); go_simp; (try with_reducible rfl)
    simp only [Act.put, List.setIfInBounds_toArray, List.set_cons_zero, List.set_cons_succ]
    refine wpAnyH_take (i := 6) (oi := ({ dst := some 15, op := Op.convert 3 57 (Operand.tmp 14), type := 57, pos := "ref.go:52", after := #[{ on := 5, ground := Ground.data }], guard := none } : Oper)) (v := ?_) rfl (by kernel_rfl) (by kernel_rfl) (by kernel_rfl) (fun _ _ _ h => h) (Or.inl ⟨by rfl, ?_⟩) hS20 ?_
    rotate_left
    · intro w hSw; (try dsimp only at hSw); go_simp; (try with_reducible rfl)
    simp only [Act.put, List.setIfInBounds_toArray, List.set_cons_zero, List.set_cons_succ]
    refine wpAnyH_take (i := 9) (oi := ({ dst := some 18, op := Op.fieldAddr 24 (Operand.tmp 1) 2, type := 0, pos := "ref.go:52", after := #[], guard := none } : Oper)) (v := ?_) rfl (by kernel_rfl) (by kernel_rfl) (by kernel_rfl) (fun _ _ _ h => h) (Or.inl ⟨by rfl, ?_⟩) hS20 ?_
    rotate_left
    · intro w hSw; (try dsimp only at hSw); go_simp; (try with_reducible rfl)
    simp only [Act.put, List.setIfInBounds_toArray, List.set_cons_zero, List.set_cons_succ]
    refine wpAnyH_take (i := 10) (oi := ({ dst := some 19, op := Op.load 22 (Operand.tmp 18), type := 22, pos := "ref.go:52", after := #[{ on := 9, ground := Ground.data }], guard := none } : Oper)) (v := ?_) rfl (by kernel_rfl) (by kernel_rfl) (by kernel_rfl) (fun _ _ _ h => h) (Or.inl ⟨by rfl, ?_⟩) hS20 ?_
    rotate_left
    · intro w hSw; (try dsimp only at hSw); go_simp; (try with_reducible rfl)
    simp only [Act.put, List.setIfInBounds_toArray, List.set_cons_zero, List.set_cons_succ]
    refine wpAnyH_take (i := 11) (oi := ({ dst := some 20, op := Op.call { callee := Callee.builtin Builtin.len, args := #[Operand.tmp 19], argTypes := #[22] }, type := 3, pos := "ref.go:52", after := #[{ on := 10, ground := Ground.data }], guard := none } : Oper)) (v := ?_) rfl (by kernel_rfl) (by kernel_rfl) (by kernel_rfl) (fun _ _ _ h => h) (Or.inl ⟨by rfl, ?_⟩) hS20 ?_
    rotate_left
    · intro w hSw; (try dsimp only at hSw); go_simp; (try with_reducible rfl)
    simp only [Act.put, List.setIfInBounds_toArray, List.set_cons_zero, List.set_cons_succ]
    refine wpAnyH_take (i := 12) (oi := ({ dst := some 21, op := Op.convert 3 57 (Operand.tmp 20), type := 57, pos := "ref.go:52", after := #[{ on := 11, ground := Ground.data }], guard := none } : Oper)) (v := ?_) rfl (by kernel_rfl) (by kernel_rfl) (by kernel_rfl) (fun _ _ _ h => h) (Or.inl ⟨by rfl, ?_⟩) hS20 ?_
    rotate_left
    · intro w hSw; (try dsimp only at hSw); go_simp; (try with_reducible rfl)
    simp only [Act.put, List.setIfInBounds_toArray, List.set_cons_zero, List.set_cons_succ]
    refine wpAnyH_ready (rs := [3]) (by kernel_rfl) (by simp) ?_
    refine AllReadyH.cons (o := ({ dst := some 12, op := Op.call { callee := Callee.value (Operand.func 40), args := #[Operand.tmp 11], argTypes := #[57] }, type := 9, pos := "ref.go:52", after := #[{ on := 2, ground := Ground.data }], guard := none } : Oper)) rfl (fun K hK => ?_) AllReadyH.nil
    go_simp
    refine (CN1.out _).mono ?_; rintro e w21 ⟨rfl, hb21⟩
    go_wp2_with fail
    refine hK.out _ _ (mk20 _ (hnext hS20.1 hb21)) (fun hS21 => ?_)
    clear hK K
    (try simp only [Act.put, List.setIfInBounds_toArray, List.set_cons_zero, List.set_cons_succ])
    clear hb21 hS20
    refine wpAnyH_ready (rs := [7]) (by kernel_rfl) (by simp) ?_
    refine AllReadyH.cons (o := ({ dst := some 16, op := Op.call { callee := Callee.value (Operand.func 40), args := #[Operand.tmp 15], argTypes := #[57] }, type := 9, pos := "ref.go:52", after := #[{ on := 6, ground := Ground.data }, { on := 3, ground := Ground.chain }], guard := none } : Oper)) rfl (fun K hK => ?_) AllReadyH.nil
    go_simp
    refine (CN2.out _).mono ?_; rintro e w22 ⟨rfl, hb22⟩
    go_wp2_with fail
    refine hK.out _ _ (mk20 _ (hnext hS21.1 hb22)) (fun hS22 => ?_)
    clear hK K
    (try simp only [Act.put, List.setIfInBounds_toArray, List.set_cons_zero, List.set_cons_succ])
    clear hb22 hS21
    refine wpAnyH_take (i := 8) (oi := ({ dst := some 17, op := Op.binOp BinOp.add 9 (Operand.tmp 12) (Operand.tmp 16) 9, type := 9, pos := "ref.go:52", after := #[{ on := 3, ground := Ground.data }, { on := 7, ground := Ground.data }], guard := none } : Oper)) (v := ?_) rfl (by kernel_rfl) (by kernel_rfl) (by kernel_rfl) (fun _ _ _ h => h) (Or.inl ⟨by rfl, ?_⟩) hS22 ?_
    rotate_left
    · intro w hSw; (try dsimp only at hSw); go_simp; (try with_reducible rfl)
    simp only [Act.put, List.setIfInBounds_toArray, List.set_cons_zero, List.set_cons_succ]
    refine wpAnyH_ready (rs := [13]) (by kernel_rfl) (by simp) ?_
    refine AllReadyH.cons (o := ({ dst := some 22, op := Op.call { callee := Callee.value (Operand.func 40), args := #[Operand.tmp 21], argTypes := #[57] }, type := 9, pos := "ref.go:52", after := #[{ on := 12, ground := Ground.data }, { on := 7, ground := Ground.chain }], guard := none } : Oper)) rfl (fun K hK => ?_) AllReadyH.nil
    go_simp
    refine (CN3.out _).mono ?_; rintro e w23 ⟨rfl, hb23⟩
    go_wp2_with fail
    refine hK.out _ _ (mk20 _ (hnext hS22.1 hb23)) (fun hS23 => ?_)
    clear hK K
    (try simp only [Act.put, List.setIfInBounds_toArray, List.set_cons_zero, List.set_cons_succ])
    clear hb23 hS22
    refine wpAnyH_take (i := 14) (oi := ({ dst := some 23, op := Op.binOp BinOp.add 9 (Operand.tmp 17) (Operand.tmp 22) 9, type := 9, pos := "ref.go:52", after := #[{ on := 8, ground := Ground.data }, { on := 13, ground := Ground.data }], guard := none } : Oper)) (v := ?_) rfl (by kernel_rfl) (by kernel_rfl) (by kernel_rfl) (fun _ _ _ h => h) (Or.inl ⟨by rfl, ?_⟩) hS23 ?_
    rotate_left
    · intro w hSw; (try dsimp only at hSw); go_simp; (try with_reducible rfl)
    simp only [Act.put, List.setIfInBounds_toArray, List.set_cons_zero, List.set_cons_succ]
    refine wpAnyH_take (i := 15) (oi := ({ dst := some 3, op := Op.assign (Operand.tmp 23), type := 9, pos := "ref.go:52", after := #[{ on := 14, ground := Ground.data }, { on := 13, ground := Ground.chain }, { on := 0, ground := Ground.phase }, { on := 1, ground := Ground.phase }, { on := 2, ground := Ground.phase }, { on := 3, ground := Ground.phase }, { on := 4, ground := Ground.phase }, { on := 5, ground := Ground.phase }, { on := 6, ground := Ground.phase }, { on := 7, ground := Ground.phase }, { on := 8, ground := Ground.phase }, { on := 9, ground := Ground.phase }, { on := 10, ground := Ground.phase }, { on := 11, ground := Ground.phase }, { on := 12, ground := Ground.phase }, { on := 13, ground := Ground.phase }, { on := 14, ground := Ground.phase }], guard := none } : Oper)) (v := ?_) rfl (by kernel_rfl) (by kernel_rfl) (by kernel_rfl) (fun _ _ _ h => h) (Or.inl ⟨by rfl, ?_⟩) hS23 ?_
    rotate_left
    · intro w hSw; (try dsimp only at hSw); go_simp; (try with_reducible rfl)
    simp only [Act.put, List.setIfInBounds_toArray, List.set_cons_zero, List.set_cons_succ]
    refine wpAnyH_done (by kernel_rfl) ?_ _
    have L3 := hid (hnext L20.out hS23.1)
    have BX3 := hid (BX20.out.keep hS23.1)
    have HV3 := hid (HV20.out.below hS23.1)
    clear mk20 hS23 L20 BX20 HV20
    obtain ⟨w3, hw3'⟩ : ∃ w3, w3 = w23 := ⟨_, rfl⟩
    subst hw3'
    obtain ⟨s0, s1, s2, g0, g1, g2, sl⟩ := BX3.out.cells
    clear g0 g1 g2
    go_wp2_with fail
    clear s0 s1 s2 sl
    rw [HHB.out]
    go_loopw [4, 3] (fun i s wr => ∃ (k : Nat) (b : ByteArray), k ≤ t.cs.length ∧ i = .int .i64 (k : Int) ∧ s = .string b ∧ Hid (b = bstr (headL t ++ (t.cs.take k).flatMap chL)) ∧ Hid (b.size ≤ 30 + 80082 * k) ∧ Below w.heap.size w wr ∧ BT wr w.heap.size t (.slice adr t.cs.length cap) ∧ HsAt wr (.slice adr t.cs.length cap) t.cs) (fun i _ _ => t.cs.length - (intOf i).toNat)
    case atStart => exact ⟨0, _, by omega, rfl, rfl, by show _ = _; simp, HSZ.out, L3.out, BX3.out, HV3.out⟩
    case round =>
      obtain ⟨k, s, hk, rfl, rfl, hs, hsz, hbel, hbt, hhv⟩ := hrel
      obtain ⟨w4, rfl⟩ : ∃ w4 : World, w4 = wr := ⟨_, rfl⟩
      clear L3 BX3 HV3 HSZ HHB
      have hk0 : (0 : Int) ≤ (k : Int) := by omega
      have hszn := hsz.out
      have h100 := HL5.out
      by_cases hkl : k < t.cs.length
      · have hkl' : (k : Int) < (t.cs.length : Int) := by omega
        obtain ⟨adr', cap', e', hc⟩ := id hhv
        cases e'
        obtain ⟨g, off, vr, vc, rfl, q0, q1, q2, q3, q4, q5, q6, q7, p1, p2⟩ := hc k hkl
        have HN := hid (ch_snoc hkl)
        have hcb := HA.out t.cs[k] (List.getElem_mem hkl)
        have hxs := HK.out t.cs[k] (List.getElem_mem hkl)
        generalize hx : t.cs[k] = c at q0 q1 q2 q3 q4 q5 q6 q7 p1 p2 HN hcb hxs
        clear hx hc
        obtain ⟨radr, rcap, rfl⟩ := vs_slc p1
        obtain ⟨cadr, ccap, rfl⟩ := p2.slc
        have hb1 := hba w4 (.cells #[.int .i64 c.op, .string c.table, .slice radr c.row.length rcap, .int .i64 c.fr, .int .i64 c.to, .string c.df.name, .slice cadr c.df.cols.length ccap, .int .i64 c.df.keys] 32)
        have BC := hid (BH.new w4 c (.slice radr c.row.length rcap) (.slice cadr c.df.cols.length ccap))
        have L5 := hid (hnext hbel hb1)
        have BT5 := hid (hbt.keep hb1)
        have HV5 := hid (hhv.below hb1)
        have P1 := hid (p1.below hb1)
        have P2 := hid (p2.below hb1)
        obtain ⟨s0, s1, s2, g0, g1, g2, sl⟩ := hbt.cells
        have hlen := chL_len hcb
        clear g0 g1 g2 hbel hbt hhv p1 p2 hb1
        obtain ⟨n1, n2, n3, n4, n5, n6, n7, n8⟩ := ch_nums hcb
        have CNA := hid (fun W => uintR_int c.op (by omega) (by omega) W)
        have CNB := hid (fun W => uintR_int c.fr (by omega) (by omega) W)
        have CNC := hid (fun W => uintR_int c.to (by omega) (by omega) W)
        have wA := wrap_u64_pos (n := c.op) (by omega) (by omega)
        have wB := wrap_u64_pos (n := c.fr) (by omega) (by omega)
        have wC := wrap_u64_pos (n := c.to) (by omega) (by omega)
        have ce := fun W (h : CsAt W (.slice cadr c.df.cols.length ccap) c.df.cols) => encodeR_any c.df _ W h hxs.1.2.2.2.2.2
        have CT1 := hid (fun W => textR_any (bstr (Sc.encode c.df)) (by have := encode_len c.df; rw [bstr_size]; omega) W)
        have CT2 := hid (fun W => textR_any c.table (by omega) W)
        have CR := hid (fun W (h : VsAt W (.slice radr c.row.length rcap) c.row) => rowR_any _ c.row W h hxs.1.2.2.2.2.1 (by omega))
        have hA := enc_len c.op.toNat
        have hB := enc_len c.fr.toNat
        have hC := enc_len c.to.toNat
        have hT1 := text_len (s := bstr (Sc.encode c.df)) (n := 1100) (by rw [bstr_size]; exact encode_len c.df)
        have hT2 := text_len n7
        have hR := row_len16 n8
        have HC1 := hid (fun h => chL_tab (c := c) h)
        have HC2 := hid (fun h => chL_put (c := c) h)
        clear n1 n2 n3 n4 n5 n6 n7 n8 hcb hlen
        obtain ⟨op, tb, row, fr, to, ⟨nm, cols, ky⟩⟩ := c
        unfold sv at ce
        have CE := hid ce
        clear ce hxs
        simp only at *
        by_cases h3 : op = 3
        · subst h3
          have HQ : Hid (s ++ bstr (Cd.enc 3) ++ bstr (Cd.text (bstr (Sc.encode ⟨nm, cols, ky⟩))) = bstr (headL t ++ (t.cs.take (k + 1)).flatMap chL)) := by
            show _ = _
            rw [HN.out, hs.out, HC1.out rfl]
            simp only [bstr_append, List.append_assoc]
          change (bstr (Cd.enc 3)).size ≤ 10 at hA
          replace CNA : Hid (∀ W, Calls Try.prog 40 #[.int .u64 3] W fun e w' => e = .returned (.string (bstr (Cd.enc 3))) ∧ Below W.heap.size W w') := CNA
          clear HC1 HC2 CNB CNC CT2 CR hB hC hT2 hR HN hs wA wB wC
          generalize bstr (Cd.text (bstr (Sc.encode ⟨nm, cols, ky⟩))) = T at CT1 hT1 HQ
          generalize bstr (Sc.encode ⟨nm, cols, ky⟩) = E at CT1 CE
          generalize bstr (Cd.enc 3) = A at CNA hA HQ
          have hx1 : ¬ 9223372036854775807 < s.size + A.size := by omega
          have hx2 : ¬ 9223372036854775807 < s.size + A.size + T.size := by omega
          have HZ : Hid ((s ++ A ++ T).size ≤ 30 + 80082 * (k + 1)) := by
            show _ ≤ _
            rw [ByteArray.size_append, ByteArray.size_append]; omega
          clear hszn h100 hA hT1
          go_wp2_with fail
          refine (CNA.out _).mono ?_; rintro e w6 ⟨rfl, b6⟩
          have L6 := hid (hnext L5.out b6)
          have BT6 := hid (BT5.out.keep b6)
          have HV6 := hid (HV5.out.below b6)
          have P16 := hid (P1.out.below b6)
          have P26 := hid (P2.out.below b6)
          obtain ⟨x0, x1, x2, x3, x4, x5, x6, x7, f0, f1, f2, f3, f4, f5, f6, f7, xl⟩ := (BC.out.keep b6).cells
          have BC6 := hid (BC.out.keep b6)
          simp only at x0 x1 x2 x3 x4 x5 x6 x7
          clear b6 f0 f1 f2 f3 f4 f5 f6 f7 xl
          go_wp2_with fail
          refine (CE.out _ P26.out).mono ?_; rintro e w7 ⟨rfl, b7⟩
          have L7 := hid (hnext L6.out b7)
          have BT7 := hid (BT6.out.keep b7)
          have HV7 := hid (HV6.out.below b7)
          clear b7 x0 x1 x2 x3 x4 x5 x6 x7
          go_wp2_with fail
          refine (CT1.out _).mono ?_; rintro e w8 ⟨rfl, b8⟩
          have L8 := hid (hnext L7.out b8)
          have BT8 := hid (BT7.out.keep b8)
          have HV8 := hid (HV7.out.below b8)
          clear b8
          go_wp2_with fail
          go_roundw
          case rel => exact ⟨k + 1, _, by omega, by first | rfl | go_num, rfl, HQ.out, HZ.out, L8.out, BT8.out, HV8.out⟩
          case measure => simp [intOf]; omega
        · have m3 : (op == 3) = false := by rw [beq_eq_false_iff_ne]; exact h3
          have HQ : Hid (s ++ bstr (Cd.enc op.toNat) ++ bstr (Cd.text tb) ++ bstr (Cd.row row) ++ bstr (Cd.enc fr.toNat) ++ bstr (Cd.enc to.toNat) = bstr (headL t ++ (t.cs.take (k + 1)).flatMap chL)) := by
            show _ = _
            rw [HN.out, hs.out, HC2.out h3]
            simp only [bstr_append, List.append_assoc]
          clear HC1 HC2 CT1 CE hT1 h3 HN hs
          generalize bstr (Cd.enc op.toNat) = A at CNA hA HQ
          generalize bstr (Cd.enc fr.toNat) = B at CNB hB HQ
          generalize bstr (Cd.enc to.toNat) = C at CNC hC HQ
          generalize bstr (Cd.text tb) = T at CT2 hT2 HQ
          generalize bstr (Cd.row row) = R at CR hR HQ
          have hx1 : ¬ 9223372036854775807 < s.size + A.size := by omega
          have hx2 : ¬ 9223372036854775807 < s.size + A.size + T.size := by omega
          have hx3 : ¬ 9223372036854775807 < s.size + A.size + T.size + R.size := by omega
          have hx4 : ¬ 9223372036854775807 < s.size + A.size + T.size + R.size + B.size := by omega
          have hx5 : ¬ 9223372036854775807 < s.size + A.size + T.size + R.size + B.size + C.size := by omega
          have HZ : Hid ((s ++ A ++ T ++ R ++ B ++ C).size ≤ 30 + 80082 * (k + 1)) := by
            show _ ≤ _
            simp only [ByteArray.size_append]; omega
          have hsA : (s ++ A).size = s.size + A.size := ByteArray.size_append
          clear hszn h100 hA hT2 hR hB hC
          go_wp2_with fail
          refine (CNA.out _).mono ?_; rintro e w6 ⟨rfl, b6⟩
          have L6 := hid (hnext L5.out b6)
          have BT6 := hid (BT5.out.keep b6)
          have HV6 := hid (HV5.out.below b6)
          have P16 := hid (P1.out.below b6)
          have P26 := hid (P2.out.below b6)
          obtain ⟨x0, x1, x2, x3, x4, x5, x6, x7, f0, f1, f2, f3, f4, f5, f6, f7, xl⟩ := (BC.out.keep b6).cells
          have BC6 := hid (BC.out.keep b6)
          simp only at x0 x1 x2 x3 x4 x5 x6 x7
          clear b6 f0 f1 f2 f3 f4 f5 f6 f7 xl
          go_wp2_with fail
          obtain ⟨w30, hw30⟩ : ∃ w30, (w6).drew = w30 := ⟨_, rfl⟩
          have hd30 : Below (w6).heap.size (w6) w30 := hw30 ▸ (Below.refl _ _).drew
          have L30 := hid (hnext L6.out hd30)
          have BT30 := hid (BT6.out.keep hd30)
          have HV30 := hid (HV6.out.below hd30)
          have P30 := hid (P16.out.below hd30)
          replace x0 := hkeep x0 hd30
          replace x1 := hkeep x1 hd30
          replace x2 := hkeep x2 hd30
          replace x3 := hkeep x3 hd30
          replace x4 := hkeep x4 hd30
          replace x5 := hkeep x5 hd30
          replace x6 := hkeep x6 hd30
          replace x7 := hkeep x7 hd30
          have mk30 : ∀ W, Below w30.heap.size w30 W → Below w30.heap.size w30 W ∧ W.cell? ⟨w4.heap.size, 0, none⟩ = some (.int .i64 op) ∧ W.cell? ⟨w4.heap.size, 1, none⟩ = some (.string tb) ∧ W.cell? ⟨w4.heap.size, 2, none⟩ = some (.slice radr row.length rcap) ∧ W.cell? ⟨w4.heap.size, 3, none⟩ = some (.int .i64 fr) ∧ W.cell? ⟨w4.heap.size, 4, none⟩ = some (.int .i64 to) ∧ W.cell? ⟨w4.heap.size, 5, none⟩ = some (.string nm) ∧ W.cell? ⟨w4.heap.size, 6, none⟩ = some (.slice cadr cols.length ccap) ∧ W.cell? ⟨w4.heap.size, 7, none⟩ = some (.int .i64 ky) := fun W h => ⟨h, hkeep x0 h, hkeep x1 h, hkeep x2 h, hkeep x3 h, hkeep x4 h, hkeep x5 h, hkeep x6 h, hkeep x7 h⟩
          clear x0 x1 x2 x3 x4 x5 x6 x7
          refine wp_region_held_drew (S := (fun W => Below w30.heap.size w30 W ∧ W.cell? ⟨w4.heap.size, 0, none⟩ = some (.int .i64 op) ∧ W.cell? ⟨w4.heap.size, 1, none⟩ = some (.string tb) ∧ W.cell? ⟨w4.heap.size, 2, none⟩ = some (.slice radr row.length rcap) ∧ W.cell? ⟨w4.heap.size, 3, none⟩ = some (.int .i64 fr) ∧ W.cell? ⟨w4.heap.size, 4, none⟩ = some (.int .i64 to) ∧ W.cell? ⟨w4.heap.size, 5, none⟩ = some (.string nm) ∧ W.cell? ⟨w4.heap.size, 6, none⟩ = some (.slice cadr cols.length ccap) ∧ W.cell? ⟨w4.heap.size, 7, none⟩ = some (.int .i64 ky))) (by kernel_rfl) (by rw [hw30]; exact mk30 _ (Below.refl _ _)) (fun hS30 => ?_)
          rw [hw30] at hS30 ⊢
          clear hw30
          refine wpAnyH_take (i := 0) (oi := ({ dst := some 51, op := Op.move (Operand.tmp 3), type := 9, pos := "ref.go:59", after := #[], guard := none } : Oper)) (v := ?_) rfl (by kernel_rfl) (by kernel_rfl) (by kernel_rfl) (fun _ _ _ h => h) (Or.inl ⟨by rfl, ?_⟩) hS30 ?_
          rotate_left
          · intro w hSw; (try dsimp only at hSw); go_simp; (try with_reducible rfl)
          simp only [Act.put, List.setIfInBounds_toArray, List.set_cons_zero, List.set_cons_succ]
          refine wpAnyH_take (i := 1) (oi := ({ dst := some 52, op := Op.fieldAddr 32 (Operand.tmp 5) 1, type := 0, pos := "ref.go:59", after := #[], guard := none } : Oper)) (v := ?_) rfl (by kernel_rfl) (by kernel_rfl) (by kernel_rfl) (fun _ _ _ h => h) (Or.inl ⟨by rfl, ?_⟩) hS30 ?_
          rotate_left
          · intro w hSw; (try dsimp only at hSw); go_simp; (try with_reducible rfl)
          simp only [Act.put, List.setIfInBounds_toArray, List.set_cons_zero, List.set_cons_succ]
          refine wpAnyH_take (i := 2) (oi := ({ dst := some 53, op := Op.load 9 (Operand.tmp 52), type := 9, pos := "ref.go:59", after := #[{ on := 1, ground := Ground.data }], guard := none } : Oper)) (v := ?_) rfl (by kernel_rfl) (by kernel_rfl) (by kernel_rfl) (fun _ _ _ h => h) (Or.inl ⟨by rfl, ?_⟩) hS30 ?_
          rotate_left
          · intro w hSw; (try dsimp only at hSw); go_simp; (try with_reducible rfl)
          simp only [Act.put, List.setIfInBounds_toArray, List.set_cons_zero, List.set_cons_succ]
          refine wpAnyH_take (i := 5) (oi := ({ dst := some 56, op := Op.fieldAddr 32 (Operand.tmp 5) 2, type := 0, pos := "ref.go:59", after := #[], guard := none } : Oper)) (v := ?_) rfl (by kernel_rfl) (by kernel_rfl) (by kernel_rfl) (fun _ _ _ h => h) (Or.inl ⟨by rfl, ?_⟩) hS30 ?_
          rotate_left
          · intro w hSw; (try dsimp only at hSw); go_simp; (try with_reducible rfl)
          simp only [Act.put, List.setIfInBounds_toArray, List.set_cons_zero, List.set_cons_succ]
          refine wpAnyH_take (i := 6) (oi := ({ dst := some 57, op := Op.load 25 (Operand.tmp 56), type := 25, pos := "ref.go:59", after := #[{ on := 5, ground := Ground.data }], guard := none } : Oper)) (v := ?_) rfl (by kernel_rfl) (by kernel_rfl) (by kernel_rfl) (fun _ _ _ h => h) (Or.inl ⟨by rfl, ?_⟩) hS30 ?_
          rotate_left
          · intro w hSw; (try dsimp only at hSw); go_simp; (try with_reducible rfl)
          simp only [Act.put, List.setIfInBounds_toArray, List.set_cons_zero, List.set_cons_succ]
          refine wpAnyH_take (i := 9) (oi := ({ dst := some 60, op := Op.fieldAddr 32 (Operand.tmp 5) 3, type := 0, pos := "ref.go:59", after := #[], guard := none } : Oper)) (v := ?_) rfl (by kernel_rfl) (by kernel_rfl) (by kernel_rfl) (fun _ _ _ h => h) (Or.inl ⟨by rfl, ?_⟩) hS30 ?_
          rotate_left
          · intro w hSw; (try dsimp only at hSw); go_simp; (try with_reducible rfl)
          simp only [Act.put, List.setIfInBounds_toArray, List.set_cons_zero, List.set_cons_succ]
          refine wpAnyH_take (i := 10) (oi := ({ dst := some 61, op := Op.fieldAddr 27 (Operand.tmp 60) 0, type := 0, pos := "ref.go:59", after := #[{ on := 9, ground := Ground.data }], guard := none } : Oper)) (v := ?_) rfl (by kernel_rfl) (by kernel_rfl) (by kernel_rfl) (fun _ _ _ h => h) (Or.inl ⟨by rfl, ?_⟩) hS30 ?_
          rotate_left
          · intro w hSw; (try dsimp only at hSw); go_simp; (try with_reducible rfl)
          simp only [Act.put, List.setIfInBounds_toArray, List.set_cons_zero, List.set_cons_succ]
          refine wpAnyH_take (i := 11) (oi := ({ dst := some 62, op := Op.load 3 (Operand.tmp 61), type := 3, pos := "ref.go:59", after := #[{ on := 10, ground := Ground.data }], guard := none } : Oper)) (v := ?_) rfl (by kernel_rfl) (by kernel_rfl) (by kernel_rfl) (fun _ _ _ h => h) (Or.inl ⟨by rfl, ?_⟩) hS30 ?_
          rotate_left
          · intro w hSw; (try dsimp only at hSw); go_simp; (try with_reducible rfl)
          simp only [Act.put, List.setIfInBounds_toArray, List.set_cons_zero, List.set_cons_succ]
          refine wpAnyH_take (i := 12) (oi := ({ dst := some 63, op := Op.convert 3 57 (Operand.tmp 62), type := 57, pos := "ref.go:59", after := #[{ on := 11, ground := Ground.data }], guard := none } : Oper)) (v := ?_) rfl (by kernel_rfl) (by kernel_rfl) (by kernel_rfl) (fun _ _ _ h => h) (Or.inl ⟨by rfl, ?_⟩) hS30 ?_
          rotate_left
          · intro w hSw; (try dsimp only at hSw); go_simp; (try with_reducible rfl)
          simp only [Act.put, List.setIfInBounds_toArray, List.set_cons_zero, List.set_cons_succ]
          refine wpAnyH_take (i := 15) (oi := ({ dst := some 66, op := Op.fieldAddr 32 (Operand.tmp 5) 3, type := 0, pos := "ref.go:59", after := #[], guard := none } : Oper)) (v := ?_) rfl (by kernel_rfl) (by kernel_rfl) (by kernel_rfl) (fun _ _ _ h => h) (Or.inl ⟨by rfl, ?_⟩) hS30 ?_
          rotate_left
          · intro w hSw; (try dsimp only at hSw); go_simp; (try with_reducible rfl)
          simp only [Act.put, List.setIfInBounds_toArray, List.set_cons_zero, List.set_cons_succ]
          refine wpAnyH_take (i := 16) (oi := ({ dst := some 67, op := Op.fieldAddr 27 (Operand.tmp 66) 1, type := 0, pos := "ref.go:59", after := #[{ on := 15, ground := Ground.data }], guard := none } : Oper)) (v := ?_) rfl (by kernel_rfl) (by kernel_rfl) (by kernel_rfl) (fun _ _ _ h => h) (Or.inl ⟨by rfl, ?_⟩) hS30 ?_
          rotate_left
          · intro w hSw; (try dsimp only at hSw); go_simp; (try with_reducible rfl)
          simp only [Act.put, List.setIfInBounds_toArray, List.set_cons_zero, List.set_cons_succ]
          refine wpAnyH_take (i := 17) (oi := ({ dst := some 68, op := Op.load 3 (Operand.tmp 67), type := 3, pos := "ref.go:59", after := #[{ on := 16, ground := Ground.data }], guard := none } : Oper)) (v := ?_) rfl (by kernel_rfl) (by kernel_rfl) (by kernel_rfl) (fun _ _ _ h => h) (Or.inl ⟨by rfl, ?_⟩) hS30 ?_
          rotate_left
          · intro w hSw; (try dsimp only at hSw); go_simp; (try with_reducible rfl)
          simp only [Act.put, List.setIfInBounds_toArray, List.set_cons_zero, List.set_cons_succ]
          refine wpAnyH_take (i := 18) (oi := ({ dst := some 69, op := Op.convert 3 57 (Operand.tmp 68), type := 57, pos := "ref.go:59", after := #[{ on := 17, ground := Ground.data }], guard := none } : Oper)) (v := ?_) rfl (by kernel_rfl) (by kernel_rfl) (by kernel_rfl) (fun _ _ _ h => h) (Or.inl ⟨by rfl, ?_⟩) hS30 ?_
          rotate_left
          · intro w hSw; (try dsimp only at hSw); go_simp; (try with_reducible rfl)
          simp only [Act.put, List.setIfInBounds_toArray, List.set_cons_zero, List.set_cons_succ]
          refine wpAnyH_ready (rs := [3]) (by kernel_rfl) (by simp) ?_
          refine AllReadyH.cons (o := ({ dst := some 54, op := Op.call { callee := Callee.value (Operand.func 41), args := #[Operand.tmp 53], argTypes := #[9] }, type := 9, pos := "ref.go:59", after := #[{ on := 2, ground := Ground.data }], guard := none } : Oper)) rfl (fun K hK => ?_) AllReadyH.nil
          go_simp
          refine (CT2.out _).mono ?_; rintro e w31 ⟨rfl, hb31⟩
          go_wp2_with fail
          refine hK.out _ _ (mk30 _ (hnext hS30.1 hb31)) (fun hS31 => ?_)
          clear hK K
          (try simp only [Act.put, List.setIfInBounds_toArray, List.set_cons_zero, List.set_cons_succ])
          clear hb31 hS30
          refine wpAnyH_take (i := 4) (oi := ({ dst := some 55, op := Op.binOp BinOp.add 9 (Operand.tmp 51) (Operand.tmp 54) 9, type := 9, pos := "ref.go:59", after := #[{ on := 0, ground := Ground.data }, { on := 3, ground := Ground.data }], guard := none } : Oper)) (v := ?_) rfl (by kernel_rfl) (by kernel_rfl) (by kernel_rfl) (fun _ _ _ h => h) (Or.inl ⟨by rfl, ?_⟩) hS31 ?_
          rotate_left
          · intro w hSw; (try dsimp only at hSw); go_simp; (try with_reducible rfl)
          simp only [Act.put, List.setIfInBounds_toArray, List.set_cons_zero, List.set_cons_succ]
          refine wpAnyH_ready (rs := [7]) (by kernel_rfl) (by simp) ?_
          refine AllReadyH.cons (o := ({ dst := some 58, op := Op.call { callee := Callee.value (Operand.func 43), args := #[Operand.tmp 57], argTypes := #[25] }, type := 9, pos := "ref.go:59", after := #[{ on := 6, ground := Ground.data }, { on := 3, ground := Ground.chain }], guard := none } : Oper)) rfl (fun K hK => ?_) AllReadyH.nil
          go_simp
          refine (CR.out _ (P30.out.below hS31.1)).mono ?_; rintro e w32 ⟨rfl, hb32⟩
          go_wp2_with fail
          refine hK.out _ _ (mk30 _ (hnext hS31.1 hb32)) (fun hS32 => ?_)
          clear hK K
          (try simp only [Act.put, List.setIfInBounds_toArray, List.set_cons_zero, List.set_cons_succ])
          clear hb32 hS31
          refine wpAnyH_take (i := 8) (oi := ({ dst := some 59, op := Op.binOp BinOp.add 9 (Operand.tmp 55) (Operand.tmp 58) 9, type := 9, pos := "ref.go:59", after := #[{ on := 4, ground := Ground.data }, { on := 7, ground := Ground.data }], guard := none } : Oper)) (v := ?_) rfl (by kernel_rfl) (by kernel_rfl) (by kernel_rfl) (fun _ _ _ h => h) (Or.inl ⟨by rfl, ?_⟩) hS32 ?_
          rotate_left
          · intro w hSw; (try dsimp only at hSw); go_simp; (try with_reducible rfl)
          simp only [Act.put, List.setIfInBounds_toArray, List.set_cons_zero, List.set_cons_succ]
          refine wpAnyH_ready (rs := [13]) (by kernel_rfl) (by simp) ?_
          refine AllReadyH.cons (o := ({ dst := some 64, op := Op.call { callee := Callee.value (Operand.func 40), args := #[Operand.tmp 63], argTypes := #[57] }, type := 9, pos := "ref.go:59", after := #[{ on := 12, ground := Ground.data }, { on := 7, ground := Ground.chain }], guard := none } : Oper)) rfl (fun K hK => ?_) AllReadyH.nil
          go_simp
          refine (CNB.out _).mono ?_; rintro e w33 ⟨rfl, hb33⟩
          go_wp2_with fail
          refine hK.out _ _ (mk30 _ (hnext hS32.1 hb33)) (fun hS33 => ?_)
          clear hK K
          (try simp only [Act.put, List.setIfInBounds_toArray, List.set_cons_zero, List.set_cons_succ])
          clear hb33 hS32
          refine wpAnyH_take (i := 14) (oi := ({ dst := some 65, op := Op.binOp BinOp.add 9 (Operand.tmp 59) (Operand.tmp 64) 9, type := 9, pos := "ref.go:59", after := #[{ on := 8, ground := Ground.data }, { on := 13, ground := Ground.data }], guard := none } : Oper)) (v := ?_) rfl (by kernel_rfl) (by kernel_rfl) (by kernel_rfl) (fun _ _ _ h => h) (Or.inl ⟨by rfl, ?_⟩) hS33 ?_
          rotate_left
          · intro w hSw; (try dsimp only at hSw); go_simp; (try with_reducible rfl)
          simp only [Act.put, List.setIfInBounds_toArray, List.set_cons_zero, List.set_cons_succ]
          refine wpAnyH_ready (rs := [19]) (by kernel_rfl) (by simp) ?_
          refine AllReadyH.cons (o := ({ dst := some 70, op := Op.call { callee := Callee.value (Operand.func 40), args := #[Operand.tmp 69], argTypes := #[57] }, type := 9, pos := "ref.go:59", after := #[{ on := 18, ground := Ground.data }, { on := 13, ground := Ground.chain }], guard := none } : Oper)) rfl (fun K hK => ?_) AllReadyH.nil
          go_simp
          refine (CNC.out _).mono ?_; rintro e w34 ⟨rfl, hb34⟩
          go_wp2_with fail
          refine hK.out _ _ (mk30 _ (hnext hS33.1 hb34)) (fun hS34 => ?_)
          clear hK K
          (try simp only [Act.put, List.setIfInBounds_toArray, List.set_cons_zero, List.set_cons_succ])
          clear hb34 hS33
          refine wpAnyH_take (i := 20) (oi := ({ dst := some 71, op := Op.binOp BinOp.add 9 (Operand.tmp 65) (Operand.tmp 70) 9, type := 9, pos := "ref.go:59", after := #[{ on := 14, ground := Ground.data }, { on := 19, ground := Ground.data }], guard := none } : Oper)) (v := ?_) rfl (by kernel_rfl) (by kernel_rfl) (by kernel_rfl) (fun _ _ _ h => h) (Or.inl ⟨by rfl, ?_⟩) hS34 ?_
          rotate_left
          · intro w hSw; (try dsimp only at hSw); go_simp; (try with_reducible rfl)
          simp only [Act.put, List.setIfInBounds_toArray, List.set_cons_zero, List.set_cons_succ]
          refine wpAnyH_take (i := 21) (oi := ({ dst := some 3, op := Op.assign (Operand.tmp 71), type := 9, pos := "ref.go:59", after := #[{ on := 20, ground := Ground.data }, { on := 19, ground := Ground.chain }, { on := 0, ground := Ground.phase }, { on := 1, ground := Ground.phase }, { on := 2, ground := Ground.phase }, { on := 3, ground := Ground.phase }, { on := 4, ground := Ground.phase }, { on := 5, ground := Ground.phase }, { on := 6, ground := Ground.phase }, { on := 7, ground := Ground.phase }, { on := 8, ground := Ground.phase }, { on := 9, ground := Ground.phase }, { on := 10, ground := Ground.phase }, { on := 11, ground := Ground.phase }, { on := 12, ground := Ground.phase }, { on := 13, ground := Ground.phase }, { on := 14, ground := Ground.phase }, { on := 15, ground := Ground.phase }, { on := 16, ground := Ground.phase }, { on := 17, ground := Ground.phase }, { on := 18, ground := Ground.phase }, { on := 19, ground := Ground.phase }, { on := 20, ground := Ground.phase }], guard := none } : Oper)) (v := ?_) rfl (by kernel_rfl) (by kernel_rfl) (by kernel_rfl) (fun _ _ _ h => h) (Or.inl ⟨by rfl, ?_⟩) hS34 ?_
          rotate_left
          · intro w hSw; (try dsimp only at hSw); go_simp; (try with_reducible rfl)
          simp only [Act.put, List.setIfInBounds_toArray, List.set_cons_zero, List.set_cons_succ]
          refine wpAnyH_done (by kernel_rfl) ?_ _
          have L8 := hid (hnext L30.out hS34.1)
          have BT8 := hid (BT30.out.keep hS34.1)
          have HV8 := hid (HV30.out.below hS34.1)
          clear hS34
          go_wp2_with fail
          go_roundw
          case rel => exact ⟨k + 1, _, by omega, by first | rfl | go_num, rfl, HQ.out, HZ.out, L8.out, BT8.out, HV8.out⟩
          case measure => simp [intOf]; omega
      · obtain rfl : k = t.cs.length := by omega
        have HS2 : Hid (s = bstr (bodyL t)) := by
          have := hs.out
          rw [List.take_length] at this
          exact this
        obtain ⟨s0, s1, s2, g0, g1, g2, sl⟩ := hbt.cells
        have HB := hid hbel
        clear hs hkl hbel hbt hhv g0 g1 g2
        by_cases hbig : 100000 < s.size
        · have hbig' : (100000 : Int) < (s.size : Int) := by omega
          have HR : Hid (body t = []) := by
            show _ = _
            rw [HBY.out, if_pos (by have h := hbig; rw [HS2.out] at h; exact h)]
          clear hbig
          go_wp2_with fail
          go_ret
          rw [HR.out]
          exact ⟨rfl, HB.out⟩
        · have hbig' : ¬ (100000 : Int) < (s.size : Int) := by omega
          have HR : Hid (body t = bodyL t) := by
            show _ = _
            rw [HBY.out, if_neg (by have h := hbig; rw [HS2.out] at h; exact h)]
          clear hbig
          go_wp2_with fail
          go_ret
          rw [HR.out, ← HS2.out]
          exact ⟨rfl, HB.out⟩
end Go.Proofs.Ytmmegicaeaifaaa
