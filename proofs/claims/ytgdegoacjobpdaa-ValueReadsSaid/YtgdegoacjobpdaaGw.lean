/-
  The reference's bytes, guess, Parse: their contracts. Condition: the text has at most 1000000 bytes, and one at least.
-/
import Derived.Test.YtgdegoacjobpdaaGs
namespace Go.Proofs.Ytgdegoacjobpdaa
open Go.RowKit

theorem byte_two (m n : Nat) (hm : m < 16) (hn : n < 16) : Value.int .u8 (IntKind.u8.wrap (IntKind.i64.wrap (IntKind.i64.wrap (16 * (m : Int)) + (n : Int)))) = byteV (UInt8.ofNat (16 * m + n)) := by
  have e0 : IntKind.i64.wrap (16 * (m : Int)) = 16 * (m : Int) := by rw [IntKind.wrap_i64]; omega
  have e1 : IntKind.i64.wrap (16 * (m : Int) + (n : Int)) = 16 * (m : Int) + (n : Int) := by rw [IntKind.wrap_i64]; omega
  rw [e0, e1, IntKind.wrap_u8, ← byte_mod]
  rw [show 16 * (m : Int) + (n : Int) = ((16 * m + n : Nat) : Int) by omega]
theorem append_byte_wp (w : World) {o : Oper} {a : Act} {K : Act → World → Prop} {Q : Exit → Act → World → Prop} (sl x : Operand)
    (ho : o.op = .call { callee := .builtin .append, args := #[sl, x], argTypes := #[54, 54] })
    (B : Nat) (v : Value) (l : List UInt8) (hs : a.eval sl = v) (hown : Own8 w B v l) (c : UInt8) (y : Value) (hy : y = byteV c) (g : Nat) (hg : g = w.heap.size) (hx : a.eval x = .slice (some ⟨g, 0, none⟩) 1 1) (hlen : l.length + 1 ≤ 140737488355328) (hB : B ≤ w.heap.size)
    (h : ∀ v' w', Own8 w' B v' (l ++ [c]) → w.grownBy w' v.ownBlock → K (a.put o.dst v') w') : o.wp Try.prog a (w.alloc (.cells #[y] 5)) K Q := by
  obtain ⟨i0, hi, hz0, hz1, hz2⟩ := info_parts Try.infoByte
  subst hy hg
  refine wp_append_own _ sl x 54 ho B 5 i0 (.int .u8 0) 1 1 Try.underlying54 hi hz0 hz1 hz2 rfl (by decide) v l.length (l.map byteV) hs (hown.alloc _) ⟨w.heap.size, 0, none⟩ 1 1 [byteV c] hx rfl (cell_one_byte w _ _ c rfl) (fun u hu => by rw [List.mem_singleton.1 hu]; rfl) ?_ ?_ ?_ ?_
  · unfold maxLen; omega
  · omega
  · simp; omega
  · intro v' w' hown' hgrow _
    refine h v' w' (by unfold Own8; rw [List.length_append, List.map_append]; exact hown') ?_
    refine ⟨hgrow.os, hgrow.tape, hgrow.output, Nat.le_trans (by simp) hgrow.size, fun k hk hne => ?_⟩
    rw [hgrow.block k (by simp; omega) hne]
    exact Below.heap_alloc w _ k hk
set_option maxRecDepth 100000 in
set_option maxHeartbeats 3200000 in
theorem bytesG120_any (r : List UInt8) (hl : r.length ≤ 999999) (w : World) : Calls Try.prog 52 #[.string (bstr (120 :: r))] w fun e w' => e = .returned (.agg #[.int .i64 4, .int .i64 0, .int .u64 0, .string (bstr (Vl.gP r))]) ∧ Below w.heap.size w w' := by
  obtain ⟨l, hll⟩ : ∃ l, 120 :: r = l := ⟨_, rfl⟩
  have HR : Hid (r = l.drop 1) := by show _ = _; rw [← hll]; rfl
  have hL1 : 1 ≤ l.length := by rw [← hll]; simp
  have hLL : l.length ≤ 1000000 := by rw [← hll]; simp; omega
  have hix0 : ∀ h : 0 < (bstr l).size, (bstr l)[0]'h = 120 := by subst hll; exact fun _ => rfl
  have hs : (bstr l).size = l.length := rfl
  have hL1' : (1 : Int) ≤ (l.length : Int) := by omega
  have hL0' : (0 : Int) < (l.length : Int) := by omega
  rw [hll]
  clear hll
  have bz := BV.new w 0 0 0 ⟨#[]⟩
  have L0 := hba w (.cells #[.int .i64 0, .int .i64 0, .int .u64 0, .string ⟨#[]⟩] 24)
  go_enter Try.func52, Try.ntmps52
  go_wp2_with fail
  go_loopw [4, 3] (fun i v wr => ∃ (j : Nat) (acc : List UInt8), 1 ≤ j ∧ j ≤ l.length ∧ i = .int .i64 (j : Int) ∧ Own8 wr (w.heap.size + 1) v acc ∧ Hid (acc.length ≤ j) ∧ Hid (Vl.gP r = acc ++ Vl.gP (l.drop j)) ∧ BV wr w.heap.size 0 0 0 ⟨#[]⟩ ∧ Below w.heap.size w wr) (fun i _ _ => l.length - (intOf i).toNat)
  case atStart => exact ⟨1, [], by omega, hL1, rfl, World.ownsRow_nil _ _ _ _, Nat.zero_le _, by show _ = _; rw [HR.out]; rfl, bz, L0⟩
  case round =>
    obtain ⟨j, acc, hj1, hj, rfl, hown, hL, hE, bz1, hbel⟩ := hrel
    obtain ⟨w4, rfl⟩ : ∃ w4 : World, w4 = wr := ⟨_, rfl⟩
    clear bz L0
    have HO := hid hown
    have HZ := hid bz1
    have HB := hid hbel
    have HSZ : Hid (w.heap.size + 1 ≤ w4.heap.size) := bz1.cells.2.2.2.2.2.2.2.2
    have hj0 : (0 : Int) ≤ (j : Int) := by omega
    have HLA : Hid (acc.length + 1 ≤ 140737488355328) := by have := hL.out; show _ ≤ _; omega
    have wr1 : IntKind.i64.wrap ((j : Int) + 1) = ((j + 1 : Nat) : Int) := by rw [IntKind.wrap_i64]; omega
    have hj1' : (0 : Int) ≤ (j : Int) + 1 := by omega
    have hj2' : (0 : Int) ≤ (j : Int) + 2 := by omega
    have hj3' : (0 : Int) ≤ (j : Int) + 3 := by omega
    clear hown
    by_cases hjl : j + 1 < l.length
    · clear bz1 hbel
      have hjl' : (j : Int) + 1 < (l.length : Int) := by omega
      have hjl0 : (j : Int) < (l.length : Int) := by omega
      have hidx : ∀ h : j < (bstr l).size, (bstr l)[j]'h = l[j]'(by omega) := fun _ => rfl
      have hidx1 : ∀ h : j + 1 < (bstr l).size, (bstr l)[j + 1]'h = l[j + 1]'hjl := fun _ => rfl
      have HD := hid (hE.out.trans (by rw [List.drop_eq_getElem_cons (show j < l.length by omega), List.drop_eq_getElem_cons hjl]))
      generalize l[j]'(by omega) = a at hidx HD
      generalize l[j + 1]'hjl = b at hidx1 HD
      have HN : Hid (Vl.gP r = (acc ++ [UInt8.ofNat (16 * Vl.digR a + Vl.digR b)]) ++ Vl.gP (l.drop (j + 2))) := by show _ = _; rw [HD.out, List.append_assoc]; rfl
      clear HD hE
      have cd1 := hid (fun W => digitR_any a W)
      have cd2 := hid (fun W => digitR_any b W)
      have HY := hid (byte_mod (16 * Vl.digR a + Vl.digR b))
      have da := Vl.digR_lt a
      have db := Vl.digR_lt b
      generalize Vl.digR a = m at *
      generalize Vl.digR b = n at *
      have da' : (m : Int) < 16 := by omega
      have db' : (n : Int) < 16 := by omega
      have HY2 := hid (byte_two m n da db)
      go_wp2_with fail
      refine wp_region_held_drew (S := fun _ => True) (by kernel_rfl) trivial (fun hS => ?_)
      obtain ⟨w20, hw20⟩ : ∃ w20, w4.drew = w20 := ⟨_, rfl⟩
      have hd20 : Below w4.heap.size w4 w20 := hw20 ▸ (Below.refl _ _).drew
      rw [hw20]
      have O20 : Hid (Own8 w20 (w.heap.size + 1) _ acc) := own_below HO.out hd20
      have Z20 := hid (HZ.out.keep hd20)
      have B20 := hid (hnext HB.out hd20)
      have S20 : Hid (w.heap.size + 1 ≤ w20.heap.size) := Nat.le_trans HSZ.out hd20.size
      clear hd20 hw20 HO HZ HB HSZ
      refine wpAnyH_take (i := 0) (oi := ({ dst := some 16, op := Op.move (Operand.tmp 3), type := 54, pos := "ref.go:225", after := #[], guard := none } : Oper)) (v := ?_) rfl (by kernel_rfl) (by kernel_rfl) (by kernel_rfl) (fun _ _ _ h => h) (Or.inl ⟨by rfl, ?_⟩) hS ?_
      rotate_left
      · intro w hSw; (try dsimp only at hSw); go_simp; (try with_reducible rfl)
      simp only [Act.put, List.setIfInBounds_toArray, List.set_cons_zero, List.set_cons_succ]
      refine wpAnyH_take (i := 1) (oi := ({ dst := some 17, op := Op.move (Operand.tmp 0), type := 9, pos := "ref.go:225", after := #[], guard := none } : Oper)) (v := ?_) rfl (by kernel_rfl) (by kernel_rfl) (by kernel_rfl) (fun _ _ _ h => h) (Or.inl ⟨by rfl, ?_⟩) hS ?_
      rotate_left
      · intro w hSw; (try dsimp only at hSw); go_simp; (try with_reducible rfl)
      simp only [Act.put, List.setIfInBounds_toArray, List.set_cons_zero, List.set_cons_succ]
      refine wpAnyH_take (i := 2) (oi := ({ dst := some 18, op := Op.move (Operand.tmp 4), type := 3, pos := "ref.go:225", after := #[], guard := none } : Oper)) (v := ?_) rfl (by kernel_rfl) (by kernel_rfl) (by kernel_rfl) (fun _ _ _ h => h) (Or.inl ⟨by rfl, ?_⟩) hS ?_
      rotate_left
      · intro w hSw; (try dsimp only at hSw); go_simp; (try with_reducible rfl)
      simp only [Act.put, List.setIfInBounds_toArray, List.set_cons_zero, List.set_cons_succ]
      refine wpAnyH_take (i := 3) (oi := ({ dst := some 19, op := Op.index 9 (Operand.tmp 17) (Operand.tmp 18), type := 5, pos := "ref.go:225", after := #[{ on := 1, ground := Ground.data }, { on := 2, ground := Ground.data }], guard := none } : Oper)) (v := ?_) rfl (by kernel_rfl) (by kernel_rfl) (by kernel_rfl) (fun _ _ _ h => h) (Or.inl ⟨by rfl, ?_⟩) hS ?_
      rotate_left
      · intro w hSw; (try dsimp only at hSw); go_simp; (try with_reducible rfl)
      simp only [Act.put, List.setIfInBounds_toArray, List.set_cons_zero, List.set_cons_succ]
      refine wpAnyH_take (i := 6) (oi := ({ dst := some 22, op := Op.move (Operand.tmp 0), type := 9, pos := "ref.go:225", after := #[], guard := none } : Oper)) (v := ?_) rfl (by kernel_rfl) (by kernel_rfl) (by kernel_rfl) (fun _ _ _ h => h) (Or.inl ⟨by rfl, ?_⟩) hS ?_
      rotate_left
      · intro w hSw; (try dsimp only at hSw); go_simp; (try with_reducible rfl)
      simp only [Act.put, List.setIfInBounds_toArray, List.set_cons_zero, List.set_cons_succ]
      refine wpAnyH_take (i := 7) (oi := ({ dst := some 23, op := Op.move (Operand.tmp 4), type := 3, pos := "ref.go:225", after := #[], guard := none } : Oper)) (v := ?_) rfl (by kernel_rfl) (by kernel_rfl) (by kernel_rfl) (fun _ _ _ h => h) (Or.inl ⟨by rfl, ?_⟩) hS ?_
      rotate_left
      · intro w hSw; (try dsimp only at hSw); go_simp; (try with_reducible rfl)
      simp only [Act.put, List.setIfInBounds_toArray, List.set_cons_zero, List.set_cons_succ]
      refine wpAnyH_take (i := 8) (oi := ({ dst := some 24, op := Op.binOp BinOp.add 3 (Operand.tmp 23) (Operand.const (Value.int IntKind.i64 1)) 3, type := 3, pos := "ref.go:225", after := #[{ on := 7, ground := Ground.data }], guard := none } : Oper)) (v := ?_) rfl (by kernel_rfl) (by kernel_rfl) (by kernel_rfl) (fun _ _ _ h => h) (Or.inl ⟨by rfl, ?_⟩) hS ?_
      rotate_left
      · intro w hSw; (try dsimp only at hSw); go_simp; (try with_reducible rfl)
      simp only [Act.put, List.setIfInBounds_toArray, List.set_cons_zero, List.set_cons_succ]
      refine wpAnyH_take (i := 9) (oi := ({ dst := some 25, op := Op.index 9 (Operand.tmp 22) (Operand.tmp 24), type := 5, pos := "ref.go:225", after := #[{ on := 6, ground := Ground.data }, { on := 8, ground := Ground.data }], guard := none } : Oper)) (v := ?_) rfl (by kernel_rfl) (by kernel_rfl) (by kernel_rfl) (fun _ _ _ h => h) (Or.inl ⟨by rfl, ?_⟩) hS ?_
      rotate_left
      · intro w hSw; (try dsimp only at hSw); go_simp; (try with_reducible rfl)
      simp only [Act.put, List.setIfInBounds_toArray, List.set_cons_zero, List.set_cons_succ]
      refine wpAnyH_ready (rs := [4]) (by kernel_rfl) (by simp) ?_
      refine AllReadyH.cons (o := ({ dst := some 20, op := Op.call { callee := Callee.value (Operand.func 51), args := #[Operand.tmp 19], argTypes := #[5] }, type := 3, pos := "ref.go:225", after := #[{ on := 3, ground := Ground.data }], guard := none } : Oper)) rfl (fun K hK => ?_) AllReadyH.nil
      go_simp
      refine (cd1.out _).mono ?_; rintro e w21 ⟨rfl, b21⟩
      have O21 : Hid (Own8 w21 (w.heap.size + 1) _ acc) := own_below O20.out b21
      have Z21 := hid (Z20.out.keep b21)
      have B21 := hid (hnext B20.out b21)
      have S21 : Hid (w.heap.size + 1 ≤ w21.heap.size) := Nat.le_trans S20.out b21.size
      clear b21 O20 Z20 B20 S20
      go_wp2_with fail
      refine hK.out _ _ trivial (fun _ => ?_)
      clear hK K
      (try simp only [Act.put, List.setIfInBounds_toArray, List.set_cons_zero, List.set_cons_succ])
      refine wpAnyH_take (i := 5) (oi := ({ dst := some 21, op := Op.binOp BinOp.mul 3 (Operand.const (Value.int IntKind.i64 16)) (Operand.tmp 20) 3, type := 3, pos := "ref.go:225", after := #[{ on := 4, ground := Ground.data }], guard := none } : Oper)) (v := ?_) rfl (by kernel_rfl) (by kernel_rfl) (by kernel_rfl) (fun _ _ _ h => h) (Or.inl ⟨by rfl, ?_⟩) hS ?_
      rotate_left
      · intro w hSw; (try dsimp only at hSw); go_simp; (try with_reducible rfl)
      simp only [Act.put, List.setIfInBounds_toArray, List.set_cons_zero, List.set_cons_succ]
      refine wpAnyH_ready (rs := [10]) (by kernel_rfl) (by simp) ?_
      refine AllReadyH.cons (o := ({ dst := some 26, op := Op.call { callee := Callee.value (Operand.func 51), args := #[Operand.tmp 25], argTypes := #[5] }, type := 3, pos := "ref.go:225", after := #[{ on := 9, ground := Ground.data }, { on := 4, ground := Ground.chain }], guard := none } : Oper)) rfl (fun K hK => ?_) AllReadyH.nil
      go_simp
      refine (cd2.out _).mono ?_; rintro e w22 ⟨rfl, b22⟩
      have O22 : Hid (Own8 w22 (w.heap.size + 1) _ acc) := own_below O21.out b22
      have Z22 := hid (Z21.out.keep b22)
      have B22 := hid (hnext B21.out b22)
      have S22 : Hid (w.heap.size + 1 ≤ w22.heap.size) := Nat.le_trans S21.out b22.size
      clear b22 O21 Z21 B21 S21
      go_wp2_with fail
      refine hK.out _ _ trivial (fun _ => ?_)
      clear hK K
      (try simp only [Act.put, List.setIfInBounds_toArray, List.set_cons_zero, List.set_cons_succ])
      refine wpAnyH_take (i := 11) (oi := ({ dst := some 27, op := Op.binOp BinOp.add 3 (Operand.tmp 21) (Operand.tmp 26) 3, type := 3, pos := "ref.go:225", after := #[{ on := 5, ground := Ground.data }, { on := 10, ground := Ground.data }], guard := none } : Oper)) (v := ?_) rfl (by kernel_rfl) (by kernel_rfl) (by kernel_rfl) (fun _ _ _ h => h) (Or.inl ⟨by rfl, ?_⟩) hS ?_
      rotate_left
      · intro w hSw; (try dsimp only at hSw); go_simp; (try with_reducible rfl)
      simp only [Act.put, List.setIfInBounds_toArray, List.set_cons_zero, List.set_cons_succ]
      refine wpAnyH_take (i := 12) (oi := ({ dst := some 28, op := Op.convert 3 5 (Operand.tmp 27), type := 5, pos := "ref.go:225", after := #[{ on := 11, ground := Ground.data }], guard := none } : Oper)) (v := ?_) rfl (by kernel_rfl) (by kernel_rfl) (by kernel_rfl) (fun _ _ _ h => h) (Or.inl ⟨by rfl, ?_⟩) hS ?_
      rotate_left
      · intro w hSw; (try dsimp only at hSw); go_simp; (try with_reducible rfl)
      simp only [Act.put, List.setIfInBounds_toArray, List.set_cons_zero, List.set_cons_succ]
      refine wpAnyH_ready (rs := [13]) (by kernel_rfl) (by simp) ?_
      refine AllReadyH.cons (o := ({ dst := some 29, op := Op.buildSlice 54 1 #[(0, Operand.tmp 28)], type := 54, pos := "ref.go:225", after := #[{ on := 12, ground := Ground.data }], guard := none } : Oper)) rfl (fun K hK => ?_) AllReadyH.nil
      go_simp
      refine hK.out _ _ trivial (fun _ => ?_)
      clear hK K
      (try simp only [Act.put, List.setIfInBounds_toArray, List.set_cons_zero, List.set_cons_succ])
      refine wpAnyH_ready (rs := [14]) (by kernel_rfl) (by simp) ?_
      refine AllReadyH.cons (o := ({ dst := some 30, op := Op.call { callee := Callee.builtin Builtin.append, args := #[Operand.tmp 16, Operand.tmp 29], argTypes := #[54, 54] }, type := 54, pos := "ref.go:225", after := #[{ on := 0, ground := Ground.data }, { on := 13, ground := Ground.data }, { on := 10, ground := Ground.chain }], guard := none } : Oper)) rfl (fun K hK => ?_) AllReadyH.nil
      refine append_byte_wp _ _ _ rfl (w.heap.size + 1) _ acc rfl O22.out (UInt8.ofNat (16 * m + n)) _ (by first | exact HY2.out | exact HY.out) _ rfl rfl HLA.out S22.out ?_
      intro v2 w7 own2 gr2
      have O7 := hid own2
      have Z7 := hid (bv_grow Z22.out gr2 (Nat.lt_succ_self _) O22.out.ge)
      have B7 := hid (Below.grown B22.out gr2 B22.out.size (fun q e => by have := O22.out.ge q e; omega))
      clear own2 gr2 O22 Z22 B22 S22
      refine hK.out _ _ trivial (fun _ => ?_)
      clear hK K
      (try simp only [Act.put, List.setIfInBounds_toArray, List.set_cons_zero, List.set_cons_succ])
      refine wpAnyH_take (i := 15) (oi := ({ dst := some 3, op := Op.assign (Operand.tmp 30), type := 54, pos := "ref.go:225", after := #[{ on := 14, ground := Ground.data }, { on := 14, ground := Ground.chain }, { on := 0, ground := Ground.phase }, { on := 1, ground := Ground.phase }, { on := 2, ground := Ground.phase }, { on := 3, ground := Ground.phase }, { on := 4, ground := Ground.phase }, { on := 5, ground := Ground.phase }, { on := 6, ground := Ground.phase }, { on := 7, ground := Ground.phase }, { on := 8, ground := Ground.phase }, { on := 9, ground := Ground.phase }, { on := 10, ground := Ground.phase }, { on := 11, ground := Ground.phase }, { on := 12, ground := Ground.phase }, { on := 13, ground := Ground.phase }, { on := 14, ground := Ground.phase }], guard := none } : Oper)) (v := ?_) rfl (by kernel_rfl) (by kernel_rfl) (by kernel_rfl) (fun _ _ _ h => h) (Or.inl ⟨by rfl, ?_⟩) hS ?_
      rotate_left
      · intro w hSw; (try dsimp only at hSw); go_simp; (try with_reducible rfl)
      simp only [Act.put, List.setIfInBounds_toArray, List.set_cons_zero, List.set_cons_succ]
      refine wpAnyH_done (by kernel_rfl) ?_ _
      go_wp2_with fail
      go_roundw
      case rel => exact ⟨j + 2, acc ++ [UInt8.ofNat (16 * m + n)], by omega, by omega, by first | rfl | go_num, O7.out, by have := hL.out; show _ ≤ _; rw [List.length_append]; show _ + 1 ≤ _; omega, HN.out, Z7.out, B7.out⟩
      case measure => simp [intOf]; omega
    · have hjl' : ¬ (j : Int) + 1 < (l.length : Int) := by omega
      have HF : Hid (Vl.gP r = acc) := by show _ = _; rw [hE.out, Vl.gP_end _ (by rw [List.length_drop]; omega), List.append_nil]
      obtain ⟨z0, z1, z2, z3, zf0, zf1, zf2, zf3, zl⟩ := bz1.cells
      have hst := run_string_of_bytes (P := Try.prog) w4 (w.heap.size + 1) 54 9 5 _ _ Try.underlying54 Try.underlying5 Try.underlying9 (BytesAt.own HO.out)
      go_wp2_with fail
      refine bodyPost_ret (v := .agg #[.int .i64 4, .int .i64 0, .int .u64 0, .string (bstr acc)]) (by simp [results, Try.results52, go_sem, z0, z1, z2, z3]) rfl ?_
      rw [HF.out]
      exact ⟨rfl, ((((hbel.setCell (p := ⟨w.heap.size, 0, none⟩) (Nat.le_refl _) _).setCell (p := ⟨w.heap.size, 1, none⟩) (Nat.le_refl _) _).setCell (p := ⟨w.heap.size, 2, none⟩) (Nat.le_refl _) _).setCell (p := ⟨w.heap.size, 3, none⟩) (Nat.le_refl _) _)⟩
end Go.Proofs.Ytgdegoacjobpdaa
