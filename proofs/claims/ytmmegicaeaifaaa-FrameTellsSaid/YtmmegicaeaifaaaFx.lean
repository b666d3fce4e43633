/-
  The frames of transactions: the contracts of four and Encode, of the program and of the reference. Conditions: the sizes that the statements hold.
-/
import Derived.Test.YtmmegicaeaifaaaFw
import Derived.Laws.MakeOwn
namespace Go.Proofs.Ytmmegicaeaifaaa
open Go.RowKit Fr

/-- 'string(b)', b a whole block of bytes -/
theorem run_string_block {P : Program} (src dst e : Nat) (l : List UInt8) (cs : Array Value) (fr : Nat × Nat) (hcs : cs = (l.map byteV).toArray) (hs : P.underlying src = some (.slice e)) (he : P.underlying e = some (.int .u8)) (hd : P.underlying dst = some .string) (g n cap : Nat) (hn : l.length = n) :
    ∀ w : World, w.heap[g]? = some (.cells cs e fr) → (convert src dst (.slice (some ⟨g, 0, none⟩) n cap)).run P w = .ok (.string (bstr l)) w := by
  intro w h
  subst hcs
  rw [← hn]
  refine run_convert_bytes_back w src dst e ⟨g, 0, none⟩ cap l hs he hd fun j hj => ?_
  rw [Addr.add_lit, Nat.zero_add, cell_of_row w g j _ e fr h]
  rw [List.getElem?_toArray, List.getElem?_map, List.getElem?_eq_getElem hj]; rfl
/-- four bytes, of which the first k are told -/
def fourAt (b k : Nat) : Array Value := ((List.range 4).map fun i => if i < k then byteV (UInt8.ofNat (b / 256 ^ (3 - i))) else .int .u8 0).toArray
theorem fourAt_zero (b : Nat) : fourAt b 0 = madeCells #[.int .u8 0] 4 := by
  unfold fourAt madeCells
  apply Array.ext
  · simp
  · intro i h1 h2
    simp [Nat.mod_one]
theorem fourAt_get (b k : Nat) (h : k < 4) : (fourAt b k)[k]? = some (.int .u8 0) := by
  unfold fourAt
  simp [h]
theorem fourAt_set (b k : Nat) (h : k < 4) : (fourAt b k).setIfInBounds k (byteV (UInt8.ofNat (b / 256 ^ (3 - k)))) = fourAt b (k + 1) := by
  obtain rfl | rfl | rfl | rfl : k = 0 ∨ k = 1 ∨ k = 2 ∨ k = 3 := by omega
  all_goals rfl
theorem fourAt_full (b : Nat) : fourAt b 4 = ((four b).map byteV).toArray := by
  unfold fourAt four
  show _ = #[byteV _, byteV _, byteV _, byteV _]
  simp [List.range, List.range.loop]
theorem four_eight (n : Nat) : (Cd.eight n).drop 4 = four n := by
  show [UInt8.ofNat (n / 256 ^ 3), UInt8.ofNat (n / 256 ^ 2), UInt8.ofNat (n / 256 ^ 1), UInt8.ofNat (n / 256 ^ 0)] = _
  simp [four]
theorem body_size (t : Tx) : (body t).length ≤ 100000 := by
  unfold body
  split
  · split
    · exact Nat.zero_le _
    · omega
  · exact Nat.zero_le _
theorem frame_no {t : Tx} (h : body t = []) : frame t = [] := by unfold frame; rw [if_pos h]
theorem frame_yes {t : Tx} (h : body t ≠ []) : frame t = four (body t).length ++ Crc.put (body t) := by unfold frame; rw [if_neg h]
theorem byteInfo : (Try.prog.info? 5).map (fun i => (i.zero, i.size, i.bytes)) = some (some (.int .u8 0), 1, 1) := by kernel_rfl
theorem empty_eq (l : List UInt8) : ((bstr l).toList == []) = decide (l = []) := by rw [ByteArray.toList_eq, bstr_toList, Bool.eq_iff_iff]; simp
theorem empty_eq' (l : List UInt8) : (bstr l).toList.isEmpty = decide (l = []) := by rw [ByteArray.toList_eq, bstr_toList]; cases l <;> simp
theorem four_byte (b k : Nat) : (b : Int) / 2 ^ (8 * (3 - k)) % 256 = ((UInt8.ofNat (b / 256 ^ (3 - k))).toNat : Int) := by
  rw [UInt8.toNat_ofNat', show (256 : Nat) ^ (3 - k) = 2 ^ (8 * (3 - k)) by rw [Nat.pow_mul], Int.natCast_emod, Int.natCast_ediv, Int.natCast_pow]
  rfl
set_option maxRecDepth 100000 in
set_option maxHeartbeats 12800000 in
theorem fourR_any (n : Nat) (hn : n ≤ 1000000) (w : World) : Calls Try.prog 45 #[.int .i64 (n : Int)] w fun e w' => e = .returned (.string (bstr (four n))) ∧ Below w.heap.size w w' := by
  have c := hid (fun W => eightR_any n (by omega) W)
  have hw := wrap_u64_pos (n := (n : Int)) (by omega) (by omega)
  have hz : (bstr (Cd.eight n)).size = 8 := Cd.low_length 8 n
  have hx : (bstr (Cd.eight n)).extract 4 8 = bstr (four n) := by
    have := extract_drop (bstr (Cd.eight n)) 4
    rw [← four_eight]
    apply ByteArray.ext
    apply Array.toList_inj.1
    rw [show ((bstr (Cd.eight n)).extract 4 8).data.toList = (bstr (Cd.eight n)).data.toList.drop 4 by rw [← extract_drop, hz]]
    rfl
  have HX := hid hx
  generalize bstr (Cd.eight n) = E at c hz HX
  clear hx
  go_enter Try.func45, Try.ntmps45
  go_wp2_with fail
  refine (c.out _).mono ?_; rintro e w1 ⟨rfl, b1⟩
  go_wp2_with fail
  go_ret
  exact ⟨ret_str' (by first | exact HX.out | (rw [hz]; exact HX.out)), b1⟩
set_option maxRecDepth 100000 in
set_option maxHeartbeats 12800000 in
theorem fencode_any (t : Tx) (v : Value) (w : World) (hv : HsAt w v t.cs) (hk : Hok t.cs) : Calls Try.prog 17 #[tv t v] w fun e w' => e = .returned (.string (bstr (frame t))) ∧ Below w.heap.size w w' := by
  have hbx := hba w (.cells #[.int .i64 t.seq, .int .i64 t.time, v] 24)
  have BX := hid (BT.new w t v)
  have LB := hid hbx
  have cb := hid (fbody_any t v _ (hv.below hbx) hk)
  obtain ⟨adr, cap, rfl⟩ := hv.slc
  clear hv hbx hk
  unfold tv at *
  obtain ⟨s0, s1, s2, g0, g1, g2, sl⟩ := BX.out.cells
  clear g0 g1 g2
  have hq := empty_eq (body t)
  have hq' := empty_eq' (body t)
  have hz := body_size t
  by_cases hb : body t = []
  · rw [decide_eq_true hb] at hq hq'
    have HR := hid (frame_no hb)
    generalize body t = B at cb hq hq'
    clear hb hz
    go_enter Try.func17, Try.ntmps17
    go_wp2_with fail
    refine cb.out.mono ?_; rintro e w1 ⟨rfl, b1⟩
    have L1 := hid (hnext LB.out b1)
    clear b1
    go_wp2_with fail
    go_ret
    rw [HR.out]
    exact ⟨rfl, L1.out⟩
  · rw [decide_eq_false hb] at hq hq'
    have HR := hid (frame_yes hb)
    generalize body t = B at cb hq hq' hz HR
    have cp0 := fun W => put_any (bstr B) W (by rw [bstr_size]; omega)
    rw [bstr_toList] at cp0
    have CP := hid cp0
    have hzb : (bstr B).size = B.length := bstr_size B
    have HZB := hid hzb
    have hzp : (bstr (Crc.put B)).size = B.length + 4 := by rw [bstr_size, Crc.put_length]
    have HFR : Hid (bstr (four B.length) ++ bstr (Crc.put B) = bstr (frame t)) := by
      show _ = _
      rw [HR.out, bstr_append]
    have hzf : (bstr (four B.length)).size = 4 := rfl
    clear cp0 hb HR
    obtain ⟨i0, hi, hz0, hz1, hz2⟩ := info_parts byteInfo
    have hmk : ∀ u : World, (Instr.makeSlice 51 (.int .i64 4) (.int .i64 4)).run Try.prog u =
        .ok (.slice (some ⟨u.heap.size, 0, none⟩) 4 4) (u.alloc (.cells (fourAt B.length 0) 5)) := fun u => by
      have h := run_make (P := Try.prog) u 51 5 i0 (.int .u8 0) Try.underlying51 hi hz0 .i64 .i64 4 4 (by omega) (Int.le_refl _) (by rw [hz2]; omega) (by omega)
      rw [fourAt_zero]
      simpa [hz1, Value.cells] using h
    go_enter Try.func17, Try.ntmps17
    go_wp2_with fail
    refine cb.out.mono ?_; rintro e w1 ⟨rfl, b1⟩
    have L1 := hid (hnext LB.out b1)
    clear b1
    generalize bstr B = BB at *
    generalize B.length = n at *
    go_wp2_with fail
    clear hmk s0 s1 s2 sl
    obtain ⟨gh, hgh⟩ : ∃ gh, w1.heap.size = gh := ⟨_, rfl⟩
    have hgw : w.heap.size ≤ gh := hgh ▸ L1.out.size
    go_loopw [13] (fun i wr => ∃ k : Nat, k ≤ 4 ∧ i = .int .i64 (k : Int) ∧ wr.heap[gh]? = some (.cells (fourAt n k) 5 (0, 0)) ∧ Below w.heap.size w wr) (fun i _ => 4 - (intOf i).toNat)
    case atStart => exact ⟨0, by omega, rfl, hgh ▸ heap_alloc_new _ _, hnext L1.out (hba _ _)⟩
    case round =>
      obtain ⟨k, hk, rfl, hx, hbel⟩ := hrel
      have HX := hid hx
      have HB := hid hbel
      obtain ⟨w4, rfl⟩ : ∃ w4 : World, w4 = wr := ⟨_, rfl⟩
      clear hx hbel
      rw [hgh]
      have hk0 : (0 : Int) ≤ (k : Int) := by omega
      by_cases hlt : k < 4
      · have hcx := cell_of_row w4 gh k _ _ _ HX.out
        rw [fourAt_get n k hlt] at hcx
        have hfx := frozen_of_row w4 gh k _ _ HX.out
        have hSET := hid (fourAt_set n k hlt)
        have hBY := hid (four_byte n k)
        have ws : IntKind.i64.wrap (3 - (k : Int)) = ((3 - k : Nat) : Int) := by rw [IntKind.wrap_i64]; omega
        have wm : IntKind.i64.wrap (8 * ((3 - k : Nat) : Int)) = ((8 * (3 - k) : Nat) : Int) := by rw [IntKind.wrap_i64]; omega
        go_wp2_with fail
        refine ⟨⟨k + 1, by omega, by go_num, ?_, HB.out.setCell hgw _⟩, by simp [intOf]; omega⟩
        rw [← hSET.out, hBY.out]
        exact heap_setCell_same w4 gh k _ _ _ HX.out
      · obtain rfl : k = 4 := by omega
        have HX4 := hid HX.out
        rw [fourAt_full] at HX4
        have hcx := run_string_block (P := Try.prog) 51 9 5 (four n) _ (0, 0) rfl Try.underlying51 Try.underlying5 Try.underlying9 gh 4 4 rfl
        have hx9 : ¬ 9223372036854775807 < (bstr (four n)).size + (bstr (Crc.put B)).size := by omega
        generalize hF : bstr (four n) = F at *
        generalize bstr (Crc.put B) = PB at *
        clear hF hzf hzp hzb
        go_wp2_with fail
        obtain ⟨w20, hw20⟩ : ∃ w20, (w4).drew = w20 := ⟨_, rfl⟩
        have hd20 : Below (w4).heap.size (w4) w20 := hw20 ▸ (Below.refl _ _).drew
        have L20 := hid (hnext HB.out hd20)
        have hx20 := keepBlock HX4.out hd20
        have mk20 : ∀ W, Below w20.heap.size w20 W → Below w20.heap.size w20 W ∧ W.heap[gh]? = some (.cells ((four n).map byteV).toArray 5 (0, 0)) := fun W h => ⟨h, keepBlock hx20 h⟩
        clear hx20
        refine wp_region_held_drew (S := (fun W => Below w20.heap.size w20 W ∧ W.heap[gh]? = some (.cells ((four n).map byteV).toArray 5 (0, 0)))) (by kernel_rfl) (by rw [hw20]; exact mk20 _ (Below.refl _ _)) (fun hS20 => ?_)
        rw [hw20] at hS20 ⊢
        clear hw20
        refine wpAnyH_take (i := 0) (oi := ({ dst := some 27, op := Op.move (Operand.tmp 4), type := 51, pos := "frame.go:95", after := #[], guard := none } : Oper)) (v := ?_) rfl (by kernel_rfl) (by kernel_rfl) (by kernel_rfl) (fun _ _ _ h => h) (Or.inl ⟨by rfl, ?_⟩) hS20 ?_
        rotate_left
        · intro w hSw; (try dsimp only at hSw); go_simp; (try with_reducible rfl)
        simp only [Act.put, List.setIfInBounds_toArray, List.set_cons_zero, List.set_cons_succ]
        refine wpAnyH_take (i := 1) (oi := ({ dst := some 28, op := Op.convert 51 9 (Operand.tmp 27), type := 9, pos := "frame.go:95", after := #[{ on := 0, ground := Ground.data }], guard := none } : Oper)) (v := ?_) rfl (by kernel_rfl) (by kernel_rfl) (by kernel_rfl) (fun _ _ _ h => h) (Or.inl ⟨by rfl, ?_⟩) hS20 ?_
        rotate_left
        · intro w hSw; (try dsimp only at hSw); go_simp; (try with_reducible rfl)
        simp only [Act.put, List.setIfInBounds_toArray, List.set_cons_zero, List.set_cons_succ]
        refine wpAnyH_take (i := 2) (oi := ({ dst := some 29, op := Op.move (Operand.tmp 3), type := 9, pos := "frame.go:95", after := #[], guard := none } : Oper)) (v := ?_) rfl (by kernel_rfl) (by kernel_rfl) (by kernel_rfl) (fun _ _ _ h => h) (Or.inl ⟨by rfl, ?_⟩) hS20 ?_
        rotate_left
        · intro w hSw; (try dsimp only at hSw); go_simp; (try with_reducible rfl)
        simp only [Act.put, List.setIfInBounds_toArray, List.set_cons_zero, List.set_cons_succ]
        refine wpAnyH_ready (rs := [3]) (by kernel_rfl) (by simp) ?_
        refine AllReadyH.cons (o := ({ dst := some 30, op := Op.call { callee := Callee.value (Operand.func 44), args := #[Operand.tmp 29], argTypes := #[9] }, type := 9, pos := "frame.go:95", after := #[{ on := 2, ground := Ground.data }], guard := none } : Oper)) rfl (fun K hK => ?_) AllReadyH.nil
        go_simp
        refine (CP.out _).mono ?_; rintro e w21 ⟨rfl, hb21⟩
        go_wp2_with fail
        refine hK.out _ _ (mk20 _ (hnext hS20.1 hb21)) (fun hS21 => ?_)
        clear hK K
        (try simp only [Act.put, List.setIfInBounds_toArray, List.set_cons_zero, List.set_cons_succ])
        clear hb21 hS20
        refine wpAnyH_take (i := 4) (oi := ({ dst := some 31, op := Op.binOp BinOp.add 9 (Operand.tmp 28) (Operand.tmp 30) 9, type := 9, pos := "frame.go:95", after := #[{ on := 1, ground := Ground.data }, { on := 3, ground := Ground.data }], guard := none } : Oper)) (v := ?_) rfl (by kernel_rfl) (by kernel_rfl) (by kernel_rfl) (fun _ _ _ h => h) (Or.inl ⟨by rfl, ?_⟩) hS21 ?_
        rotate_left
        · intro w hSw; (try dsimp only at hSw); go_simp; (try with_reducible rfl)
        simp only [Act.put, List.setIfInBounds_toArray, List.set_cons_zero, List.set_cons_succ]
        refine wpAnyH_take (i := 5) (oi := ({ dst := some 2, op := Op.assign (Operand.tmp 31), type := 9, pos := "frame.go:95", after := #[{ on := 4, ground := Ground.data }, { on := 3, ground := Ground.chain }, { on := 0, ground := Ground.phase }, { on := 1, ground := Ground.phase }, { on := 2, ground := Ground.phase }, { on := 3, ground := Ground.phase }, { on := 4, ground := Ground.phase }], guard := none } : Oper)) (v := ?_) rfl (by kernel_rfl) (by kernel_rfl) (by kernel_rfl) (fun _ _ _ h => h) (Or.inl ⟨by rfl, ?_⟩) hS21 ?_
        rotate_left
        · intro w hSw; (try dsimp only at hSw); go_simp; (try with_reducible rfl)
        simp only [Act.put, List.setIfInBounds_toArray, List.set_cons_zero, List.set_cons_succ]
        refine wpAnyH_done (by kernel_rfl) ?_ _
        go_wp2_with fail
        go_ret
        exact ⟨ret_str' HFR.out, hnext L20.out hS21.1⟩
set_option maxRecDepth 100000 in
set_option maxHeartbeats 12800000 in
theorem fencodeR_any (t : Tx) (v : Value) (w : World) (hv : HsAt w v t.cs) (hk : Hok t.cs) : Calls Try.prog 18 #[tv t v] w fun e w' => e = .returned (.string (bstr (frame t))) ∧ Below w.heap.size w w' := by
  have hbx := hba w (.cells #[.int .i64 t.seq, .int .i64 t.time, v] 24)
  have BX := hid (BT.new w t v)
  have LB := hid hbx
  have cb := hid (fbodyR_any t v _ (hv.below hbx) hk)
  obtain ⟨adr, cap, rfl⟩ := hv.slc
  clear hv hbx hk
  unfold tv at *
  obtain ⟨s0, s1, s2, g0, g1, g2, sl⟩ := BX.out.cells
  clear g0 g1 g2
  have hq := empty_eq (body t)
  have hq' := empty_eq' (body t)
  have hz := body_size t
  by_cases hb : body t = []
  · rw [decide_eq_true hb] at hq hq'
    have HR := hid (frame_no hb)
    generalize body t = B at cb hq hq'
    clear hb hz
    go_enter Try.func18, Try.ntmps18
    go_wp2_with fail
    refine cb.out.mono ?_; rintro e w1 ⟨rfl, b1⟩
    have L1 := hid (hnext LB.out b1)
    clear b1
    go_wp2_with fail
    go_ret
    rw [HR.out]
    exact ⟨rfl, L1.out⟩
  · rw [decide_eq_false hb] at hq hq'
    have HR := hid (frame_yes hb)
    generalize body t = B at cb hq hq' hz HR
    have cp0 := fun W => putR_any (bstr B) W (by rw [bstr_size]; omega)
    rw [bstr_toList] at cp0
    have CP := hid cp0
    have hzb : (bstr B).size = B.length := bstr_size B
    have HZB := hid hzb
    have hzp : (bstr (Crc.put B)).size = B.length + 4 := by rw [bstr_size, Crc.put_length]
    have HFR : Hid (bstr (four B.length) ++ bstr (Crc.put B) = bstr (frame t)) := by
      show _ = _
      rw [HR.out, bstr_append]
    have hzf : (bstr (four B.length)).size = 4 := rfl
    clear cp0 hb HR
    have cf := hid (fun W => fourR_any B.length (by omega) W)
    have hx9 : ¬ 9223372036854775807 < (bstr (four B.length)).size + (bstr (Crc.put B)).size := by omega
    go_enter Try.func18, Try.ntmps18
    go_wp2_with fail
    refine cb.out.mono ?_; rintro e w1 ⟨rfl, b1⟩
    have L1 := hid (hnext LB.out b1)
    clear b1
    generalize bstr (four B.length) = F at *
    generalize bstr (Crc.put B) = PB at *
    generalize bstr B = BB at *
    generalize B.length = n at *
    go_wp2_with fail
    refine (cf.out _).mono ?_; rintro e w2 ⟨rfl, b2⟩
    have L2 := hid (hnext L1.out b2)
    clear b2
    go_wp2_with fail
    refine (CP.out _).mono ?_; rintro e w3 ⟨rfl, b3⟩
    have L3 := hid (hnext L2.out b3)
    clear b3
    go_wp2_with fail
    go_ret
    exact ⟨ret_str' HFR.out, L3.out⟩
end Go.Proofs.Ytmmegicaeaifaaa
