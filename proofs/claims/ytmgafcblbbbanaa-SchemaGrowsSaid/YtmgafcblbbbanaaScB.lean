/-
  Encode of schema, and the reference's: their contracts. Condition: the texts have at most 2^63 - 1 bytes.
-/
import Derived.Test.YtmgafcblbbbanaaScQ
import Derived.Test.YtmgafcblbbbanaaCdI
namespace Go.Proofs.Ytmgafcblbbbanaa
open Go.RowKit
namespace Sc
/-- a column's bytes -/
def colB (c : C) : List UInt8 := Cd.text c.name ++ (Cd.enc c.kind.toNat ++ Cd.enc (if c.need = true then 1 else 0))
def headB (s : S) : List UInt8 := Cd.text s.name ++ (Cd.enc s.keys.toNat ++ Cd.enc s.cols.length)
def encTo (s : S) (k : Nat) : List UInt8 := headB s ++ (s.cols.take k).flatMap colB
/-- a schema's bytes -/
def encode (s : S) : List UInt8 := if right s = true then headB s ++ s.cols.flatMap colB else []
theorem encTo_next (s : S) (k : Nat) (hk : k < s.cols.length) : encTo s (k + 1) = encTo s k ++ colB s.cols[k] := by
  unfold encTo
  rw [List.take_succ_eq_append_getElem hk, List.flatMap_append, List.append_assoc]
  simp
theorem encTo_all (s : S) (h : right s = true) : encTo s s.cols.length = encode s := by
  unfold encTo encode
  rw [if_pos h, List.take_length]
theorem good1_of {s : S} (h : goodTo s s.cols.length = true) (k : Nat) (hk : k < s.cols.length) : good1 s k = true := by
  have h1 := goodTo_le (s.cols.length - (k + 1)) (by rw [show k + 1 + (s.cols.length - (k + 1)) = s.cols.length from by omega]; exact h)
  unfold goodTo at h1
  simp only [Bool.and_eq_true] at h1
  exact h1.2
theorem right_col {s : S} (h : right s = true) (k : Nat) (hk : k < s.cols.length) : s.cols[k].name.size ≤ 32 ∧ 1 ≤ s.cols[k].kind ∧ s.cols[k].kind ≤ 5 := by
  unfold right at h
  simp only [Bool.and_eq_true, decide_eq_true_eq] at h
  have h1 := good1_of h.2 k hk
  rw [good1_at s k hk] at h1
  unfold colOk at h1
  simp only [Bool.and_eq_true, decide_eq_true_eq] at h1
  obtain ⟨⟨⟨⟨a1, a2⟩, a3⟩, _⟩, _⟩ := h1
  exact ⟨(name_len a1).2, a2, a3⟩
theorem right_head {s : S} (h : right s = true) : s.name.size ≤ 32 ∧ 1 ≤ s.keys ∧ s.keys ≤ 8 ∧ s.cols.length ≤ 16 := by
  unfold right at h
  simp only [Bool.and_eq_true, decide_eq_true_eq] at h
  obtain ⟨⟨⟨⟨⟨a1, a2⟩, a3⟩, a4⟩, _⟩, _⟩ := h
  exact ⟨(name_len a1).2, a3, a4, a2⟩
theorem encode_no {s : S} (h : right s = false) : encode s = [] := by unfold encode; rw [h, if_neg (by decide)]
end Sc
theorem text_small (s : ByteArray) (h : s.size ≤ 32) : (bstr (Cd.text s)).size ≤ 42 := by
  rw [← text_bstr, ByteArray.size_append]
  have := (Cd.enc_length s.size).2
  rw [bstr_size]; omega
theorem enc_small (n : Nat) : (bstr (Cd.enc n)).size ≤ 10 := (Cd.enc_length n).2

set_option maxRecDepth 100000 in
set_option maxHeartbeats 12800000 in
theorem encode_any (s : Sc.S) (v : Value) (w : World) (h : CsAt w v s.cols) (hsz : Sok s) :
    Calls Try.prog 19 #[sv s v] w fun e w' => e = .returned (.string (bstr (Sc.encode s))) ∧ Below w.heap.size w w' := by
  have hbox := hba w (.cells #[.string s.name, v, .int .i64 s.keys] 24)
  have hR := hid (right_sc s v _ (h.below hbox) hsz)
  obtain ⟨adr, cap, rfl, hc1, hc2, hc⟩ := h
  have HC := hid hc
  unfold maxLen at hc2
  have HBOX := hid hbox
  have HS0 := hid (BS.new w s.name (.slice adr s.cols.length cap) s.keys)
  have hno := hid (fun h => Sc.encode_no (s := s) h)
  have hhd := hid (fun h => Sc.right_head (s := s) h)
  have hcol := hid (fun h => Sc.right_col (s := s) h)
  have hall := hid (fun h => Sc.encTo_all s h)
  have hnx := hid (fun k hk => Sc.encTo_next s k hk)
  have h0 : Hid (bstr (Cd.text s.name) ++ bstr (Cd.enc s.keys.toNat) ++ bstr (Cd.enc s.cols.length) = bstr (Sc.encTo s 0)) := by
    show _ = _
    unfold Sc.encTo Sc.headB
    rw [bstr_append, bstr_append]
    simp
  clear hbox hc hsz
  cases hr : Sc.right s
  · rw [hr] at hR
    have HE := hid (hno.out hr)
    clear hr hno hhd hcol hall hnx h0
    unfold sv at hR ⊢
    go_enter Try.func19, Try.ntmps19
    go_wp2_with fail
    refine (hR.out).mono ?_; rintro e w1 ⟨rfl, hb1⟩
    go_wp2_with fail
    go_ret
    rw [HE.out]
    exact ⟨rfl, hnext HBOX.out hb1⟩
  rw [hr] at hR
  obtain ⟨z1, z2, z3, z4⟩ := hhd.out hr
  have HCOL := hid (hcol.out hr)
  have HALL := hid (hall.out hr)
  clear hhd hcol hall hno hr
  unfold sv at hR ⊢
  obtain ⟨nm, cs, ks⟩ := s
  simp only at hR HC hc1 HBOX HS0 z1 z2 z3 z4 HCOL HALL hnx h0 ⊢
  obtain ⟨kn, rfl⟩ : ∃ kn : Nat, ks = (kn : Int) := ⟨ks.toNat, by omega⟩
  rw [Int.toNat_natCast] at h0
  have hA := text_small nm z1
  have hK := enc_small kn
  have hN := enc_small cs.length
  have CA := hid (fun W => text_any nm (by omega) W)
  have CK := hid (fun W => uint_any kn (by omega) W)
  have CN := hid (fun W => uint_any cs.length (by omega) W)
  generalize bstr (Cd.text nm) = A at CA hA h0
  generalize bstr (Cd.enc kn) = K at CK hK h0
  generalize bstr (Cd.enc cs.length) = N at CN hN h0
  have hcvk : IntKind.u64.wrap (kn : Int) = (kn : Int) := by rw [IntKind.wrap_u64]; omega
  have hcvn : IntKind.u64.wrap (cs.length : Int) = (cs.length : Int) := by rw [IntKind.wrap_u64]; omega
  have hx1 : ¬ 9223372036854775807 < A.size + K.size := by omega
  have hx2 : ¬ 9223372036854775807 < A.size + K.size + N.size := by omega
  have hT0 : (A ++ K ++ N).size ≤ 62 := by rw [ByteArray.size_append, ByteArray.size_append]; omega
  have HT0 := hid hT0
  have Z4 := hid z4
  clear z1 z2 z3 z4 hA hK hN hT0
  go_enter Try.func19, Try.ntmps19
  go_wp2_with fail
  refine (hR.out).mono ?_; rintro e w1 ⟨rfl, hb1⟩
  have hS1 := HS0.out.keep hb1
  have hB1 := hid (hnext HBOX.out hb1)
  clear hb1 HS0 HBOX hR
  obtain ⟨s0, s1, s2, sl⟩ := hS1.cells
  go_wp2_with fail
  obtain ⟨w20, hw20⟩ : ∃ w20, (w1).drew = w20 := ⟨_, rfl⟩
  have hd20 : Below (w1).heap.size (w1) w20 := hw20 ▸ (Below.refl _ _).drew
  have mk20 : ∀ W, Below w20.heap.size w20 W → Below w20.heap.size w20 W ∧ W.cell? ⟨w.heap.size, 0, none⟩ = some (.string nm) ∧ W.cell? ⟨w.heap.size, 1, none⟩ = some (.slice adr cs.length cap) ∧ W.cell? ⟨w.heap.size, 2, none⟩ = some (.int .i64 (kn : Int)) := fun W h => ⟨h, hkeep (hkeep s0 hd20) h, hkeep (hkeep s1 hd20) h, hkeep (hkeep s2 hd20) h⟩
  have HS20 := hid (hS1.keep hd20)
  have HB20 := hid (hnext hB1.out hd20)
  clear s0 s1 s2 sl hS1 hB1 hd20
  refine wp_region_held_drew (S := (fun W => Below w20.heap.size w20 W ∧ W.cell? ⟨w.heap.size, 0, none⟩ = some (.string nm) ∧ W.cell? ⟨w.heap.size, 1, none⟩ = some (.slice adr cs.length cap) ∧ W.cell? ⟨w.heap.size, 2, none⟩ = some (.int .i64 (kn : Int)))) (by kernel_rfl) (by rw [hw20]; exact mk20 _ (Below.refl _ _)) (fun hS20 => ?_)
  rw [hw20] at hS20 ⊢
  clear hw20
  refine wpAnyH_take (i := 0) (oi := ({ dst := some 10, op := Op.fieldAddr 24 (Operand.tmp 1) 0, type := 0, pos := "schema.go:122", after := #[], guard := none } : Oper)) (v := ?_) rfl (by kernel_rfl) (by kernel_rfl) (by kernel_rfl) (fun _ _ _ h => h) (Or.inl ⟨by rfl, ?_⟩) hS20 ?_
  rotate_left
  · intro w hSw; (try dsimp only at hSw); go_simp; (try with_reducible rfl)
  simp only [Act.put, List.setIfInBounds_toArray, List.set_cons_zero, List.set_cons_succ]
  refine wpAnyH_take (i := 1) (oi := ({ dst := some 11, op := Op.load 9 (Operand.tmp 10), type := 9, pos := "schema.go:122", after := #[{ on := 0, ground := Ground.data }], guard := none } : Oper)) (v := ?_) rfl (by kernel_rfl) (by kernel_rfl) (by kernel_rfl) (fun _ _ _ h => h) (Or.inl ⟨by rfl, ?_⟩) hS20 ?_
  rotate_left
  · intro w hSw; (try dsimp only at hSw); go_simp; (try with_reducible rfl)
  simp only [Act.put, List.setIfInBounds_toArray, List.set_cons_zero, List.set_cons_succ]
  refine wpAnyH_take (i := 3) (oi := ({ dst := some 13, op := Op.fieldAddr 24 (Operand.tmp 1) 2, type := 0, pos := "schema.go:122", after := #[], guard := none } : Oper)) (v := ?_) rfl (by kernel_rfl) (by kernel_rfl) (by kernel_rfl) (fun _ _ _ h => h) (Or.inl ⟨by rfl, ?_⟩) hS20 ?_
  rotate_left
  · intro w hSw; (try dsimp only at hSw); go_simp; (try with_reducible rfl)
  simp only [Act.put, List.setIfInBounds_toArray, List.set_cons_zero, List.set_cons_succ]
  refine wpAnyH_take (i := 4) (oi := ({ dst := some 14, op := Op.load 3 (Operand.tmp 13), type := 3, pos := "schema.go:122", after := #[{ on := 3, ground := Ground.data }], guard := none } : Oper)) (v := ?_) rfl (by kernel_rfl) (by kernel_rfl) (by kernel_rfl) (fun _ _ _ h => h) (Or.inl ⟨by rfl, ?_⟩) hS20 ?_
  rotate_left
  · intro w hSw; (try dsimp only at hSw); go_simp; (try with_reducible rfl)
  simp only [Act.put, List.setIfInBounds_toArray, List.set_cons_zero, List.set_cons_succ]
  refine wpAnyH_take (i := 5) (oi := ({ dst := some 15, op := Op.convert 3 44 (Operand.tmp 14), type := 44, pos := "schema.go:122", after := #[{ on := 4, ground := Ground.data }], guard := none } : Oper)) (v := ?_) rfl (by kernel_rfl) (by kernel_rfl) (by kernel_rfl) (fun _ _ _ h => h) (Or.inl ⟨by rfl, ?_⟩) hS20 ?_
  rotate_left
  · intro w hSw; (try dsimp only at hSw); go_simp; (try with_reducible rfl)
  simp only [Act.put, List.setIfInBounds_toArray, List.set_cons_zero, List.set_cons_succ]
  refine wpAnyH_take (i := 8) (oi := ({ dst := some 18, op := Op.fieldAddr 24 (Operand.tmp 1) 1, type := 0, pos := "schema.go:122", after := #[], guard := none } : Oper)) (v := ?_) rfl (by kernel_rfl) (by kernel_rfl) (by kernel_rfl) (fun _ _ _ h => h) (Or.inl ⟨by rfl, ?_⟩) hS20 ?_
  rotate_left
  · intro w hSw; (try dsimp only at hSw); go_simp; (try with_reducible rfl)
  simp only [Act.put, List.setIfInBounds_toArray, List.set_cons_zero, List.set_cons_succ]
  refine wpAnyH_take (i := 9) (oi := ({ dst := some 19, op := Op.load 22 (Operand.tmp 18), type := 22, pos := "schema.go:122", after := #[{ on := 8, ground := Ground.data }], guard := none } : Oper)) (v := ?_) rfl (by kernel_rfl) (by kernel_rfl) (by kernel_rfl) (fun _ _ _ h => h) (Or.inl ⟨by rfl, ?_⟩) hS20 ?_
  rotate_left
  · intro w hSw; (try dsimp only at hSw); go_simp; (try with_reducible rfl)
  simp only [Act.put, List.setIfInBounds_toArray, List.set_cons_zero, List.set_cons_succ]
  refine wpAnyH_take (i := 10) (oi := ({ dst := some 20, op := Op.call { callee := Callee.builtin Builtin.len, args := #[Operand.tmp 19], argTypes := #[22] }, type := 3, pos := "schema.go:122", after := #[{ on := 9, ground := Ground.data }], guard := none } : Oper)) (v := ?_) rfl (by kernel_rfl) (by kernel_rfl) (by kernel_rfl) (fun _ _ _ h => h) (Or.inl ⟨by rfl, ?_⟩) hS20 ?_
  rotate_left
  · intro w hSw; (try dsimp only at hSw); go_simp; (try with_reducible rfl)
  simp only [Act.put, List.setIfInBounds_toArray, List.set_cons_zero, List.set_cons_succ]
  refine wpAnyH_take (i := 11) (oi := ({ dst := some 21, op := Op.convert 3 44 (Operand.tmp 20), type := 44, pos := "schema.go:122", after := #[{ on := 10, ground := Ground.data }], guard := none } : Oper)) (v := ?_) rfl (by kernel_rfl) (by kernel_rfl) (by kernel_rfl) (fun _ _ _ h => h) (Or.inl ⟨by rfl, ?_⟩) hS20 ?_
  rotate_left
  · intro w hSw; (try dsimp only at hSw); go_simp; (try with_reducible rfl)
  simp only [Act.put, List.setIfInBounds_toArray, List.set_cons_zero, List.set_cons_succ]
  refine wpAnyH_ready (rs := [2]) (by kernel_rfl) (by simp) ?_
  refine AllReadyH.cons (o := ({ dst := some 12, op := Op.call { callee := Callee.value (Operand.func 31), args := #[Operand.tmp 11], argTypes := #[9] }, type := 9, pos := "schema.go:122", after := #[{ on := 1, ground := Ground.data }], guard := none } : Oper)) rfl (fun K hK => ?_) AllReadyH.nil
  go_simp
  refine (CA.out _).mono ?_; rintro e w21 ⟨rfl, hb21⟩
  go_wp2_with fail
  refine hK.out _ _ (mk20 _ (hnext hS20.1 hb21)) (fun hS21 => ?_)
  clear hK K
  (try simp only [Act.put, List.setIfInBounds_toArray, List.set_cons_zero, List.set_cons_succ])
  clear hb21 hS20
  refine wpAnyH_ready (rs := [6]) (by kernel_rfl) (by simp) ?_
  refine AllReadyH.cons (o := ({ dst := some 16, op := Op.call { callee := Callee.value (Operand.func 32), args := #[Operand.tmp 15], argTypes := #[44] }, type := 9, pos := "schema.go:122", after := #[{ on := 5, ground := Ground.data }, { on := 2, ground := Ground.chain }], guard := none } : Oper)) rfl (fun K hK => ?_) AllReadyH.nil
  go_simp
  refine (CK.out _).mono ?_; rintro e w22 ⟨rfl, hb22⟩
  go_wp2_with fail
  refine hK.out _ _ (mk20 _ (hnext hS21.1 hb22)) (fun hS22 => ?_)
  clear hK K
  (try simp only [Act.put, List.setIfInBounds_toArray, List.set_cons_zero, List.set_cons_succ])
  clear hb22 hS21
  refine wpAnyH_take (i := 7) (oi := ({ dst := some 17, op := Op.binOp BinOp.add 9 (Operand.tmp 12) (Operand.tmp 16) 9, type := 9, pos := "schema.go:122", after := #[{ on := 2, ground := Ground.data }, { on := 6, ground := Ground.data }], guard := none } : Oper)) (v := ?_) rfl (by kernel_rfl) (by kernel_rfl) (by kernel_rfl) (fun _ _ _ h => h) (Or.inl ⟨by rfl, ?_⟩) hS22 ?_
  rotate_left
  · intro w hSw; (try dsimp only at hSw); go_simp; (try with_reducible rfl)
  simp only [Act.put, List.setIfInBounds_toArray, List.set_cons_zero, List.set_cons_succ]
  refine wpAnyH_ready (rs := [12]) (by kernel_rfl) (by simp) ?_
  refine AllReadyH.cons (o := ({ dst := some 22, op := Op.call { callee := Callee.value (Operand.func 32), args := #[Operand.tmp 21], argTypes := #[44] }, type := 9, pos := "schema.go:122", after := #[{ on := 11, ground := Ground.data }, { on := 6, ground := Ground.chain }], guard := none } : Oper)) rfl (fun K hK => ?_) AllReadyH.nil
  go_simp
  refine (CN.out _).mono ?_; rintro e w23 ⟨rfl, hb23⟩
  go_wp2_with fail
  refine hK.out _ _ (mk20 _ (hnext hS22.1 hb23)) (fun hS23 => ?_)
  clear hK K
  (try simp only [Act.put, List.setIfInBounds_toArray, List.set_cons_zero, List.set_cons_succ])
  clear hb23 hS22
  refine wpAnyH_take (i := 13) (oi := ({ dst := some 23, op := Op.binOp BinOp.add 9 (Operand.tmp 17) (Operand.tmp 22) 9, type := 9, pos := "schema.go:122", after := #[{ on := 7, ground := Ground.data }, { on := 12, ground := Ground.data }], guard := none } : Oper)) (v := ?_) rfl (by kernel_rfl) (by kernel_rfl) (by kernel_rfl) (fun _ _ _ h => h) (Or.inl ⟨by rfl, ?_⟩) hS23 ?_
  rotate_left
  · intro w hSw; (try dsimp only at hSw); go_simp; (try with_reducible rfl)
  simp only [Act.put, List.setIfInBounds_toArray, List.set_cons_zero, List.set_cons_succ]
  refine wpAnyH_take (i := 14) (oi := ({ dst := some 3, op := Op.assign (Operand.tmp 23), type := 9, pos := "schema.go:122", after := #[{ on := 13, ground := Ground.data }, { on := 12, ground := Ground.chain }, { on := 0, ground := Ground.phase }, { on := 1, ground := Ground.phase }, { on := 2, ground := Ground.phase }, { on := 3, ground := Ground.phase }, { on := 4, ground := Ground.phase }, { on := 5, ground := Ground.phase }, { on := 6, ground := Ground.phase }, { on := 7, ground := Ground.phase }, { on := 8, ground := Ground.phase }, { on := 9, ground := Ground.phase }, { on := 10, ground := Ground.phase }, { on := 11, ground := Ground.phase }, { on := 12, ground := Ground.phase }, { on := 13, ground := Ground.phase }], guard := none } : Oper)) (v := ?_) rfl (by kernel_rfl) (by kernel_rfl) (by kernel_rfl) (fun _ _ _ h => h) (Or.inl ⟨by rfl, ?_⟩) hS23 ?_
  rotate_left
  · intro w hSw; (try dsimp only at hSw); go_simp; (try with_reducible rfl)
  simp only [Act.put, List.setIfInBounds_toArray, List.set_cons_zero, List.set_cons_succ]
  refine wpAnyH_done (by kernel_rfl) ?_ _
  have hS1 := HS20.out.keep hS23.1
  have HL1 := hid (hnext HB20.out hS23.1)
  obtain ⟨s0, s1, s2, sl⟩ := hS1.cells
  clear mk20
  clear CA CK CN hcvk hcvn hx1 hx2 HS20 HB20
  go_wp2_with fail
  clear s0 s1 s2 sl
  generalize A ++ K ++ N = T0 at h0 HT0
  go_loopw [3, 27] (fun b q wr => ∃ (k : Nat) (t : ByteArray), k ≤ cs.length ∧ q = .int .i64 (k : Int) ∧ b = .string t ∧ Hid (t = bstr (Sc.encTo ⟨nm, cs, (kn : Int)⟩ k)) ∧ t.size ≤ 62 + 62 * k ∧ BS wr w.heap.size nm (.slice adr cs.length cap) (kn : Int) ∧ Hid (Below w.heap.size w wr)) (fun _ q _ => cs.length - (intOf q).toNat)
  case atStart => exact ⟨0, T0, by omega, rfl, rfl, h0, by have := HT0.out; omega, hS1, HL1⟩
  case round =>
    obtain ⟨k, t, hk, rfl, rfl, ht, hts, hS, hL⟩ := hrel
    clear hS1 HL1 h0 HT0
    obtain ⟨w4, rfl⟩ : ∃ w4 : World, w4 = wr := ⟨_, rfl⟩
    have hk0 : (0 : Int) ≤ (k : Int) := by omega
    obtain ⟨s0, s1, s2, sl⟩ := hS.cells
    by_cases hlk : k < cs.length
    · have hlk' : (k : Int) < (cs.length : Int) := by omega
      obtain ⟨g, off, rfl, q0, q1, q2⟩ := HC.out k hlk
      replace q0 := hkeep q0 hL.out
      replace q1 := hkeep q1 hL.out
      replace q2 := hkeep q2 hL.out
      obtain ⟨y1, y2, y3⟩ := HCOL.out k hlk
      have HNX := hid (hnx.out k hlk)
      have hk16 : k < 16 := by have := Z4.out; omega
      generalize cs[k] = c at q0 q1 q2 y1 y2 y3 HNX
      have hba4 := hba w4 (.cells #[.string c.name, .int .i64 c.kind, .bool c.need] 49)
      have hC5 := BC.new w4 c
      have hS5 := hS.keep hba4
      have HL5 := hid (hnext hL.out hba4)
      clear hba4 hS hL
      obtain ⟨cn, ck, cd⟩ := c
      simp only at q0 q1 q2 y1 y2 y3 HNX hC5 hS5 HL5
      obtain ⟨kk, rfl⟩ : ∃ kk : Nat, ck = (kk : Int) := ⟨ck.toNat, by omega⟩
      cases cd
      · skip
        have CA := hid (fun W => text_any cn (by omega) W)
        have CK := hid (fun W => uint_any kk (by omega) W)
        have CN := hid (fun W => uint_any 0 (by omega) W)
        rw [show ((0 : Nat) : Int) = 0 from rfl] at CN
        have hA := text_small cn y1
        have hK := enc_small kk
        have hN := enc_small 0
        have HQ : Hid (t ++ (bstr (Cd.text cn) ++ bstr (Cd.enc kk) ++ bstr (Cd.enc 0)) = bstr (Sc.encTo ⟨nm, cs, (kn : Int)⟩ (k + 1))) := by
          show _ = _
          rw [HNX.out, ht.out]
          unfold Sc.colB
          simp only [bstr_append, List.append_assoc, Int.toNat_natCast, Bool.false_eq_true, if_false]
        generalize bstr (Cd.text cn) = A at CA hA HQ
        generalize bstr (Cd.enc kk) = K at CK hK HQ
        generalize bstr (Cd.enc 0) = N at CN hN HQ
        have hcvk : IntKind.u64.wrap (kk : Int) = (kk : Int) := by rw [IntKind.wrap_u64]; omega
        have hx0 : ¬ 9223372036854775807 < A.size + K.size := by omega
        have hx1 : ¬ 9223372036854775807 < A.size + K.size + N.size := by omega
        have hx2 : ¬ 9223372036854775807 < t.size + (A.size + K.size + N.size) := by omega
        have HQS := hid (show (t ++ (A ++ K ++ N)).size ≤ 62 + 62 * (k + 1) by simp only [ByteArray.size_append]; omega)
        clear hA hK hN y1 y2 y3 HNX ht
        go_wp2_with fail
        obtain ⟨cb, hcb⟩ : ∃ cb, w4.heap.size = cb := ⟨_, rfl⟩
        rw [hcb] at hC5
        rw [hcb]
        generalize w4.alloc (.cells #[.string cn, .int .i64 (kk : Int), .bool false] 49) = w5 at *
        clear hcb q0 q1 q2 s0 s1 s2 sl
        obtain ⟨t0, t1, t2, tl⟩ := hC5.cells
        obtain ⟨w30, hw30⟩ : ∃ w30, (w5).drew = w30 := ⟨_, rfl⟩
        have hd30 : Below (w5).heap.size (w5) w30 := hw30 ▸ (Below.refl _ _).drew
        have mk30 : ∀ W, Below w30.heap.size w30 W → Below w30.heap.size w30 W ∧ W.cell? ⟨cb, 0, none⟩ = some (.string cn) ∧ W.cell? ⟨cb, 1, none⟩ = some (.int .i64 (kk : Int)) ∧ W.cell? ⟨cb, 2, none⟩ = some (.bool false) := fun W h => ⟨h, hkeep (hkeep t0 hd30) h, hkeep (hkeep t1 hd30) h, hkeep (hkeep t2 hd30) h⟩
        have HS30 := hid (hS5.keep hd30)
        have HB30 := hid (hnext HL5.out hd30)
        clear t0 t1 t2 tl hS5 HL5 hC5 hd30
        refine wp_region_held_drew (S := (fun W => Below w30.heap.size w30 W ∧ W.cell? ⟨cb, 0, none⟩ = some (.string cn) ∧ W.cell? ⟨cb, 1, none⟩ = some (.int .i64 (kk : Int)) ∧ W.cell? ⟨cb, 2, none⟩ = some (.bool false))) (by kernel_rfl) (by rw [hw30]; exact mk30 _ (Below.refl _ _)) (fun hS30 => ?_)
        rw [hw30] at hS30 ⊢
        clear hw30
        refine wpAnyH_take (i := 0) (oi := ({ dst := some 33, op := Op.move (Operand.tmp 3), type := 9, pos := "schema.go:128", after := #[], guard := none } : Oper)) (v := ?_) rfl (by kernel_rfl) (by kernel_rfl) (by kernel_rfl) (fun _ _ _ h => h) (Or.inl ⟨by rfl, ?_⟩) hS30 ?_
        rotate_left
        · intro w hSw; (try dsimp only at hSw); go_simp; (try with_reducible rfl)
        simp only [Act.put, List.setIfInBounds_toArray, List.set_cons_zero, List.set_cons_succ]
        refine wpAnyH_take (i := 1) (oi := ({ dst := some 34, op := Op.fieldAddr 49 (Operand.tmp 5) 0, type := 0, pos := "schema.go:128", after := #[], guard := none } : Oper)) (v := ?_) rfl (by kernel_rfl) (by kernel_rfl) (by kernel_rfl) (fun _ _ _ h => h) (Or.inl ⟨by rfl, ?_⟩) hS30 ?_
        rotate_left
        · intro w hSw; (try dsimp only at hSw); go_simp; (try with_reducible rfl)
        simp only [Act.put, List.setIfInBounds_toArray, List.set_cons_zero, List.set_cons_succ]
        refine wpAnyH_take (i := 2) (oi := ({ dst := some 35, op := Op.load 9 (Operand.tmp 34), type := 9, pos := "schema.go:128", after := #[{ on := 1, ground := Ground.data }], guard := none } : Oper)) (v := ?_) rfl (by kernel_rfl) (by kernel_rfl) (by kernel_rfl) (fun _ _ _ h => h) (Or.inl ⟨by rfl, ?_⟩) hS30 ?_
        rotate_left
        · intro w hSw; (try dsimp only at hSw); go_simp; (try with_reducible rfl)
        simp only [Act.put, List.setIfInBounds_toArray, List.set_cons_zero, List.set_cons_succ]
        refine wpAnyH_take (i := 4) (oi := ({ dst := some 37, op := Op.fieldAddr 49 (Operand.tmp 5) 1, type := 0, pos := "schema.go:128", after := #[], guard := none } : Oper)) (v := ?_) rfl (by kernel_rfl) (by kernel_rfl) (by kernel_rfl) (fun _ _ _ h => h) (Or.inl ⟨by rfl, ?_⟩) hS30 ?_
        rotate_left
        · intro w hSw; (try dsimp only at hSw); go_simp; (try with_reducible rfl)
        simp only [Act.put, List.setIfInBounds_toArray, List.set_cons_zero, List.set_cons_succ]
        refine wpAnyH_take (i := 5) (oi := ({ dst := some 38, op := Op.load 3 (Operand.tmp 37), type := 3, pos := "schema.go:128", after := #[{ on := 4, ground := Ground.data }], guard := none } : Oper)) (v := ?_) rfl (by kernel_rfl) (by kernel_rfl) (by kernel_rfl) (fun _ _ _ h => h) (Or.inl ⟨by rfl, ?_⟩) hS30 ?_
        rotate_left
        · intro w hSw; (try dsimp only at hSw); go_simp; (try with_reducible rfl)
        simp only [Act.put, List.setIfInBounds_toArray, List.set_cons_zero, List.set_cons_succ]
        refine wpAnyH_take (i := 6) (oi := ({ dst := some 39, op := Op.convert 3 44 (Operand.tmp 38), type := 44, pos := "schema.go:128", after := #[{ on := 5, ground := Ground.data }], guard := none } : Oper)) (v := ?_) rfl (by kernel_rfl) (by kernel_rfl) (by kernel_rfl) (fun _ _ _ h => h) (Or.inl ⟨by rfl, ?_⟩) hS30 ?_
        rotate_left
        · intro w hSw; (try dsimp only at hSw); go_simp; (try with_reducible rfl)
        simp only [Act.put, List.setIfInBounds_toArray, List.set_cons_zero, List.set_cons_succ]
        refine wpAnyH_take (i := 9) (oi := ({ dst := some 42, op := Op.move (Operand.tmp 6), type := 44, pos := "schema.go:128", after := #[], guard := none } : Oper)) (v := ?_) rfl (by kernel_rfl) (by kernel_rfl) (by kernel_rfl) (fun _ _ _ h => h) (Or.inl ⟨by rfl, ?_⟩) hS30 ?_
        rotate_left
        · intro w hSw; (try dsimp only at hSw); go_simp; (try with_reducible rfl)
        simp only [Act.put, List.setIfInBounds_toArray, List.set_cons_zero, List.set_cons_succ]
        refine wpAnyH_ready (rs := [3]) (by kernel_rfl) (by simp) ?_
        refine AllReadyH.cons (o := ({ dst := some 36, op := Op.call { callee := Callee.value (Operand.func 31), args := #[Operand.tmp 35], argTypes := #[9] }, type := 9, pos := "schema.go:128", after := #[{ on := 2, ground := Ground.data }], guard := none } : Oper)) rfl (fun K hK => ?_) AllReadyH.nil
        go_simp
        refine (CA.out _).mono ?_; rintro e w31 ⟨rfl, hb31⟩
        go_wp2_with fail
        refine hK.out _ _ (mk30 _ (hnext hS30.1 hb31)) (fun hS31 => ?_)
        clear hK K
        (try simp only [Act.put, List.setIfInBounds_toArray, List.set_cons_zero, List.set_cons_succ])
        clear hb31 hS30
        refine wpAnyH_ready (rs := [7]) (by kernel_rfl) (by simp) ?_
        refine AllReadyH.cons (o := ({ dst := some 40, op := Op.call { callee := Callee.value (Operand.func 32), args := #[Operand.tmp 39], argTypes := #[44] }, type := 9, pos := "schema.go:128", after := #[{ on := 6, ground := Ground.data }, { on := 3, ground := Ground.chain }], guard := none } : Oper)) rfl (fun K hK => ?_) AllReadyH.nil
        go_simp
        refine (CK.out _).mono ?_; rintro e w32 ⟨rfl, hb32⟩
        go_wp2_with fail
        refine hK.out _ _ (mk30 _ (hnext hS31.1 hb32)) (fun hS32 => ?_)
        clear hK K
        (try simp only [Act.put, List.setIfInBounds_toArray, List.set_cons_zero, List.set_cons_succ])
        clear hb32 hS31
        refine wpAnyH_take (i := 8) (oi := ({ dst := some 41, op := Op.binOp BinOp.add 9 (Operand.tmp 36) (Operand.tmp 40) 9, type := 9, pos := "schema.go:128", after := #[{ on := 3, ground := Ground.data }, { on := 7, ground := Ground.data }], guard := none } : Oper)) (v := ?_) rfl (by kernel_rfl) (by kernel_rfl) (by kernel_rfl) (fun _ _ _ h => h) (Or.inl ⟨by rfl, ?_⟩) hS32 ?_
        rotate_left
        · intro w hSw; (try dsimp only at hSw); go_simp; (try with_reducible rfl)
        simp only [Act.put, List.setIfInBounds_toArray, List.set_cons_zero, List.set_cons_succ]
        refine wpAnyH_ready (rs := [10]) (by kernel_rfl) (by simp) ?_
        refine AllReadyH.cons (o := ({ dst := some 43, op := Op.call { callee := Callee.value (Operand.func 32), args := #[Operand.tmp 42], argTypes := #[44] }, type := 9, pos := "schema.go:128", after := #[{ on := 9, ground := Ground.data }, { on := 7, ground := Ground.chain }], guard := none } : Oper)) rfl (fun K hK => ?_) AllReadyH.nil
        go_simp
        refine (CN.out _).mono ?_; rintro e w33 ⟨rfl, hb33⟩
        go_wp2_with fail
        refine hK.out _ _ (mk30 _ (hnext hS32.1 hb33)) (fun hS33 => ?_)
        clear hK K
        (try simp only [Act.put, List.setIfInBounds_toArray, List.set_cons_zero, List.set_cons_succ])
        clear hb33 hS32
        refine wpAnyH_take (i := 11) (oi := ({ dst := some 44, op := Op.binOp BinOp.add 9 (Operand.tmp 41) (Operand.tmp 43) 9, type := 9, pos := "schema.go:128", after := #[{ on := 8, ground := Ground.data }, { on := 10, ground := Ground.data }], guard := none } : Oper)) (v := ?_) rfl (by kernel_rfl) (by kernel_rfl) (by kernel_rfl) (fun _ _ _ h => h) (Or.inl ⟨by rfl, ?_⟩) hS33 ?_
        rotate_left
        · intro w hSw; (try dsimp only at hSw); go_simp; (try with_reducible rfl)
        simp only [Act.put, List.setIfInBounds_toArray, List.set_cons_zero, List.set_cons_succ]
        refine wpAnyH_take (i := 12) (oi := ({ dst := some 45, op := Op.binOp BinOp.add 9 (Operand.tmp 33) (Operand.tmp 44) 9, type := 9, pos := "schema.go:128", after := #[{ on := 0, ground := Ground.data }, { on := 11, ground := Ground.data }], guard := none } : Oper)) (v := ?_) rfl (by kernel_rfl) (by kernel_rfl) (by kernel_rfl) (fun _ _ _ h => h) (Or.inl ⟨by rfl, ?_⟩) hS33 ?_
        rotate_left
        · intro w hSw; (try dsimp only at hSw); go_simp; (try with_reducible rfl)
        simp only [Act.put, List.setIfInBounds_toArray, List.set_cons_zero, List.set_cons_succ]
        refine wpAnyH_take (i := 13) (oi := ({ dst := some 3, op := Op.assign (Operand.tmp 45), type := 9, pos := "schema.go:128", after := #[{ on := 12, ground := Ground.data }, { on := 10, ground := Ground.chain }, { on := 0, ground := Ground.phase }, { on := 1, ground := Ground.phase }, { on := 2, ground := Ground.phase }, { on := 3, ground := Ground.phase }, { on := 4, ground := Ground.phase }, { on := 5, ground := Ground.phase }, { on := 6, ground := Ground.phase }, { on := 7, ground := Ground.phase }, { on := 8, ground := Ground.phase }, { on := 9, ground := Ground.phase }, { on := 10, ground := Ground.phase }, { on := 11, ground := Ground.phase }, { on := 12, ground := Ground.phase }], guard := none } : Oper)) (v := ?_) rfl (by kernel_rfl) (by kernel_rfl) (by kernel_rfl) (fun _ _ _ h => h) (Or.inl ⟨by rfl, ?_⟩) hS33 ?_
        rotate_left
        · intro w hSw; (try dsimp only at hSw); go_simp; (try with_reducible rfl)
        simp only [Act.put, List.setIfInBounds_toArray, List.set_cons_zero, List.set_cons_succ]
        refine wpAnyH_done (by kernel_rfl) ?_ _
        have hS6 := HS30.out.keep hS33.1
        have HL6 := hid (hnext HB30.out hS33.1)
        go_wp2_with fail
        go_roundw
        case rel => exact ⟨k + 1, _, by omega, by go_num, rfl, HQ, HQS.out, hS6, HL6⟩
        case measure => simp [intOf]; omega
      · skip
        have CA := hid (fun W => text_any cn (by omega) W)
        have CK := hid (fun W => uint_any kk (by omega) W)
        have CN := hid (fun W => uint_any 1 (by omega) W)
        rw [show ((1 : Nat) : Int) = 1 from rfl] at CN
        have hA := text_small cn y1
        have hK := enc_small kk
        have hN := enc_small 1
        have HQ : Hid (t ++ (bstr (Cd.text cn) ++ bstr (Cd.enc kk) ++ bstr (Cd.enc 1)) = bstr (Sc.encTo ⟨nm, cs, (kn : Int)⟩ (k + 1))) := by
          show _ = _
          rw [HNX.out, ht.out]
          unfold Sc.colB
          simp only [bstr_append, List.append_assoc, Int.toNat_natCast, if_true]
        generalize bstr (Cd.text cn) = A at CA hA HQ
        generalize bstr (Cd.enc kk) = K at CK hK HQ
        generalize bstr (Cd.enc 1) = N at CN hN HQ
        have hcvk : IntKind.u64.wrap (kk : Int) = (kk : Int) := by rw [IntKind.wrap_u64]; omega
        have hx0 : ¬ 9223372036854775807 < A.size + K.size := by omega
        have hx1 : ¬ 9223372036854775807 < A.size + K.size + N.size := by omega
        have hx2 : ¬ 9223372036854775807 < t.size + (A.size + K.size + N.size) := by omega
        have HQS := hid (show (t ++ (A ++ K ++ N)).size ≤ 62 + 62 * (k + 1) by simp only [ByteArray.size_append]; omega)
        clear hA hK hN y1 y2 y3 HNX ht
        go_wp2_with fail
        obtain ⟨cb, hcb⟩ : ∃ cb, w4.heap.size = cb := ⟨_, rfl⟩
        rw [hcb] at hC5
        rw [hcb]
        generalize w4.alloc (.cells #[.string cn, .int .i64 (kk : Int), .bool true] 49) = w5 at *
        clear hcb q0 q1 q2 s0 s1 s2 sl
        obtain ⟨t0, t1, t2, tl⟩ := hC5.cells
        obtain ⟨w30, hw30⟩ : ∃ w30, (w5).drew = w30 := ⟨_, rfl⟩
        have hd30 : Below (w5).heap.size (w5) w30 := hw30 ▸ (Below.refl _ _).drew
        have mk30 : ∀ W, Below w30.heap.size w30 W → Below w30.heap.size w30 W ∧ W.cell? ⟨cb, 0, none⟩ = some (.string cn) ∧ W.cell? ⟨cb, 1, none⟩ = some (.int .i64 (kk : Int)) ∧ W.cell? ⟨cb, 2, none⟩ = some (.bool true) := fun W h => ⟨h, hkeep (hkeep t0 hd30) h, hkeep (hkeep t1 hd30) h, hkeep (hkeep t2 hd30) h⟩
        have HS30 := hid (hS5.keep hd30)
        have HB30 := hid (hnext HL5.out hd30)
        clear t0 t1 t2 tl hS5 HL5 hC5 hd30
        refine wp_region_held_drew (S := (fun W => Below w30.heap.size w30 W ∧ W.cell? ⟨cb, 0, none⟩ = some (.string cn) ∧ W.cell? ⟨cb, 1, none⟩ = some (.int .i64 (kk : Int)) ∧ W.cell? ⟨cb, 2, none⟩ = some (.bool true))) (by kernel_rfl) (by rw [hw30]; exact mk30 _ (Below.refl _ _)) (fun hS30 => ?_)
        rw [hw30] at hS30 ⊢
        clear hw30
        refine wpAnyH_take (i := 0) (oi := ({ dst := some 33, op := Op.move (Operand.tmp 3), type := 9, pos := "schema.go:128", after := #[], guard := none } : Oper)) (v := ?_) rfl (by kernel_rfl) (by kernel_rfl) (by kernel_rfl) (fun _ _ _ h => h) (Or.inl ⟨by rfl, ?_⟩) hS30 ?_
        rotate_left
        · intro w hSw; (try dsimp only at hSw); go_simp; (try with_reducible rfl)
        simp only [Act.put, List.setIfInBounds_toArray, List.set_cons_zero, List.set_cons_succ]
        refine wpAnyH_take (i := 1) (oi := ({ dst := some 34, op := Op.fieldAddr 49 (Operand.tmp 5) 0, type := 0, pos := "schema.go:128", after := #[], guard := none } : Oper)) (v := ?_) rfl (by kernel_rfl) (by kernel_rfl) (by kernel_rfl) (fun _ _ _ h => h) (Or.inl ⟨by rfl, ?_⟩) hS30 ?_
        rotate_left
        · intro w hSw; (try dsimp only at hSw); go_simp; (try with_reducible rfl)
        simp only [Act.put, List.setIfInBounds_toArray, List.set_cons_zero, List.set_cons_succ]
        refine wpAnyH_take (i := 2) (oi := ({ dst := some 35, op := Op.load 9 (Operand.tmp 34), type := 9, pos := "schema.go:128", after := #[{ on := 1, ground := Ground.data }], guard := none } : Oper)) (v := ?_) rfl (by kernel_rfl) (by kernel_rfl) (by kernel_rfl) (fun _ _ _ h => h) (Or.inl ⟨by rfl, ?_⟩) hS30 ?_
        rotate_left
        · intro w hSw; (try dsimp only at hSw); go_simp; (try with_reducible rfl)
        simp only [Act.put, List.setIfInBounds_toArray, List.set_cons_zero, List.set_cons_succ]
        refine wpAnyH_take (i := 4) (oi := ({ dst := some 37, op := Op.fieldAddr 49 (Operand.tmp 5) 1, type := 0, pos := "schema.go:128", after := #[], guard := none } : Oper)) (v := ?_) rfl (by kernel_rfl) (by kernel_rfl) (by kernel_rfl) (fun _ _ _ h => h) (Or.inl ⟨by rfl, ?_⟩) hS30 ?_
        rotate_left
        · intro w hSw; (try dsimp only at hSw); go_simp; (try with_reducible rfl)
        simp only [Act.put, List.setIfInBounds_toArray, List.set_cons_zero, List.set_cons_succ]
        refine wpAnyH_take (i := 5) (oi := ({ dst := some 38, op := Op.load 3 (Operand.tmp 37), type := 3, pos := "schema.go:128", after := #[{ on := 4, ground := Ground.data }], guard := none } : Oper)) (v := ?_) rfl (by kernel_rfl) (by kernel_rfl) (by kernel_rfl) (fun _ _ _ h => h) (Or.inl ⟨by rfl, ?_⟩) hS30 ?_
        rotate_left
        · intro w hSw; (try dsimp only at hSw); go_simp; (try with_reducible rfl)
        simp only [Act.put, List.setIfInBounds_toArray, List.set_cons_zero, List.set_cons_succ]
        refine wpAnyH_take (i := 6) (oi := ({ dst := some 39, op := Op.convert 3 44 (Operand.tmp 38), type := 44, pos := "schema.go:128", after := #[{ on := 5, ground := Ground.data }], guard := none } : Oper)) (v := ?_) rfl (by kernel_rfl) (by kernel_rfl) (by kernel_rfl) (fun _ _ _ h => h) (Or.inl ⟨by rfl, ?_⟩) hS30 ?_
        rotate_left
        · intro w hSw; (try dsimp only at hSw); go_simp; (try with_reducible rfl)
        simp only [Act.put, List.setIfInBounds_toArray, List.set_cons_zero, List.set_cons_succ]
        refine wpAnyH_take (i := 9) (oi := ({ dst := some 42, op := Op.move (Operand.tmp 6), type := 44, pos := "schema.go:128", after := #[], guard := none } : Oper)) (v := ?_) rfl (by kernel_rfl) (by kernel_rfl) (by kernel_rfl) (fun _ _ _ h => h) (Or.inl ⟨by rfl, ?_⟩) hS30 ?_
        rotate_left
        · intro w hSw; (try dsimp only at hSw); go_simp; (try with_reducible rfl)
        simp only [Act.put, List.setIfInBounds_toArray, List.set_cons_zero, List.set_cons_succ]
        refine wpAnyH_ready (rs := [3]) (by kernel_rfl) (by simp) ?_
        refine AllReadyH.cons (o := ({ dst := some 36, op := Op.call { callee := Callee.value (Operand.func 31), args := #[Operand.tmp 35], argTypes := #[9] }, type := 9, pos := "schema.go:128", after := #[{ on := 2, ground := Ground.data }], guard := none } : Oper)) rfl (fun K hK => ?_) AllReadyH.nil
        go_simp
        refine (CA.out _).mono ?_; rintro e w31 ⟨rfl, hb31⟩
        go_wp2_with fail
        refine hK.out _ _ (mk30 _ (hnext hS30.1 hb31)) (fun hS31 => ?_)
        clear hK K
        (try simp only [Act.put, List.setIfInBounds_toArray, List.set_cons_zero, List.set_cons_succ])
        clear hb31 hS30
        refine wpAnyH_ready (rs := [7]) (by kernel_rfl) (by simp) ?_
        refine AllReadyH.cons (o := ({ dst := some 40, op := Op.call { callee := Callee.value (Operand.func 32), args := #[Operand.tmp 39], argTypes := #[44] }, type := 9, pos := "schema.go:128", after := #[{ on := 6, ground := Ground.data }, { on := 3, ground := Ground.chain }], guard := none } : Oper)) rfl (fun K hK => ?_) AllReadyH.nil
        go_simp
        refine (CK.out _).mono ?_; rintro e w32 ⟨rfl, hb32⟩
        go_wp2_with fail
        refine hK.out _ _ (mk30 _ (hnext hS31.1 hb32)) (fun hS32 => ?_)
        clear hK K
        (try simp only [Act.put, List.setIfInBounds_toArray, List.set_cons_zero, List.set_cons_succ])
        clear hb32 hS31
        refine wpAnyH_take (i := 8) (oi := ({ dst := some 41, op := Op.binOp BinOp.add 9 (Operand.tmp 36) (Operand.tmp 40) 9, type := 9, pos := "schema.go:128", after := #[{ on := 3, ground := Ground.data }, { on := 7, ground := Ground.data }], guard := none } : Oper)) (v := ?_) rfl (by kernel_rfl) (by kernel_rfl) (by kernel_rfl) (fun _ _ _ h => h) (Or.inl ⟨by rfl, ?_⟩) hS32 ?_
        rotate_left
        · intro w hSw; (try dsimp only at hSw); go_simp; (try with_reducible rfl)
        simp only [Act.put, List.setIfInBounds_toArray, List.set_cons_zero, List.set_cons_succ]
        refine wpAnyH_ready (rs := [10]) (by kernel_rfl) (by simp) ?_
        refine AllReadyH.cons (o := ({ dst := some 43, op := Op.call { callee := Callee.value (Operand.func 32), args := #[Operand.tmp 42], argTypes := #[44] }, type := 9, pos := "schema.go:128", after := #[{ on := 9, ground := Ground.data }, { on := 7, ground := Ground.chain }], guard := none } : Oper)) rfl (fun K hK => ?_) AllReadyH.nil
        go_simp
        refine (CN.out _).mono ?_; rintro e w33 ⟨rfl, hb33⟩
        go_wp2_with fail
        refine hK.out _ _ (mk30 _ (hnext hS32.1 hb33)) (fun hS33 => ?_)
        clear hK K
        (try simp only [Act.put, List.setIfInBounds_toArray, List.set_cons_zero, List.set_cons_succ])
        clear hb33 hS32
        refine wpAnyH_take (i := 11) (oi := ({ dst := some 44, op := Op.binOp BinOp.add 9 (Operand.tmp 41) (Operand.tmp 43) 9, type := 9, pos := "schema.go:128", after := #[{ on := 8, ground := Ground.data }, { on := 10, ground := Ground.data }], guard := none } : Oper)) (v := ?_) rfl (by kernel_rfl) (by kernel_rfl) (by kernel_rfl) (fun _ _ _ h => h) (Or.inl ⟨by rfl, ?_⟩) hS33 ?_
        rotate_left
        · intro w hSw; (try dsimp only at hSw); go_simp; (try with_reducible rfl)
        simp only [Act.put, List.setIfInBounds_toArray, List.set_cons_zero, List.set_cons_succ]
        refine wpAnyH_take (i := 12) (oi := ({ dst := some 45, op := Op.binOp BinOp.add 9 (Operand.tmp 33) (Operand.tmp 44) 9, type := 9, pos := "schema.go:128", after := #[{ on := 0, ground := Ground.data }, { on := 11, ground := Ground.data }], guard := none } : Oper)) (v := ?_) rfl (by kernel_rfl) (by kernel_rfl) (by kernel_rfl) (fun _ _ _ h => h) (Or.inl ⟨by rfl, ?_⟩) hS33 ?_
        rotate_left
        · intro w hSw; (try dsimp only at hSw); go_simp; (try with_reducible rfl)
        simp only [Act.put, List.setIfInBounds_toArray, List.set_cons_zero, List.set_cons_succ]
        refine wpAnyH_take (i := 13) (oi := ({ dst := some 3, op := Op.assign (Operand.tmp 45), type := 9, pos := "schema.go:128", after := #[{ on := 12, ground := Ground.data }, { on := 10, ground := Ground.chain }, { on := 0, ground := Ground.phase }, { on := 1, ground := Ground.phase }, { on := 2, ground := Ground.phase }, { on := 3, ground := Ground.phase }, { on := 4, ground := Ground.phase }, { on := 5, ground := Ground.phase }, { on := 6, ground := Ground.phase }, { on := 7, ground := Ground.phase }, { on := 8, ground := Ground.phase }, { on := 9, ground := Ground.phase }, { on := 10, ground := Ground.phase }, { on := 11, ground := Ground.phase }, { on := 12, ground := Ground.phase }], guard := none } : Oper)) (v := ?_) rfl (by kernel_rfl) (by kernel_rfl) (by kernel_rfl) (fun _ _ _ h => h) (Or.inl ⟨by rfl, ?_⟩) hS33 ?_
        rotate_left
        · intro w hSw; (try dsimp only at hSw); go_simp; (try with_reducible rfl)
        simp only [Act.put, List.setIfInBounds_toArray, List.set_cons_zero, List.set_cons_succ]
        refine wpAnyH_done (by kernel_rfl) ?_ _
        have hS6 := HS30.out.keep hS33.1
        have HL6 := hid (hnext HB30.out hS33.1)
        go_wp2_with fail
        go_roundw
        case rel => exact ⟨k + 1, _, by omega, by go_num, rfl, HQ, HQS.out, hS6, HL6⟩
        case measure => simp [intOf]; omega
    · obtain rfl : k = cs.length := by omega
      have HE : Hid (bstr (Sc.encode ⟨nm, cs, (kn : Int)⟩) = t) := by show _ = _; rw [← HALL.out, ht.out]
      clear hS hnx
      go_wp2_with fail
      go_ret
      rw [HE.out]
      exact ⟨rfl, hL.out⟩
set_option maxRecDepth 100000 in
set_option maxHeartbeats 12800000 in
theorem encodeR_any (s : Sc.S) (v : Value) (w : World) (h : CsAt w v s.cols) (hsz : Sok s) :
    Calls Try.prog 20 #[sv s v] w fun e w' => e = .returned (.string (bstr (Sc.encode s))) ∧ Below w.heap.size w w' := by
  have hbox := hba w (.cells #[.string s.name, v, .int .i64 s.keys] 24)
  have hR := hid (rightR_sc s v _ (h.below hbox) hsz)
  obtain ⟨adr, cap, rfl, hc1, hc2, hc⟩ := h
  have HC := hid hc
  unfold maxLen at hc2
  have HBOX := hid hbox
  have HS0 := hid (BS.new w s.name (.slice adr s.cols.length cap) s.keys)
  have hno := hid (fun h => Sc.encode_no (s := s) h)
  have hhd := hid (fun h => Sc.right_head (s := s) h)
  have hcol := hid (fun h => Sc.right_col (s := s) h)
  have hall := hid (fun h => Sc.encTo_all s h)
  have hnx := hid (fun k hk => Sc.encTo_next s k hk)
  have h0 : Hid (bstr (Cd.text s.name) ++ bstr (Cd.enc s.keys.toNat) ++ bstr (Cd.enc s.cols.length) = bstr (Sc.encTo s 0)) := by
    show _ = _
    unfold Sc.encTo Sc.headB
    rw [bstr_append, bstr_append]
    simp
  clear hbox hc hsz
  cases hr : Sc.right s
  · rw [hr] at hR
    have HE := hid (hno.out hr)
    clear hr hno hhd hcol hall hnx h0
    unfold sv at hR ⊢
    go_enter Try.func20, Try.ntmps20
    go_wp2_with fail
    refine (hR.out).mono ?_; rintro e w1 ⟨rfl, hb1⟩
    go_wp2_with fail
    go_ret
    rw [HE.out]
    exact ⟨rfl, hnext HBOX.out hb1⟩
  rw [hr] at hR
  obtain ⟨z1, z2, z3, z4⟩ := hhd.out hr
  have HCOL := hid (hcol.out hr)
  have HALL := hid (hall.out hr)
  clear hhd hcol hall hno hr
  unfold sv at hR ⊢
  obtain ⟨nm, cs, ks⟩ := s
  simp only at hR HC hc1 HBOX HS0 z1 z2 z3 z4 HCOL HALL hnx h0 ⊢
  obtain ⟨kn, rfl⟩ : ∃ kn : Nat, ks = (kn : Int) := ⟨ks.toNat, by omega⟩
  rw [Int.toNat_natCast] at h0
  have hA := text_small nm z1
  have hK := enc_small kn
  have hN := enc_small cs.length
  have CA := hid (fun W => textR_any nm (by omega) W)
  have CK := hid (fun W => uintR_exact kn (by omega) W)
  have CN := hid (fun W => uintR_exact cs.length (by omega) W)
  generalize bstr (Cd.text nm) = A at CA hA h0
  generalize bstr (Cd.enc kn) = K at CK hK h0
  generalize bstr (Cd.enc cs.length) = N at CN hN h0
  have hcvk : IntKind.u64.wrap (kn : Int) = (kn : Int) := by rw [IntKind.wrap_u64]; omega
  have hcvn : IntKind.u64.wrap (cs.length : Int) = (cs.length : Int) := by rw [IntKind.wrap_u64]; omega
  have hx1 : ¬ 9223372036854775807 < A.size + K.size := by omega
  have hx2 : ¬ 9223372036854775807 < A.size + K.size + N.size := by omega
  have hT0 : (A ++ K ++ N).size ≤ 62 := by rw [ByteArray.size_append, ByteArray.size_append]; omega
  have HT0 := hid hT0
  have Z4 := hid z4
  clear z1 z2 z3 z4 hA hK hN hT0
  go_enter Try.func20, Try.ntmps20
  go_wp2_with fail
  refine (hR.out).mono ?_; rintro e w1 ⟨rfl, hb1⟩
  have hS1 := HS0.out.keep hb1
  have hB1 := hid (hnext HBOX.out hb1)
  clear hb1 HS0 HBOX hR
  obtain ⟨s0, s1, s2, sl⟩ := hS1.cells
  go_wp2_with fail
  obtain ⟨w20, hw20⟩ : ∃ w20, (w1).drew = w20 := ⟨_, rfl⟩
  have hd20 : Below (w1).heap.size (w1) w20 := hw20 ▸ (Below.refl _ _).drew
  have mk20 : ∀ W, Below w20.heap.size w20 W → Below w20.heap.size w20 W ∧ W.cell? ⟨w.heap.size, 0, none⟩ = some (.string nm) ∧ W.cell? ⟨w.heap.size, 1, none⟩ = some (.slice adr cs.length cap) ∧ W.cell? ⟨w.heap.size, 2, none⟩ = some (.int .i64 (kn : Int)) := fun W h => ⟨h, hkeep (hkeep s0 hd20) h, hkeep (hkeep s1 hd20) h, hkeep (hkeep s2 hd20) h⟩
  have HS20 := hid (hS1.keep hd20)
  have HB20 := hid (hnext hB1.out hd20)
  clear s0 s1 s2 sl hS1 hB1 hd20
  refine wp_region_held_drew (S := (fun W => Below w20.heap.size w20 W ∧ W.cell? ⟨w.heap.size, 0, none⟩ = some (.string nm) ∧ W.cell? ⟨w.heap.size, 1, none⟩ = some (.slice adr cs.length cap) ∧ W.cell? ⟨w.heap.size, 2, none⟩ = some (.int .i64 (kn : Int)))) (by kernel_rfl) (by rw [hw20]; exact mk20 _ (Below.refl _ _)) (fun hS20 => ?_)
  rw [hw20] at hS20 ⊢
  clear hw20
  refine wpAnyH_take (i := 0) (oi := ({ dst := some 10, op := Op.fieldAddr 24 (Operand.tmp 1) 0, type := 0, pos := "ref.go:120", after := #[], guard := none } : Oper)) (v := ?_) rfl (by kernel_rfl) (by kernel_rfl) (by kernel_rfl) (fun _ _ _ h => h) (Or.inl ⟨by rfl, ?_⟩) hS20 ?_
  rotate_left
  · intro w hSw; (try dsimp only at hSw); go_simp; (try with_reducible rfl)
  simp only [Act.put, List.setIfInBounds_toArray, List.set_cons_zero, List.set_cons_succ]
  refine wpAnyH_take (i := 1) (oi := ({ dst := some 11, op := Op.load 9 (Operand.tmp 10), type := 9, pos := "ref.go:120", after := #[{ on := 0, ground := Ground.data }], guard := none } : Oper)) (v := ?_) rfl (by kernel_rfl) (by kernel_rfl) (by kernel_rfl) (fun _ _ _ h => h) (Or.inl ⟨by rfl, ?_⟩) hS20 ?_
  rotate_left
  · intro w hSw; (try dsimp only at hSw); go_simp; (try with_reducible rfl)
  simp only [Act.put, List.setIfInBounds_toArray, List.set_cons_zero, List.set_cons_succ]
  refine wpAnyH_take (i := 3) (oi := ({ dst := some 13, op := Op.fieldAddr 24 (Operand.tmp 1) 2, type := 0, pos := "ref.go:120", after := #[], guard := none } : Oper)) (v := ?_) rfl (by kernel_rfl) (by kernel_rfl) (by kernel_rfl) (fun _ _ _ h => h) (Or.inl ⟨by rfl, ?_⟩) hS20 ?_
  rotate_left
  · intro w hSw; (try dsimp only at hSw); go_simp; (try with_reducible rfl)
  simp only [Act.put, List.setIfInBounds_toArray, List.set_cons_zero, List.set_cons_succ]
  refine wpAnyH_take (i := 4) (oi := ({ dst := some 14, op := Op.load 3 (Operand.tmp 13), type := 3, pos := "ref.go:120", after := #[{ on := 3, ground := Ground.data }], guard := none } : Oper)) (v := ?_) rfl (by kernel_rfl) (by kernel_rfl) (by kernel_rfl) (fun _ _ _ h => h) (Or.inl ⟨by rfl, ?_⟩) hS20 ?_
  rotate_left
  · intro w hSw; (try dsimp only at hSw); go_simp; (try with_reducible rfl)
  simp only [Act.put, List.setIfInBounds_toArray, List.set_cons_zero, List.set_cons_succ]
  refine wpAnyH_take (i := 5) (oi := ({ dst := some 15, op := Op.convert 3 44 (Operand.tmp 14), type := 44, pos := "ref.go:120", after := #[{ on := 4, ground := Ground.data }], guard := none } : Oper)) (v := ?_) rfl (by kernel_rfl) (by kernel_rfl) (by kernel_rfl) (fun _ _ _ h => h) (Or.inl ⟨by rfl, ?_⟩) hS20 ?_
  rotate_left
  · intro w hSw; (try dsimp only at hSw); go_simp; (try with_reducible rfl)
  simp only [Act.put, List.setIfInBounds_toArray, List.set_cons_zero, List.set_cons_succ]
  refine wpAnyH_take (i := 8) (oi := ({ dst := some 18, op := Op.fieldAddr 24 (Operand.tmp 1) 1, type := 0, pos := "ref.go:120", after := #[], guard := none } : Oper)) (v := ?_) rfl (by kernel_rfl) (by kernel_rfl) (by kernel_rfl) (fun _ _ _ h => h) (Or.inl ⟨by rfl, ?_⟩) hS20 ?_
  rotate_left
  · intro w hSw; (try dsimp only at hSw); go_simp; (try with_reducible rfl)
  simp only [Act.put, List.setIfInBounds_toArray, List.set_cons_zero, List.set_cons_succ]
  refine wpAnyH_take (i := 9) (oi := ({ dst := some 19, op := Op.load 22 (Operand.tmp 18), type := 22, pos := "ref.go:120", after := #[{ on := 8, ground := Ground.data }], guard := none } : Oper)) (v := ?_) rfl (by kernel_rfl) (by kernel_rfl) (by kernel_rfl) (fun _ _ _ h => h) (Or.inl ⟨by rfl, ?_⟩) hS20 ?_
  rotate_left
  · intro w hSw; (try dsimp only at hSw); go_simp; (try with_reducible rfl)
  simp only [Act.put, List.setIfInBounds_toArray, List.set_cons_zero, List.set_cons_succ]
  refine wpAnyH_take (i := 10) (oi := ({ dst := some 20, op := Op.call { callee := Callee.builtin Builtin.len, args := #[Operand.tmp 19], argTypes := #[22] }, type := 3, pos := "ref.go:120", after := #[{ on := 9, ground := Ground.data }], guard := none } : Oper)) (v := ?_) rfl (by kernel_rfl) (by kernel_rfl) (by kernel_rfl) (fun _ _ _ h => h) (Or.inl ⟨by rfl, ?_⟩) hS20 ?_
  rotate_left
  · intro w hSw; (try dsimp only at hSw); go_simp; (try with_reducible rfl)
  simp only [Act.put, List.setIfInBounds_toArray, List.set_cons_zero, List.set_cons_succ]
  refine wpAnyH_take (i := 11) (oi := ({ dst := some 21, op := Op.convert 3 44 (Operand.tmp 20), type := 44, pos := "ref.go:120", after := #[{ on := 10, ground := Ground.data }], guard := none } : Oper)) (v := ?_) rfl (by kernel_rfl) (by kernel_rfl) (by kernel_rfl) (fun _ _ _ h => h) (Or.inl ⟨by rfl, ?_⟩) hS20 ?_
  rotate_left
  · intro w hSw; (try dsimp only at hSw); go_simp; (try with_reducible rfl)
  simp only [Act.put, List.setIfInBounds_toArray, List.set_cons_zero, List.set_cons_succ]
  refine wpAnyH_ready (rs := [2]) (by kernel_rfl) (by simp) ?_
  refine AllReadyH.cons (o := ({ dst := some 12, op := Op.call { callee := Callee.value (Operand.func 33), args := #[Operand.tmp 11], argTypes := #[9] }, type := 9, pos := "ref.go:120", after := #[{ on := 1, ground := Ground.data }], guard := none } : Oper)) rfl (fun K hK => ?_) AllReadyH.nil
  go_simp
  refine (CA.out _).mono ?_; rintro e w21 ⟨rfl, hb21⟩
  go_wp2_with fail
  refine hK.out _ _ (mk20 _ (hnext hS20.1 hb21)) (fun hS21 => ?_)
  clear hK K
  (try simp only [Act.put, List.setIfInBounds_toArray, List.set_cons_zero, List.set_cons_succ])
  clear hb21 hS20
  refine wpAnyH_ready (rs := [6]) (by kernel_rfl) (by simp) ?_
  refine AllReadyH.cons (o := ({ dst := some 16, op := Op.call { callee := Callee.value (Operand.func 34), args := #[Operand.tmp 15], argTypes := #[44] }, type := 9, pos := "ref.go:120", after := #[{ on := 5, ground := Ground.data }, { on := 2, ground := Ground.chain }], guard := none } : Oper)) rfl (fun K hK => ?_) AllReadyH.nil
  go_simp
  refine (CK.out _).mono ?_; rintro e w22 ⟨rfl, hb22⟩
  go_wp2_with fail
  refine hK.out _ _ (mk20 _ (hnext hS21.1 hb22)) (fun hS22 => ?_)
  clear hK K
  (try simp only [Act.put, List.setIfInBounds_toArray, List.set_cons_zero, List.set_cons_succ])
  clear hb22 hS21
  refine wpAnyH_take (i := 7) (oi := ({ dst := some 17, op := Op.binOp BinOp.add 9 (Operand.tmp 12) (Operand.tmp 16) 9, type := 9, pos := "ref.go:120", after := #[{ on := 2, ground := Ground.data }, { on := 6, ground := Ground.data }], guard := none } : Oper)) (v := ?_) rfl (by kernel_rfl) (by kernel_rfl) (by kernel_rfl) (fun _ _ _ h => h) (Or.inl ⟨by rfl, ?_⟩) hS22 ?_
  rotate_left
  · intro w hSw; (try dsimp only at hSw); go_simp; (try with_reducible rfl)
  simp only [Act.put, List.setIfInBounds_toArray, List.set_cons_zero, List.set_cons_succ]
  refine wpAnyH_ready (rs := [12]) (by kernel_rfl) (by simp) ?_
  refine AllReadyH.cons (o := ({ dst := some 22, op := Op.call { callee := Callee.value (Operand.func 34), args := #[Operand.tmp 21], argTypes := #[44] }, type := 9, pos := "ref.go:120", after := #[{ on := 11, ground := Ground.data }, { on := 6, ground := Ground.chain }], guard := none } : Oper)) rfl (fun K hK => ?_) AllReadyH.nil
  go_simp
  refine (CN.out _).mono ?_; rintro e w23 ⟨rfl, hb23⟩
  go_wp2_with fail
  refine hK.out _ _ (mk20 _ (hnext hS22.1 hb23)) (fun hS23 => ?_)
  clear hK K
  (try simp only [Act.put, List.setIfInBounds_toArray, List.set_cons_zero, List.set_cons_succ])
  clear hb23 hS22
  refine wpAnyH_take (i := 13) (oi := ({ dst := some 23, op := Op.binOp BinOp.add 9 (Operand.tmp 17) (Operand.tmp 22) 9, type := 9, pos := "ref.go:120", after := #[{ on := 7, ground := Ground.data }, { on := 12, ground := Ground.data }], guard := none } : Oper)) (v := ?_) rfl (by kernel_rfl) (by kernel_rfl) (by kernel_rfl) (fun _ _ _ h => h) (Or.inl ⟨by rfl, ?_⟩) hS23 ?_
  rotate_left
  · intro w hSw; (try dsimp only at hSw); go_simp; (try with_reducible rfl)
  simp only [Act.put, List.setIfInBounds_toArray, List.set_cons_zero, List.set_cons_succ]
  refine wpAnyH_take (i := 14) (oi := ({ dst := some 3, op := Op.assign (Operand.tmp 23), type := 9, pos := "ref.go:120", after := #[{ on := 13, ground := Ground.data }, { on := 12, ground := Ground.chain }, { on := 0, ground := Ground.phase }, { on := 1, ground := Ground.phase }, { on := 2, ground := Ground.phase }, { on := 3, ground := Ground.phase }, { on := 4, ground := Ground.phase }, { on := 5, ground := Ground.phase }, { on := 6, ground := Ground.phase }, { on := 7, ground := Ground.phase }, { on := 8, ground := Ground.phase }, { on := 9, ground := Ground.phase }, { on := 10, ground := Ground.phase }, { on := 11, ground := Ground.phase }, { on := 12, ground := Ground.phase }, { on := 13, ground := Ground.phase }], guard := none } : Oper)) (v := ?_) rfl (by kernel_rfl) (by kernel_rfl) (by kernel_rfl) (fun _ _ _ h => h) (Or.inl ⟨by rfl, ?_⟩) hS23 ?_
  rotate_left
  · intro w hSw; (try dsimp only at hSw); go_simp; (try with_reducible rfl)
  simp only [Act.put, List.setIfInBounds_toArray, List.set_cons_zero, List.set_cons_succ]
  refine wpAnyH_done (by kernel_rfl) ?_ _
  have hS1 := HS20.out.keep hS23.1
  have HL1 := hid (hnext HB20.out hS23.1)
  obtain ⟨s0, s1, s2, sl⟩ := hS1.cells
  clear mk20
  clear CA CK CN hcvk hcvn hx1 hx2 HS20 HB20
  go_wp2_with fail
  clear s0 s1 s2 sl
  generalize A ++ K ++ N = T0 at h0 HT0
  go_loopw [3, 4] (fun b q wr => ∃ (k : Nat) (t : ByteArray), k ≤ cs.length ∧ q = .int .i64 (k : Int) ∧ b = .string t ∧ Hid (t = bstr (Sc.encTo ⟨nm, cs, (kn : Int)⟩ k)) ∧ t.size ≤ 62 + 62 * k ∧ BS wr w.heap.size nm (.slice adr cs.length cap) (kn : Int) ∧ Hid (Below w.heap.size w wr)) (fun _ q _ => cs.length - (intOf q).toNat)
  case atStart => exact ⟨0, T0, by omega, rfl, rfl, h0, by have := HT0.out; omega, hS1, HL1⟩
  case round =>
    obtain ⟨k, t, hk, rfl, rfl, ht, hts, hS, hL⟩ := hrel
    clear hS1 HL1 h0 HT0
    obtain ⟨w4, rfl⟩ : ∃ w4 : World, w4 = wr := ⟨_, rfl⟩
    have hk0 : (0 : Int) ≤ (k : Int) := by omega
    obtain ⟨s0, s1, s2, sl⟩ := hS.cells
    by_cases hlk : k < cs.length
    · have hlk' : (k : Int) < (cs.length : Int) := by omega
      obtain ⟨g, off, rfl, q0, q1, q2⟩ := HC.out k hlk
      replace q0 := hkeep q0 hL.out
      replace q1 := hkeep q1 hL.out
      replace q2 := hkeep q2 hL.out
      obtain ⟨y1, y2, y3⟩ := HCOL.out k hlk
      have HNX := hid (hnx.out k hlk)
      have hk16 : k < 16 := by have := Z4.out; omega
      generalize cs[k] = c at q0 q1 q2 y1 y2 y3 HNX
      have hba4 := hba w4 (.cells #[.string c.name, .int .i64 c.kind, .bool c.need] 49)
      have hC5 := BC.new w4 c
      have hS5 := hS.keep hba4
      have HL5 := hid (hnext hL.out hba4)
      clear hba4 hS hL
      obtain ⟨cn, ck, cd⟩ := c
      simp only at q0 q1 q2 y1 y2 y3 HNX hC5 hS5 HL5
      obtain ⟨kk, rfl⟩ : ∃ kk : Nat, ck = (kk : Int) := ⟨ck.toNat, by omega⟩
      cases cd
      · skip
        have CA := hid (fun W => textR_any cn (by omega) W)
        have CK := hid (fun W => uintR_exact kk (by omega) W)
        have CN := hid (fun W => uintR_exact 0 (by omega) W)
        rw [show ((0 : Nat) : Int) = 0 from rfl] at CN
        have hA := text_small cn y1
        have hK := enc_small kk
        have hN := enc_small 0
        have HQ : Hid (t ++ bstr (Cd.text cn) ++ bstr (Cd.enc kk) ++ bstr (Cd.enc 0) = bstr (Sc.encTo ⟨nm, cs, (kn : Int)⟩ (k + 1))) := by
          show _ = _
          rw [HNX.out, ht.out]
          unfold Sc.colB
          simp only [bstr_append, List.append_assoc, Int.toNat_natCast, Bool.false_eq_true, if_false]
        generalize bstr (Cd.text cn) = A at CA hA HQ
        generalize bstr (Cd.enc kk) = K at CK hK HQ
        generalize bstr (Cd.enc 0) = N at CN hN HQ
        have hcvk : IntKind.u64.wrap (kk : Int) = (kk : Int) := by rw [IntKind.wrap_u64]; omega
        have hx0 : ¬ 9223372036854775807 < t.size + A.size := by omega
        have hx1 : ¬ 9223372036854775807 < t.size + A.size + K.size := by omega
        have hx2 : ¬ 9223372036854775807 < t.size + A.size + K.size + N.size := by omega
        have HQS := hid (show (t ++ A ++ K ++ N).size ≤ 62 + 62 * (k + 1) by simp only [ByteArray.size_append]; omega)
        clear hA hK hN y1 y2 y3 HNX ht
        go_wp2_with fail
        obtain ⟨cb, hcb⟩ : ∃ cb, w4.heap.size = cb := ⟨_, rfl⟩
        rw [hcb] at hC5
        rw [hcb]
        generalize w4.alloc (.cells #[.string cn, .int .i64 (kk : Int), .bool false] 49) = w5 at *
        clear hcb q0 q1 q2 s0 s1 s2 sl
        obtain ⟨t0, t1, t2, tl⟩ := hC5.cells
        obtain ⟨w30, hw30⟩ : ∃ w30, (w5).drew = w30 := ⟨_, rfl⟩
        have hd30 : Below (w5).heap.size (w5) w30 := hw30 ▸ (Below.refl _ _).drew
        have mk30 : ∀ W, Below w30.heap.size w30 W → Below w30.heap.size w30 W ∧ W.cell? ⟨cb, 0, none⟩ = some (.string cn) ∧ W.cell? ⟨cb, 1, none⟩ = some (.int .i64 (kk : Int)) ∧ W.cell? ⟨cb, 2, none⟩ = some (.bool false) := fun W h => ⟨h, hkeep (hkeep t0 hd30) h, hkeep (hkeep t1 hd30) h, hkeep (hkeep t2 hd30) h⟩
        have HS30 := hid (hS5.keep hd30)
        have HB30 := hid (hnext HL5.out hd30)
        clear t0 t1 t2 tl hS5 HL5 hC5 hd30
        refine wp_region_held_drew (S := (fun W => Below w30.heap.size w30 W ∧ W.cell? ⟨cb, 0, none⟩ = some (.string cn) ∧ W.cell? ⟨cb, 1, none⟩ = some (.int .i64 (kk : Int)) ∧ W.cell? ⟨cb, 2, none⟩ = some (.bool false))) (by kernel_rfl) (by rw [hw30]; exact mk30 _ (Below.refl _ _)) (fun hS30 => ?_)
        rw [hw30] at hS30 ⊢
        clear hw30
        refine wpAnyH_take (i := 0) (oi := ({ dst := some 38, op := Op.move (Operand.tmp 3), type := 9, pos := "ref.go:127", after := #[], guard := none } : Oper)) (v := ?_) rfl (by kernel_rfl) (by kernel_rfl) (by kernel_rfl) (fun _ _ _ h => h) (Or.inl ⟨by rfl, ?_⟩) hS30 ?_
        rotate_left
        · intro w hSw; (try dsimp only at hSw); go_simp; (try with_reducible rfl)
        simp only [Act.put, List.setIfInBounds_toArray, List.set_cons_zero, List.set_cons_succ]
        refine wpAnyH_take (i := 1) (oi := ({ dst := some 39, op := Op.fieldAddr 49 (Operand.tmp 5) 0, type := 0, pos := "ref.go:127", after := #[], guard := none } : Oper)) (v := ?_) rfl (by kernel_rfl) (by kernel_rfl) (by kernel_rfl) (fun _ _ _ h => h) (Or.inl ⟨by rfl, ?_⟩) hS30 ?_
        rotate_left
        · intro w hSw; (try dsimp only at hSw); go_simp; (try with_reducible rfl)
        simp only [Act.put, List.setIfInBounds_toArray, List.set_cons_zero, List.set_cons_succ]
        refine wpAnyH_take (i := 2) (oi := ({ dst := some 40, op := Op.load 9 (Operand.tmp 39), type := 9, pos := "ref.go:127", after := #[{ on := 1, ground := Ground.data }], guard := none } : Oper)) (v := ?_) rfl (by kernel_rfl) (by kernel_rfl) (by kernel_rfl) (fun _ _ _ h => h) (Or.inl ⟨by rfl, ?_⟩) hS30 ?_
        rotate_left
        · intro w hSw; (try dsimp only at hSw); go_simp; (try with_reducible rfl)
        simp only [Act.put, List.setIfInBounds_toArray, List.set_cons_zero, List.set_cons_succ]
        refine wpAnyH_take (i := 5) (oi := ({ dst := some 43, op := Op.fieldAddr 49 (Operand.tmp 5) 1, type := 0, pos := "ref.go:127", after := #[], guard := none } : Oper)) (v := ?_) rfl (by kernel_rfl) (by kernel_rfl) (by kernel_rfl) (fun _ _ _ h => h) (Or.inl ⟨by rfl, ?_⟩) hS30 ?_
        rotate_left
        · intro w hSw; (try dsimp only at hSw); go_simp; (try with_reducible rfl)
        simp only [Act.put, List.setIfInBounds_toArray, List.set_cons_zero, List.set_cons_succ]
        refine wpAnyH_take (i := 6) (oi := ({ dst := some 44, op := Op.load 3 (Operand.tmp 43), type := 3, pos := "ref.go:127", after := #[{ on := 5, ground := Ground.data }], guard := none } : Oper)) (v := ?_) rfl (by kernel_rfl) (by kernel_rfl) (by kernel_rfl) (fun _ _ _ h => h) (Or.inl ⟨by rfl, ?_⟩) hS30 ?_
        rotate_left
        · intro w hSw; (try dsimp only at hSw); go_simp; (try with_reducible rfl)
        simp only [Act.put, List.setIfInBounds_toArray, List.set_cons_zero, List.set_cons_succ]
        refine wpAnyH_take (i := 7) (oi := ({ dst := some 45, op := Op.convert 3 44 (Operand.tmp 44), type := 44, pos := "ref.go:127", after := #[{ on := 6, ground := Ground.data }], guard := none } : Oper)) (v := ?_) rfl (by kernel_rfl) (by kernel_rfl) (by kernel_rfl) (fun _ _ _ h => h) (Or.inl ⟨by rfl, ?_⟩) hS30 ?_
        rotate_left
        · intro w hSw; (try dsimp only at hSw); go_simp; (try with_reducible rfl)
        simp only [Act.put, List.setIfInBounds_toArray, List.set_cons_zero, List.set_cons_succ]
        refine wpAnyH_take (i := 10) (oi := ({ dst := some 48, op := Op.move (Operand.tmp 6), type := 44, pos := "ref.go:127", after := #[], guard := none } : Oper)) (v := ?_) rfl (by kernel_rfl) (by kernel_rfl) (by kernel_rfl) (fun _ _ _ h => h) (Or.inl ⟨by rfl, ?_⟩) hS30 ?_
        rotate_left
        · intro w hSw; (try dsimp only at hSw); go_simp; (try with_reducible rfl)
        simp only [Act.put, List.setIfInBounds_toArray, List.set_cons_zero, List.set_cons_succ]
        refine wpAnyH_ready (rs := [3]) (by kernel_rfl) (by simp) ?_
        refine AllReadyH.cons (o := ({ dst := some 41, op := Op.call { callee := Callee.value (Operand.func 33), args := #[Operand.tmp 40], argTypes := #[9] }, type := 9, pos := "ref.go:127", after := #[{ on := 2, ground := Ground.data }], guard := none } : Oper)) rfl (fun K hK => ?_) AllReadyH.nil
        go_simp
        refine (CA.out _).mono ?_; rintro e w31 ⟨rfl, hb31⟩
        go_wp2_with fail
        refine hK.out _ _ (mk30 _ (hnext hS30.1 hb31)) (fun hS31 => ?_)
        clear hK K
        (try simp only [Act.put, List.setIfInBounds_toArray, List.set_cons_zero, List.set_cons_succ])
        clear hb31 hS30
        refine wpAnyH_take (i := 4) (oi := ({ dst := some 42, op := Op.binOp BinOp.add 9 (Operand.tmp 38) (Operand.tmp 41) 9, type := 9, pos := "ref.go:127", after := #[{ on := 0, ground := Ground.data }, { on := 3, ground := Ground.data }], guard := none } : Oper)) (v := ?_) rfl (by kernel_rfl) (by kernel_rfl) (by kernel_rfl) (fun _ _ _ h => h) (Or.inl ⟨by rfl, ?_⟩) hS31 ?_
        rotate_left
        · intro w hSw; (try dsimp only at hSw); go_simp; (try with_reducible rfl)
        simp only [Act.put, List.setIfInBounds_toArray, List.set_cons_zero, List.set_cons_succ]
        refine wpAnyH_ready (rs := [8]) (by kernel_rfl) (by simp) ?_
        refine AllReadyH.cons (o := ({ dst := some 46, op := Op.call { callee := Callee.value (Operand.func 34), args := #[Operand.tmp 45], argTypes := #[44] }, type := 9, pos := "ref.go:127", after := #[{ on := 7, ground := Ground.data }, { on := 3, ground := Ground.chain }], guard := none } : Oper)) rfl (fun K hK => ?_) AllReadyH.nil
        go_simp
        refine (CK.out _).mono ?_; rintro e w32 ⟨rfl, hb32⟩
        go_wp2_with fail
        refine hK.out _ _ (mk30 _ (hnext hS31.1 hb32)) (fun hS32 => ?_)
        clear hK K
        (try simp only [Act.put, List.setIfInBounds_toArray, List.set_cons_zero, List.set_cons_succ])
        clear hb32 hS31
        refine wpAnyH_take (i := 9) (oi := ({ dst := some 47, op := Op.binOp BinOp.add 9 (Operand.tmp 42) (Operand.tmp 46) 9, type := 9, pos := "ref.go:127", after := #[{ on := 4, ground := Ground.data }, { on := 8, ground := Ground.data }], guard := none } : Oper)) (v := ?_) rfl (by kernel_rfl) (by kernel_rfl) (by kernel_rfl) (fun _ _ _ h => h) (Or.inl ⟨by rfl, ?_⟩) hS32 ?_
        rotate_left
        · intro w hSw; (try dsimp only at hSw); go_simp; (try with_reducible rfl)
        simp only [Act.put, List.setIfInBounds_toArray, List.set_cons_zero, List.set_cons_succ]
        refine wpAnyH_ready (rs := [11]) (by kernel_rfl) (by simp) ?_
        refine AllReadyH.cons (o := ({ dst := some 49, op := Op.call { callee := Callee.value (Operand.func 34), args := #[Operand.tmp 48], argTypes := #[44] }, type := 9, pos := "ref.go:127", after := #[{ on := 10, ground := Ground.data }, { on := 8, ground := Ground.chain }], guard := none } : Oper)) rfl (fun K hK => ?_) AllReadyH.nil
        go_simp
        refine (CN.out _).mono ?_; rintro e w33 ⟨rfl, hb33⟩
        go_wp2_with fail
        refine hK.out _ _ (mk30 _ (hnext hS32.1 hb33)) (fun hS33 => ?_)
        clear hK K
        (try simp only [Act.put, List.setIfInBounds_toArray, List.set_cons_zero, List.set_cons_succ])
        clear hb33 hS32
        refine wpAnyH_take (i := 12) (oi := ({ dst := some 50, op := Op.binOp BinOp.add 9 (Operand.tmp 47) (Operand.tmp 49) 9, type := 9, pos := "ref.go:127", after := #[{ on := 9, ground := Ground.data }, { on := 11, ground := Ground.data }], guard := none } : Oper)) (v := ?_) rfl (by kernel_rfl) (by kernel_rfl) (by kernel_rfl) (fun _ _ _ h => h) (Or.inl ⟨by rfl, ?_⟩) hS33 ?_
        rotate_left
        · intro w hSw; (try dsimp only at hSw); go_simp; (try with_reducible rfl)
        simp only [Act.put, List.setIfInBounds_toArray, List.set_cons_zero, List.set_cons_succ]
        refine wpAnyH_take (i := 13) (oi := ({ dst := some 3, op := Op.assign (Operand.tmp 50), type := 9, pos := "ref.go:127", after := #[{ on := 12, ground := Ground.data }, { on := 11, ground := Ground.chain }, { on := 0, ground := Ground.phase }, { on := 1, ground := Ground.phase }, { on := 2, ground := Ground.phase }, { on := 3, ground := Ground.phase }, { on := 4, ground := Ground.phase }, { on := 5, ground := Ground.phase }, { on := 6, ground := Ground.phase }, { on := 7, ground := Ground.phase }, { on := 8, ground := Ground.phase }, { on := 9, ground := Ground.phase }, { on := 10, ground := Ground.phase }, { on := 11, ground := Ground.phase }, { on := 12, ground := Ground.phase }], guard := none } : Oper)) (v := ?_) rfl (by kernel_rfl) (by kernel_rfl) (by kernel_rfl) (fun _ _ _ h => h) (Or.inl ⟨by rfl, ?_⟩) hS33 ?_
        rotate_left
        · intro w hSw; (try dsimp only at hSw); go_simp; (try with_reducible rfl)
        simp only [Act.put, List.setIfInBounds_toArray, List.set_cons_zero, List.set_cons_succ]
        refine wpAnyH_done (by kernel_rfl) ?_ _
        have hS6 := HS30.out.keep hS33.1
        have HL6 := hid (hnext HB30.out hS33.1)
        go_wp2_with fail
        go_roundw
        case rel => exact ⟨k + 1, _, by omega, by go_num, rfl, HQ, HQS.out, hS6, HL6⟩
        case measure => simp [intOf]; omega
      · skip
        have CA := hid (fun W => textR_any cn (by omega) W)
        have CK := hid (fun W => uintR_exact kk (by omega) W)
        have CN := hid (fun W => uintR_exact 1 (by omega) W)
        rw [show ((1 : Nat) : Int) = 1 from rfl] at CN
        have hA := text_small cn y1
        have hK := enc_small kk
        have hN := enc_small 1
        have HQ : Hid (t ++ bstr (Cd.text cn) ++ bstr (Cd.enc kk) ++ bstr (Cd.enc 1) = bstr (Sc.encTo ⟨nm, cs, (kn : Int)⟩ (k + 1))) := by
          show _ = _
          rw [HNX.out, ht.out]
          unfold Sc.colB
          simp only [bstr_append, List.append_assoc, Int.toNat_natCast, if_true]
        generalize bstr (Cd.text cn) = A at CA hA HQ
        generalize bstr (Cd.enc kk) = K at CK hK HQ
        generalize bstr (Cd.enc 1) = N at CN hN HQ
        have hcvk : IntKind.u64.wrap (kk : Int) = (kk : Int) := by rw [IntKind.wrap_u64]; omega
        have hx0 : ¬ 9223372036854775807 < t.size + A.size := by omega
        have hx1 : ¬ 9223372036854775807 < t.size + A.size + K.size := by omega
        have hx2 : ¬ 9223372036854775807 < t.size + A.size + K.size + N.size := by omega
        have HQS := hid (show (t ++ A ++ K ++ N).size ≤ 62 + 62 * (k + 1) by simp only [ByteArray.size_append]; omega)
        clear hA hK hN y1 y2 y3 HNX ht
        go_wp2_with fail
        obtain ⟨cb, hcb⟩ : ∃ cb, w4.heap.size = cb := ⟨_, rfl⟩
        rw [hcb] at hC5
        rw [hcb]
        generalize w4.alloc (.cells #[.string cn, .int .i64 (kk : Int), .bool true] 49) = w5 at *
        clear hcb q0 q1 q2 s0 s1 s2 sl
        obtain ⟨t0, t1, t2, tl⟩ := hC5.cells
        obtain ⟨w30, hw30⟩ : ∃ w30, (w5).drew = w30 := ⟨_, rfl⟩
        have hd30 : Below (w5).heap.size (w5) w30 := hw30 ▸ (Below.refl _ _).drew
        have mk30 : ∀ W, Below w30.heap.size w30 W → Below w30.heap.size w30 W ∧ W.cell? ⟨cb, 0, none⟩ = some (.string cn) ∧ W.cell? ⟨cb, 1, none⟩ = some (.int .i64 (kk : Int)) ∧ W.cell? ⟨cb, 2, none⟩ = some (.bool true) := fun W h => ⟨h, hkeep (hkeep t0 hd30) h, hkeep (hkeep t1 hd30) h, hkeep (hkeep t2 hd30) h⟩
        have HS30 := hid (hS5.keep hd30)
        have HB30 := hid (hnext HL5.out hd30)
        clear t0 t1 t2 tl hS5 HL5 hC5 hd30
        refine wp_region_held_drew (S := (fun W => Below w30.heap.size w30 W ∧ W.cell? ⟨cb, 0, none⟩ = some (.string cn) ∧ W.cell? ⟨cb, 1, none⟩ = some (.int .i64 (kk : Int)) ∧ W.cell? ⟨cb, 2, none⟩ = some (.bool true))) (by kernel_rfl) (by rw [hw30]; exact mk30 _ (Below.refl _ _)) (fun hS30 => ?_)
        rw [hw30] at hS30 ⊢
        clear hw30
        refine wpAnyH_take (i := 0) (oi := ({ dst := some 38, op := Op.move (Operand.tmp 3), type := 9, pos := "ref.go:127", after := #[], guard := none } : Oper)) (v := ?_) rfl (by kernel_rfl) (by kernel_rfl) (by kernel_rfl) (fun _ _ _ h => h) (Or.inl ⟨by rfl, ?_⟩) hS30 ?_
        rotate_left
        · intro w hSw; (try dsimp only at hSw); go_simp; (try with_reducible rfl)
        simp only [Act.put, List.setIfInBounds_toArray, List.set_cons_zero, List.set_cons_succ]
        refine wpAnyH_take (i := 1) (oi := ({ dst := some 39, op := Op.fieldAddr 49 (Operand.tmp 5) 0, type := 0, pos := "ref.go:127", after := #[], guard := none } : Oper)) (v := ?_) rfl (by kernel_rfl) (by kernel_rfl) (by kernel_rfl) (fun _ _ _ h => h) (Or.inl ⟨by rfl, ?_⟩) hS30 ?_
        rotate_left
        · intro w hSw; (try dsimp only at hSw); go_simp; (try with_reducible rfl)
        simp only [Act.put, List.setIfInBounds_toArray, List.set_cons_zero, List.set_cons_succ]
        refine wpAnyH_take (i := 2) (oi := ({ dst := some 40, op := Op.load 9 (Operand.tmp 39), type := 9, pos := "ref.go:127", after := #[{ on := 1, ground := Ground.data }], guard := none } : Oper)) (v := ?_) rfl (by kernel_rfl) (by kernel_rfl) (by kernel_rfl) (fun _ _ _ h => h) (Or.inl ⟨by rfl, ?_⟩) hS30 ?_
        rotate_left
        · intro w hSw; (try dsimp only at hSw); go_simp; (try with_reducible rfl)
        simp only [Act.put, List.setIfInBounds_toArray, List.set_cons_zero, List.set_cons_succ]
        refine wpAnyH_take (i := 5) (oi := ({ dst := some 43, op := Op.fieldAddr 49 (Operand.tmp 5) 1, type := 0, pos := "ref.go:127", after := #[], guard := none } : Oper)) (v := ?_) rfl (by kernel_rfl) (by kernel_rfl) (by kernel_rfl) (fun _ _ _ h => h) (Or.inl ⟨by rfl, ?_⟩) hS30 ?_
        rotate_left
        · intro w hSw; (try dsimp only at hSw); go_simp; (try with_reducible rfl)
        simp only [Act.put, List.setIfInBounds_toArray, List.set_cons_zero, List.set_cons_succ]
        refine wpAnyH_take (i := 6) (oi := ({ dst := some 44, op := Op.load 3 (Operand.tmp 43), type := 3, pos := "ref.go:127", after := #[{ on := 5, ground := Ground.data }], guard := none } : Oper)) (v := ?_) rfl (by kernel_rfl) (by kernel_rfl) (by kernel_rfl) (fun _ _ _ h => h) (Or.inl ⟨by rfl, ?_⟩) hS30 ?_
        rotate_left
        · intro w hSw; (try dsimp only at hSw); go_simp; (try with_reducible rfl)
        simp only [Act.put, List.setIfInBounds_toArray, List.set_cons_zero, List.set_cons_succ]
        refine wpAnyH_take (i := 7) (oi := ({ dst := some 45, op := Op.convert 3 44 (Operand.tmp 44), type := 44, pos := "ref.go:127", after := #[{ on := 6, ground := Ground.data }], guard := none } : Oper)) (v := ?_) rfl (by kernel_rfl) (by kernel_rfl) (by kernel_rfl) (fun _ _ _ h => h) (Or.inl ⟨by rfl, ?_⟩) hS30 ?_
        rotate_left
        · intro w hSw; (try dsimp only at hSw); go_simp; (try with_reducible rfl)
        simp only [Act.put, List.setIfInBounds_toArray, List.set_cons_zero, List.set_cons_succ]
        refine wpAnyH_take (i := 10) (oi := ({ dst := some 48, op := Op.move (Operand.tmp 6), type := 44, pos := "ref.go:127", after := #[], guard := none } : Oper)) (v := ?_) rfl (by kernel_rfl) (by kernel_rfl) (by kernel_rfl) (fun _ _ _ h => h) (Or.inl ⟨by rfl, ?_⟩) hS30 ?_
        rotate_left
        · intro w hSw; (try dsimp only at hSw); go_simp; (try with_reducible rfl)
        simp only [Act.put, List.setIfInBounds_toArray, List.set_cons_zero, List.set_cons_succ]
        refine wpAnyH_ready (rs := [3]) (by kernel_rfl) (by simp) ?_
        refine AllReadyH.cons (o := ({ dst := some 41, op := Op.call { callee := Callee.value (Operand.func 33), args := #[Operand.tmp 40], argTypes := #[9] }, type := 9, pos := "ref.go:127", after := #[{ on := 2, ground := Ground.data }], guard := none } : Oper)) rfl (fun K hK => ?_) AllReadyH.nil
        go_simp
        refine (CA.out _).mono ?_; rintro e w31 ⟨rfl, hb31⟩
        go_wp2_with fail
        refine hK.out _ _ (mk30 _ (hnext hS30.1 hb31)) (fun hS31 => ?_)
        clear hK K
        (try simp only [Act.put, List.setIfInBounds_toArray, List.set_cons_zero, List.set_cons_succ])
        clear hb31 hS30
        refine wpAnyH_take (i := 4) (oi := ({ dst := some 42, op := Op.binOp BinOp.add 9 (Operand.tmp 38) (Operand.tmp 41) 9, type := 9, pos := "ref.go:127", after := #[{ on := 0, ground := Ground.data }, { on := 3, ground := Ground.data }], guard := none } : Oper)) (v := ?_) rfl (by kernel_rfl) (by kernel_rfl) (by kernel_rfl) (fun _ _ _ h => h) (Or.inl ⟨by rfl, ?_⟩) hS31 ?_
        rotate_left
        · intro w hSw; (try dsimp only at hSw); go_simp; (try with_reducible rfl)
        simp only [Act.put, List.setIfInBounds_toArray, List.set_cons_zero, List.set_cons_succ]
        refine wpAnyH_ready (rs := [8]) (by kernel_rfl) (by simp) ?_
        refine AllReadyH.cons (o := ({ dst := some 46, op := Op.call { callee := Callee.value (Operand.func 34), args := #[Operand.tmp 45], argTypes := #[44] }, type := 9, pos := "ref.go:127", after := #[{ on := 7, ground := Ground.data }, { on := 3, ground := Ground.chain }], guard := none } : Oper)) rfl (fun K hK => ?_) AllReadyH.nil
        go_simp
        refine (CK.out _).mono ?_; rintro e w32 ⟨rfl, hb32⟩
        go_wp2_with fail
        refine hK.out _ _ (mk30 _ (hnext hS31.1 hb32)) (fun hS32 => ?_)
        clear hK K
        (try simp only [Act.put, List.setIfInBounds_toArray, List.set_cons_zero, List.set_cons_succ])
        clear hb32 hS31
        refine wpAnyH_take (i := 9) (oi := ({ dst := some 47, op := Op.binOp BinOp.add 9 (Operand.tmp 42) (Operand.tmp 46) 9, type := 9, pos := "ref.go:127", after := #[{ on := 4, ground := Ground.data }, { on := 8, ground := Ground.data }], guard := none } : Oper)) (v := ?_) rfl (by kernel_rfl) (by kernel_rfl) (by kernel_rfl) (fun _ _ _ h => h) (Or.inl ⟨by rfl, ?_⟩) hS32 ?_
        rotate_left
        · intro w hSw; (try dsimp only at hSw); go_simp; (try with_reducible rfl)
        simp only [Act.put, List.setIfInBounds_toArray, List.set_cons_zero, List.set_cons_succ]
        refine wpAnyH_ready (rs := [11]) (by kernel_rfl) (by simp) ?_
        refine AllReadyH.cons (o := ({ dst := some 49, op := Op.call { callee := Callee.value (Operand.func 34), args := #[Operand.tmp 48], argTypes := #[44] }, type := 9, pos := "ref.go:127", after := #[{ on := 10, ground := Ground.data }, { on := 8, ground := Ground.chain }], guard := none } : Oper)) rfl (fun K hK => ?_) AllReadyH.nil
        go_simp
        refine (CN.out _).mono ?_; rintro e w33 ⟨rfl, hb33⟩
        go_wp2_with fail
        refine hK.out _ _ (mk30 _ (hnext hS32.1 hb33)) (fun hS33 => ?_)
        clear hK K
        (try simp only [Act.put, List.setIfInBounds_toArray, List.set_cons_zero, List.set_cons_succ])
        clear hb33 hS32
        refine wpAnyH_take (i := 12) (oi := ({ dst := some 50, op := Op.binOp BinOp.add 9 (Operand.tmp 47) (Operand.tmp 49) 9, type := 9, pos := "ref.go:127", after := #[{ on := 9, ground := Ground.data }, { on := 11, ground := Ground.data }], guard := none } : Oper)) (v := ?_) rfl (by kernel_rfl) (by kernel_rfl) (by kernel_rfl) (fun _ _ _ h => h) (Or.inl ⟨by rfl, ?_⟩) hS33 ?_
        rotate_left
        · intro w hSw; (try dsimp only at hSw); go_simp; (try with_reducible rfl)
        simp only [Act.put, List.setIfInBounds_toArray, List.set_cons_zero, List.set_cons_succ]
        refine wpAnyH_take (i := 13) (oi := ({ dst := some 3, op := Op.assign (Operand.tmp 50), type := 9, pos := "ref.go:127", after := #[{ on := 12, ground := Ground.data }, { on := 11, ground := Ground.chain }, { on := 0, ground := Ground.phase }, { on := 1, ground := Ground.phase }, { on := 2, ground := Ground.phase }, { on := 3, ground := Ground.phase }, { on := 4, ground := Ground.phase }, { on := 5, ground := Ground.phase }, { on := 6, ground := Ground.phase }, { on := 7, ground := Ground.phase }, { on := 8, ground := Ground.phase }, { on := 9, ground := Ground.phase }, { on := 10, ground := Ground.phase }, { on := 11, ground := Ground.phase }, { on := 12, ground := Ground.phase }], guard := none } : Oper)) (v := ?_) rfl (by kernel_rfl) (by kernel_rfl) (by kernel_rfl) (fun _ _ _ h => h) (Or.inl ⟨by rfl, ?_⟩) hS33 ?_
        rotate_left
        · intro w hSw; (try dsimp only at hSw); go_simp; (try with_reducible rfl)
        simp only [Act.put, List.setIfInBounds_toArray, List.set_cons_zero, List.set_cons_succ]
        refine wpAnyH_done (by kernel_rfl) ?_ _
        have hS6 := HS30.out.keep hS33.1
        have HL6 := hid (hnext HB30.out hS33.1)
        go_wp2_with fail
        go_roundw
        case rel => exact ⟨k + 1, _, by omega, by go_num, rfl, HQ, HQS.out, hS6, HL6⟩
        case measure => simp [intOf]; omega
    · obtain rfl : k = cs.length := by omega
      have HE : Hid (bstr (Sc.encode ⟨nm, cs, (kn : Int)⟩) = t) := by show _ = _; rw [← HALL.out, ht.out]
      clear hS hnx
      go_wp2_with fail
      go_ret
      rw [HE.out]
      exact ⟨rfl, hL.out⟩
end Go.Proofs.Ytmgafcblbbbanaa
