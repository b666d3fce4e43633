/-
  SchemaTells answers true at any two schemas and text. No condition.
-/
import Derived.Test.YtmgafcblbbbanaaSm
namespace Go.Proofs.Ytmgafcblbbbanaa
open Go.RowKit

theorem nameR_any' (s : ByteArray) (hs : s.size ≤ maxLen) (w : World) : Calls Try.prog 14 #[.string s] w fun e w' => e = .returned (.bool (Sc.nameB s)) ∧ Below w.heap.size w w' :=
  (nameR_any s hs w).mono fun _ _ ⟨h1, h2⟩ => ⟨h1, h2 ▸ Below.refl _ _⟩
set_option maxRecDepth 100000 in
set_option maxHeartbeats 12800000 in
theorem schemaTells_walk (a : Sc.S) (va : Value) (b : Sc.S) (vb : Value) (s : ByteArray) (w : World) (ha : SchemaIn w a va) (hb : SchemaIn w b vb) (hs : s.size ≤ maxLen) :
    Calls Try.prog 3 #[sv a va, sv b vb, .string s] w fun e w' => e = .returned (.bool true) ∧ Below w.heap.size w w' := by
  obtain ⟨ca, za⟩ := ha
  obtain ⟨cb, zb⟩ := hb
  have HCA := hid ca
  have HCB := hid cb
  have hla := hid (fun W h => light_any a va [] (.slice none 0 0) W h (RsAt.nil W).1)
  have hlb := hid (fun W h => light_any b vb [] (.slice none 0 0) W h (RsAt.nil W).1)
  obtain ⟨adra, capa, rfl⟩ := ca.slc
  obtain ⟨adrb, capb, rfl⟩ := cb.slc
  have c1 := hid (fun W h => right_sc a (.slice adra a.cols.length capa) W h za)
  have c2 := hid (fun W h => rightR_sc a (.slice adra a.cols.length capa) W h za)
  have c3 := hid (fun W => name_any s hs W)
  have c4 := hid (fun W => nameR_any' s hs W)
  have c5 := hid (fun W h h' => extends_any a b (.slice adra a.cols.length capa) (.slice adrb b.cols.length capb) W h h' za zb)
  have c6 := hid (fun W h h' => extendsR_any a b (.slice adra a.cols.length capa) (.slice adrb b.cols.length capb) W h h' za zb)
  have c7 := hid (fun W h h' => same_any a b (.slice adra a.cols.length capa) (.slice adrb b.cols.length capb) W h h')
  have c8 := hid (fun W h h' => sameR_any a b (.slice adra a.cols.length capa) (.slice adrb b.cols.length capb) W h h')
  have c9 := hid (fun W h => encode_any a (.slice adra a.cols.length capa) W h za)
  have c10 := hid (fun W h => encodeR_any a (.slice adra a.cols.length capa) W h za)
  clear ca cb za zb
  unfold maxLen at hs
  obtain ⟨an, ac, ak⟩ := a
  obtain ⟨bn, bc, bk⟩ := b
  unfold sv at *
  simp only at HCA HCB hla hlb c1 c2 c3 c4 c5 c6 c7 c8 c9 c10 ⊢
  generalize Sc.right ⟨an, ac, ak⟩ = r1 at c1 c2
  generalize Sc.nameB s = r2 at c3 c4
  generalize Sc.extends ⟨an, ac, ak⟩ ⟨bn, bc, bk⟩ = r3 at c5 c6
  generalize Sc.same ⟨an, ac, ak⟩ ⟨bn, bc, bk⟩ = r4 at c7 c8
  generalize bstr (Sc.encode ⟨an, ac, ak⟩) = r5 at c9 c10
  have hba0 := hba w (.cells #[.string an, .slice adra ac.length capa, .int .i64 ak] 24)
  have hbb0 := hba (w.alloc (.cells #[.string an, .slice adra ac.length capa, .int .i64 ak] 24)) (.cells #[.string bn, .slice adrb bc.length capb, .int .i64 bk] 24)
  have SA := hid ((BS.new w an (.slice adra ac.length capa) ak).keep hbb0)
  have SB0 := BS.new (w.alloc (.cells #[.string an, .slice adra ac.length capa, .int .i64 ak] 24)) bn (.slice adrb bc.length capb) bk
  rw [show (w.alloc (.cells #[.string an, .slice adra ac.length capa, .int .i64 ak] 24)).heap.size = w.heap.size + 1 by simp] at SB0
  have SB := hid SB0
  have L0 := hid (hnext hba0 hbb0)
  clear hba0 hbb0 SB0
  generalize lightB ⟨an, ac, ak⟩ [] = l1 at hla
  generalize lightB ⟨bn, bc, bk⟩ [] = l2 at hlb
  cases l1
  · go_enter Try.func3, Try.ntmps3
    go_wp2_with fail
    refine (hla.out _ (HCA.out.below L0.out)).mono ?_; rintro e w1 ⟨rfl, b1⟩
    go_wp2_with fail
    refine (known_any _).mono ?_; rintro e w3 ⟨rfl, b3⟩
    go_wp2
    go_ret
    exact ⟨rfl, hnext (hnext L0.out b1) b3⟩
  cases l2
  · go_enter Try.func3, Try.ntmps3
    go_wp2_with fail
    refine (hla.out _ (HCA.out.below L0.out)).mono ?_; rintro e w1 ⟨rfl, b1⟩
    have S1 := SB.out.keep b1
    obtain ⟨s0, s1, s2, sl⟩ := S1.cells
    have L1 := hid (hnext L0.out b1)
    clear b1
    go_wp2_with fail
    refine (hlb.out _ (HCB.out.below L1.out)).mono ?_; rintro e w2 ⟨rfl, b2⟩
    go_wp2_with fail
    refine (known_any _).mono ?_; rintro e w3 ⟨rfl, b3⟩
    go_wp2
    go_ret
    exact ⟨rfl, hnext (hnext L1.out b2) b3⟩
  by_cases h : s.size ≤ 100
  · have h2 : ¬ (100 : Int) < s.size := by omega
    go_enter Try.func3, Try.ntmps3
    go_wp2_with fail
    refine (hla.out _ (HCA.out.below L0.out)).mono ?_; rintro e w1 ⟨rfl, b1⟩
    have A1 := SA.out.keep b1
    have S1 := SB.out.keep b1
    obtain ⟨s0, s1, s2, sl⟩ := S1.cells
    have L1 := hid (hnext L0.out b1)
    clear b1
    go_wp2_with fail
    refine (hlb.out _ (HCB.out.below L1.out)).mono ?_; rintro e w2 ⟨rfl, b2⟩
    have A2 := A1.keep b2
    have S2 := S1.keep b2
    have L2 := hid (hnext L1.out b2)
    clear b2 A1 S1 s0 s1 s2 sl
    go_wp2_with fail
    obtain ⟨a0, a1, a2, al⟩ := A2.cells
    obtain ⟨b0, b1, b2, bl⟩ := S2.cells
    obtain ⟨w20, hw20⟩ : ∃ w20, (w2).drew = w20 := ⟨_, rfl⟩
    have hd20 : Below (w2).heap.size (w2) w20 := hw20 ▸ (Below.refl _ _).drew
    have mk20 : ∀ W, Below w20.heap.size w20 W → Below w20.heap.size w20 W ∧ W.cell? ⟨w.heap.size, 0, none⟩ = some (.string an) ∧ W.cell? ⟨w.heap.size, 1, none⟩ = some (.slice adra ac.length capa) ∧ W.cell? ⟨w.heap.size, 2, none⟩ = some (.int .i64 ak) ∧ W.cell? ⟨w.heap.size + 1, 0, none⟩ = some (.string bn) ∧ W.cell? ⟨w.heap.size + 1, 1, none⟩ = some (.slice adrb bc.length capb) ∧ W.cell? ⟨w.heap.size + 1, 2, none⟩ = some (.int .i64 bk) := fun W h => ⟨h, hkeep (hkeep a0 hd20) h, hkeep (hkeep a1 hd20) h, hkeep (hkeep a2 hd20) h, hkeep (hkeep b0 hd20) h, hkeep (hkeep b1 hd20) h, hkeep (hkeep b2 hd20) h⟩
    have L20 := hid (hnext L2.out hd20)
    have CA := hid (HCA.out.below L20.out)
    have CB := hid (HCB.out.below L20.out)
    clear a0 a1 a2 al b0 b1 b2 bl A2 S2 hd20 L2
    refine wp_region_held_drew (S := (fun W => Below w20.heap.size w20 W ∧ W.cell? ⟨w.heap.size, 0, none⟩ = some (.string an) ∧ W.cell? ⟨w.heap.size, 1, none⟩ = some (.slice adra ac.length capa) ∧ W.cell? ⟨w.heap.size, 2, none⟩ = some (.int .i64 ak) ∧ W.cell? ⟨w.heap.size + 1, 0, none⟩ = some (.string bn) ∧ W.cell? ⟨w.heap.size + 1, 1, none⟩ = some (.slice adrb bc.length capb) ∧ W.cell? ⟨w.heap.size + 1, 2, none⟩ = some (.int .i64 bk))) (by kernel_rfl) (by rw [hw20]; exact mk20 _ (Below.refl _ _)) (fun hS20 => ?_)
    rw [hw20] at hS20 ⊢
    clear hw20
    refine wpAnyH_take (i := 0) (oi := ({ dst := some 21, op := Op.load 24 (Operand.tmp 3), type := 24, pos := "law.go:51", after := #[], guard := none } : Oper)) (v := ?_) rfl (by kernel_rfl) (by kernel_rfl) (by kernel_rfl) (fun _ _ _ h => h) (Or.inl ⟨by rfl, ?_⟩) hS20 ?_
    rotate_left
    · intro w hSw; (try dsimp only at hSw); go_simp; (try with_reducible rfl)
    simp only [Act.put, List.setIfInBounds_toArray, List.set_cons_zero, List.set_cons_succ]
    refine wpAnyH_take (i := 2) (oi := ({ dst := some 23, op := Op.load 24 (Operand.tmp 3), type := 24, pos := "law.go:51", after := #[], guard := none } : Oper)) (v := ?_) rfl (by kernel_rfl) (by kernel_rfl) (by kernel_rfl) (fun _ _ _ h => h) (Or.inl ⟨by rfl, ?_⟩) hS20 ?_
    rotate_left
    · intro w hSw; (try dsimp only at hSw); go_simp; (try with_reducible rfl)
    simp only [Act.put, List.setIfInBounds_toArray, List.set_cons_zero, List.set_cons_succ]
    refine wpAnyH_ready (rs := [1]) (by kernel_rfl) (by simp) ?_
    refine AllReadyH.cons (o := ({ dst := some 22, op := Op.call { callee := Callee.value (Operand.func 11), args := #[Operand.tmp 21], argTypes := #[24] }, type := 4, pos := "law.go:51", after := #[{ on := 0, ground := Ground.data }], guard := none } : Oper)) rfl (fun K hK => ?_) AllReadyH.nil
    go_simp
    refine (c1.out _ (CA.out.below hS20.1)).mono ?_; rintro e w21 ⟨rfl, hb21⟩
    go_wp2_with fail
    refine hK.out _ _ (mk20 _ (hnext hS20.1 hb21)) (fun hS21 => ?_)
    clear hK K
    (try simp only [Act.put, List.setIfInBounds_toArray, List.set_cons_zero, List.set_cons_succ])
    clear hb21 hS20
    refine wpAnyH_ready (rs := [3]) (by kernel_rfl) (by simp) ?_
    refine AllReadyH.cons (o := ({ dst := some 24, op := Op.call { callee := Callee.value (Operand.func 12), args := #[Operand.tmp 23], argTypes := #[24] }, type := 4, pos := "law.go:51", after := #[{ on := 2, ground := Ground.data }, { on := 1, ground := Ground.chain }], guard := none } : Oper)) rfl (fun K hK => ?_) AllReadyH.nil
    go_simp
    refine (c2.out _ (CA.out.below hS21.1)).mono ?_; rintro e w22 ⟨rfl, hb22⟩
    go_wp2_with fail
    refine hK.out _ _ (mk20 _ (hnext hS21.1 hb22)) (fun hS22 => ?_)
    clear hK K
    (try simp only [Act.put, List.setIfInBounds_toArray, List.set_cons_zero, List.set_cons_succ])
    clear hb22 hS21
    refine wpAnyH_take (i := 4) (oi := ({ dst := some 25, op := Op.binOp BinOp.eql 4 (Operand.tmp 22) (Operand.tmp 24) 4, type := 4, pos := "law.go:51", after := #[{ on := 1, ground := Ground.data }, { on := 3, ground := Ground.data }], guard := none } : Oper)) (v := ?_) rfl (by kernel_rfl) (by kernel_rfl) (by kernel_rfl) (fun _ _ _ h => h) (Or.inl ⟨by rfl, ?_⟩) hS22 ?_
    rotate_left
    · intro w hSw; (try dsimp only at hSw); go_simp; (try with_reducible rfl)
    simp only [Act.put, List.setIfInBounds_toArray, List.set_cons_zero, List.set_cons_succ]
    refine wpAnyH_take (i := 5) (oi := ({ dst := some 26, op := Op.move (Operand.tmp 25), type := 4, pos := "law.go:51", after := #[{ on := 4, ground := Ground.data }, { on := 3, ground := Ground.chain }], guard := none } : Oper)) (v := ?_) rfl (by kernel_rfl) (by kernel_rfl) (by kernel_rfl) (fun _ _ _ h => h) (Or.inl ⟨by rfl, ?_⟩) hS22 ?_
    rotate_left
    · intro w hSw; (try dsimp only at hSw); go_simp; (try with_reducible rfl)
    simp only [Act.put, List.setIfInBounds_toArray, List.set_cons_zero, List.set_cons_succ]
    refine wpAnyH_take (i := 6) (oi := ({ dst := some 27, op := Op.move (Operand.tmp 2), type := 9, pos := "law.go:51", after := #[{ on := 5, ground := Ground.guard }], guard := some (5, true) } : Oper)) (v := ?_) rfl (by kernel_rfl) (by kernel_rfl) (by kernel_rfl) (fun _ _ _ h => h) (Or.inl ⟨by rfl, ?_⟩) hS22 ?_
    rotate_left
    · intro w hSw; (try dsimp only at hSw); go_simp; (try with_reducible rfl)
    simp only [Act.put, List.setIfInBounds_toArray, List.set_cons_zero, List.set_cons_succ]
    refine wpAnyH_take (i := 8) (oi := ({ dst := some 29, op := Op.move (Operand.tmp 2), type := 9, pos := "law.go:51", after := #[{ on := 5, ground := Ground.guard }], guard := some (5, true) } : Oper)) (v := ?_) rfl (by kernel_rfl) (by kernel_rfl) (by kernel_rfl) (fun _ _ _ h => h) (Or.inl ⟨by rfl, ?_⟩) hS22 ?_
    rotate_left
    · intro w hSw; (try dsimp only at hSw); go_simp; (try with_reducible rfl)
    simp only [Act.put, List.setIfInBounds_toArray, List.set_cons_zero, List.set_cons_succ]
    refine wpAnyH_ready (rs := [7]) (by kernel_rfl) (by simp) ?_
    refine AllReadyH.cons (o := ({ dst := some 28, op := Op.call { callee := Callee.value (Operand.func 13), args := #[Operand.tmp 27], argTypes := #[9] }, type := 4, pos := "law.go:51", after := #[{ on := 6, ground := Ground.data }, { on := 5, ground := Ground.chain }, { on := 5, ground := Ground.guard }], guard := some (5, true) } : Oper)) rfl (fun K hK => ?_) AllReadyH.nil
    go_simp
    refine (c3.out _).mono ?_; rintro e w23 ⟨rfl, hb23⟩
    go_wp2_with fail
    refine hK.out _ _ (mk20 _ (hnext hS22.1 hb23)) (fun hS23 => ?_)
    clear hK K
    (try simp only [Act.put, List.setIfInBounds_toArray, List.set_cons_zero, List.set_cons_succ])
    clear hb23 hS22
    refine wpAnyH_ready (rs := [9]) (by kernel_rfl) (by simp) ?_
    refine AllReadyH.cons (o := ({ dst := some 30, op := Op.call { callee := Callee.value (Operand.func 14), args := #[Operand.tmp 29], argTypes := #[9] }, type := 4, pos := "law.go:51", after := #[{ on := 8, ground := Ground.data }, { on := 7, ground := Ground.chain }, { on := 5, ground := Ground.guard }], guard := some (5, true) } : Oper)) rfl (fun K hK => ?_) AllReadyH.nil
    go_simp
    refine (c4.out _).mono ?_; rintro e w24 ⟨rfl, hb24⟩
    go_wp2_with fail
    refine hK.out _ _ (mk20 _ (hnext hS23.1 hb24)) (fun hS24 => ?_)
    clear hK K
    (try simp only [Act.put, List.setIfInBounds_toArray, List.set_cons_zero, List.set_cons_succ])
    clear hb24 hS23
    refine wpAnyH_take (i := 10) (oi := ({ dst := some 31, op := Op.binOp BinOp.eql 4 (Operand.tmp 28) (Operand.tmp 30) 4, type := 4, pos := "law.go:51", after := #[{ on := 7, ground := Ground.data }, { on := 9, ground := Ground.data }, { on := 5, ground := Ground.guard }], guard := some (5, true) } : Oper)) (v := ?_) rfl (by kernel_rfl) (by kernel_rfl) (by kernel_rfl) (fun _ _ _ h => h) (Or.inl ⟨by rfl, ?_⟩) hS24 ?_
    rotate_left
    · intro w hSw; (try dsimp only at hSw); go_simp; (try with_reducible rfl)
    simp only [Act.put, List.setIfInBounds_toArray, List.set_cons_zero, List.set_cons_succ]
    refine wpAnyH_take (i := 11) (oi := ({ dst := some 32, op := Op.pick (Operand.tmp 26) (Operand.tmp 31) (Operand.const (Value.bool false)), type := 4, pos := "law.go:51", after := #[{ on := 5, ground := Ground.data }, { on := 10, ground := Ground.data }], guard := none } : Oper)) (v := ?_) rfl (by kernel_rfl) (by kernel_rfl) (by kernel_rfl) (fun _ _ _ h => h) (Or.inl ⟨by rfl, ?_⟩) hS24 ?_
    rotate_left
    · intro w hSw; (try dsimp only at hSw); go_simp; (try with_reducible rfl)
    simp only [Act.put, List.setIfInBounds_toArray, List.set_cons_zero, List.set_cons_succ]
    refine wpAnyH_take (i := 12) (oi := ({ dst := some 33, op := Op.move (Operand.tmp 32), type := 4, pos := "law.go:51", after := #[{ on := 11, ground := Ground.data }, { on := 9, ground := Ground.chain }], guard := none } : Oper)) (v := ?_) rfl (by kernel_rfl) (by kernel_rfl) (by kernel_rfl) (fun _ _ _ h => h) (Or.inl ⟨by rfl, ?_⟩) hS24 ?_
    rotate_left
    · intro w hSw; (try dsimp only at hSw); go_simp; (try with_reducible rfl)
    simp only [Act.put, List.setIfInBounds_toArray, List.set_cons_zero, List.set_cons_succ]
    refine wpAnyH_take (i := 13) (oi := ({ dst := some 34, op := Op.load 24 (Operand.tmp 3), type := 24, pos := "law.go:51", after := #[{ on := 12, ground := Ground.guard }], guard := some (12, true) } : Oper)) (v := ?_) rfl (by kernel_rfl) (by kernel_rfl) (by kernel_rfl) (fun _ _ _ h => h) (Or.inl ⟨by rfl, ?_⟩) hS24 ?_
    rotate_left
    · intro w hSw; (try dsimp only at hSw); go_simp; (try with_reducible rfl)
    simp only [Act.put, List.setIfInBounds_toArray, List.set_cons_zero, List.set_cons_succ]
    refine wpAnyH_take (i := 14) (oi := ({ dst := some 35, op := Op.load 24 (Operand.tmp 4), type := 24, pos := "law.go:51", after := #[{ on := 12, ground := Ground.guard }], guard := some (12, true) } : Oper)) (v := ?_) rfl (by kernel_rfl) (by kernel_rfl) (by kernel_rfl) (fun _ _ _ h => h) (Or.inl ⟨by rfl, ?_⟩) hS24 ?_
    rotate_left
    · intro w hSw; (try dsimp only at hSw); go_simp; (try with_reducible rfl)
    simp only [Act.put, List.setIfInBounds_toArray, List.set_cons_zero, List.set_cons_succ]
    refine wpAnyH_take (i := 16) (oi := ({ dst := some 37, op := Op.load 24 (Operand.tmp 3), type := 24, pos := "law.go:51", after := #[{ on := 12, ground := Ground.guard }], guard := some (12, true) } : Oper)) (v := ?_) rfl (by kernel_rfl) (by kernel_rfl) (by kernel_rfl) (fun _ _ _ h => h) (Or.inl ⟨by rfl, ?_⟩) hS24 ?_
    rotate_left
    · intro w hSw; (try dsimp only at hSw); go_simp; (try with_reducible rfl)
    simp only [Act.put, List.setIfInBounds_toArray, List.set_cons_zero, List.set_cons_succ]
    refine wpAnyH_take (i := 17) (oi := ({ dst := some 38, op := Op.load 24 (Operand.tmp 4), type := 24, pos := "law.go:51", after := #[{ on := 12, ground := Ground.guard }], guard := some (12, true) } : Oper)) (v := ?_) rfl (by kernel_rfl) (by kernel_rfl) (by kernel_rfl) (fun _ _ _ h => h) (Or.inl ⟨by rfl, ?_⟩) hS24 ?_
    rotate_left
    · intro w hSw; (try dsimp only at hSw); go_simp; (try with_reducible rfl)
    simp only [Act.put, List.setIfInBounds_toArray, List.set_cons_zero, List.set_cons_succ]
    refine wpAnyH_ready (rs := [15]) (by kernel_rfl) (by simp) ?_
    refine AllReadyH.cons (o := ({ dst := some 36, op := Op.call { callee := Callee.value (Operand.func 15), args := #[Operand.tmp 34, Operand.tmp 35], argTypes := #[24, 24] }, type := 4, pos := "law.go:51", after := #[{ on := 13, ground := Ground.data }, { on := 14, ground := Ground.data }, { on := 12, ground := Ground.chain }, { on := 12, ground := Ground.guard }], guard := some (12, true) } : Oper)) rfl (fun K hK => ?_) AllReadyH.nil
    go_simp
    refine (c5.out _ (CA.out.below hS24.1) (CB.out.below hS24.1)).mono ?_; rintro e w25 ⟨rfl, hb25⟩
    go_wp2_with fail
    refine hK.out _ _ (mk20 _ (hnext hS24.1 hb25)) (fun hS25 => ?_)
    clear hK K
    (try simp only [Act.put, List.setIfInBounds_toArray, List.set_cons_zero, List.set_cons_succ])
    clear hb25 hS24
    refine wpAnyH_ready (rs := [18]) (by kernel_rfl) (by simp) ?_
    refine AllReadyH.cons (o := ({ dst := some 39, op := Op.call { callee := Callee.value (Operand.func 16), args := #[Operand.tmp 37, Operand.tmp 38], argTypes := #[24, 24] }, type := 4, pos := "law.go:51", after := #[{ on := 16, ground := Ground.data }, { on := 17, ground := Ground.data }, { on := 15, ground := Ground.chain }, { on := 12, ground := Ground.guard }], guard := some (12, true) } : Oper)) rfl (fun K hK => ?_) AllReadyH.nil
    go_simp
    refine (c6.out _ (CA.out.below hS25.1) (CB.out.below hS25.1)).mono ?_; rintro e w26 ⟨rfl, hb26⟩
    go_wp2_with fail
    refine hK.out _ _ (mk20 _ (hnext hS25.1 hb26)) (fun hS26 => ?_)
    clear hK K
    (try simp only [Act.put, List.setIfInBounds_toArray, List.set_cons_zero, List.set_cons_succ])
    clear hb26 hS25
    refine wpAnyH_take (i := 19) (oi := ({ dst := some 40, op := Op.binOp BinOp.eql 4 (Operand.tmp 36) (Operand.tmp 39) 4, type := 4, pos := "law.go:51", after := #[{ on := 15, ground := Ground.data }, { on := 18, ground := Ground.data }, { on := 12, ground := Ground.guard }], guard := some (12, true) } : Oper)) (v := ?_) rfl (by kernel_rfl) (by kernel_rfl) (by kernel_rfl) (fun _ _ _ h => h) (Or.inl ⟨by rfl, ?_⟩) hS26 ?_
    rotate_left
    · intro w hSw; (try dsimp only at hSw); go_simp; (try with_reducible rfl)
    simp only [Act.put, List.setIfInBounds_toArray, List.set_cons_zero, List.set_cons_succ]
    refine wpAnyH_take (i := 20) (oi := ({ dst := some 41, op := Op.pick (Operand.tmp 33) (Operand.tmp 40) (Operand.const (Value.bool false)), type := 4, pos := "law.go:51", after := #[{ on := 12, ground := Ground.data }, { on := 19, ground := Ground.data }], guard := none } : Oper)) (v := ?_) rfl (by kernel_rfl) (by kernel_rfl) (by kernel_rfl) (fun _ _ _ h => h) (Or.inl ⟨by rfl, ?_⟩) hS26 ?_
    rotate_left
    · intro w hSw; (try dsimp only at hSw); go_simp; (try with_reducible rfl)
    simp only [Act.put, List.setIfInBounds_toArray, List.set_cons_zero, List.set_cons_succ]
    refine wpAnyH_take (i := 21) (oi := ({ dst := some 42, op := Op.move (Operand.tmp 41), type := 4, pos := "law.go:51", after := #[{ on := 20, ground := Ground.data }, { on := 18, ground := Ground.chain }], guard := none } : Oper)) (v := ?_) rfl (by kernel_rfl) (by kernel_rfl) (by kernel_rfl) (fun _ _ _ h => h) (Or.inl ⟨by rfl, ?_⟩) hS26 ?_
    rotate_left
    · intro w hSw; (try dsimp only at hSw); go_simp; (try with_reducible rfl)
    simp only [Act.put, List.setIfInBounds_toArray, List.set_cons_zero, List.set_cons_succ]
    refine wpAnyH_take (i := 22) (oi := ({ dst := some 43, op := Op.load 24 (Operand.tmp 3), type := 24, pos := "law.go:51", after := #[{ on := 21, ground := Ground.guard }], guard := some (21, true) } : Oper)) (v := ?_) rfl (by kernel_rfl) (by kernel_rfl) (by kernel_rfl) (fun _ _ _ h => h) (Or.inl ⟨by rfl, ?_⟩) hS26 ?_
    rotate_left
    · intro w hSw; (try dsimp only at hSw); go_simp; (try with_reducible rfl)
    simp only [Act.put, List.setIfInBounds_toArray, List.set_cons_zero, List.set_cons_succ]
    refine wpAnyH_take (i := 23) (oi := ({ dst := some 44, op := Op.load 24 (Operand.tmp 4), type := 24, pos := "law.go:51", after := #[{ on := 21, ground := Ground.guard }], guard := some (21, true) } : Oper)) (v := ?_) rfl (by kernel_rfl) (by kernel_rfl) (by kernel_rfl) (fun _ _ _ h => h) (Or.inl ⟨by rfl, ?_⟩) hS26 ?_
    rotate_left
    · intro w hSw; (try dsimp only at hSw); go_simp; (try with_reducible rfl)
    simp only [Act.put, List.setIfInBounds_toArray, List.set_cons_zero, List.set_cons_succ]
    refine wpAnyH_take (i := 25) (oi := ({ dst := some 46, op := Op.load 24 (Operand.tmp 3), type := 24, pos := "law.go:51", after := #[{ on := 21, ground := Ground.guard }], guard := some (21, true) } : Oper)) (v := ?_) rfl (by kernel_rfl) (by kernel_rfl) (by kernel_rfl) (fun _ _ _ h => h) (Or.inl ⟨by rfl, ?_⟩) hS26 ?_
    rotate_left
    · intro w hSw; (try dsimp only at hSw); go_simp; (try with_reducible rfl)
    simp only [Act.put, List.setIfInBounds_toArray, List.set_cons_zero, List.set_cons_succ]
    refine wpAnyH_take (i := 26) (oi := ({ dst := some 47, op := Op.load 24 (Operand.tmp 4), type := 24, pos := "law.go:51", after := #[{ on := 21, ground := Ground.guard }], guard := some (21, true) } : Oper)) (v := ?_) rfl (by kernel_rfl) (by kernel_rfl) (by kernel_rfl) (fun _ _ _ h => h) (Or.inl ⟨by rfl, ?_⟩) hS26 ?_
    rotate_left
    · intro w hSw; (try dsimp only at hSw); go_simp; (try with_reducible rfl)
    simp only [Act.put, List.setIfInBounds_toArray, List.set_cons_zero, List.set_cons_succ]
    refine wpAnyH_ready (rs := [24]) (by kernel_rfl) (by simp) ?_
    refine AllReadyH.cons (o := ({ dst := some 45, op := Op.call { callee := Callee.value (Operand.func 17), args := #[Operand.tmp 43, Operand.tmp 44], argTypes := #[24, 24] }, type := 4, pos := "law.go:51", after := #[{ on := 22, ground := Ground.data }, { on := 23, ground := Ground.data }, { on := 21, ground := Ground.chain }, { on := 21, ground := Ground.guard }], guard := some (21, true) } : Oper)) rfl (fun K hK => ?_) AllReadyH.nil
    go_simp
    refine (c7.out _ (CA.out.below hS26.1) (CB.out.below hS26.1)).mono ?_; rintro e w27 ⟨rfl, hb27⟩
    go_wp2_with fail
    refine hK.out _ _ (mk20 _ (hnext hS26.1 hb27)) (fun hS27 => ?_)
    clear hK K
    (try simp only [Act.put, List.setIfInBounds_toArray, List.set_cons_zero, List.set_cons_succ])
    clear hb27 hS26
    refine wpAnyH_ready (rs := [27]) (by kernel_rfl) (by simp) ?_
    refine AllReadyH.cons (o := ({ dst := some 48, op := Op.call { callee := Callee.value (Operand.func 18), args := #[Operand.tmp 46, Operand.tmp 47], argTypes := #[24, 24] }, type := 4, pos := "law.go:51", after := #[{ on := 25, ground := Ground.data }, { on := 26, ground := Ground.data }, { on := 24, ground := Ground.chain }, { on := 21, ground := Ground.guard }], guard := some (21, true) } : Oper)) rfl (fun K hK => ?_) AllReadyH.nil
    go_simp
    refine (c8.out _ (CA.out.below hS27.1) (CB.out.below hS27.1)).mono ?_; rintro e w28 ⟨rfl, hb28⟩
    go_wp2_with fail
    refine hK.out _ _ (mk20 _ (hnext hS27.1 hb28)) (fun hS28 => ?_)
    clear hK K
    (try simp only [Act.put, List.setIfInBounds_toArray, List.set_cons_zero, List.set_cons_succ])
    clear hb28 hS27
    refine wpAnyH_take (i := 28) (oi := ({ dst := some 49, op := Op.binOp BinOp.eql 4 (Operand.tmp 45) (Operand.tmp 48) 4, type := 4, pos := "law.go:51", after := #[{ on := 24, ground := Ground.data }, { on := 27, ground := Ground.data }, { on := 21, ground := Ground.guard }], guard := some (21, true) } : Oper)) (v := ?_) rfl (by kernel_rfl) (by kernel_rfl) (by kernel_rfl) (fun _ _ _ h => h) (Or.inl ⟨by rfl, ?_⟩) hS28 ?_
    rotate_left
    · intro w hSw; (try dsimp only at hSw); go_simp; (try with_reducible rfl)
    simp only [Act.put, List.setIfInBounds_toArray, List.set_cons_zero, List.set_cons_succ]
    refine wpAnyH_take (i := 29) (oi := ({ dst := some 50, op := Op.pick (Operand.tmp 42) (Operand.tmp 49) (Operand.const (Value.bool false)), type := 4, pos := "law.go:51", after := #[{ on := 21, ground := Ground.data }, { on := 28, ground := Ground.data }], guard := none } : Oper)) (v := ?_) rfl (by kernel_rfl) (by kernel_rfl) (by kernel_rfl) (fun _ _ _ h => h) (Or.inl ⟨by rfl, ?_⟩) hS28 ?_
    rotate_left
    · intro w hSw; (try dsimp only at hSw); go_simp; (try with_reducible rfl)
    simp only [Act.put, List.setIfInBounds_toArray, List.set_cons_zero, List.set_cons_succ]
    refine wpAnyH_take (i := 30) (oi := ({ dst := some 51, op := Op.move (Operand.tmp 50), type := 4, pos := "law.go:51", after := #[{ on := 29, ground := Ground.data }, { on := 27, ground := Ground.chain }], guard := none } : Oper)) (v := ?_) rfl (by kernel_rfl) (by kernel_rfl) (by kernel_rfl) (fun _ _ _ h => h) (Or.inl ⟨by rfl, ?_⟩) hS28 ?_
    rotate_left
    · intro w hSw; (try dsimp only at hSw); go_simp; (try with_reducible rfl)
    simp only [Act.put, List.setIfInBounds_toArray, List.set_cons_zero, List.set_cons_succ]
    refine wpAnyH_take (i := 31) (oi := ({ dst := some 52, op := Op.load 24 (Operand.tmp 3), type := 24, pos := "law.go:51", after := #[{ on := 30, ground := Ground.guard }], guard := some (30, true) } : Oper)) (v := ?_) rfl (by kernel_rfl) (by kernel_rfl) (by kernel_rfl) (fun _ _ _ h => h) (Or.inl ⟨by rfl, ?_⟩) hS28 ?_
    rotate_left
    · intro w hSw; (try dsimp only at hSw); go_simp; (try with_reducible rfl)
    simp only [Act.put, List.setIfInBounds_toArray, List.set_cons_zero, List.set_cons_succ]
    refine wpAnyH_take (i := 33) (oi := ({ dst := some 54, op := Op.load 24 (Operand.tmp 3), type := 24, pos := "law.go:51", after := #[{ on := 30, ground := Ground.guard }], guard := some (30, true) } : Oper)) (v := ?_) rfl (by kernel_rfl) (by kernel_rfl) (by kernel_rfl) (fun _ _ _ h => h) (Or.inl ⟨by rfl, ?_⟩) hS28 ?_
    rotate_left
    · intro w hSw; (try dsimp only at hSw); go_simp; (try with_reducible rfl)
    simp only [Act.put, List.setIfInBounds_toArray, List.set_cons_zero, List.set_cons_succ]
    refine wpAnyH_ready (rs := [32]) (by kernel_rfl) (by simp) ?_
    refine AllReadyH.cons (o := ({ dst := some 53, op := Op.call { callee := Callee.value (Operand.func 19), args := #[Operand.tmp 52], argTypes := #[24] }, type := 9, pos := "law.go:51", after := #[{ on := 31, ground := Ground.data }, { on := 30, ground := Ground.chain }, { on := 30, ground := Ground.guard }], guard := some (30, true) } : Oper)) rfl (fun K hK => ?_) AllReadyH.nil
    go_simp
    refine (c9.out _ (CA.out.below hS28.1)).mono ?_; rintro e w29 ⟨rfl, hb29⟩
    go_wp2_with fail
    refine hK.out _ _ (mk20 _ (hnext hS28.1 hb29)) (fun hS29 => ?_)
    clear hK K
    (try simp only [Act.put, List.setIfInBounds_toArray, List.set_cons_zero, List.set_cons_succ])
    clear hb29 hS28
    refine wpAnyH_ready (rs := [34]) (by kernel_rfl) (by simp) ?_
    refine AllReadyH.cons (o := ({ dst := some 55, op := Op.call { callee := Callee.value (Operand.func 20), args := #[Operand.tmp 54], argTypes := #[24] }, type := 9, pos := "law.go:51", after := #[{ on := 33, ground := Ground.data }, { on := 32, ground := Ground.chain }, { on := 30, ground := Ground.guard }], guard := some (30, true) } : Oper)) rfl (fun K hK => ?_) AllReadyH.nil
    go_simp
    refine (c10.out _ (CA.out.below hS29.1)).mono ?_; rintro e w30 ⟨rfl, hb30⟩
    go_wp2_with fail
    refine hK.out _ _ (mk20 _ (hnext hS29.1 hb30)) (fun hS30 => ?_)
    clear hK K
    (try simp only [Act.put, List.setIfInBounds_toArray, List.set_cons_zero, List.set_cons_succ])
    clear hb30 hS29
    refine wpAnyH_take (i := 35) (oi := ({ dst := some 56, op := Op.binOp BinOp.eql 9 (Operand.tmp 53) (Operand.tmp 55) 9, type := 4, pos := "law.go:51", after := #[{ on := 32, ground := Ground.data }, { on := 34, ground := Ground.data }, { on := 30, ground := Ground.guard }], guard := some (30, true) } : Oper)) (v := ?_) rfl (by kernel_rfl) (by kernel_rfl) (by kernel_rfl) (fun _ _ _ h => h) (Or.inl ⟨by rfl, ?_⟩) hS30 ?_
    rotate_left
    · intro w hSw; (try dsimp only at hSw); go_simp; (try with_reducible rfl)
    simp only [Act.put, List.setIfInBounds_toArray, List.set_cons_zero, List.set_cons_succ]
    refine wpAnyH_take (i := 36) (oi := ({ dst := some 57, op := Op.pick (Operand.tmp 51) (Operand.tmp 56) (Operand.const (Value.bool false)), type := 4, pos := "law.go:51", after := #[{ on := 30, ground := Ground.data }, { on := 35, ground := Ground.data }], guard := none } : Oper)) (v := ?_) rfl (by kernel_rfl) (by kernel_rfl) (by kernel_rfl) (fun _ _ _ h => h) (Or.inl ⟨by rfl, ?_⟩) hS30 ?_
    rotate_left
    · intro w hSw; (try dsimp only at hSw); go_simp; (try with_reducible rfl)
    simp only [Act.put, List.setIfInBounds_toArray, List.set_cons_zero, List.set_cons_succ]
    refine wpAnyH_take (i := 37) (oi := ({ dst := some 58, op := Op.move (Operand.tmp 57), type := 4, pos := "law.go:51", after := #[{ on := 36, ground := Ground.data }, { on := 34, ground := Ground.chain }], guard := none } : Oper)) (v := ?_) rfl (by kernel_rfl) (by kernel_rfl) (by kernel_rfl) (fun _ _ _ h => h) (Or.inl ⟨by rfl, ?_⟩) hS30 ?_
    rotate_left
    · intro w hSw; (try dsimp only at hSw); go_simp; (try with_reducible rfl)
    simp only [Act.put, List.setIfInBounds_toArray, List.set_cons_zero, List.set_cons_succ]
    refine wpAnyH_ready (rs := [38]) (by kernel_rfl) (by simp) ?_
    refine AllReadyH.cons (o := ({ dst := some 59, op := Op.call { callee := Callee.value (Operand.func 10), args := #[], argTypes := #[] }, type := 4, pos := "law.go:51", after := #[{ on := 37, ground := Ground.chain }, { on := 37, ground := Ground.guard }], guard := some (37, true) } : Oper)) rfl (fun K hK => ?_) AllReadyH.nil
    go_simp
    refine (known_any _).mono ?_; rintro e w31 ⟨rfl, hb31⟩
    go_wp2_with fail
    refine hK.out _ _ (mk20 _ (hnext hS30.1 hb31)) (fun hS31 => ?_)
    clear hK K
    (try simp only [Act.put, List.setIfInBounds_toArray, List.set_cons_zero, List.set_cons_succ])
    clear hb31 hS30
    refine wpAnyH_take (i := 39) (oi := ({ dst := some 60, op := Op.pick (Operand.tmp 58) (Operand.tmp 59) (Operand.const (Value.bool false)), type := 4, pos := "law.go:51", after := #[{ on := 37, ground := Ground.data }, { on := 38, ground := Ground.data }], guard := none } : Oper)) (v := ?_) rfl (by kernel_rfl) (by kernel_rfl) (by kernel_rfl) (fun _ _ _ h => h) (Or.inl ⟨by rfl, ?_⟩) hS31 ?_
    rotate_left
    · intro w hSw; (try dsimp only at hSw); go_simp; (try with_reducible rfl)
    simp only [Act.put, List.setIfInBounds_toArray, List.set_cons_zero, List.set_cons_succ]
    refine wpAnyH_take (i := 40) (oi := ({ dst := some 6, op := Op.assign (Operand.tmp 60), type := 4, pos := "law.go:51", after := #[{ on := 39, ground := Ground.data }, { on := 38, ground := Ground.chain }, { on := 0, ground := Ground.phase }, { on := 1, ground := Ground.phase }, { on := 2, ground := Ground.phase }, { on := 3, ground := Ground.phase }, { on := 4, ground := Ground.phase }, { on := 5, ground := Ground.phase }, { on := 6, ground := Ground.phase }, { on := 7, ground := Ground.phase }, { on := 8, ground := Ground.phase }, { on := 9, ground := Ground.phase }, { on := 10, ground := Ground.phase }, { on := 11, ground := Ground.phase }, { on := 12, ground := Ground.phase }, { on := 13, ground := Ground.phase }, { on := 14, ground := Ground.phase }, { on := 15, ground := Ground.phase }, { on := 16, ground := Ground.phase }, { on := 17, ground := Ground.phase }, { on := 18, ground := Ground.phase }, { on := 19, ground := Ground.phase }, { on := 20, ground := Ground.phase }, { on := 21, ground := Ground.phase }, { on := 22, ground := Ground.phase }, { on := 23, ground := Ground.phase }, { on := 24, ground := Ground.phase }, { on := 25, ground := Ground.phase }, { on := 26, ground := Ground.phase }, { on := 27, ground := Ground.phase }, { on := 28, ground := Ground.phase }, { on := 29, ground := Ground.phase }, { on := 30, ground := Ground.phase }, { on := 31, ground := Ground.phase }, { on := 32, ground := Ground.phase }, { on := 33, ground := Ground.phase }, { on := 34, ground := Ground.phase }, { on := 35, ground := Ground.phase }, { on := 36, ground := Ground.phase }, { on := 37, ground := Ground.phase }, { on := 38, ground := Ground.phase }, { on := 39, ground := Ground.phase }], guard := none } : Oper)) (v := ?_) rfl (by kernel_rfl) (by kernel_rfl) (by kernel_rfl) (fun _ _ _ h => h) (Or.inl ⟨by rfl, ?_⟩) hS31 ?_
    rotate_left
    · intro w hSw; (try dsimp only at hSw); go_simp; (try with_reducible rfl)
    simp only [Act.put, List.setIfInBounds_toArray, List.set_cons_zero, List.set_cons_succ]
    refine wpAnyH_done (by kernel_rfl) ?_ _
    go_wp2_with fail
    go_ret
    exact ⟨rfl, hnext L20.out hS31.1⟩
  · have h' : (100 : Int) < s.size := by omega
    go_enter Try.func3, Try.ntmps3
    go_wp2_with fail
    refine (hla.out _ (HCA.out.below L0.out)).mono ?_; rintro e w1 ⟨rfl, b1⟩
    have S1 := SB.out.keep b1
    obtain ⟨s0, s1, s2, sl⟩ := S1.cells
    have L1 := hid (hnext L0.out b1)
    clear b1
    go_wp2_with fail
    refine (hlb.out _ (HCB.out.below L1.out)).mono ?_; rintro e w2 ⟨rfl, b2⟩
    go_wp2_with fail
    refine (known_any _).mono ?_; rintro e w3 ⟨rfl, b3⟩
    go_wp2
    go_ret
    exact ⟨rfl, hnext (hnext L1.out b2) b3⟩
end Go.Proofs.Ytmgafcblbbbanaa
