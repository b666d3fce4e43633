/-
  SchemaRows answers true at any schema and row. No condition.
-/
import Derived.Test.YtmgafcblbbbanaaSm
namespace Go.Proofs.Ytmgafcblbbbanaa
open Go.RowKit

/-- a row that comes in -/
def RowIn (W : World) (l : List Cd.V) (u : Value) : Prop := RsAt W u l ∧ ∀ x ∈ l, Vok x
theorem RowIn.rok {W : World} {l : List Cd.V} {u : Value} (h : RowIn W l u) : Rok l := fun x hx => (h.2 x hx).2.2
theorem RowIn.rob {W : World} {l : List Cd.V} {u : Value} (h : RowIn W l u) : ∀ x ∈ l, x.b < 18446744073709551616 := fun x hx => (h.2 x hx).2.1
theorem key_length (s : Sc.S) (l : List Cd.V) : (Sc.key s l).length ≤ l.length := by
  unfold Sc.key
  split
  · rw [List.length_take]; omega
  · simp
theorem widen_length {s : Sc.S} {l : List Cd.V} (h : s.cols.length ≤ 20) : (Sc.widen s l).1.length ≤ 20 := by
  unfold Sc.widen
  split
  · simp
  · split
    · simp
    · split
      · show (Sc.wide s l).length ≤ 20
        rw [Sc.wide_length (by omega)]; exact h
      · simp
set_option maxRecDepth 100000 in
set_option maxHeartbeats 12800000 in
theorem schemaRows_walk (s : Sc.S) (v : Value) (u : Value) (l : List Cd.V) (w : World) (hs : SchemaIn w s v) (hr : RowIn w l u) :
    Calls Try.prog 4 #[sv s v, u] w fun e w' => e = .returned (.bool true) ∧ Below w.heap.size w w' := by
  obtain ⟨ca, za⟩ := hs
  have HCA := hid ca
  have HRA := hid hr.1
  have hrk := hr.rok
  have hrb := hr.rob
  have hln := hr.1.len
  have hl := hid (fun W h h' => light_any s v l u W h h')
  have hly := hid (fun h => lightB_yes (s := s) (l := l) h)
  obtain ⟨adr, cap, rfl⟩ := ca.slc
  obtain ⟨adr2, cap2, rfl⟩ := hr.1.1.len
  have c1 := hid (fun W h (h' : RsAt W (.slice adr2 l.length cap2) l) => widen_any s (.slice adr s.cols.length cap) l _ W h za h' hrk)
  have c2 := hid (fun W h (h' : RsAt W (.slice adr2 l.length cap2) l) => widenR_any s (.slice adr s.cols.length cap) l _ W h za h' hrk hrb)
  have c3 := hid (fun W h (h' : RsAt W (.slice adr2 l.length cap2) l) => fits_any s (.slice adr s.cols.length cap) l _ W h za h'.1 hln hrk)
  have c4 := hid (fun W h (h' : RsAt W (.slice adr2 l.length cap2) l) => fitsR_any s (.slice adr s.cols.length cap) l _ W h za h'.1 hln hrk hrb)
  have c5 := hid (fun W h (h' : RsAt W (.slice adr2 l.length cap2) l) => key_any s (.slice adr s.cols.length cap) l _ W h za h' hrk)
  have c6 := hid (fun W h (h' : RsAt W (.slice adr2 l.length cap2) l) => keyR_any s (.slice adr s.cols.length cap) l _ W h za h' hrk hrb)
  have hkl := hid (key_length s l)
  have hwl := hid (fun h => widen_length (s := s) (l := l) h)
  clear ca za hr hrk hrb hln
  obtain ⟨nm, cs, ks⟩ := s
  unfold sv at *
  simp only at HCA hl hly c1 c2 c3 c4 c5 c6 hkl hwl ⊢
  have S0 := hid (BS.new w nm (.slice adr cs.length cap) ks)
  have L0 := hid (hba w (.cells #[.string nm, .slice adr cs.length cap, .int .i64 ks] 24))
  cases hli : lightB ⟨nm, cs, ks⟩ l
  · rw [hli] at hl
    clear hli hly
    go_enter Try.func4, Try.ntmps4
    go_wp2_with fail
    refine (hl.out _ (HCA.out.below L0.out) (HRA.out.1.below L0.out)).mono ?_; rintro e w1 ⟨rfl, b1⟩
    go_wp2_with fail
    refine (known_any _).mono ?_; rintro e w3 ⟨rfl, b3⟩
    go_wp2
    go_ret
    exact ⟨rfl, hnext (hnext L0.out b1) b3⟩
  rw [hli] at hl
  obtain ⟨y1, _, y3, _, _⟩ := hly.out hli
  have hKL : Hid ((Sc.key ⟨nm, cs, ks⟩ l).length ≤ 1000000) := by have := hkl.out; show _ ≤ _; omega
  have hWL : Hid ((Sc.widen ⟨nm, cs, ks⟩ l).1.length ≤ 1000000) := by have := hwl.out y1; show _ ≤ _; omega
  clear hly hli hkl hwl y1 y3
  generalize Sc.key ⟨nm, cs, ks⟩ l = kl at c5 c6 hKL
  generalize Sc.fits ⟨nm, cs, ks⟩ l = fz at c3 c4
  generalize Sc.widen ⟨nm, cs, ks⟩ l = T at c1 c2 hWL
  obtain ⟨wl, we⟩ := T
  simp only at hWL
  have hK : Hid (∀ W v1 v2, VsAt W v1 kl → VsAt W v2 kl → Calls Try.prog 25 #[v1, v2] W fun e w' => e = .returned (.bool true) ∧ Below W.heap.size W w') := fun W v1 v2 h1 h2 =>
    (rows_any v1 v2 kl kl W h1 h2 hKL.out hKL.out).mono fun _ _ ⟨h1, h2⟩ => ⟨h1.trans (by rw [decide_eq_true rfl]), h2⟩
  have hW : Hid (∀ W v1 v2, VsAt W v1 wl → VsAt W v2 wl → Calls Try.prog 25 #[v1, v2] W fun e w' => e = .returned (.bool true) ∧ Below W.heap.size W w') := fun W v1 v2 h1 h2 =>
    (rows_any v1 v2 wl wl W h1 h2 hWL.out hWL.out).mono fun _ _ ⟨h1, h2⟩ => ⟨h1.trans (by rw [decide_eq_true rfl]), h2⟩
  have hKey := hK
  clear hK hKL hWL
  go_enter Try.func4, Try.ntmps4
  go_wp2_with fail
  refine (hl.out _ (HCA.out.below L0.out) (HRA.out.1.below L0.out)).mono ?_; rintro e w1 ⟨rfl, b1⟩
  have S1 := S0.out.keep b1
  have L1 := hid (hnext L0.out b1)
  clear b1 S0
  obtain ⟨s0, s1, s2, sl⟩ := S1.cells
  go_wp2_with fail
  refine (c1.out _ (HCA.out.below L1.out) (HRA.out.below L1.out)).mono ?_; rintro e w2 ⟨⟨va, rfl, oa⟩, b2⟩
  obtain ⟨adra, capa, rfl⟩ := (VsAt.own oa).len
  have S2 := S1.keep b2
  have VA2 := hid (VsAt.own oa)
  have L2 := hid (hnext L1.out b2)
  clear b2 oa S1 s0 s1 s2 sl
  obtain ⟨s0, s1, s2, sl⟩ := S2.cells
  go_wp2_with fail
  refine (c2.out _ (HCA.out.below L2.out) (HRA.out.below L2.out)).mono ?_; rintro e w3 ⟨⟨vb, rfl, ob⟩, b3⟩
  obtain ⟨adrb, capb, rfl⟩ := (VsAt.own ob).len
  have S3 := S2.keep b3
  have VA3 := hid (VA2.out.below b3)
  have VB3 := hid (VsAt.own ob)
  have L3 := hid (hnext L2.out b3)
  clear b3 ob S2 s0 s1 s2 sl VA2
  simp only at VB3 VA3 ⊢
  go_wp2_with fail
  obtain ⟨s0, s1, s2, sl⟩ := S3.cells
  obtain ⟨w20, hw20⟩ : ∃ w20, (w3).drew = w20 := ⟨_, rfl⟩
  have hd20 : Below (w3).heap.size (w3) w20 := hw20 ▸ (Below.refl _ _).drew
  have mk20 : ∀ W, Below w20.heap.size w20 W → Below w20.heap.size w20 W ∧ W.cell? ⟨w.heap.size, 0, none⟩ = some (.string nm) ∧ W.cell? ⟨w.heap.size, 1, none⟩ = some (.slice adr cs.length cap) ∧ W.cell? ⟨w.heap.size, 2, none⟩ = some (.int .i64 ks) := fun W h => ⟨h, hkeep (hkeep s0 hd20) h, hkeep (hkeep s1 hd20) h, hkeep (hkeep s2 hd20) h⟩
  have L20 := hid (hnext L3.out hd20)
  have CA := hid (HCA.out.below L20.out)
  have RA := hid (HRA.out.below L20.out)
  have VA := hid (VA3.out.below hd20)
  have VB := hid (VB3.out.below hd20)
  clear s0 s1 s2 sl S3 hd20 L3 VA3 VB3
  refine wp_region_held_drew (S := (fun W => Below w20.heap.size w20 W ∧ W.cell? ⟨w.heap.size, 0, none⟩ = some (.string nm) ∧ W.cell? ⟨w.heap.size, 1, none⟩ = some (.slice adr cs.length cap) ∧ W.cell? ⟨w.heap.size, 2, none⟩ = some (.int .i64 ks))) (by kernel_rfl) (by rw [hw20]; exact mk20 _ (Below.refl _ _)) (fun hS20 => ?_)
  rw [hw20] at hS20 ⊢
  clear hw20
  refine wpAnyH_take (i := 0) (oi := ({ dst := some 26, op := Op.load 24 (Operand.tmp 2), type := 24, pos := "law.go:61", after := #[], guard := none } : Oper)) (v := ?_) rfl (by kernel_rfl) (by kernel_rfl) (by kernel_rfl) (fun _ _ _ h => h) (Or.inl ⟨by rfl, ?_⟩) hS20 ?_
  rotate_left
  · intro w hSw; (try dsimp only at hSw); go_simp; (try with_reducible rfl)
  simp only [Act.put, List.setIfInBounds_toArray, List.set_cons_zero, List.set_cons_succ]
  refine wpAnyH_take (i := 1) (oi := ({ dst := some 27, op := Op.move (Operand.tmp 1), type := 32, pos := "law.go:61", after := #[], guard := none } : Oper)) (v := ?_) rfl (by kernel_rfl) (by kernel_rfl) (by kernel_rfl) (fun _ _ _ h => h) (Or.inl ⟨by rfl, ?_⟩) hS20 ?_
  rotate_left
  · intro w hSw; (try dsimp only at hSw); go_simp; (try with_reducible rfl)
  simp only [Act.put, List.setIfInBounds_toArray, List.set_cons_zero, List.set_cons_succ]
  refine wpAnyH_take (i := 3) (oi := ({ dst := some 29, op := Op.load 24 (Operand.tmp 2), type := 24, pos := "law.go:61", after := #[], guard := none } : Oper)) (v := ?_) rfl (by kernel_rfl) (by kernel_rfl) (by kernel_rfl) (fun _ _ _ h => h) (Or.inl ⟨by rfl, ?_⟩) hS20 ?_
  rotate_left
  · intro w hSw; (try dsimp only at hSw); go_simp; (try with_reducible rfl)
  simp only [Act.put, List.setIfInBounds_toArray, List.set_cons_zero, List.set_cons_succ]
  refine wpAnyH_take (i := 4) (oi := ({ dst := some 30, op := Op.move (Operand.tmp 1), type := 32, pos := "law.go:61", after := #[], guard := none } : Oper)) (v := ?_) rfl (by kernel_rfl) (by kernel_rfl) (by kernel_rfl) (fun _ _ _ h => h) (Or.inl ⟨by rfl, ?_⟩) hS20 ?_
  rotate_left
  · intro w hSw; (try dsimp only at hSw); go_simp; (try with_reducible rfl)
  simp only [Act.put, List.setIfInBounds_toArray, List.set_cons_zero, List.set_cons_succ]
  refine wpAnyH_ready (rs := [2]) (by kernel_rfl) (by simp) ?_
  refine AllReadyH.cons (o := ({ dst := some 28, op := Op.call { callee := Callee.value (Operand.func 23), args := #[Operand.tmp 26, Operand.tmp 27], argTypes := #[24, 32] }, type := 33, pos := "law.go:61", after := #[{ on := 0, ground := Ground.data }, { on := 1, ground := Ground.data }], guard := none } : Oper)) rfl (fun K hK => ?_) AllReadyH.nil
  go_simp
  refine (c3.out _ (CA.out.below hS20.1) (RA.out.below hS20.1)).mono ?_; rintro e w21 ⟨rfl, hb21⟩
  go_wp2_with fail
  refine hK.out _ _ (mk20 _ (hnext hS20.1 hb21)) (fun hS21 => ?_)
  clear hK K
  (try simp only [Act.put, List.setIfInBounds_toArray, List.set_cons_zero, List.set_cons_succ])
  clear hb21 hS20
  refine wpAnyH_ready (rs := [5]) (by kernel_rfl) (by simp) ?_
  refine AllReadyH.cons (o := ({ dst := some 31, op := Op.call { callee := Callee.value (Operand.func 24), args := #[Operand.tmp 29, Operand.tmp 30], argTypes := #[24, 32] }, type := 33, pos := "law.go:61", after := #[{ on := 3, ground := Ground.data }, { on := 4, ground := Ground.data }, { on := 2, ground := Ground.chain }], guard := none } : Oper)) rfl (fun K hK => ?_) AllReadyH.nil
  go_simp
  refine (c4.out _ (CA.out.below hS21.1) (RA.out.below hS21.1)).mono ?_; rintro e w22 ⟨rfl, hb22⟩
  go_wp2_with fail
  refine hK.out _ _ (mk20 _ (hnext hS21.1 hb22)) (fun hS22 => ?_)
  clear hK K
  (try simp only [Act.put, List.setIfInBounds_toArray, List.set_cons_zero, List.set_cons_succ])
  clear hb22 hS21
  refine wpAnyH_take (i := 6) (oi := ({ dst := some 32, op := Op.binOp BinOp.eql 33 (Operand.tmp 28) (Operand.tmp 31) 33, type := 4, pos := "law.go:61", after := #[{ on := 2, ground := Ground.data }, { on := 5, ground := Ground.data }], guard := none } : Oper)) (v := ?_) rfl (by kernel_rfl) (by kernel_rfl) (by kernel_rfl) (fun _ _ _ h => h) (Or.inl ⟨by rfl, ?_⟩) hS22 ?_
  rotate_left
  · intro w hSw; (try dsimp only at hSw); go_simp; (try with_reducible rfl)
  simp only [Act.put, List.setIfInBounds_toArray, List.set_cons_zero, List.set_cons_succ]
  refine wpAnyH_take (i := 7) (oi := ({ dst := some 33, op := Op.move (Operand.tmp 32), type := 4, pos := "law.go:61", after := #[{ on := 6, ground := Ground.data }, { on := 5, ground := Ground.chain }], guard := none } : Oper)) (v := ?_) rfl (by kernel_rfl) (by kernel_rfl) (by kernel_rfl) (fun _ _ _ h => h) (Or.inl ⟨by rfl, ?_⟩) hS22 ?_
  rotate_left
  · intro w hSw; (try dsimp only at hSw); go_simp; (try with_reducible rfl)
  simp only [Act.put, List.setIfInBounds_toArray, List.set_cons_zero, List.set_cons_succ]
  refine wpAnyH_take (i := 8) (oi := ({ dst := some 34, op := Op.load 24 (Operand.tmp 2), type := 24, pos := "law.go:61", after := #[{ on := 7, ground := Ground.guard }], guard := some (7, true) } : Oper)) (v := ?_) rfl (by kernel_rfl) (by kernel_rfl) (by kernel_rfl) (fun _ _ _ h => h) (Or.inl ⟨by rfl, ?_⟩) hS22 ?_
  rotate_left
  · intro w hSw; (try dsimp only at hSw); go_simp; (try with_reducible rfl)
  simp only [Act.put, List.setIfInBounds_toArray, List.set_cons_zero, List.set_cons_succ]
  refine wpAnyH_take (i := 9) (oi := ({ dst := some 35, op := Op.move (Operand.tmp 1), type := 32, pos := "law.go:61", after := #[{ on := 7, ground := Ground.guard }], guard := some (7, true) } : Oper)) (v := ?_) rfl (by kernel_rfl) (by kernel_rfl) (by kernel_rfl) (fun _ _ _ h => h) (Or.inl ⟨by rfl, ?_⟩) hS22 ?_
  rotate_left
  · intro w hSw; (try dsimp only at hSw); go_simp; (try with_reducible rfl)
  simp only [Act.put, List.setIfInBounds_toArray, List.set_cons_zero, List.set_cons_succ]
  refine wpAnyH_take (i := 11) (oi := ({ dst := some 37, op := Op.load 24 (Operand.tmp 2), type := 24, pos := "law.go:61", after := #[{ on := 7, ground := Ground.guard }], guard := some (7, true) } : Oper)) (v := ?_) rfl (by kernel_rfl) (by kernel_rfl) (by kernel_rfl) (fun _ _ _ h => h) (Or.inl ⟨by rfl, ?_⟩) hS22 ?_
  rotate_left
  · intro w hSw; (try dsimp only at hSw); go_simp; (try with_reducible rfl)
  simp only [Act.put, List.setIfInBounds_toArray, List.set_cons_zero, List.set_cons_succ]
  refine wpAnyH_take (i := 12) (oi := ({ dst := some 38, op := Op.move (Operand.tmp 1), type := 32, pos := "law.go:61", after := #[{ on := 7, ground := Ground.guard }], guard := some (7, true) } : Oper)) (v := ?_) rfl (by kernel_rfl) (by kernel_rfl) (by kernel_rfl) (fun _ _ _ h => h) (Or.inl ⟨by rfl, ?_⟩) hS22 ?_
  rotate_left
  · intro w hSw; (try dsimp only at hSw); go_simp; (try with_reducible rfl)
  simp only [Act.put, List.setIfInBounds_toArray, List.set_cons_zero, List.set_cons_succ]
  refine wpAnyH_ready (rs := [10]) (by kernel_rfl) (by simp) ?_
  refine AllReadyH.cons (o := ({ dst := some 36, op := Op.call { callee := Callee.value (Operand.func 26), args := #[Operand.tmp 34, Operand.tmp 35], argTypes := #[24, 32] }, type := 32, pos := "law.go:61", after := #[{ on := 8, ground := Ground.data }, { on := 9, ground := Ground.data }, { on := 7, ground := Ground.chain }, { on := 7, ground := Ground.guard }], guard := some (7, true) } : Oper)) rfl (fun K hK => ?_) AllReadyH.nil
  go_simp
  refine (c5.out _ (CA.out.below hS22.1) (RA.out.below hS22.1)).mono ?_; rintro e w23 ⟨⟨vk, rfl, ok⟩, hb23⟩
  have VK := hid (VsAt.own ok)
  obtain ⟨adrk, capk, rfl⟩ := (VsAt.own ok).len
  clear ok
  go_wp2_with fail
  refine hK.out _ _ (mk20 _ (hnext hS22.1 hb23)) (fun hS23 => ?_)
  clear hK K
  (try simp only [Act.put, List.setIfInBounds_toArray, List.set_cons_zero, List.set_cons_succ])
  clear hb23 hS22
  refine wpAnyH_ready (rs := [13]) (by kernel_rfl) (by simp) ?_
  refine AllReadyH.cons (o := ({ dst := some 39, op := Op.call { callee := Callee.value (Operand.func 27), args := #[Operand.tmp 37, Operand.tmp 38], argTypes := #[24, 32] }, type := 32, pos := "law.go:61", after := #[{ on := 11, ground := Ground.data }, { on := 12, ground := Ground.data }, { on := 10, ground := Ground.chain }, { on := 7, ground := Ground.guard }], guard := some (7, true) } : Oper)) rfl (fun K hK => ?_) AllReadyH.nil
  go_simp
  refine (c6.out _ (CA.out.below hS23.1) (RA.out.below hS23.1)).mono ?_; rintro e w24 ⟨⟨vk, rfl, ok⟩, hb24⟩
  have VK2 := hid (VsAt.own ok)
  obtain ⟨adrk2, capk2, rfl⟩ := (VsAt.own ok).len
  clear ok
  go_wp2_with fail
  refine hK.out _ _ (mk20 _ (hnext hS23.1 hb24)) (fun hS24 => ?_)
  clear hK K
  (try simp only [Act.put, List.setIfInBounds_toArray, List.set_cons_zero, List.set_cons_succ])
  replace VK := hid (VK.out.below hb24)
  clear hb24 hS23
  refine wpAnyH_ready (rs := [14]) (by kernel_rfl) (by simp) ?_
  refine AllReadyH.cons (o := ({ dst := some 40, op := Op.call { callee := Callee.value (Operand.func 25), args := #[Operand.tmp 36, Operand.tmp 39], argTypes := #[32, 32] }, type := 4, pos := "law.go:61", after := #[{ on := 10, ground := Ground.data }, { on := 13, ground := Ground.data }, { on := 13, ground := Ground.chain }, { on := 7, ground := Ground.guard }], guard := some (7, true) } : Oper)) rfl (fun K hK => ?_) AllReadyH.nil
  go_simp
  refine (hKey.out _ _ _ VK.out VK2.out).mono ?_; rintro e w25 ⟨rfl, hb25⟩
  go_wp2_with fail
  refine hK.out _ _ (mk20 _ (hnext hS24.1 hb25)) (fun hS25 => ?_)
  clear hK K
  (try simp only [Act.put, List.setIfInBounds_toArray, List.set_cons_zero, List.set_cons_succ])
  replace VK := hid (VK.out.below hb25)
  clear hb25 hS24
  refine wpAnyH_take (i := 15) (oi := ({ dst := some 41, op := Op.pick (Operand.tmp 33) (Operand.tmp 40) (Operand.const (Value.bool false)), type := 4, pos := "law.go:61", after := #[{ on := 7, ground := Ground.data }, { on := 14, ground := Ground.data }], guard := none } : Oper)) (v := ?_) rfl (by kernel_rfl) (by kernel_rfl) (by kernel_rfl) (fun _ _ _ h => h) (Or.inl ⟨by rfl, ?_⟩) hS25 ?_
  rotate_left
  · intro w hSw; (try dsimp only at hSw); go_simp; (try with_reducible rfl)
  simp only [Act.put, List.setIfInBounds_toArray, List.set_cons_zero, List.set_cons_succ]
  refine wpAnyH_take (i := 16) (oi := ({ dst := some 42, op := Op.move (Operand.tmp 41), type := 4, pos := "law.go:61", after := #[{ on := 15, ground := Ground.data }, { on := 14, ground := Ground.chain }], guard := none } : Oper)) (v := ?_) rfl (by kernel_rfl) (by kernel_rfl) (by kernel_rfl) (fun _ _ _ h => h) (Or.inl ⟨by rfl, ?_⟩) hS25 ?_
  rotate_left
  · intro w hSw; (try dsimp only at hSw); go_simp; (try with_reducible rfl)
  simp only [Act.put, List.setIfInBounds_toArray, List.set_cons_zero, List.set_cons_succ]
  refine wpAnyH_take (i := 17) (oi := ({ dst := some 43, op := Op.move (Operand.tmp 5), type := 32, pos := "law.go:61", after := #[{ on := 16, ground := Ground.guard }], guard := some (16, true) } : Oper)) (v := ?_) rfl (by kernel_rfl) (by kernel_rfl) (by kernel_rfl) (fun _ _ _ h => h) (Or.inl ⟨by rfl, ?_⟩) hS25 ?_
  rotate_left
  · intro w hSw; (try dsimp only at hSw); go_simp; (try with_reducible rfl)
  simp only [Act.put, List.setIfInBounds_toArray, List.set_cons_zero, List.set_cons_succ]
  refine wpAnyH_take (i := 18) (oi := ({ dst := some 44, op := Op.move (Operand.tmp 7), type := 32, pos := "law.go:61", after := #[{ on := 16, ground := Ground.guard }], guard := some (16, true) } : Oper)) (v := ?_) rfl (by kernel_rfl) (by kernel_rfl) (by kernel_rfl) (fun _ _ _ h => h) (Or.inl ⟨by rfl, ?_⟩) hS25 ?_
  rotate_left
  · intro w hSw; (try dsimp only at hSw); go_simp; (try with_reducible rfl)
  simp only [Act.put, List.setIfInBounds_toArray, List.set_cons_zero, List.set_cons_succ]
  refine wpAnyH_ready (rs := [19]) (by kernel_rfl) (by simp) ?_
  refine AllReadyH.cons (o := ({ dst := some 45, op := Op.call { callee := Callee.value (Operand.func 25), args := #[Operand.tmp 43, Operand.tmp 44], argTypes := #[32, 32] }, type := 4, pos := "law.go:61", after := #[{ on := 17, ground := Ground.data }, { on := 18, ground := Ground.data }, { on := 16, ground := Ground.chain }, { on := 16, ground := Ground.guard }], guard := some (16, true) } : Oper)) rfl (fun K hK => ?_) AllReadyH.nil
  go_simp
  refine (hW.out _ _ _ (VA.out.below hS25.1) (VB.out.below hS25.1)).mono ?_; rintro e w26 ⟨rfl, hb26⟩
  go_wp2_with fail
  refine hK.out _ _ (mk20 _ (hnext hS25.1 hb26)) (fun hS26 => ?_)
  clear hK K
  (try simp only [Act.put, List.setIfInBounds_toArray, List.set_cons_zero, List.set_cons_succ])
  replace VK := hid (VK.out.below hb26)
  clear hb26 hS25
  refine wpAnyH_take (i := 20) (oi := ({ dst := some 46, op := Op.pick (Operand.tmp 42) (Operand.tmp 45) (Operand.const (Value.bool false)), type := 4, pos := "law.go:61", after := #[{ on := 16, ground := Ground.data }, { on := 19, ground := Ground.data }], guard := none } : Oper)) (v := ?_) rfl (by kernel_rfl) (by kernel_rfl) (by kernel_rfl) (fun _ _ _ h => h) (Or.inl ⟨by rfl, ?_⟩) hS26 ?_
  rotate_left
  · intro w hSw; (try dsimp only at hSw); go_simp; (try with_reducible rfl)
  simp only [Act.put, List.setIfInBounds_toArray, List.set_cons_zero, List.set_cons_succ]
  refine wpAnyH_take (i := 21) (oi := ({ dst := some 47, op := Op.move (Operand.tmp 46), type := 4, pos := "law.go:61", after := #[{ on := 20, ground := Ground.data }, { on := 19, ground := Ground.chain }], guard := none } : Oper)) (v := ?_) rfl (by kernel_rfl) (by kernel_rfl) (by kernel_rfl) (fun _ _ _ h => h) (Or.inl ⟨by rfl, ?_⟩) hS26 ?_
  rotate_left
  · intro w hSw; (try dsimp only at hSw); go_simp; (try with_reducible rfl)
  simp only [Act.put, List.setIfInBounds_toArray, List.set_cons_zero, List.set_cons_succ]
  refine wpAnyH_take (i := 22) (oi := ({ dst := some 48, op := Op.move (Operand.tmp 6), type := 33, pos := "law.go:61", after := #[{ on := 21, ground := Ground.guard }], guard := some (21, true) } : Oper)) (v := ?_) rfl (by kernel_rfl) (by kernel_rfl) (by kernel_rfl) (fun _ _ _ h => h) (Or.inl ⟨by rfl, ?_⟩) hS26 ?_
  rotate_left
  · intro w hSw; (try dsimp only at hSw); go_simp; (try with_reducible rfl)
  simp only [Act.put, List.setIfInBounds_toArray, List.set_cons_zero, List.set_cons_succ]
  refine wpAnyH_take (i := 23) (oi := ({ dst := some 49, op := Op.move (Operand.tmp 8), type := 33, pos := "law.go:61", after := #[{ on := 21, ground := Ground.guard }], guard := some (21, true) } : Oper)) (v := ?_) rfl (by kernel_rfl) (by kernel_rfl) (by kernel_rfl) (fun _ _ _ h => h) (Or.inl ⟨by rfl, ?_⟩) hS26 ?_
  rotate_left
  · intro w hSw; (try dsimp only at hSw); go_simp; (try with_reducible rfl)
  simp only [Act.put, List.setIfInBounds_toArray, List.set_cons_zero, List.set_cons_succ]
  refine wpAnyH_take (i := 24) (oi := ({ dst := some 50, op := Op.binOp BinOp.eql 33 (Operand.tmp 48) (Operand.tmp 49) 33, type := 4, pos := "law.go:61", after := #[{ on := 22, ground := Ground.data }, { on := 23, ground := Ground.data }, { on := 21, ground := Ground.guard }], guard := some (21, true) } : Oper)) (v := ?_) rfl (by kernel_rfl) (by kernel_rfl) (by kernel_rfl) (fun _ _ _ h => h) (Or.inl ⟨by rfl, ?_⟩) hS26 ?_
  rotate_left
  · intro w hSw; (try dsimp only at hSw); go_simp; (try with_reducible rfl)
  simp only [Act.put, List.setIfInBounds_toArray, List.set_cons_zero, List.set_cons_succ]
  refine wpAnyH_take (i := 25) (oi := ({ dst := some 51, op := Op.pick (Operand.tmp 47) (Operand.tmp 50) (Operand.const (Value.bool false)), type := 4, pos := "law.go:61", after := #[{ on := 21, ground := Ground.data }, { on := 24, ground := Ground.data }], guard := none } : Oper)) (v := ?_) rfl (by kernel_rfl) (by kernel_rfl) (by kernel_rfl) (fun _ _ _ h => h) (Or.inl ⟨by rfl, ?_⟩) hS26 ?_
  rotate_left
  · intro w hSw; (try dsimp only at hSw); go_simp; (try with_reducible rfl)
  simp only [Act.put, List.setIfInBounds_toArray, List.set_cons_zero, List.set_cons_succ]
  refine wpAnyH_take (i := 26) (oi := ({ dst := some 52, op := Op.move (Operand.tmp 51), type := 4, pos := "law.go:61", after := #[{ on := 25, ground := Ground.data }, { on := 21, ground := Ground.chain }], guard := none } : Oper)) (v := ?_) rfl (by kernel_rfl) (by kernel_rfl) (by kernel_rfl) (fun _ _ _ h => h) (Or.inl ⟨by rfl, ?_⟩) hS26 ?_
  rotate_left
  · intro w hSw; (try dsimp only at hSw); go_simp; (try with_reducible rfl)
  simp only [Act.put, List.setIfInBounds_toArray, List.set_cons_zero, List.set_cons_succ]
  refine wpAnyH_ready (rs := [27]) (by kernel_rfl) (by simp) ?_
  refine AllReadyH.cons (o := ({ dst := some 53, op := Op.call { callee := Callee.value (Operand.func 10), args := #[], argTypes := #[] }, type := 4, pos := "law.go:61", after := #[{ on := 26, ground := Ground.chain }, { on := 26, ground := Ground.guard }], guard := some (26, true) } : Oper)) rfl (fun K hK => ?_) AllReadyH.nil
  go_simp
  refine (known_any _).mono ?_; rintro e w27 ⟨rfl, hb27⟩
  go_wp2_with fail
  refine hK.out _ _ (mk20 _ (hnext hS26.1 hb27)) (fun hS27 => ?_)
  clear hK K
  (try simp only [Act.put, List.setIfInBounds_toArray, List.set_cons_zero, List.set_cons_succ])
  replace VK := hid (VK.out.below hb27)
  clear hb27 hS26
  refine wpAnyH_take (i := 28) (oi := ({ dst := some 54, op := Op.pick (Operand.tmp 52) (Operand.tmp 53) (Operand.const (Value.bool false)), type := 4, pos := "law.go:61", after := #[{ on := 26, ground := Ground.data }, { on := 27, ground := Ground.data }], guard := none } : Oper)) (v := ?_) rfl (by kernel_rfl) (by kernel_rfl) (by kernel_rfl) (fun _ _ _ h => h) (Or.inl ⟨by rfl, ?_⟩) hS27 ?_
  rotate_left
  · intro w hSw; (try dsimp only at hSw); go_simp; (try with_reducible rfl)
  simp only [Act.put, List.setIfInBounds_toArray, List.set_cons_zero, List.set_cons_succ]
  refine wpAnyH_take (i := 29) (oi := ({ dst := some 4, op := Op.assign (Operand.tmp 54), type := 4, pos := "law.go:61", after := #[{ on := 28, ground := Ground.data }, { on := 27, ground := Ground.chain }, { on := 0, ground := Ground.phase }, { on := 1, ground := Ground.phase }, { on := 2, ground := Ground.phase }, { on := 3, ground := Ground.phase }, { on := 4, ground := Ground.phase }, { on := 5, ground := Ground.phase }, { on := 6, ground := Ground.phase }, { on := 7, ground := Ground.phase }, { on := 8, ground := Ground.phase }, { on := 9, ground := Ground.phase }, { on := 10, ground := Ground.phase }, { on := 11, ground := Ground.phase }, { on := 12, ground := Ground.phase }, { on := 13, ground := Ground.phase }, { on := 14, ground := Ground.phase }, { on := 15, ground := Ground.phase }, { on := 16, ground := Ground.phase }, { on := 17, ground := Ground.phase }, { on := 18, ground := Ground.phase }, { on := 19, ground := Ground.phase }, { on := 20, ground := Ground.phase }, { on := 21, ground := Ground.phase }, { on := 22, ground := Ground.phase }, { on := 23, ground := Ground.phase }, { on := 24, ground := Ground.phase }, { on := 25, ground := Ground.phase }, { on := 26, ground := Ground.phase }, { on := 27, ground := Ground.phase }, { on := 28, ground := Ground.phase }], guard := none } : Oper)) (v := ?_) rfl (by kernel_rfl) (by kernel_rfl) (by kernel_rfl) (fun _ _ _ h => h) (Or.inl ⟨by rfl, ?_⟩) hS27 ?_
  rotate_left
  · intro w hSw; (try dsimp only at hSw); go_simp; (try with_reducible rfl)
  simp only [Act.put, List.setIfInBounds_toArray, List.set_cons_zero, List.set_cons_succ]
  refine wpAnyH_done (by kernel_rfl) ?_ _
  go_wp2_with fail
  go_ret
  exact ⟨rfl, hnext L20.out hS27.1⟩
end Go.Proofs.Ytmgafcblbbbanaa
