/-
  PredRights answers true at any two conditions and any schema. No condition.
-/
import Derived.Test.YtfdehigepgeknaaQp
import Derived.Test.YtfdehigepgeknaaLi
import Derived.Test.YtfdehigepgeknaaPk
namespace Go.Proofs.Ytfdehigepgeknaa
open Go.RowKit Pd

set_option maxRecDepth 100000 in
set_option maxHeartbeats 6400000 in
theorem predRights_walk (v1 : Value) (a : List N) (s : Sc.S) (u : Value) (v2 : Value) (b : List N) (w : World) (ha : a.length ≤ maxLen ∧ NsAt w v1 a ∧ ∀ x ∈ a, Nok x) (hs : SchemaIn w s u) (hb : b.length ≤ maxLen ∧ NsAt w v2 b ∧ ∀ x ∈ b, Nok x) :
    Calls Try.prog 3 #[v1, sv s u, v2] w fun e w' => e = .returned (.bool true) ∧ Below w.heap.size w w' := by
  obtain ⟨_, hva, hna⟩ := ha
  obtain ⟨_, hvb, hnb⟩ := hb
  have NA := hid (hva.below (hba w (.cells #[.string s.name, u, .int .i64 s.keys] 25)))
  have NB := hid (hvb.below (hba w (.cells #[.string s.name, u, .int .i64 s.keys] 25)))
  have SC := hid (hs.1.below (hba w (.cells #[.string s.name, u, .int .i64 s.keys] 25)))
  have L1 := hid (hba w (.cells #[.string s.name, u, .int .i64 s.keys] 25))
  have SX := hid (heap_alloc_new w (.cells #[.string s.name, u, .int .i64 s.keys] 25))
  have KA := hid hna
  have KB := hid hnb
  obtain ⟨adr, cap, rfl⟩ := hva.slc
  obtain ⟨badr, bcap, rfl⟩ := hvb.slc
  obtain ⟨sadr, scap, rfl⟩ := hs.1.slc
  clear hva hvb hna hnb hs
  have la := hid (light_any _ (.slice none 0 0) a [] _ NA.out ⟨none, 0, rfl, fun k hk => absurd hk (Nat.not_lt_zero k)⟩)
  have lb := hid (light_any _ (.slice none 0 0) b [] _ NB.out ⟨none, 0, rfl, fun k hk => absurd hk (Nat.not_lt_zero k)⟩)
  unfold sv
  cases hla : lightB a [] with
  | false =>
    have la' := la.out
    rw [hla] at la'
    replace la := hid la'
    clear la' hla
    go_enter Try.func3, Try.ntmps3
    go_wp2_with fail
    refine la.out.mono ?_; rintro e w1 ⟨rfl, rfl⟩
    go_wp2_with fail
    refine (known_any _).mono ?_; rintro e w9 ⟨rfl, b9⟩
    go_wp2
    go_ret
    exact ⟨rfl, hnext L1.out b9⟩
  | true =>
    obtain ⟨ga, _, _, _⟩ := light_of hla
    have la' := la.out
    rw [hla] at la'
    replace la := hid la'
    clear la' hla
    cases hlb : lightB b [] with
    | false =>
      have lb' := lb.out
      rw [hlb] at lb'
      replace lb := hid lb'
      clear lb' hlb
      go_enter Try.func3, Try.ntmps3
      go_wp2_with fail
      refine la.out.mono ?_; rintro e w1 ⟨rfl, rfl⟩
      go_wp2_with fail
      refine lb.out.mono ?_; rintro e w1 ⟨rfl, rfl⟩
      go_wp2_with fail
      refine (known_any _).mono ?_; rintro e w9 ⟨rfl, b9⟩
      go_wp2
      go_ret
      exact ⟨rfl, hnext L1.out b9⟩
    | true =>
      obtain ⟨gb, _, _, _⟩ := light_of hlb
      have lb' := lb.out
      rw [hlb] at lb'
      replace lb := hid lb'
      clear lb' hlb
      by_cases hcs : 40 < s.cols.length
      · have hcs' : (40 : Int) < (s.cols.length : Int) := by omega
        go_enter Try.func3, Try.ntmps3
        go_wp2_with fail
        refine la.out.mono ?_; rintro e w1 ⟨rfl, rfl⟩
        go_wp2_with fail
        refine lb.out.mono ?_; rintro e w1 ⟨rfl, rfl⟩
        go_wp2_with fail
        refine (known_any _).mono ?_; rintro e w9 ⟨rfl, b9⟩
        go_wp2
        go_ret
        exact ⟨rfl, hnext L1.out b9⟩
      have hcs' : ¬ (40 : Int) < (s.cols.length : Int) := by omega
      have hka : ∀ x ∈ a, x.v.s.size ≤ maxLen ∧ x.v.b < 18446744073709551616 := fun x hx => ⟨(KA.out x hx).2.2.2.2, (KA.out x hx).2.2.2.1⟩
      have c1 := fun W (h : NsAt W (.slice adr a.length cap) a) (h' : CsAt W (.slice sadr s.cols.length scap) s.cols) => pright_any _ a s _ W h h' (by omega) (fun x hx => (hka x hx).1)
      have c2 := fun v W (h : NsAt W v a) (h' : CsAt W (.slice sadr s.cols.length scap) s.cols) => prightR_any v a s _ W h h' (by omega) hka
      have c3 := hid (fun W (h : NsAt W (.slice adr a.length cap) a) => plain_any _ a W h (by omega))
      have c4 := hid (fun W (h : NsAt W (.slice badr b.length bcap) b) => plain_any _ b W h (by omega))
      have c5 := hid (fun W (h : NsAt W (.slice adr a.length cap) a) (h' : NsAt W (.slice badr b.length bcap) b) => psame_any _ _ a b W h h' (by omega) (by omega))
      have c6 := hid (fun v u W (h : NsAt W v a) (h' : NsAt W u b) => psameR_any v u a b W h h' (by omega) (by omega))
      unfold sv at c1 c2
      replace c1 := hid c1
      replace c2 := hid c2
      generalize rightL s.cols a = rb at c1 c2
      generalize decide (a = b) = eb at c5 c6
      clear ga gb hka
      go_enter Try.func3, Try.ntmps3
      go_wp2_with fail
      refine la.out.mono ?_; rintro e w1 ⟨rfl, rfl⟩
      go_wp2_with fail
      refine lb.out.mono ?_; rintro e w1 ⟨rfl, rfl⟩
      go_wp2_with fail
      obtain ⟨w20, hw20⟩ : ∃ w20, (w.alloc (.cells #[.string s.name, .slice sadr s.cols.length scap, .int .i64 s.keys] 25)).drew = w20 := ⟨_, rfl⟩
      have hd20 : Below (w.alloc (.cells #[.string s.name, .slice sadr s.cols.length scap, .int .i64 s.keys] 25)).heap.size (w.alloc (.cells #[.string s.name, .slice sadr s.cols.length scap, .int .i64 s.keys] 25)) w20 := hw20 ▸ (Below.refl _ _).drew
      have L20 := hid (hnext (hba w (.cells #[.string s.name, .slice sadr s.cols.length scap, .int .i64 s.keys] 25)) hd20)
      have NA20 := hid (NA.out.below hd20)
      have NB20 := hid (NB.out.below hd20)
      have SC20 := hid (SC.out.below hd20)
      have SX20 := keepBlock SX.out hd20
      have c0_0 := cell_of_row w20 _ 0 _ _ _ SX20
      have c0_1 := cell_of_row w20 _ 1 _ _ _ SX20
      have c0_2 := cell_of_row w20 _ 2 _ _ _ SX20
      simp only [List.getElem?_toArray, List.getElem?_cons_zero, List.getElem?_cons_succ] at c0_0 c0_1 c0_2
      have mk20 : ∀ W, Below w20.heap.size w20 W → Below w20.heap.size w20 W ∧ W.cell? ⟨w.heap.size, 0, none⟩ = some (.string s.name) ∧ W.cell? ⟨w.heap.size, 1, none⟩ = some (.slice sadr s.cols.length scap) ∧ W.cell? ⟨w.heap.size, 2, none⟩ = some (.int .i64 s.keys) := fun W h => ⟨h, hkeep c0_0 h, hkeep c0_1 h, hkeep c0_2 h⟩
      clear c0_0 c0_1 c0_2 SX20 SX NA NB SC
      refine wp_region_held_drew (S := (fun W => Below w20.heap.size w20 W ∧ W.cell? ⟨w.heap.size, 0, none⟩ = some (.string s.name) ∧ W.cell? ⟨w.heap.size, 1, none⟩ = some (.slice sadr s.cols.length scap) ∧ W.cell? ⟨w.heap.size, 2, none⟩ = some (.int .i64 s.keys))) (by kernel_rfl) (by rw [hw20]; exact mk20 _ (Below.refl _ _)) (fun hS20 => ?_)
      rw [hw20] at hS20 ⊢
      clear hw20
      refine wpAnyH_take (i := 0) (oi := ({ dst := some 22, op := Op.move (Operand.tmp 0), type := 22, pos := "law.go:64", after := #[], guard := none } : Oper)) (v := ?_) rfl (by kernel_rfl) (by kernel_rfl) (by kernel_rfl) (fun _ _ _ h => h) (Or.inl ⟨by rfl, ?_⟩) hS20 ?_
      rotate_left
      · intro w hSw; (try dsimp only at hSw); go_simp; (try with_reducible rfl)
      simp only [Act.put, List.setIfInBounds_toArray, List.set_cons_zero, List.set_cons_succ]
      refine wpAnyH_take (i := 1) (oi := ({ dst := some 23, op := Op.load 25 (Operand.tmp 4), type := 25, pos := "law.go:64", after := #[], guard := none } : Oper)) (v := ?_) rfl (by kernel_rfl) (by kernel_rfl) (by kernel_rfl) (fun _ _ _ h => h) (Or.inl ⟨by rfl, ?_⟩) hS20 ?_
      rotate_left
      · intro w hSw; (try dsimp only at hSw); go_simp; (try with_reducible rfl)
      simp only [Act.put, List.setIfInBounds_toArray, List.set_cons_zero, List.set_cons_succ]
      refine wpAnyH_take (i := 3) (oi := ({ dst := some 25, op := Op.move (Operand.tmp 0), type := 22, pos := "law.go:64", after := #[], guard := none } : Oper)) (v := ?_) rfl (by kernel_rfl) (by kernel_rfl) (by kernel_rfl) (fun _ _ _ h => h) (Or.inl ⟨by rfl, ?_⟩) hS20 ?_
      rotate_left
      · intro w hSw; (try dsimp only at hSw); go_simp; (try with_reducible rfl)
      simp only [Act.put, List.setIfInBounds_toArray, List.set_cons_zero, List.set_cons_succ]
      refine wpAnyH_take (i := 5) (oi := ({ dst := some 27, op := Op.load 25 (Operand.tmp 4), type := 25, pos := "law.go:64", after := #[], guard := none } : Oper)) (v := ?_) rfl (by kernel_rfl) (by kernel_rfl) (by kernel_rfl) (fun _ _ _ h => h) (Or.inl ⟨by rfl, ?_⟩) hS20 ?_
      rotate_left
      · intro w hSw; (try dsimp only at hSw); go_simp; (try with_reducible rfl)
      simp only [Act.put, List.setIfInBounds_toArray, List.set_cons_zero, List.set_cons_succ]
      refine wpAnyH_ready (rs := [2]) (by kernel_rfl) (by simp) ?_
      refine AllReadyH.cons (o := ({ dst := some 24, op := Op.call { callee := Callee.value (Operand.func 11), args := #[Operand.tmp 22, Operand.tmp 23], argTypes := #[22, 25] }, type := 4, pos := "law.go:64", after := #[{ on := 0, ground := Ground.data }, { on := 1, ground := Ground.data }], guard := none } : Oper)) rfl (fun K hK => ?_) AllReadyH.nil
      go_simp
      refine (c1.out _ (NA20.out.below hS20.1) (SC20.out.below hS20.1)).mono ?_; rintro e w21 ⟨rfl, hb21⟩
      go_wp2_with fail
      refine hK.out _ _ (mk20 _ (hnext hS20.1 hb21)) (fun hS21 => ?_)
      clear hK K
      (try simp only [Act.put, List.setIfInBounds_toArray, List.set_cons_zero, List.set_cons_succ])
      clear hb21 hS20
      refine wpAnyH_ready (rs := [4]) (by kernel_rfl) (by simp) ?_
      refine AllReadyH.cons (o := ({ dst := some 26, op := Op.call { callee := Callee.value (Operand.func 13), args := #[Operand.tmp 25], argTypes := #[22] }, type := 30, pos := "law.go:64", after := #[{ on := 3, ground := Ground.data }, { on := 2, ground := Ground.chain }], guard := none } : Oper)) rfl (fun K hK => ?_) AllReadyH.nil
      go_simp
      refine (c3.out _ (NA20.out.below hS21.1)).mono ?_; rintro e w22 ⟨vk, rfl, ok, hb22⟩
      have VP := hid (OwnR.at ok)
      obtain ⟨adrVP, capVP, rfl⟩ := VP.out.slc
      clear ok
      go_wp2_with fail
      refine hK.out _ _ (mk20 _ (hnext hS21.1 hb22)) (fun hS22 => ?_)
      clear hK K
      (try simp only [Act.put, List.setIfInBounds_toArray, List.set_cons_zero, List.set_cons_succ])
      clear hb22 hS21
      refine wpAnyH_ready (rs := [6]) (by kernel_rfl) (by simp) ?_
      refine AllReadyH.cons (o := ({ dst := some 28, op := Op.call { callee := Callee.value (Operand.func 12), args := #[Operand.tmp 26, Operand.tmp 27], argTypes := #[30, 25] }, type := 4, pos := "law.go:64", after := #[{ on := 4, ground := Ground.data }, { on := 5, ground := Ground.data }, { on := 4, ground := Ground.chain }], guard := none } : Oper)) rfl (fun K hK => ?_) AllReadyH.nil
      go_simp
      refine (c2.out _ _ VP.out (SC20.out.below hS22.1)).mono ?_; rintro e w23 ⟨rfl, hb23⟩
      go_wp2_with fail
      refine hK.out _ _ (mk20 _ (hnext hS22.1 hb23)) (fun hS23 => ?_)
      clear hK K
      (try simp only [Act.put, List.setIfInBounds_toArray, List.set_cons_zero, List.set_cons_succ])
      replace VP := hid (VP.out.below hb23)
      clear hb23 hS22
      refine wpAnyH_take (i := 7) (oi := ({ dst := some 29, op := Op.binOp BinOp.eql 4 (Operand.tmp 24) (Operand.tmp 28) 4, type := 4, pos := "law.go:64", after := #[{ on := 2, ground := Ground.data }, { on := 6, ground := Ground.data }], guard := none } : Oper)) (v := ?_) rfl (by kernel_rfl) (by kernel_rfl) (by kernel_rfl) (fun _ _ _ h => h) (Or.inl ⟨by rfl, ?_⟩) hS23 ?_
      rotate_left
      · intro w hSw; (try dsimp only at hSw); go_simp; (try with_reducible rfl)
      simp only [Act.put, List.setIfInBounds_toArray, List.set_cons_zero, List.set_cons_succ]
      refine wpAnyH_take (i := 8) (oi := ({ dst := some 30, op := Op.move (Operand.tmp 29), type := 4, pos := "law.go:64", after := #[{ on := 7, ground := Ground.data }, { on := 6, ground := Ground.chain }], guard := none } : Oper)) (v := ?_) rfl (by kernel_rfl) (by kernel_rfl) (by kernel_rfl) (fun _ _ _ h => h) (Or.inl ⟨by rfl, ?_⟩) hS23 ?_
      rotate_left
      · intro w hSw; (try dsimp only at hSw); go_simp; (try with_reducible rfl)
      simp only [Act.put, List.setIfInBounds_toArray, List.set_cons_zero, List.set_cons_succ]
      refine wpAnyH_take (i := 9) (oi := ({ dst := some 31, op := Op.move (Operand.tmp 0), type := 22, pos := "law.go:64", after := #[{ on := 8, ground := Ground.guard }], guard := some (8, true) } : Oper)) (v := ?_) rfl (by kernel_rfl) (by kernel_rfl) (by kernel_rfl) (fun _ _ _ h => h) (Or.inl ⟨by rfl, ?_⟩) hS23 ?_
      rotate_left
      · intro w hSw; (try dsimp only at hSw); go_simp; (try with_reducible rfl)
      simp only [Act.put, List.setIfInBounds_toArray, List.set_cons_zero, List.set_cons_succ]
      refine wpAnyH_take (i := 10) (oi := ({ dst := some 32, op := Op.move (Operand.tmp 2), type := 22, pos := "law.go:64", after := #[{ on := 8, ground := Ground.guard }], guard := some (8, true) } : Oper)) (v := ?_) rfl (by kernel_rfl) (by kernel_rfl) (by kernel_rfl) (fun _ _ _ h => h) (Or.inl ⟨by rfl, ?_⟩) hS23 ?_
      rotate_left
      · intro w hSw; (try dsimp only at hSw); go_simp; (try with_reducible rfl)
      simp only [Act.put, List.setIfInBounds_toArray, List.set_cons_zero, List.set_cons_succ]
      refine wpAnyH_take (i := 12) (oi := ({ dst := some 34, op := Op.move (Operand.tmp 0), type := 22, pos := "law.go:64", after := #[{ on := 8, ground := Ground.guard }], guard := some (8, true) } : Oper)) (v := ?_) rfl (by kernel_rfl) (by kernel_rfl) (by kernel_rfl) (fun _ _ _ h => h) (Or.inl ⟨by rfl, ?_⟩) hS23 ?_
      rotate_left
      · intro w hSw; (try dsimp only at hSw); go_simp; (try with_reducible rfl)
      simp only [Act.put, List.setIfInBounds_toArray, List.set_cons_zero, List.set_cons_succ]
      refine wpAnyH_take (i := 14) (oi := ({ dst := some 36, op := Op.move (Operand.tmp 2), type := 22, pos := "law.go:64", after := #[{ on := 8, ground := Ground.guard }], guard := some (8, true) } : Oper)) (v := ?_) rfl (by kernel_rfl) (by kernel_rfl) (by kernel_rfl) (fun _ _ _ h => h) (Or.inl ⟨by rfl, ?_⟩) hS23 ?_
      rotate_left
      · intro w hSw; (try dsimp only at hSw); go_simp; (try with_reducible rfl)
      simp only [Act.put, List.setIfInBounds_toArray, List.set_cons_zero, List.set_cons_succ]
      refine wpAnyH_ready (rs := [11]) (by kernel_rfl) (by simp) ?_
      refine AllReadyH.cons (o := ({ dst := some 33, op := Op.call { callee := Callee.value (Operand.func 14), args := #[Operand.tmp 31, Operand.tmp 32], argTypes := #[22, 22] }, type := 4, pos := "law.go:64", after := #[{ on := 9, ground := Ground.data }, { on := 10, ground := Ground.data }, { on := 8, ground := Ground.chain }, { on := 8, ground := Ground.guard }], guard := some (8, true) } : Oper)) rfl (fun K hK => ?_) AllReadyH.nil
      go_simp
      refine (c5.out _ (NA20.out.below hS23.1) (NB20.out.below hS23.1)).mono ?_; rintro e w24 ⟨rfl, hb24⟩
      go_wp2_with fail
      refine hK.out _ _ (mk20 _ (hnext hS23.1 hb24)) (fun hS24 => ?_)
      clear hK K
      (try simp only [Act.put, List.setIfInBounds_toArray, List.set_cons_zero, List.set_cons_succ])
      replace VP := hid (VP.out.below hb24)
      clear hb24 hS23
      refine wpAnyH_ready (rs := [13]) (by kernel_rfl) (by simp) ?_
      refine AllReadyH.cons (o := ({ dst := some 35, op := Op.call { callee := Callee.value (Operand.func 13), args := #[Operand.tmp 34], argTypes := #[22] }, type := 30, pos := "law.go:64", after := #[{ on := 12, ground := Ground.data }, { on := 11, ground := Ground.chain }, { on := 8, ground := Ground.guard }], guard := some (8, true) } : Oper)) rfl (fun K hK => ?_) AllReadyH.nil
      go_simp
      refine (c3.out _ (NA20.out.below hS24.1)).mono ?_; rintro e w25 ⟨vk, rfl, ok, hb25⟩
      have VQ := hid (OwnR.at ok)
      obtain ⟨adrVQ, capVQ, rfl⟩ := VQ.out.slc
      clear ok
      go_wp2_with fail
      refine hK.out _ _ (mk20 _ (hnext hS24.1 hb25)) (fun hS25 => ?_)
      clear hK K
      (try simp only [Act.put, List.setIfInBounds_toArray, List.set_cons_zero, List.set_cons_succ])
      replace VP := hid (VP.out.below hb25)
      clear hb25 hS24
      refine wpAnyH_ready (rs := [15]) (by kernel_rfl) (by simp) ?_
      refine AllReadyH.cons (o := ({ dst := some 37, op := Op.call { callee := Callee.value (Operand.func 13), args := #[Operand.tmp 36], argTypes := #[22] }, type := 30, pos := "law.go:64", after := #[{ on := 14, ground := Ground.data }, { on := 13, ground := Ground.chain }, { on := 8, ground := Ground.guard }], guard := some (8, true) } : Oper)) rfl (fun K hK => ?_) AllReadyH.nil
      go_simp
      refine (c4.out _ (NB20.out.below hS25.1)).mono ?_; rintro e w26 ⟨vk, rfl, ok, hb26⟩
      have VR := hid (OwnR.at ok)
      obtain ⟨adrVR, capVR, rfl⟩ := VR.out.slc
      clear ok
      go_wp2_with fail
      refine hK.out _ _ (mk20 _ (hnext hS25.1 hb26)) (fun hS26 => ?_)
      clear hK K
      (try simp only [Act.put, List.setIfInBounds_toArray, List.set_cons_zero, List.set_cons_succ])
      replace VP := hid (VP.out.below hb26)
      replace VQ := hid (VQ.out.below hb26)
      clear hb26 hS25
      refine wpAnyH_ready (rs := [16]) (by kernel_rfl) (by simp) ?_
      refine AllReadyH.cons (o := ({ dst := some 38, op := Op.call { callee := Callee.value (Operand.func 15), args := #[Operand.tmp 35, Operand.tmp 37], argTypes := #[30, 30] }, type := 4, pos := "law.go:64", after := #[{ on := 13, ground := Ground.data }, { on := 15, ground := Ground.data }, { on := 15, ground := Ground.chain }, { on := 8, ground := Ground.guard }], guard := some (8, true) } : Oper)) rfl (fun K hK => ?_) AllReadyH.nil
      go_simp
      refine (c6.out _ _ _ VQ.out VR.out).mono ?_; rintro e w27 ⟨rfl, hb27⟩
      go_wp2_with fail
      refine hK.out _ _ (mk20 _ (hnext hS26.1 hb27)) (fun hS27 => ?_)
      clear hK K
      (try simp only [Act.put, List.setIfInBounds_toArray, List.set_cons_zero, List.set_cons_succ])
      replace VP := hid (VP.out.below hb27)
      replace VQ := hid (VQ.out.below hb27)
      replace VR := hid (VR.out.below hb27)
      clear hb27 hS26
      refine wpAnyH_take (i := 17) (oi := ({ dst := some 39, op := Op.binOp BinOp.eql 4 (Operand.tmp 33) (Operand.tmp 38) 4, type := 4, pos := "law.go:64", after := #[{ on := 11, ground := Ground.data }, { on := 16, ground := Ground.data }, { on := 8, ground := Ground.guard }], guard := some (8, true) } : Oper)) (v := ?_) rfl (by kernel_rfl) (by kernel_rfl) (by kernel_rfl) (fun _ _ _ h => h) (Or.inl ⟨by rfl, ?_⟩) hS27 ?_
      rotate_left
      · intro w hSw; (try dsimp only at hSw); go_simp; (try with_reducible rfl)
      simp only [Act.put, List.setIfInBounds_toArray, List.set_cons_zero, List.set_cons_succ]
      refine wpAnyH_take (i := 18) (oi := ({ dst := some 40, op := Op.pick (Operand.tmp 30) (Operand.tmp 39) (Operand.const (Value.bool false)), type := 4, pos := "law.go:64", after := #[{ on := 8, ground := Ground.data }, { on := 17, ground := Ground.data }], guard := none } : Oper)) (v := ?_) rfl (by kernel_rfl) (by kernel_rfl) (by kernel_rfl) (fun _ _ _ h => h) (Or.inl ⟨by rfl, ?_⟩) hS27 ?_
      rotate_left
      · intro w hSw; (try dsimp only at hSw); go_simp; (try with_reducible rfl)
      simp only [Act.put, List.setIfInBounds_toArray, List.set_cons_zero, List.set_cons_succ]
      refine wpAnyH_take (i := 19) (oi := ({ dst := some 41, op := Op.move (Operand.tmp 40), type := 4, pos := "law.go:64", after := #[{ on := 18, ground := Ground.data }, { on := 16, ground := Ground.chain }], guard := none } : Oper)) (v := ?_) rfl (by kernel_rfl) (by kernel_rfl) (by kernel_rfl) (fun _ _ _ h => h) (Or.inl ⟨by rfl, ?_⟩) hS27 ?_
      rotate_left
      · intro w hSw; (try dsimp only at hSw); go_simp; (try with_reducible rfl)
      simp only [Act.put, List.setIfInBounds_toArray, List.set_cons_zero, List.set_cons_succ]
      refine wpAnyH_ready (rs := [20]) (by kernel_rfl) (by simp) ?_
      refine AllReadyH.cons (o := ({ dst := some 42, op := Op.call { callee := Callee.value (Operand.func 10), args := #[], argTypes := #[] }, type := 4, pos := "law.go:64", after := #[{ on := 19, ground := Ground.chain }, { on := 19, ground := Ground.guard }], guard := some (19, true) } : Oper)) rfl (fun K hK => ?_) AllReadyH.nil
      go_simp
      refine (known_any _).mono ?_; rintro e w28 ⟨rfl, hb28⟩
      go_wp2_with fail
      refine hK.out _ _ (mk20 _ (hnext hS27.1 hb28)) (fun hS28 => ?_)
      clear hK K
      (try simp only [Act.put, List.setIfInBounds_toArray, List.set_cons_zero, List.set_cons_succ])
      replace VP := hid (VP.out.below hb28)
      replace VQ := hid (VQ.out.below hb28)
      replace VR := hid (VR.out.below hb28)
      clear hb28 hS27
      refine wpAnyH_take (i := 21) (oi := ({ dst := some 43, op := Op.pick (Operand.tmp 41) (Operand.tmp 42) (Operand.const (Value.bool false)), type := 4, pos := "law.go:64", after := #[{ on := 19, ground := Ground.data }, { on := 20, ground := Ground.data }], guard := none } : Oper)) (v := ?_) rfl (by kernel_rfl) (by kernel_rfl) (by kernel_rfl) (fun _ _ _ h => h) (Or.inl ⟨by rfl, ?_⟩) hS28 ?_
      rotate_left
      · intro w hSw; (try dsimp only at hSw); go_simp; (try with_reducible rfl)
      simp only [Act.put, List.setIfInBounds_toArray, List.set_cons_zero, List.set_cons_succ]
      refine wpAnyH_take (i := 22) (oi := ({ dst := some 6, op := Op.assign (Operand.tmp 43), type := 4, pos := "law.go:64", after := #[{ on := 21, ground := Ground.data }, { on := 20, ground := Ground.chain }, { on := 0, ground := Ground.phase }, { on := 1, ground := Ground.phase }, { on := 2, ground := Ground.phase }, { on := 3, ground := Ground.phase }, { on := 4, ground := Ground.phase }, { on := 5, ground := Ground.phase }, { on := 6, ground := Ground.phase }, { on := 7, ground := Ground.phase }, { on := 8, ground := Ground.phase }, { on := 9, ground := Ground.phase }, { on := 10, ground := Ground.phase }, { on := 11, ground := Ground.phase }, { on := 12, ground := Ground.phase }, { on := 13, ground := Ground.phase }, { on := 14, ground := Ground.phase }, { on := 15, ground := Ground.phase }, { on := 16, ground := Ground.phase }, { on := 17, ground := Ground.phase }, { on := 18, ground := Ground.phase }, { on := 19, ground := Ground.phase }, { on := 20, ground := Ground.phase }, { on := 21, ground := Ground.phase }], guard := none } : Oper)) (v := ?_) rfl (by kernel_rfl) (by kernel_rfl) (by kernel_rfl) (fun _ _ _ h => h) (Or.inl ⟨by rfl, ?_⟩) hS28 ?_
      rotate_left
      · intro w hSw; (try dsimp only at hSw); go_simp; (try with_reducible rfl)
      simp only [Act.put, List.setIfInBounds_toArray, List.set_cons_zero, List.set_cons_succ]
      refine wpAnyH_done (by kernel_rfl) ?_ _
      go_wp2_with fail
      go_ret
      exact ⟨rfl, hnext L20.out hS28.1⟩
end Go.Proofs.Ytfdehigepgeknaa
