/-
  Fits of schema: its contract. Condition: the texts have at most 2^63 - 1 bytes.
-/
import Derived.Test.YtmgafcblbbbanaaScF
namespace Go.Proofs.Ytmgafcblbbbanaa
open Go.RowKit

theorem VsAt.len {w : World} {v : Value} {l : List Cd.V} (h : VsAt w v l) : ∃ adr cap, v = .slice adr l.length cap := by
  obtain ⟨adr, cap, rfl, _⟩ := h; exact ⟨adr, cap, rfl⟩
/-- what texts a row has -/
def Rok (l : List Cd.V) : Prop := ∀ x ∈ l, x.s.size ≤ maxLen
set_option maxRecDepth 100000 in
set_option maxHeartbeats 12800000 in
theorem fits_any (s : Sc.S) (v : Value) (l : List Cd.V) (u : Value) (w : World) (h : CsAt w v s.cols) (hsz : Sok s) (hu : VsAt w u l) (hl : l.length ≤ maxLen) (hrk : Rok l) :
    Calls Try.prog 23 #[sv s v, u] w fun e w' => e = .returned (.int .i64 (Sc.fits s l)) ∧ Below w.heap.size w w' := by
  have hbox := hba w (.cells #[.string s.name, v, .int .i64 s.keys] 24)
  have hR := hid (right_sc s v _ (h.below hbox) hsz)
  have hE : Hid (Sc.fits s l = if Sc.right s = false then 11 else if l.length ≠ s.cols.length then 10 else if Sc.fitAll s.cols l then 0 else 10) := rfl
  obtain ⟨adr, cap, rfl, hc1, hc2, hc⟩ := h
  obtain ⟨adr2, cap2, rfl, hd⟩ := hu
  have HC := hid hc
  have HD := hid hd
  unfold maxLen at hc2 hl
  clear hc hd
  have HRK := hid hrk
  have HSZ := hid hsz
  clear hrk hsz
  unfold sv at hR ⊢
  obtain ⟨nm, cs, ks⟩ := s
  simp only at hR hE HC hc1 hbox ⊢
  have hS0 := BS.new w nm (.slice adr cs.length cap) ks
  have HBOX := hid hbox
  have HS0 := hid hS0
  clear hbox hS0
  cases hr : Sc.right ⟨nm, cs, ks⟩
  · rw [hr] at hR
    have HE : Hid (Sc.fits ⟨nm, cs, ks⟩ l = 11) := by show _ = _; rw [hE.out, hr, if_pos rfl]
    clear hr hE
    go_enter Try.func23, Try.ntmps23
    go_wp2_with fail
    refine (hR.out).mono ?_; rintro e w1 ⟨rfl, hb1⟩
    go_wp2_with fail
    go_ret
    rw [HE.out]
    exact ⟨rfl, hnext HBOX.out hb1⟩
  · rw [hr] at hR
    have hE2 : Hid (Sc.fits ⟨nm, cs, ks⟩ l = if l.length ≠ cs.length then 10 else if Sc.fitAll cs l then 0 else 10) := by show _ = _; rw [hE.out, hr, if_neg (by decide)]
    clear hr hE
    by_cases hlen : l.length = cs.length
    · have e1 : ((l.length : Int) != (cs.length : Int)) = false := by rw [bne_eq_false_iff_eq]; omega
      have hE3 : Hid (Sc.fits ⟨nm, cs, ks⟩ l = if Sc.fitAll cs l then 0 else 10) := by show _ = _; rw [hE2.out, if_neg (by simp [hlen])]
      have HLEN := hid hlen
      have hlx : ∀ k, k < cs.length → k < l.length := fun k hk => by omega
      have HLX := hid hlx
      rw [hlen] at e1 ⊢
      clear hE2 hlen hlx
      go_enter Try.func23, Try.ntmps23
      go_wp2_with fail
      refine (hR.out).mono ?_; rintro e w1 ⟨rfl, hb1⟩
      have hS1 := HS0.out.keep hb1
      have hB1 := hnext HBOX.out hb1
      clear hb1 HS0 HBOX hR
      obtain ⟨s0, s1, s2, sl⟩ := hS1.cells
      go_wp2_with fail
      clear s0 s1 s2 sl
      go_loopw [21] (fun q wr => ∃ k : Nat, k ≤ cs.length ∧ q = .int .i64 (k : Int) ∧ Hid (Sc.fitTo cs l k = true) ∧ BS wr w.heap.size nm (.slice adr cs.length cap) ks ∧ Below w.heap.size w wr) (fun q _ => cs.length - (intOf q).toNat)
      case atStart => exact ⟨0, by omega, rfl, Sc.fitTo_zero _ _, hS1, hB1⟩
      case round =>
        obtain ⟨k, hk, rfl, hft, hS, hB⟩ := hrel
        clear hS1 hB1
        obtain ⟨w4, rfl⟩ : ∃ w4 : World, w4 = wr := ⟨_, rfl⟩
        have hk0 : (0 : Int) ≤ (k : Int) := by omega
        by_cases hlk : k < cs.length
        · have hlk' : (k : Int) < (cs.length : Int) := by omega
          have hll := HLX.out k hlk
          have hll' : (k : Int) < (l.length : Int) := by omega
          obtain ⟨g, off, rfl, q0, q1, q2⟩ := HC.out k hlk
          obtain ⟨g2, off2, rfl, p0, p1, p2, p3⟩ := HD.out k hll
          replace q0 := hkeep q0 hB
          replace q1 := hkeep q1 hB
          replace q2 := hkeep q2 hB
          replace p0 := hkeep p0 hB
          replace p1 := hkeep p1 hB
          replace p2 := hkeep p2 hB
          replace p3 := hkeep p3 hB
          have HN := hid (fun h0 => Sc.fitTo_next hlk hll hft.out h0)
          have HX := hid (fun h0 => Sc.fit_no hlk hll h0)
          have hxs := HRK.out _ (List.getElem_mem hll)
          have hh := hid (fun W => holds_any cs[k] l[k] hxs W)
          generalize cs[k] = c at q0 q1 q2 HN HX hh
          generalize l[k] = x at p0 p1 p2 p3 HN HX hh hxs
          have HNW := hid (BC.new w4 c)
          have hba4 := hba w4 (.cells #[.string c.name, .int .i64 c.kind, .bool c.need] 49)
          have HSA := hid (hS.keep hba4)
          have HBA := hid (hnext hB hba4)
          have P0 := hid (hkeep p0 hba4)
          have P1 := hid (hkeep p1 hba4)
          have P2 := hid (hkeep p2 hba4)
          have P3 := hid (hkeep p3 hba4)
          clear hba4 hB hS p0 p1 p2 p3
          unfold cv vv at hh
          cases hH : Sc.holdsB c x
          · rw [hH] at hh
            have HF : Hid (Sc.fits ⟨nm, cs, ks⟩ l = 10) := by show _ = _; rw [hE3.out, HX.out hH, if_neg (by decide)]
            clear HN HX hH
            go_wp2_with fail
            obtain ⟨cb, hcb⟩ : ∃ cb, w4.heap.size = cb := ⟨_, rfl⟩
            have hC5 := HNW.out
            have hS5 := HSA.out
            have hB5 := HBA.out
            have P0 := P0.out
            have P1 := P1.out
            have P2 := P2.out
            have P3 := P3.out
            rw [hcb] at hC5
            rw [hcb]
            generalize w4.alloc (.cells #[.string c.name, .int .i64 c.kind, .bool c.need] 49) = w5 at *
            clear HNW HSA HBA hcb
            obtain ⟨t0, t1, t2, tl⟩ := hC5.cells
            obtain ⟨w20, hw20⟩ : ∃ w20, (w5).drew = w20 := ⟨_, rfl⟩
            have hd20 : Below (w5).heap.size (w5) w20 := hw20 ▸ (Below.refl _ _).drew
            have mk20 : ∀ W, Below w20.heap.size w20 W → Below w20.heap.size w20 W ∧ W.cell? ⟨cb, 0, none⟩ = some (.string c.name) ∧ W.cell? ⟨cb, 1, none⟩ = some (.int .i64 c.kind) ∧ W.cell? ⟨cb, 2, none⟩ = some (.bool c.need) ∧ W.cell? ⟨g2, off2 + k * 4, none⟩ = some (.int .i64 x.k) ∧ W.cell? ⟨g2, off2 + k * 4 + 1, none⟩ = some (.int .i64 x.n) ∧ W.cell? ⟨g2, off2 + k * 4 + 2, none⟩ = some (.int .u64 (x.b : Int)) ∧ W.cell? ⟨g2, off2 + k * 4 + 3, none⟩ = some (.string x.s) := fun W h => ⟨h, hkeep (hkeep t0 hd20) h, hkeep (hkeep t1 hd20) h, hkeep (hkeep t2 hd20) h, hkeep (hkeep P0 hd20) h, hkeep (hkeep P1 hd20) h, hkeep (hkeep P2 hd20) h, hkeep (hkeep P3 hd20) h⟩
            have HS20 := hid (hS5.keep hd20)
            have HB20 := hid (hnext hB5 hd20)
            clear t0 t1 t2 tl P0 P1 P2 P3 hS5 hB5 hC5 hd20
            refine wp_region_held_drew (S := (fun W => Below w20.heap.size w20 W ∧ W.cell? ⟨cb, 0, none⟩ = some (.string c.name) ∧ W.cell? ⟨cb, 1, none⟩ = some (.int .i64 c.kind) ∧ W.cell? ⟨cb, 2, none⟩ = some (.bool c.need) ∧ W.cell? ⟨g2, off2 + k * 4, none⟩ = some (.int .i64 x.k) ∧ W.cell? ⟨g2, off2 + k * 4 + 1, none⟩ = some (.int .i64 x.n) ∧ W.cell? ⟨g2, off2 + k * 4 + 2, none⟩ = some (.int .u64 (x.b : Int)) ∧ W.cell? ⟨g2, off2 + k * 4 + 3, none⟩ = some (.string x.s))) (by kernel_rfl) (by rw [hw20]; exact mk20 _ (Below.refl _ _)) (fun hS20 => ?_)
            rw [hw20] at hS20 ⊢
            clear hw20
            refine wpAnyH_take (i := 0) (oi := ({ dst := some 26, op := Op.load 49 (Operand.tmp 6), type := 49, pos := "schema.go:59", after := #[], guard := none } : Oper)) (v := ?_) rfl (by kernel_rfl) (by kernel_rfl) (by kernel_rfl) (fun _ _ _ h => h) (Or.inl ⟨by rfl, ?_⟩) hS20 ?_
            rotate_left
            · intro w hSw; (try dsimp only at hSw); go_simp; (try with_reducible rfl)
            simp only [Act.put, List.setIfInBounds_toArray, List.set_cons_zero, List.set_cons_succ]
            refine wpAnyH_take (i := 1) (oi := ({ dst := some 27, op := Op.move (Operand.tmp 1), type := 32, pos := "schema.go:59", after := #[], guard := none } : Oper)) (v := ?_) rfl (by kernel_rfl) (by kernel_rfl) (by kernel_rfl) (fun _ _ _ h => h) (Or.inl ⟨by rfl, ?_⟩) hS20 ?_
            rotate_left
            · intro w hSw; (try dsimp only at hSw); go_simp; (try with_reducible rfl)
            simp only [Act.put, List.setIfInBounds_toArray, List.set_cons_zero, List.set_cons_succ]
            refine wpAnyH_take (i := 2) (oi := ({ dst := some 28, op := Op.move (Operand.tmp 5), type := 3, pos := "schema.go:59", after := #[], guard := none } : Oper)) (v := ?_) rfl (by kernel_rfl) (by kernel_rfl) (by kernel_rfl) (fun _ _ _ h => h) (Or.inl ⟨by rfl, ?_⟩) hS20 ?_
            rotate_left
            · intro w hSw; (try dsimp only at hSw); go_simp; (try with_reducible rfl)
            simp only [Act.put, List.setIfInBounds_toArray, List.set_cons_zero, List.set_cons_succ]
            refine wpAnyH_take (i := 3) (oi := ({ dst := some 29, op := Op.indexAddr 32 (Operand.tmp 27) (Operand.tmp 28), type := 0, pos := "schema.go:59", after := #[{ on := 1, ground := Ground.data }, { on := 2, ground := Ground.data }], guard := none } : Oper)) (v := ?_) rfl (by kernel_rfl) (by kernel_rfl) (by kernel_rfl) (fun _ _ _ h => h) (Or.inl ⟨by rfl, ?_⟩) hS20 ?_
            rotate_left
            · intro w hSw; (try dsimp only at hSw); go_simp; (try with_reducible rfl)
            simp only [Act.put, List.setIfInBounds_toArray, List.set_cons_zero, List.set_cons_succ]
            refine wpAnyH_take (i := 4) (oi := ({ dst := some 30, op := Op.load 46 (Operand.tmp 29), type := 46, pos := "schema.go:59", after := #[{ on := 3, ground := Ground.data }], guard := none } : Oper)) (v := ?_) rfl (by kernel_rfl) (by kernel_rfl) (by kernel_rfl) (fun _ _ _ h => h) (Or.inl ⟨by rfl, ?_⟩) hS20 ?_
            rotate_left
            · intro w hSw; (try dsimp only at hSw); go_simp; (try with_reducible rfl)
            simp only [Act.put, List.setIfInBounds_toArray, List.set_cons_zero, List.set_cons_succ]
            refine wpAnyH_ready (rs := [5]) (by kernel_rfl) (by simp) ?_
            refine AllReadyH.cons (o := ({ dst := some 31, op := Op.call { callee := Callee.value (Operand.func 35), args := #[Operand.tmp 26, Operand.tmp 30], argTypes := #[49, 46] }, type := 4, pos := "schema.go:59", after := #[{ on := 0, ground := Ground.data }, { on := 4, ground := Ground.data }], guard := none } : Oper)) rfl (fun K hK => ?_) AllReadyH.nil
            go_simp
            refine (hh.out _).mono ?_; rintro e w21 ⟨rfl, hb21⟩
            go_wp2_with fail
            refine hK.out _ _ (mk20 _ (hnext hS20.1 hb21)) (fun hS21 => ?_)
            clear hK K
            (try simp only [Act.put, List.setIfInBounds_toArray, List.set_cons_zero, List.set_cons_succ])
            clear hb21 hS20
            refine wpAnyH_take (i := 6) (oi := ({ dst := some 32, op := Op.unOp UnOp.not 4 (Operand.tmp 31), type := 4, pos := "schema.go:59", after := #[{ on := 5, ground := Ground.data }], guard := none } : Oper)) (v := ?_) rfl (by kernel_rfl) (by kernel_rfl) (by kernel_rfl) (fun _ _ _ h => h) (Or.inl ⟨by rfl, ?_⟩) hS21 ?_
            rotate_left
            · intro w hSw; (try dsimp only at hSw); go_simp; (try with_reducible rfl)
            simp only [Act.put, List.setIfInBounds_toArray, List.set_cons_zero, List.set_cons_succ]
            refine wpAnyH_done (by kernel_rfl) ?_ _
            go_wp2_with fail
            go_ret
            rw [HF.out]
            exact ⟨rfl, hnext HB20.out hS21.1⟩
          · rw [hH] at hh
            have HT := hid (HN.out hH)
            clear HN HX hH
            go_wp2_with fail
            obtain ⟨cb, hcb⟩ : ∃ cb, w4.heap.size = cb := ⟨_, rfl⟩
            have hC5 := HNW.out
            have hS5 := HSA.out
            have hB5 := HBA.out
            have P0 := P0.out
            have P1 := P1.out
            have P2 := P2.out
            have P3 := P3.out
            rw [hcb] at hC5
            rw [hcb]
            generalize w4.alloc (.cells #[.string c.name, .int .i64 c.kind, .bool c.need] 49) = w5 at *
            clear HNW HSA HBA hcb
            obtain ⟨t0, t1, t2, tl⟩ := hC5.cells
            obtain ⟨w20, hw20⟩ : ∃ w20, (w5).drew = w20 := ⟨_, rfl⟩
            have hd20 : Below (w5).heap.size (w5) w20 := hw20 ▸ (Below.refl _ _).drew
            have mk20 : ∀ W, Below w20.heap.size w20 W → Below w20.heap.size w20 W ∧ W.cell? ⟨cb, 0, none⟩ = some (.string c.name) ∧ W.cell? ⟨cb, 1, none⟩ = some (.int .i64 c.kind) ∧ W.cell? ⟨cb, 2, none⟩ = some (.bool c.need) ∧ W.cell? ⟨g2, off2 + k * 4, none⟩ = some (.int .i64 x.k) ∧ W.cell? ⟨g2, off2 + k * 4 + 1, none⟩ = some (.int .i64 x.n) ∧ W.cell? ⟨g2, off2 + k * 4 + 2, none⟩ = some (.int .u64 (x.b : Int)) ∧ W.cell? ⟨g2, off2 + k * 4 + 3, none⟩ = some (.string x.s) := fun W h => ⟨h, hkeep (hkeep t0 hd20) h, hkeep (hkeep t1 hd20) h, hkeep (hkeep t2 hd20) h, hkeep (hkeep P0 hd20) h, hkeep (hkeep P1 hd20) h, hkeep (hkeep P2 hd20) h, hkeep (hkeep P3 hd20) h⟩
            have HS20 := hid (hS5.keep hd20)
            have HB20 := hid (hnext hB5 hd20)
            clear t0 t1 t2 tl P0 P1 P2 P3 hS5 hB5 hC5 hd20
            refine wp_region_held_drew (S := (fun W => Below w20.heap.size w20 W ∧ W.cell? ⟨cb, 0, none⟩ = some (.string c.name) ∧ W.cell? ⟨cb, 1, none⟩ = some (.int .i64 c.kind) ∧ W.cell? ⟨cb, 2, none⟩ = some (.bool c.need) ∧ W.cell? ⟨g2, off2 + k * 4, none⟩ = some (.int .i64 x.k) ∧ W.cell? ⟨g2, off2 + k * 4 + 1, none⟩ = some (.int .i64 x.n) ∧ W.cell? ⟨g2, off2 + k * 4 + 2, none⟩ = some (.int .u64 (x.b : Int)) ∧ W.cell? ⟨g2, off2 + k * 4 + 3, none⟩ = some (.string x.s))) (by kernel_rfl) (by rw [hw20]; exact mk20 _ (Below.refl _ _)) (fun hS20 => ?_)
            rw [hw20] at hS20 ⊢
            clear hw20
            refine wpAnyH_take (i := 0) (oi := ({ dst := some 26, op := Op.load 49 (Operand.tmp 6), type := 49, pos := "schema.go:59", after := #[], guard := none } : Oper)) (v := ?_) rfl (by kernel_rfl) (by kernel_rfl) (by kernel_rfl) (fun _ _ _ h => h) (Or.inl ⟨by rfl, ?_⟩) hS20 ?_
            rotate_left
            · intro w hSw; (try dsimp only at hSw); go_simp; (try with_reducible rfl)
            simp only [Act.put, List.setIfInBounds_toArray, List.set_cons_zero, List.set_cons_succ]
            refine wpAnyH_take (i := 1) (oi := ({ dst := some 27, op := Op.move (Operand.tmp 1), type := 32, pos := "schema.go:59", after := #[], guard := none } : Oper)) (v := ?_) rfl (by kernel_rfl) (by kernel_rfl) (by kernel_rfl) (fun _ _ _ h => h) (Or.inl ⟨by rfl, ?_⟩) hS20 ?_
            rotate_left
            · intro w hSw; (try dsimp only at hSw); go_simp; (try with_reducible rfl)
            simp only [Act.put, List.setIfInBounds_toArray, List.set_cons_zero, List.set_cons_succ]
            refine wpAnyH_take (i := 2) (oi := ({ dst := some 28, op := Op.move (Operand.tmp 5), type := 3, pos := "schema.go:59", after := #[], guard := none } : Oper)) (v := ?_) rfl (by kernel_rfl) (by kernel_rfl) (by kernel_rfl) (fun _ _ _ h => h) (Or.inl ⟨by rfl, ?_⟩) hS20 ?_
            rotate_left
            · intro w hSw; (try dsimp only at hSw); go_simp; (try with_reducible rfl)
            simp only [Act.put, List.setIfInBounds_toArray, List.set_cons_zero, List.set_cons_succ]
            refine wpAnyH_take (i := 3) (oi := ({ dst := some 29, op := Op.indexAddr 32 (Operand.tmp 27) (Operand.tmp 28), type := 0, pos := "schema.go:59", after := #[{ on := 1, ground := Ground.data }, { on := 2, ground := Ground.data }], guard := none } : Oper)) (v := ?_) rfl (by kernel_rfl) (by kernel_rfl) (by kernel_rfl) (fun _ _ _ h => h) (Or.inl ⟨by rfl, ?_⟩) hS20 ?_
            rotate_left
            · intro w hSw; (try dsimp only at hSw); go_simp; (try with_reducible rfl)
            simp only [Act.put, List.setIfInBounds_toArray, List.set_cons_zero, List.set_cons_succ]
            refine wpAnyH_take (i := 4) (oi := ({ dst := some 30, op := Op.load 46 (Operand.tmp 29), type := 46, pos := "schema.go:59", after := #[{ on := 3, ground := Ground.data }], guard := none } : Oper)) (v := ?_) rfl (by kernel_rfl) (by kernel_rfl) (by kernel_rfl) (fun _ _ _ h => h) (Or.inl ⟨by rfl, ?_⟩) hS20 ?_
            rotate_left
            · intro w hSw; (try dsimp only at hSw); go_simp; (try with_reducible rfl)
            simp only [Act.put, List.setIfInBounds_toArray, List.set_cons_zero, List.set_cons_succ]
            refine wpAnyH_ready (rs := [5]) (by kernel_rfl) (by simp) ?_
            refine AllReadyH.cons (o := ({ dst := some 31, op := Op.call { callee := Callee.value (Operand.func 35), args := #[Operand.tmp 26, Operand.tmp 30], argTypes := #[49, 46] }, type := 4, pos := "schema.go:59", after := #[{ on := 0, ground := Ground.data }, { on := 4, ground := Ground.data }], guard := none } : Oper)) rfl (fun K hK => ?_) AllReadyH.nil
            go_simp
            refine (hh.out _).mono ?_; rintro e w21 ⟨rfl, hb21⟩
            go_wp2_with fail
            refine hK.out _ _ (mk20 _ (hnext hS20.1 hb21)) (fun hS21 => ?_)
            clear hK K
            (try simp only [Act.put, List.setIfInBounds_toArray, List.set_cons_zero, List.set_cons_succ])
            clear hb21 hS20
            refine wpAnyH_take (i := 6) (oi := ({ dst := some 32, op := Op.unOp UnOp.not 4 (Operand.tmp 31), type := 4, pos := "schema.go:59", after := #[{ on := 5, ground := Ground.data }], guard := none } : Oper)) (v := ?_) rfl (by kernel_rfl) (by kernel_rfl) (by kernel_rfl) (fun _ _ _ h => h) (Or.inl ⟨by rfl, ?_⟩) hS21 ?_
            rotate_left
            · intro w hSw; (try dsimp only at hSw); go_simp; (try with_reducible rfl)
            simp only [Act.put, List.setIfInBounds_toArray, List.set_cons_zero, List.set_cons_succ]
            refine wpAnyH_done (by kernel_rfl) ?_ _
            go_wp2_with fail
            go_roundw
            case rel => exact ⟨k + 1, hlk, by go_num, HT, HS20.out.keep hS21.1, hnext HB20.out hS21.1⟩
            case measure => simp [intOf]; omega
        · obtain rfl : k = cs.length := by omega
          have HF : Hid (Sc.fits ⟨nm, cs, ks⟩ l = 0) := by show _ = _; rw [hE3.out, Sc.fitTo_all HLEN.out hft.out, if_pos rfl]
          go_wp2_with fail
          go_ret
          rw [HF.out]
          exact ⟨rfl, hB⟩
    · have e1 : ((l.length : Int) != (cs.length : Int)) = true := by rw [bne_iff_ne]; omega
      have HF : Hid (Sc.fits ⟨nm, cs, ks⟩ l = 10) := by show _ = _; rw [hE2.out, if_pos hlen]
      clear hE2 hlen
      go_enter Try.func23, Try.ntmps23
      go_wp2_with fail
      refine (hR.out).mono ?_; rintro e w1 ⟨rfl, hb1⟩
      have hS1 := HS0.out.keep hb1
      have hB1 := hnext HBOX.out hb1
      obtain ⟨s0, s1, s2, sl⟩ := hS1.cells
      go_wp2_with fail
      go_ret
      rw [HF.out]
      exact ⟨rfl, hB1⟩
end Go.Proofs.Ytmgafcblbbbanaa
