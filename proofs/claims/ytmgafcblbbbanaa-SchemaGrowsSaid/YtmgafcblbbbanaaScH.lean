/-
  Fits of the reference of schema: its contract. Condition: the texts have at most 2^63 - 1 bytes.
-/
import Derived.Test.YtmgafcblbbbanaaScG
import Derived.Test.YtmgafcblbbbanaaRx5
namespace Go.Proofs.Ytmgafcblbbbanaa
open Go.RowKit

set_option maxRecDepth 100000 in
set_option maxHeartbeats 12800000 in
theorem fitsR_any (s : Sc.S) (v : Value) (l : List Cd.V) (u : Value) (w : World) (h : CsAt w v s.cols) (hsz : Sok s) (hu : VsAt w u l) (hl : l.length ≤ maxLen) (hrk : Rok l) (hrb : ∀ x ∈ l, x.b < 18446744073709551616) :
    Calls Try.prog 24 #[sv s v, u] w fun e w' => e = .returned (.int .i64 (Sc.fits s l)) ∧ Below w.heap.size w w' := by
  have hbox := hba w (.cells #[.string s.name, v, .int .i64 s.keys] 24)
  have hR := hid (rightR_sc s v _ (h.below hbox) hsz)
  have hE : Hid (Sc.fits s l = if Sc.right s = false then 11 else if l.length ≠ s.cols.length then 10 else if Sc.fitAll s.cols l then 0 else 10) := rfl
  obtain ⟨adr, cap, rfl, hc1, hc2, hc⟩ := h
  obtain ⟨adr2, cap2, rfl, hd⟩ := hu
  have HC := hid hc
  have HD := hid hd
  unfold maxLen at hc2 hl
  clear hc hd
  have HRK := hid hrk
  have HRB := hid hrb
  have HSZ := hid hsz
  clear hrk hsz hrb
  unfold sv at hR ⊢
  obtain ⟨nm, cs, ks⟩ := s
  simp only at hR hE HC hc1 hbox ⊢
  have hS0 := BS.new w nm (.slice adr cs.length cap) ks
  have HBOX := hid hbox
  have HS0 := hid hS0
  clear hbox hS0
  cases hr : Sc.right ⟨nm, cs, ks⟩
  · rw [hr] at hR
    have HE : Hid (Sc.fits ⟨nm, cs, ks⟩ l = 11) := by show _ = _; rw [hE.out, hr, if_pos rfl]
    clear hr hE
    go_enter Try.func24, Try.ntmps24
    go_wp2_with fail
    refine (hR.out).mono ?_; rintro e w1 ⟨rfl, hb1⟩
    go_wp2_with fail
    go_ret
    rw [HE.out]
    exact ⟨rfl, hnext HBOX.out hb1⟩
  · rw [hr] at hR
    have hE2 : Hid (Sc.fits ⟨nm, cs, ks⟩ l = if l.length ≠ cs.length then 10 else if Sc.fitAll cs l then 0 else 10) := by show _ = _; rw [hE.out, hr, if_neg (by decide)]
    clear hr hE
    by_cases hlen : l.length = cs.length
    · have e1 : ((l.length : Int) != (cs.length : Int)) = false := by rw [bne_eq_false_iff_eq]; omega
      have hE3 : Hid (Sc.fits ⟨nm, cs, ks⟩ l = if Sc.fitAll cs l then 0 else 10) := by show _ = _; rw [hE2.out, if_neg (by simp [hlen])]
      have HLEN := hid hlen
      have hlx : ∀ k, k < cs.length → k < l.length := fun k hk => by omega
      have HLX := hid hlx
      rw [hlen] at e1 ⊢
      clear hE2 hlen hlx
      go_enter Try.func24, Try.ntmps24
      go_wp2_with fail
      refine (hR.out).mono ?_; rintro e w1 ⟨rfl, hb1⟩
      have hS1 := HS0.out.keep hb1
      have hB1 := hnext HBOX.out hb1
      clear hb1 HS0 HBOX hR
      obtain ⟨s0, s1, s2, sl⟩ := hS1.cells
      go_wp2_with fail
      clear s0 s1 s2 sl
      go_loopw [5] (fun q wr => ∃ k : Nat, k ≤ cs.length ∧ q = .int .i64 (k : Int) ∧ Hid (Sc.fitTo cs l k = true) ∧ BS wr w.heap.size nm (.slice adr cs.length cap) ks ∧ Below w.heap.size w wr) (fun q _ => cs.length - (intOf q).toNat)
      case atStart => exact ⟨0, by omega, rfl, Sc.fitTo_zero _ _, hS1, hB1⟩
      case round =>
        obtain ⟨k, hk, rfl, hft, hS, hB⟩ := hrel
        clear hS1 hB1
        obtain ⟨w4, rfl⟩ : ∃ w4 : World, w4 = wr := ⟨_, rfl⟩
        have hk0 : (0 : Int) ≤ (k : Int) := by omega
        by_cases hlk : k < cs.length
        · have hlk' : (k : Int) < (cs.length : Int) := by omega
          have hll := HLX.out k hlk
          have hll' : (k : Int) < (l.length : Int) := by omega
          obtain ⟨g, off, rfl, q0, q1, q2⟩ := HC.out k hlk
          obtain ⟨g2, off2, rfl, p0, p1, p2, p3⟩ := HD.out k hll
          replace q0 := hkeep q0 hB
          replace q1 := hkeep q1 hB
          replace q2 := hkeep q2 hB
          replace p0 := hkeep p0 hB
          replace p1 := hkeep p1 hB
          replace p2 := hkeep p2 hB
          replace p3 := hkeep p3 hB
          have HN := hid (fun h0 => Sc.fitTo_next hlk hll hft.out h0)
          have HX := hid (fun h0 => Sc.fit_no hlk hll h0)
          have hxs := HRK.out _ (List.getElem_mem hll)
          have hxb := HRB.out _ (List.getElem_mem hll)
          have hh := hid (fun W => rightR_any l[k].k l[k].n l[k].b l[k].s hxs hxb W)
          have hHB : Hid (Sc.holdsB cs[k] l[k] = (Va.right l[k].k l[k].n l[k].b l[k].s && (if l[k].k = 0 then !(cs[k]).need else decide (l[k].k = (cs[k]).kind)))) := rfl
          generalize cs[k] = c at q0 q1 q2 HN HX hHB
          generalize l[k] = x at p0 p1 p2 p3 HN HX hh hxs hxb hHB
          generalize Va.right x.k x.n x.b x.s = RR at hh hHB
          have HNW := hid (BV.new w4 x.k x.n x.b x.s)
          have hba4 := hba w4 (.cells #[.int .i64 x.k, .int .i64 x.n, .int .u64 (x.b : Int), .string x.s] 46)
          have HSA := hid (hS.keep hba4)
          have HBA := hid (hnext hB hba4)
          have Q1 := hid (hkeep q1 hba4)
          have Q2 := hid (hkeep q2 hba4)
          have s1 := hS.cells.2.1
          clear hba4 hB hS q0 q1 q2
          unfold vv at hh
          have hcases : (RR = false ∧ Sc.holdsB c x = false) ∨ (RR = true ∧ ((x.k ≠ 0 ∧ ((x.k ≠ c.kind ∧ Sc.holdsB c x = false) ∨ (x.k = c.kind ∧ Sc.holdsB c x = true))) ∨ (x.k = 0 ∧ ((c.need = true ∧ Sc.holdsB c x = false) ∨ (c.need = false ∧ Sc.holdsB c x = true))))) := by
            rw [hHB.out]
            cases RR
            · exact .inl ⟨rfl, rfl⟩
            · refine .inr ⟨rfl, ?_⟩
              by_cases h0 : x.k = 0
              · refine .inr ⟨h0, ?_⟩
                rw [if_pos h0]
                cases c.need
                · exact .inr ⟨rfl, rfl⟩
                · exact .inl ⟨rfl, rfl⟩
              · refine .inl ⟨h0, ?_⟩
                rw [if_neg h0]
                by_cases h1 : x.k = c.kind
                · exact .inr ⟨h1, by rw [decide_eq_true h1]; rfl⟩
                · exact .inl ⟨h1, by rw [decide_eq_false h1]; rfl⟩
          have HBAD : Hid (Sc.holdsB c x = false → Sc.fits ⟨nm, cs, ks⟩ l = 10) := fun hH => by rw [hE3.out, HX.out hH, if_neg (by decide)]
          clear hHB HX
          rcases hcases with ⟨rfl, hH⟩ | ⟨rfl, ⟨h0, ⟨h1, hH⟩ | ⟨h1, hH⟩⟩ | ⟨h0, ⟨h1, hH⟩ | ⟨h1, hH⟩⟩⟩
          · have HF := hid (HBAD.out hH)
            clear HBAD HN hH
            go_wp2_with fail
            obtain ⟨cb, hcb⟩ : ∃ cb, w4.heap.size = cb := ⟨_, rfl⟩
            have hC5 := HNW.out
            have hS5 := HSA.out
            have hB5 := HBA.out
            have Q1 := Q1.out
            have Q2 := Q2.out
            rw [hcb] at hC5
            rw [hcb]
            generalize w4.alloc (.cells #[.int .i64 x.k, .int .i64 x.n, .int .u64 (x.b : Int), .string x.s] 46) = w5 at *
            clear HNW HSA HBA hcb s1
            obtain ⟨t0, t1, t2, t3, _, _, _, _, tl⟩ := hC5.cells
            obtain ⟨_, s1, _, _⟩ := hS5.cells
            obtain ⟨w20, hw20⟩ : ∃ w20, (w5).drew = w20 := ⟨_, rfl⟩
            have hd20 : Below (w5).heap.size (w5) w20 := hw20 ▸ (Below.refl _ _).drew
            have mk20 : ∀ W, Below w20.heap.size w20 W → Below w20.heap.size w20 W ∧ W.cell? ⟨cb, 0, none⟩ = some (.int .i64 x.k) ∧ W.cell? ⟨cb, 1, none⟩ = some (.int .i64 x.n) ∧ W.cell? ⟨cb, 2, none⟩ = some (.int .u64 (x.b : Int)) ∧ W.cell? ⟨cb, 3, none⟩ = some (.string x.s) ∧ W.cell? ⟨g, off + k * 3 + 1, none⟩ = some (.int .i64 c.kind) ∧ W.cell? ⟨g, off + k * 3 + 2, none⟩ = some (.bool c.need) ∧ W.cell? ⟨w.heap.size, 1, none⟩ = some (.slice (some ⟨g, off, none⟩) cs.length cap) := fun W h => ⟨h, hkeep (hkeep t0 hd20) h, hkeep (hkeep t1 hd20) h, hkeep (hkeep t2 hd20) h, hkeep (hkeep t3 hd20) h, hkeep (hkeep Q1 hd20) h, hkeep (hkeep Q2 hd20) h, hkeep (hkeep s1 hd20) h⟩
            have HS20 := hid (hS5.keep hd20)
            have HB20 := hid (hnext hB5 hd20)
            clear t0 t1 t2 t3 tl Q1 Q2 s1 hS5 hB5 hC5 hd20
            refine wp_region_held_drew (S := (fun W => Below w20.heap.size w20 W ∧ W.cell? ⟨cb, 0, none⟩ = some (.int .i64 x.k) ∧ W.cell? ⟨cb, 1, none⟩ = some (.int .i64 x.n) ∧ W.cell? ⟨cb, 2, none⟩ = some (.int .u64 (x.b : Int)) ∧ W.cell? ⟨cb, 3, none⟩ = some (.string x.s) ∧ W.cell? ⟨g, off + k * 3 + 1, none⟩ = some (.int .i64 c.kind) ∧ W.cell? ⟨g, off + k * 3 + 2, none⟩ = some (.bool c.need) ∧ W.cell? ⟨w.heap.size, 1, none⟩ = some (.slice (some ⟨g, off, none⟩) cs.length cap))) (by kernel_rfl) (by rw [hw20]; exact mk20 _ (Below.refl _ _)) (fun hS20 => ?_)
            rw [hw20] at hS20 ⊢
            clear hw20
            refine wpAnyH_take (i := 0) (oi := ({ dst := some 26, op := Op.load 46 (Operand.tmp 6), type := 46, pos := "ref.go:52", after := #[], guard := none } : Oper)) (v := ?_) rfl (by kernel_rfl) (by kernel_rfl) (by kernel_rfl) (fun _ _ _ h => h) (Or.inl ⟨by rfl, ?_⟩) hS20 ?_
            rotate_left
            · intro w hSw; (try dsimp only at hSw); go_simp; (try with_reducible rfl)
            simp only [Act.put, List.setIfInBounds_toArray, List.set_cons_zero, List.set_cons_succ]
            refine wpAnyH_ready (rs := [1]) (by kernel_rfl) (by simp) ?_
            refine AllReadyH.cons (o := ({ dst := some 27, op := Op.call { callee := Callee.value (Operand.func 36), args := #[Operand.tmp 26], argTypes := #[46] }, type := 4, pos := "ref.go:52", after := #[{ on := 0, ground := Ground.data }], guard := none } : Oper)) rfl (fun K hK => ?_) AllReadyH.nil
            go_simp
            refine (hh.out _).mono ?_; rintro e w21 ⟨rfl, hb21⟩
            go_wp2_with fail
            refine hK.out _ _ (mk20 _ (hnext hS20.1 hb21)) (fun hS21 => ?_)
            clear hK K
            (try simp only [Act.put, List.setIfInBounds_toArray, List.set_cons_zero, List.set_cons_succ])
            clear hb21 hS20
            refine wpAnyH_take (i := 2) (oi := ({ dst := some 28, op := Op.unOp UnOp.not 4 (Operand.tmp 27), type := 4, pos := "ref.go:52", after := #[{ on := 1, ground := Ground.data }], guard := none } : Oper)) (v := ?_) rfl (by kernel_rfl) (by kernel_rfl) (by kernel_rfl) (fun _ _ _ h => h) (Or.inl ⟨by rfl, ?_⟩) hS21 ?_
            rotate_left
            · intro w hSw; (try dsimp only at hSw); go_simp; (try with_reducible rfl)
            simp only [Act.put, List.setIfInBounds_toArray, List.set_cons_zero, List.set_cons_succ]
            refine wpAnyH_take (i := 3) (oi := ({ dst := some 29, op := Op.move (Operand.tmp 28), type := 4, pos := "ref.go:52", after := #[{ on := 2, ground := Ground.data }, { on := 1, ground := Ground.chain }], guard := none } : Oper)) (v := ?_) rfl (by kernel_rfl) (by kernel_rfl) (by kernel_rfl) (fun _ _ _ h => h) (Or.inl ⟨by rfl, ?_⟩) hS21 ?_
            rotate_left
            · intro w hSw; (try dsimp only at hSw); go_simp; (try with_reducible rfl)
            simp only [Act.put, List.setIfInBounds_toArray, List.set_cons_zero, List.set_cons_succ]
            refine wpAnyH_take (i := 4) (oi := ({ dst := some 30, op := Op.fieldAddr 46 (Operand.tmp 6) 0, type := 0, pos := "ref.go:52", after := #[{ on := 3, ground := Ground.guard }], guard := some (3, false) } : Oper)) (v := undef) rfl (by kernel_rfl) (by kernel_rfl) (by kernel_rfl) (fun _ _ _ h => h) (Or.inr ⟨by rfl, rfl⟩) hS21 ?_
            simp only [Act.put, List.setIfInBounds_toArray, List.set_cons_zero, List.set_cons_succ]
            refine wpAnyH_take (i := 5) (oi := ({ dst := some 31, op := Op.load 3 (Operand.tmp 30), type := 3, pos := "ref.go:52", after := #[{ on := 4, ground := Ground.data }, { on := 3, ground := Ground.guard }], guard := some (3, false) } : Oper)) (v := undef) rfl (by kernel_rfl) (by kernel_rfl) (by kernel_rfl) (fun _ _ _ h => h) (Or.inr ⟨by rfl, rfl⟩) hS21 ?_
            simp only [Act.put, List.setIfInBounds_toArray, List.set_cons_zero, List.set_cons_succ]
            refine wpAnyH_take (i := 6) (oi := ({ dst := some 32, op := Op.binOp BinOp.neq 3 (Operand.tmp 31) (Operand.const (Value.int IntKind.i64 0)) 3, type := 4, pos := "ref.go:52", after := #[{ on := 5, ground := Ground.data }, { on := 3, ground := Ground.guard }], guard := some (3, false) } : Oper)) (v := undef) rfl (by kernel_rfl) (by kernel_rfl) (by kernel_rfl) (fun _ _ _ h => h) (Or.inr ⟨by rfl, rfl⟩) hS21 ?_
            simp only [Act.put, List.setIfInBounds_toArray, List.set_cons_zero, List.set_cons_succ]
            refine wpAnyH_take (i := 7) (oi := ({ dst := some 33, op := Op.move (Operand.tmp 32), type := 4, pos := "ref.go:52", after := #[{ on := 6, ground := Ground.data }, { on := 3, ground := Ground.chain }, { on := 3, ground := Ground.guard }], guard := some (3, false) } : Oper)) (v := undef) rfl (by kernel_rfl) (by kernel_rfl) (by kernel_rfl) (fun _ _ _ h => h) (Or.inr ⟨by rfl, rfl⟩) hS21 ?_
            simp only [Act.put, List.setIfInBounds_toArray, List.set_cons_zero, List.set_cons_succ]
            refine wpAnyH_take (i := 8) (oi := ({ dst := some 34, op := Op.fieldAddr 46 (Operand.tmp 6) 0, type := 0, pos := "ref.go:52", after := #[{ on := 7, ground := Ground.guard }], guard := some (7, true) } : Oper)) (v := undef) rfl (by kernel_rfl) (by kernel_rfl) (by kernel_rfl) (fun _ _ _ h => h) (Or.inr ⟨by rfl, rfl⟩) hS21 ?_
            simp only [Act.put, List.setIfInBounds_toArray, List.set_cons_zero, List.set_cons_succ]
            refine wpAnyH_take (i := 9) (oi := ({ dst := some 35, op := Op.load 3 (Operand.tmp 34), type := 3, pos := "ref.go:52", after := #[{ on := 8, ground := Ground.data }, { on := 7, ground := Ground.guard }], guard := some (7, true) } : Oper)) (v := undef) rfl (by kernel_rfl) (by kernel_rfl) (by kernel_rfl) (fun _ _ _ h => h) (Or.inr ⟨by rfl, rfl⟩) hS21 ?_
            simp only [Act.put, List.setIfInBounds_toArray, List.set_cons_zero, List.set_cons_succ]
            refine wpAnyH_take (i := 10) (oi := ({ dst := some 36, op := Op.fieldAddr 24 (Operand.tmp 2) 1, type := 0, pos := "ref.go:52", after := #[{ on := 7, ground := Ground.guard }], guard := some (7, true) } : Oper)) (v := undef) rfl (by kernel_rfl) (by kernel_rfl) (by kernel_rfl) (fun _ _ _ h => h) (Or.inr ⟨by rfl, rfl⟩) hS21 ?_
            simp only [Act.put, List.setIfInBounds_toArray, List.set_cons_zero, List.set_cons_succ]
            refine wpAnyH_take (i := 11) (oi := ({ dst := some 37, op := Op.load 22 (Operand.tmp 36), type := 22, pos := "ref.go:52", after := #[{ on := 10, ground := Ground.data }, { on := 7, ground := Ground.guard }], guard := some (7, true) } : Oper)) (v := undef) rfl (by kernel_rfl) (by kernel_rfl) (by kernel_rfl) (fun _ _ _ h => h) (Or.inr ⟨by rfl, rfl⟩) hS21 ?_
            simp only [Act.put, List.setIfInBounds_toArray, List.set_cons_zero, List.set_cons_succ]
            refine wpAnyH_take (i := 12) (oi := ({ dst := some 38, op := Op.move (Operand.tmp 5), type := 3, pos := "ref.go:52", after := #[{ on := 7, ground := Ground.guard }], guard := some (7, true) } : Oper)) (v := undef) rfl (by kernel_rfl) (by kernel_rfl) (by kernel_rfl) (fun _ _ _ h => h) (Or.inr ⟨by rfl, rfl⟩) hS21 ?_
            simp only [Act.put, List.setIfInBounds_toArray, List.set_cons_zero, List.set_cons_succ]
            refine wpAnyH_take (i := 13) (oi := ({ dst := some 39, op := Op.indexAddr 22 (Operand.tmp 37) (Operand.tmp 38), type := 0, pos := "ref.go:52", after := #[{ on := 11, ground := Ground.data }, { on := 12, ground := Ground.data }, { on := 7, ground := Ground.guard }], guard := some (7, true) } : Oper)) (v := undef) rfl (by kernel_rfl) (by kernel_rfl) (by kernel_rfl) (fun _ _ _ h => h) (Or.inr ⟨by rfl, rfl⟩) hS21 ?_
            simp only [Act.put, List.setIfInBounds_toArray, List.set_cons_zero, List.set_cons_succ]
            refine wpAnyH_take (i := 14) (oi := ({ dst := some 40, op := Op.fieldAddr 49 (Operand.tmp 39) 1, type := 0, pos := "ref.go:52", after := #[{ on := 13, ground := Ground.data }, { on := 7, ground := Ground.guard }], guard := some (7, true) } : Oper)) (v := undef) rfl (by kernel_rfl) (by kernel_rfl) (by kernel_rfl) (fun _ _ _ h => h) (Or.inr ⟨by rfl, rfl⟩) hS21 ?_
            simp only [Act.put, List.setIfInBounds_toArray, List.set_cons_zero, List.set_cons_succ]
            refine wpAnyH_take (i := 15) (oi := ({ dst := some 41, op := Op.load 3 (Operand.tmp 40), type := 3, pos := "ref.go:52", after := #[{ on := 14, ground := Ground.data }, { on := 7, ground := Ground.guard }], guard := some (7, true) } : Oper)) (v := undef) rfl (by kernel_rfl) (by kernel_rfl) (by kernel_rfl) (fun _ _ _ h => h) (Or.inr ⟨by rfl, rfl⟩) hS21 ?_
            simp only [Act.put, List.setIfInBounds_toArray, List.set_cons_zero, List.set_cons_succ]
            refine wpAnyH_take (i := 16) (oi := ({ dst := some 42, op := Op.binOp BinOp.neq 3 (Operand.tmp 35) (Operand.tmp 41) 3, type := 4, pos := "ref.go:52", after := #[{ on := 9, ground := Ground.data }, { on := 15, ground := Ground.data }, { on := 7, ground := Ground.guard }], guard := some (7, true) } : Oper)) (v := undef) rfl (by kernel_rfl) (by kernel_rfl) (by kernel_rfl) (fun _ _ _ h => h) (Or.inr ⟨by rfl, rfl⟩) hS21 ?_
            simp only [Act.put, List.setIfInBounds_toArray, List.set_cons_zero, List.set_cons_succ]
            refine wpAnyH_take (i := 17) (oi := ({ dst := some 43, op := Op.pick (Operand.tmp 33) (Operand.tmp 42) (Operand.const (Value.bool false)), type := 4, pos := "ref.go:52", after := #[{ on := 7, ground := Ground.data }, { on := 16, ground := Ground.data }, { on := 3, ground := Ground.guard }], guard := some (3, false) } : Oper)) (v := undef) rfl (by kernel_rfl) (by kernel_rfl) (by kernel_rfl) (fun _ _ _ h => h) (Or.inr ⟨by rfl, rfl⟩) hS21 ?_
            simp only [Act.put, List.setIfInBounds_toArray, List.set_cons_zero, List.set_cons_succ]
            refine wpAnyH_take (i := 18) (oi := ({ dst := some 44, op := Op.pick (Operand.tmp 29) (Operand.const (Value.bool true)) (Operand.tmp 43), type := 4, pos := "ref.go:52", after := #[{ on := 3, ground := Ground.data }, { on := 17, ground := Ground.data }], guard := none } : Oper)) (v := ?_) rfl (by kernel_rfl) (by kernel_rfl) (by kernel_rfl) (fun _ _ _ h => h) (Or.inl ⟨by rfl, ?_⟩) hS21 ?_
            rotate_left
            · intro w hSw; (try dsimp only at hSw); go_simp; (try with_reducible rfl)
            simp only [Act.put, List.setIfInBounds_toArray, List.set_cons_zero, List.set_cons_succ]
            refine wpAnyH_take (i := 19) (oi := ({ dst := some 45, op := Op.move (Operand.tmp 44), type := 4, pos := "ref.go:52", after := #[{ on := 18, ground := Ground.data }, { on := 7, ground := Ground.chain }], guard := none } : Oper)) (v := ?_) rfl (by kernel_rfl) (by kernel_rfl) (by kernel_rfl) (fun _ _ _ h => h) (Or.inl ⟨by rfl, ?_⟩) hS21 ?_
            rotate_left
            · intro w hSw; (try dsimp only at hSw); go_simp; (try with_reducible rfl)
            simp only [Act.put, List.setIfInBounds_toArray, List.set_cons_zero, List.set_cons_succ]
            refine wpAnyH_take (i := 20) (oi := ({ dst := some 46, op := Op.fieldAddr 46 (Operand.tmp 6) 0, type := 0, pos := "ref.go:52", after := #[{ on := 19, ground := Ground.guard }], guard := some (19, false) } : Oper)) (v := undef) rfl (by kernel_rfl) (by kernel_rfl) (by kernel_rfl) (fun _ _ _ h => h) (Or.inr ⟨by rfl, rfl⟩) hS21 ?_
            simp only [Act.put, List.setIfInBounds_toArray, List.set_cons_zero, List.set_cons_succ]
            refine wpAnyH_take (i := 21) (oi := ({ dst := some 47, op := Op.load 3 (Operand.tmp 46), type := 3, pos := "ref.go:52", after := #[{ on := 20, ground := Ground.data }, { on := 19, ground := Ground.guard }], guard := some (19, false) } : Oper)) (v := undef) rfl (by kernel_rfl) (by kernel_rfl) (by kernel_rfl) (fun _ _ _ h => h) (Or.inr ⟨by rfl, rfl⟩) hS21 ?_
            simp only [Act.put, List.setIfInBounds_toArray, List.set_cons_zero, List.set_cons_succ]
            refine wpAnyH_take (i := 22) (oi := ({ dst := some 48, op := Op.binOp BinOp.eql 3 (Operand.tmp 47) (Operand.const (Value.int IntKind.i64 0)) 3, type := 4, pos := "ref.go:52", after := #[{ on := 21, ground := Ground.data }, { on := 19, ground := Ground.guard }], guard := some (19, false) } : Oper)) (v := undef) rfl (by kernel_rfl) (by kernel_rfl) (by kernel_rfl) (fun _ _ _ h => h) (Or.inr ⟨by rfl, rfl⟩) hS21 ?_
            simp only [Act.put, List.setIfInBounds_toArray, List.set_cons_zero, List.set_cons_succ]
            refine wpAnyH_take (i := 23) (oi := ({ dst := some 49, op := Op.move (Operand.tmp 48), type := 4, pos := "ref.go:52", after := #[{ on := 22, ground := Ground.data }, { on := 19, ground := Ground.chain }, { on := 19, ground := Ground.guard }], guard := some (19, false) } : Oper)) (v := undef) rfl (by kernel_rfl) (by kernel_rfl) (by kernel_rfl) (fun _ _ _ h => h) (Or.inr ⟨by rfl, rfl⟩) hS21 ?_
            simp only [Act.put, List.setIfInBounds_toArray, List.set_cons_zero, List.set_cons_succ]
            refine wpAnyH_take (i := 24) (oi := ({ dst := some 50, op := Op.fieldAddr 24 (Operand.tmp 2) 1, type := 0, pos := "ref.go:52", after := #[{ on := 23, ground := Ground.guard }], guard := some (23, true) } : Oper)) (v := undef) rfl (by kernel_rfl) (by kernel_rfl) (by kernel_rfl) (fun _ _ _ h => h) (Or.inr ⟨by rfl, rfl⟩) hS21 ?_
            simp only [Act.put, List.setIfInBounds_toArray, List.set_cons_zero, List.set_cons_succ]
            refine wpAnyH_take (i := 25) (oi := ({ dst := some 51, op := Op.load 22 (Operand.tmp 50), type := 22, pos := "ref.go:52", after := #[{ on := 24, ground := Ground.data }, { on := 23, ground := Ground.guard }], guard := some (23, true) } : Oper)) (v := undef) rfl (by kernel_rfl) (by kernel_rfl) (by kernel_rfl) (fun _ _ _ h => h) (Or.inr ⟨by rfl, rfl⟩) hS21 ?_
            simp only [Act.put, List.setIfInBounds_toArray, List.set_cons_zero, List.set_cons_succ]
            refine wpAnyH_take (i := 26) (oi := ({ dst := some 52, op := Op.move (Operand.tmp 5), type := 3, pos := "ref.go:52", after := #[{ on := 23, ground := Ground.guard }], guard := some (23, true) } : Oper)) (v := undef) rfl (by kernel_rfl) (by kernel_rfl) (by kernel_rfl) (fun _ _ _ h => h) (Or.inr ⟨by rfl, rfl⟩) hS21 ?_
            simp only [Act.put, List.setIfInBounds_toArray, List.set_cons_zero, List.set_cons_succ]
            refine wpAnyH_take (i := 27) (oi := ({ dst := some 53, op := Op.indexAddr 22 (Operand.tmp 51) (Operand.tmp 52), type := 0, pos := "ref.go:52", after := #[{ on := 25, ground := Ground.data }, { on := 26, ground := Ground.data }, { on := 23, ground := Ground.guard }], guard := some (23, true) } : Oper)) (v := undef) rfl (by kernel_rfl) (by kernel_rfl) (by kernel_rfl) (fun _ _ _ h => h) (Or.inr ⟨by rfl, rfl⟩) hS21 ?_
            simp only [Act.put, List.setIfInBounds_toArray, List.set_cons_zero, List.set_cons_succ]
            refine wpAnyH_take (i := 28) (oi := ({ dst := some 54, op := Op.fieldAddr 49 (Operand.tmp 53) 2, type := 0, pos := "ref.go:52", after := #[{ on := 27, ground := Ground.data }, { on := 23, ground := Ground.guard }], guard := some (23, true) } : Oper)) (v := undef) rfl (by kernel_rfl) (by kernel_rfl) (by kernel_rfl) (fun _ _ _ h => h) (Or.inr ⟨by rfl, rfl⟩) hS21 ?_
            simp only [Act.put, List.setIfInBounds_toArray, List.set_cons_zero, List.set_cons_succ]
            refine wpAnyH_take (i := 29) (oi := ({ dst := some 55, op := Op.load 4 (Operand.tmp 54), type := 4, pos := "ref.go:52", after := #[{ on := 28, ground := Ground.data }, { on := 23, ground := Ground.guard }], guard := some (23, true) } : Oper)) (v := undef) rfl (by kernel_rfl) (by kernel_rfl) (by kernel_rfl) (fun _ _ _ h => h) (Or.inr ⟨by rfl, rfl⟩) hS21 ?_
            simp only [Act.put, List.setIfInBounds_toArray, List.set_cons_zero, List.set_cons_succ]
            refine wpAnyH_take (i := 30) (oi := ({ dst := some 56, op := Op.pick (Operand.tmp 49) (Operand.tmp 55) (Operand.const (Value.bool false)), type := 4, pos := "ref.go:52", after := #[{ on := 23, ground := Ground.data }, { on := 29, ground := Ground.data }, { on := 19, ground := Ground.guard }], guard := some (19, false) } : Oper)) (v := undef) rfl (by kernel_rfl) (by kernel_rfl) (by kernel_rfl) (fun _ _ _ h => h) (Or.inr ⟨by rfl, rfl⟩) hS21 ?_
            simp only [Act.put, List.setIfInBounds_toArray, List.set_cons_zero, List.set_cons_succ]
            refine wpAnyH_take (i := 31) (oi := ({ dst := some 57, op := Op.pick (Operand.tmp 45) (Operand.const (Value.bool true)) (Operand.tmp 56), type := 4, pos := "ref.go:52", after := #[{ on := 19, ground := Ground.data }, { on := 30, ground := Ground.data }], guard := none } : Oper)) (v := ?_) rfl (by kernel_rfl) (by kernel_rfl) (by kernel_rfl) (fun _ _ _ h => h) (Or.inl ⟨by rfl, ?_⟩) hS21 ?_
            rotate_left
            · intro w hSw; (try dsimp only at hSw); go_simp; (try with_reducible rfl)
            simp only [Act.put, List.setIfInBounds_toArray, List.set_cons_zero, List.set_cons_succ]
            refine wpAnyH_done (by kernel_rfl) ?_ _
            go_wp2_with fail
            go_ret
            rw [HF.out]
            exact ⟨rfl, hnext HB20.out hS21.1⟩
          · have e1 : (x.k != 0) = true := by rw [bne_iff_ne]; exact h0
            have e2 : (x.k != c.kind) = true := by rw [bne_iff_ne]; exact h1
            have HF := hid (HBAD.out hH)
            clear HBAD HN hH h0 h1
            go_wp2_with fail
            obtain ⟨cb, hcb⟩ : ∃ cb, w4.heap.size = cb := ⟨_, rfl⟩
            have hC5 := HNW.out
            have hS5 := HSA.out
            have hB5 := HBA.out
            have Q1 := Q1.out
            have Q2 := Q2.out
            rw [hcb] at hC5
            rw [hcb]
            generalize w4.alloc (.cells #[.int .i64 x.k, .int .i64 x.n, .int .u64 (x.b : Int), .string x.s] 46) = w5 at *
            clear HNW HSA HBA hcb s1
            obtain ⟨t0, t1, t2, t3, _, _, _, _, tl⟩ := hC5.cells
            obtain ⟨_, s1, _, _⟩ := hS5.cells
            obtain ⟨w20, hw20⟩ : ∃ w20, (w5).drew = w20 := ⟨_, rfl⟩
            have hd20 : Below (w5).heap.size (w5) w20 := hw20 ▸ (Below.refl _ _).drew
            have mk20 : ∀ W, Below w20.heap.size w20 W → Below w20.heap.size w20 W ∧ W.cell? ⟨cb, 0, none⟩ = some (.int .i64 x.k) ∧ W.cell? ⟨cb, 1, none⟩ = some (.int .i64 x.n) ∧ W.cell? ⟨cb, 2, none⟩ = some (.int .u64 (x.b : Int)) ∧ W.cell? ⟨cb, 3, none⟩ = some (.string x.s) ∧ W.cell? ⟨g, off + k * 3 + 1, none⟩ = some (.int .i64 c.kind) ∧ W.cell? ⟨g, off + k * 3 + 2, none⟩ = some (.bool c.need) ∧ W.cell? ⟨w.heap.size, 1, none⟩ = some (.slice (some ⟨g, off, none⟩) cs.length cap) := fun W h => ⟨h, hkeep (hkeep t0 hd20) h, hkeep (hkeep t1 hd20) h, hkeep (hkeep t2 hd20) h, hkeep (hkeep t3 hd20) h, hkeep (hkeep Q1 hd20) h, hkeep (hkeep Q2 hd20) h, hkeep (hkeep s1 hd20) h⟩
            have HS20 := hid (hS5.keep hd20)
            have HB20 := hid (hnext hB5 hd20)
            clear t0 t1 t2 t3 tl Q1 Q2 s1 hS5 hB5 hC5 hd20
            refine wp_region_held_drew (S := (fun W => Below w20.heap.size w20 W ∧ W.cell? ⟨cb, 0, none⟩ = some (.int .i64 x.k) ∧ W.cell? ⟨cb, 1, none⟩ = some (.int .i64 x.n) ∧ W.cell? ⟨cb, 2, none⟩ = some (.int .u64 (x.b : Int)) ∧ W.cell? ⟨cb, 3, none⟩ = some (.string x.s) ∧ W.cell? ⟨g, off + k * 3 + 1, none⟩ = some (.int .i64 c.kind) ∧ W.cell? ⟨g, off + k * 3 + 2, none⟩ = some (.bool c.need) ∧ W.cell? ⟨w.heap.size, 1, none⟩ = some (.slice (some ⟨g, off, none⟩) cs.length cap))) (by kernel_rfl) (by rw [hw20]; exact mk20 _ (Below.refl _ _)) (fun hS20 => ?_)
            rw [hw20] at hS20 ⊢
            clear hw20
            refine wpAnyH_take (i := 0) (oi := ({ dst := some 26, op := Op.load 46 (Operand.tmp 6), type := 46, pos := "ref.go:52", after := #[], guard := none } : Oper)) (v := ?_) rfl (by kernel_rfl) (by kernel_rfl) (by kernel_rfl) (fun _ _ _ h => h) (Or.inl ⟨by rfl, ?_⟩) hS20 ?_
            rotate_left
            · intro w hSw; (try dsimp only at hSw); go_simp; (try with_reducible rfl)
            simp only [Act.put, List.setIfInBounds_toArray, List.set_cons_zero, List.set_cons_succ]
            refine wpAnyH_ready (rs := [1]) (by kernel_rfl) (by simp) ?_
            refine AllReadyH.cons (o := ({ dst := some 27, op := Op.call { callee := Callee.value (Operand.func 36), args := #[Operand.tmp 26], argTypes := #[46] }, type := 4, pos := "ref.go:52", after := #[{ on := 0, ground := Ground.data }], guard := none } : Oper)) rfl (fun K hK => ?_) AllReadyH.nil
            go_simp
            refine (hh.out _).mono ?_; rintro e w21 ⟨rfl, hb21⟩
            go_wp2_with fail
            refine hK.out _ _ (mk20 _ (hnext hS20.1 hb21)) (fun hS21 => ?_)
            clear hK K
            (try simp only [Act.put, List.setIfInBounds_toArray, List.set_cons_zero, List.set_cons_succ])
            clear hb21 hS20
            refine wpAnyH_take (i := 2) (oi := ({ dst := some 28, op := Op.unOp UnOp.not 4 (Operand.tmp 27), type := 4, pos := "ref.go:52", after := #[{ on := 1, ground := Ground.data }], guard := none } : Oper)) (v := ?_) rfl (by kernel_rfl) (by kernel_rfl) (by kernel_rfl) (fun _ _ _ h => h) (Or.inl ⟨by rfl, ?_⟩) hS21 ?_
            rotate_left
            · intro w hSw; (try dsimp only at hSw); go_simp; (try with_reducible rfl)
            simp only [Act.put, List.setIfInBounds_toArray, List.set_cons_zero, List.set_cons_succ]
            refine wpAnyH_take (i := 3) (oi := ({ dst := some 29, op := Op.move (Operand.tmp 28), type := 4, pos := "ref.go:52", after := #[{ on := 2, ground := Ground.data }, { on := 1, ground := Ground.chain }], guard := none } : Oper)) (v := ?_) rfl (by kernel_rfl) (by kernel_rfl) (by kernel_rfl) (fun _ _ _ h => h) (Or.inl ⟨by rfl, ?_⟩) hS21 ?_
            rotate_left
            · intro w hSw; (try dsimp only at hSw); go_simp; (try with_reducible rfl)
            simp only [Act.put, List.setIfInBounds_toArray, List.set_cons_zero, List.set_cons_succ]
            refine wpAnyH_take (i := 4) (oi := ({ dst := some 30, op := Op.fieldAddr 46 (Operand.tmp 6) 0, type := 0, pos := "ref.go:52", after := #[{ on := 3, ground := Ground.guard }], guard := some (3, false) } : Oper)) (v := ?_) rfl (by kernel_rfl) (by kernel_rfl) (by kernel_rfl) (fun _ _ _ h => h) (Or.inl ⟨by rfl, ?_⟩) hS21 ?_
            rotate_left
            · intro w hSw; (try dsimp only at hSw); go_simp; (try with_reducible rfl)
            simp only [Act.put, List.setIfInBounds_toArray, List.set_cons_zero, List.set_cons_succ]
            refine wpAnyH_take (i := 5) (oi := ({ dst := some 31, op := Op.load 3 (Operand.tmp 30), type := 3, pos := "ref.go:52", after := #[{ on := 4, ground := Ground.data }, { on := 3, ground := Ground.guard }], guard := some (3, false) } : Oper)) (v := ?_) rfl (by kernel_rfl) (by kernel_rfl) (by kernel_rfl) (fun _ _ _ h => h) (Or.inl ⟨by rfl, ?_⟩) hS21 ?_
            rotate_left
            · intro w hSw; (try dsimp only at hSw); go_simp; (try with_reducible rfl)
            simp only [Act.put, List.setIfInBounds_toArray, List.set_cons_zero, List.set_cons_succ]
            refine wpAnyH_take (i := 6) (oi := ({ dst := some 32, op := Op.binOp BinOp.neq 3 (Operand.tmp 31) (Operand.const (Value.int IntKind.i64 0)) 3, type := 4, pos := "ref.go:52", after := #[{ on := 5, ground := Ground.data }, { on := 3, ground := Ground.guard }], guard := some (3, false) } : Oper)) (v := ?_) rfl (by kernel_rfl) (by kernel_rfl) (by kernel_rfl) (fun _ _ _ h => h) (Or.inl ⟨by rfl, ?_⟩) hS21 ?_
            rotate_left
            · intro w hSw; (try dsimp only at hSw); go_simp; (try with_reducible rfl)
            simp only [Act.put, List.setIfInBounds_toArray, List.set_cons_zero, List.set_cons_succ]
            refine wpAnyH_take (i := 7) (oi := ({ dst := some 33, op := Op.move (Operand.tmp 32), type := 4, pos := "ref.go:52", after := #[{ on := 6, ground := Ground.data }, { on := 3, ground := Ground.chain }, { on := 3, ground := Ground.guard }], guard := some (3, false) } : Oper)) (v := ?_) rfl (by kernel_rfl) (by kernel_rfl) (by kernel_rfl) (fun _ _ _ h => h) (Or.inl ⟨by rfl, ?_⟩) hS21 ?_
            rotate_left
            · intro w hSw; (try dsimp only at hSw); go_simp; (try with_reducible rfl)
            simp only [Act.put, List.setIfInBounds_toArray, List.set_cons_zero, List.set_cons_succ]
            refine wpAnyH_take (i := 8) (oi := ({ dst := some 34, op := Op.fieldAddr 46 (Operand.tmp 6) 0, type := 0, pos := "ref.go:52", after := #[{ on := 7, ground := Ground.guard }], guard := some (7, true) } : Oper)) (v := ?_) rfl (by kernel_rfl) (by kernel_rfl) (by kernel_rfl) (fun _ _ _ h => h) (Or.inl ⟨by rfl, ?_⟩) hS21 ?_
            rotate_left
            · intro w hSw; (try dsimp only at hSw); go_simp; (try with_reducible rfl)
            simp only [Act.put, List.setIfInBounds_toArray, List.set_cons_zero, List.set_cons_succ]
            refine wpAnyH_take (i := 9) (oi := ({ dst := some 35, op := Op.load 3 (Operand.tmp 34), type := 3, pos := "ref.go:52", after := #[{ on := 8, ground := Ground.data }, { on := 7, ground := Ground.guard }], guard := some (7, true) } : Oper)) (v := ?_) rfl (by kernel_rfl) (by kernel_rfl) (by kernel_rfl) (fun _ _ _ h => h) (Or.inl ⟨by rfl, ?_⟩) hS21 ?_
            rotate_left
            · intro w hSw; (try dsimp only at hSw); go_simp; (try with_reducible rfl)
            simp only [Act.put, List.setIfInBounds_toArray, List.set_cons_zero, List.set_cons_succ]
            refine wpAnyH_take (i := 10) (oi := ({ dst := some 36, op := Op.fieldAddr 24 (Operand.tmp 2) 1, type := 0, pos := "ref.go:52", after := #[{ on := 7, ground := Ground.guard }], guard := some (7, true) } : Oper)) (v := ?_) rfl (by kernel_rfl) (by kernel_rfl) (by kernel_rfl) (fun _ _ _ h => h) (Or.inl ⟨by rfl, ?_⟩) hS21 ?_
            rotate_left
            · intro w hSw; (try dsimp only at hSw); go_simp; (try with_reducible rfl)
            simp only [Act.put, List.setIfInBounds_toArray, List.set_cons_zero, List.set_cons_succ]
            refine wpAnyH_take (i := 11) (oi := ({ dst := some 37, op := Op.load 22 (Operand.tmp 36), type := 22, pos := "ref.go:52", after := #[{ on := 10, ground := Ground.data }, { on := 7, ground := Ground.guard }], guard := some (7, true) } : Oper)) (v := ?_) rfl (by kernel_rfl) (by kernel_rfl) (by kernel_rfl) (fun _ _ _ h => h) (Or.inl ⟨by rfl, ?_⟩) hS21 ?_
            rotate_left
            · intro w hSw; (try dsimp only at hSw); go_simp; (try with_reducible rfl)
            simp only [Act.put, List.setIfInBounds_toArray, List.set_cons_zero, List.set_cons_succ]
            refine wpAnyH_take (i := 12) (oi := ({ dst := some 38, op := Op.move (Operand.tmp 5), type := 3, pos := "ref.go:52", after := #[{ on := 7, ground := Ground.guard }], guard := some (7, true) } : Oper)) (v := ?_) rfl (by kernel_rfl) (by kernel_rfl) (by kernel_rfl) (fun _ _ _ h => h) (Or.inl ⟨by rfl, ?_⟩) hS21 ?_
            rotate_left
            · intro w hSw; (try dsimp only at hSw); go_simp; (try with_reducible rfl)
            simp only [Act.put, List.setIfInBounds_toArray, List.set_cons_zero, List.set_cons_succ]
            refine wpAnyH_take (i := 13) (oi := ({ dst := some 39, op := Op.indexAddr 22 (Operand.tmp 37) (Operand.tmp 38), type := 0, pos := "ref.go:52", after := #[{ on := 11, ground := Ground.data }, { on := 12, ground := Ground.data }, { on := 7, ground := Ground.guard }], guard := some (7, true) } : Oper)) (v := ?_) rfl (by kernel_rfl) (by kernel_rfl) (by kernel_rfl) (fun _ _ _ h => h) (Or.inl ⟨by rfl, ?_⟩) hS21 ?_
            rotate_left
            · intro w hSw; (try dsimp only at hSw); go_simp; (try with_reducible rfl)
            simp only [Act.put, List.setIfInBounds_toArray, List.set_cons_zero, List.set_cons_succ]
            refine wpAnyH_take (i := 14) (oi := ({ dst := some 40, op := Op.fieldAddr 49 (Operand.tmp 39) 1, type := 0, pos := "ref.go:52", after := #[{ on := 13, ground := Ground.data }, { on := 7, ground := Ground.guard }], guard := some (7, true) } : Oper)) (v := ?_) rfl (by kernel_rfl) (by kernel_rfl) (by kernel_rfl) (fun _ _ _ h => h) (Or.inl ⟨by rfl, ?_⟩) hS21 ?_
            rotate_left
            · intro w hSw; (try dsimp only at hSw); go_simp; (try with_reducible rfl)
            simp only [Act.put, List.setIfInBounds_toArray, List.set_cons_zero, List.set_cons_succ]
            refine wpAnyH_take (i := 15) (oi := ({ dst := some 41, op := Op.load 3 (Operand.tmp 40), type := 3, pos := "ref.go:52", after := #[{ on := 14, ground := Ground.data }, { on := 7, ground := Ground.guard }], guard := some (7, true) } : Oper)) (v := ?_) rfl (by kernel_rfl) (by kernel_rfl) (by kernel_rfl) (fun _ _ _ h => h) (Or.inl ⟨by rfl, ?_⟩) hS21 ?_
            rotate_left
            · intro w hSw; (try dsimp only at hSw); go_simp; (try with_reducible rfl)
            simp only [Act.put, List.setIfInBounds_toArray, List.set_cons_zero, List.set_cons_succ]
            refine wpAnyH_take (i := 16) (oi := ({ dst := some 42, op := Op.binOp BinOp.neq 3 (Operand.tmp 35) (Operand.tmp 41) 3, type := 4, pos := "ref.go:52", after := #[{ on := 9, ground := Ground.data }, { on := 15, ground := Ground.data }, { on := 7, ground := Ground.guard }], guard := some (7, true) } : Oper)) (v := ?_) rfl (by kernel_rfl) (by kernel_rfl) (by kernel_rfl) (fun _ _ _ h => h) (Or.inl ⟨by rfl, ?_⟩) hS21 ?_
            rotate_left
            · intro w hSw; (try dsimp only at hSw); go_simp; (try with_reducible rfl)
            simp only [Act.put, List.setIfInBounds_toArray, List.set_cons_zero, List.set_cons_succ]
            refine wpAnyH_take (i := 17) (oi := ({ dst := some 43, op := Op.pick (Operand.tmp 33) (Operand.tmp 42) (Operand.const (Value.bool false)), type := 4, pos := "ref.go:52", after := #[{ on := 7, ground := Ground.data }, { on := 16, ground := Ground.data }, { on := 3, ground := Ground.guard }], guard := some (3, false) } : Oper)) (v := ?_) rfl (by kernel_rfl) (by kernel_rfl) (by kernel_rfl) (fun _ _ _ h => h) (Or.inl ⟨by rfl, ?_⟩) hS21 ?_
            rotate_left
            · intro w hSw; (try dsimp only at hSw); go_simp; (try with_reducible rfl)
            simp only [Act.put, List.setIfInBounds_toArray, List.set_cons_zero, List.set_cons_succ]
            refine wpAnyH_take (i := 18) (oi := ({ dst := some 44, op := Op.pick (Operand.tmp 29) (Operand.const (Value.bool true)) (Operand.tmp 43), type := 4, pos := "ref.go:52", after := #[{ on := 3, ground := Ground.data }, { on := 17, ground := Ground.data }], guard := none } : Oper)) (v := ?_) rfl (by kernel_rfl) (by kernel_rfl) (by kernel_rfl) (fun _ _ _ h => h) (Or.inl ⟨by rfl, ?_⟩) hS21 ?_
            rotate_left
            · intro w hSw; (try dsimp only at hSw); go_simp; (try with_reducible rfl)
            simp only [Act.put, List.setIfInBounds_toArray, List.set_cons_zero, List.set_cons_succ]
            refine wpAnyH_take (i := 19) (oi := ({ dst := some 45, op := Op.move (Operand.tmp 44), type := 4, pos := "ref.go:52", after := #[{ on := 18, ground := Ground.data }, { on := 7, ground := Ground.chain }], guard := none } : Oper)) (v := ?_) rfl (by kernel_rfl) (by kernel_rfl) (by kernel_rfl) (fun _ _ _ h => h) (Or.inl ⟨by rfl, ?_⟩) hS21 ?_
            rotate_left
            · intro w hSw; (try dsimp only at hSw); go_simp; (try with_reducible rfl)
            simp only [Act.put, List.setIfInBounds_toArray, List.set_cons_zero, List.set_cons_succ]
            refine wpAnyH_take (i := 20) (oi := ({ dst := some 46, op := Op.fieldAddr 46 (Operand.tmp 6) 0, type := 0, pos := "ref.go:52", after := #[{ on := 19, ground := Ground.guard }], guard := some (19, false) } : Oper)) (v := undef) rfl (by kernel_rfl) (by kernel_rfl) (by kernel_rfl) (fun _ _ _ h => h) (Or.inr ⟨by rfl, rfl⟩) hS21 ?_
            simp only [Act.put, List.setIfInBounds_toArray, List.set_cons_zero, List.set_cons_succ]
            refine wpAnyH_take (i := 21) (oi := ({ dst := some 47, op := Op.load 3 (Operand.tmp 46), type := 3, pos := "ref.go:52", after := #[{ on := 20, ground := Ground.data }, { on := 19, ground := Ground.guard }], guard := some (19, false) } : Oper)) (v := undef) rfl (by kernel_rfl) (by kernel_rfl) (by kernel_rfl) (fun _ _ _ h => h) (Or.inr ⟨by rfl, rfl⟩) hS21 ?_
            simp only [Act.put, List.setIfInBounds_toArray, List.set_cons_zero, List.set_cons_succ]
            refine wpAnyH_take (i := 22) (oi := ({ dst := some 48, op := Op.binOp BinOp.eql 3 (Operand.tmp 47) (Operand.const (Value.int IntKind.i64 0)) 3, type := 4, pos := "ref.go:52", after := #[{ on := 21, ground := Ground.data }, { on := 19, ground := Ground.guard }], guard := some (19, false) } : Oper)) (v := undef) rfl (by kernel_rfl) (by kernel_rfl) (by kernel_rfl) (fun _ _ _ h => h) (Or.inr ⟨by rfl, rfl⟩) hS21 ?_
            simp only [Act.put, List.setIfInBounds_toArray, List.set_cons_zero, List.set_cons_succ]
            refine wpAnyH_take (i := 23) (oi := ({ dst := some 49, op := Op.move (Operand.tmp 48), type := 4, pos := "ref.go:52", after := #[{ on := 22, ground := Ground.data }, { on := 19, ground := Ground.chain }, { on := 19, ground := Ground.guard }], guard := some (19, false) } : Oper)) (v := undef) rfl (by kernel_rfl) (by kernel_rfl) (by kernel_rfl) (fun _ _ _ h => h) (Or.inr ⟨by rfl, rfl⟩) hS21 ?_
            simp only [Act.put, List.setIfInBounds_toArray, List.set_cons_zero, List.set_cons_succ]
            refine wpAnyH_take (i := 24) (oi := ({ dst := some 50, op := Op.fieldAddr 24 (Operand.tmp 2) 1, type := 0, pos := "ref.go:52", after := #[{ on := 23, ground := Ground.guard }], guard := some (23, true) } : Oper)) (v := undef) rfl (by kernel_rfl) (by kernel_rfl) (by kernel_rfl) (fun _ _ _ h => h) (Or.inr ⟨by rfl, rfl⟩) hS21 ?_
            simp only [Act.put, List.setIfInBounds_toArray, List.set_cons_zero, List.set_cons_succ]
            refine wpAnyH_take (i := 25) (oi := ({ dst := some 51, op := Op.load 22 (Operand.tmp 50), type := 22, pos := "ref.go:52", after := #[{ on := 24, ground := Ground.data }, { on := 23, ground := Ground.guard }], guard := some (23, true) } : Oper)) (v := undef) rfl (by kernel_rfl) (by kernel_rfl) (by kernel_rfl) (fun _ _ _ h => h) (Or.inr ⟨by rfl, rfl⟩) hS21 ?_
            simp only [Act.put, List.setIfInBounds_toArray, List.set_cons_zero, List.set_cons_succ]
            refine wpAnyH_take (i := 26) (oi := ({ dst := some 52, op := Op.move (Operand.tmp 5), type := 3, pos := "ref.go:52", after := #[{ on := 23, ground := Ground.guard }], guard := some (23, true) } : Oper)) (v := undef) rfl (by kernel_rfl) (by kernel_rfl) (by kernel_rfl) (fun _ _ _ h => h) (Or.inr ⟨by rfl, rfl⟩) hS21 ?_
            simp only [Act.put, List.setIfInBounds_toArray, List.set_cons_zero, List.set_cons_succ]
            refine wpAnyH_take (i := 27) (oi := ({ dst := some 53, op := Op.indexAddr 22 (Operand.tmp 51) (Operand.tmp 52), type := 0, pos := "ref.go:52", after := #[{ on := 25, ground := Ground.data }, { on := 26, ground := Ground.data }, { on := 23, ground := Ground.guard }], guard := some (23, true) } : Oper)) (v := undef) rfl (by kernel_rfl) (by kernel_rfl) (by kernel_rfl) (fun _ _ _ h => h) (Or.inr ⟨by rfl, rfl⟩) hS21 ?_
            simp only [Act.put, List.setIfInBounds_toArray, List.set_cons_zero, List.set_cons_succ]
            refine wpAnyH_take (i := 28) (oi := ({ dst := some 54, op := Op.fieldAddr 49 (Operand.tmp 53) 2, type := 0, pos := "ref.go:52", after := #[{ on := 27, ground := Ground.data }, { on := 23, ground := Ground.guard }], guard := some (23, true) } : Oper)) (v := undef) rfl (by kernel_rfl) (by kernel_rfl) (by kernel_rfl) (fun _ _ _ h => h) (Or.inr ⟨by rfl, rfl⟩) hS21 ?_
            simp only [Act.put, List.setIfInBounds_toArray, List.set_cons_zero, List.set_cons_succ]
            refine wpAnyH_take (i := 29) (oi := ({ dst := some 55, op := Op.load 4 (Operand.tmp 54), type := 4, pos := "ref.go:52", after := #[{ on := 28, ground := Ground.data }, { on := 23, ground := Ground.guard }], guard := some (23, true) } : Oper)) (v := undef) rfl (by kernel_rfl) (by kernel_rfl) (by kernel_rfl) (fun _ _ _ h => h) (Or.inr ⟨by rfl, rfl⟩) hS21 ?_
            simp only [Act.put, List.setIfInBounds_toArray, List.set_cons_zero, List.set_cons_succ]
            refine wpAnyH_take (i := 30) (oi := ({ dst := some 56, op := Op.pick (Operand.tmp 49) (Operand.tmp 55) (Operand.const (Value.bool false)), type := 4, pos := "ref.go:52", after := #[{ on := 23, ground := Ground.data }, { on := 29, ground := Ground.data }, { on := 19, ground := Ground.guard }], guard := some (19, false) } : Oper)) (v := undef) rfl (by kernel_rfl) (by kernel_rfl) (by kernel_rfl) (fun _ _ _ h => h) (Or.inr ⟨by rfl, rfl⟩) hS21 ?_
            simp only [Act.put, List.setIfInBounds_toArray, List.set_cons_zero, List.set_cons_succ]
            refine wpAnyH_take (i := 31) (oi := ({ dst := some 57, op := Op.pick (Operand.tmp 45) (Operand.const (Value.bool true)) (Operand.tmp 56), type := 4, pos := "ref.go:52", after := #[{ on := 19, ground := Ground.data }, { on := 30, ground := Ground.data }], guard := none } : Oper)) (v := ?_) rfl (by kernel_rfl) (by kernel_rfl) (by kernel_rfl) (fun _ _ _ h => h) (Or.inl ⟨by rfl, ?_⟩) hS21 ?_
            rotate_left
            · intro w hSw; (try dsimp only at hSw); go_simp; (try with_reducible rfl)
            simp only [Act.put, List.setIfInBounds_toArray, List.set_cons_zero, List.set_cons_succ]
            refine wpAnyH_done (by kernel_rfl) ?_ _
            go_wp2_with fail
            go_ret
            rw [HF.out]
            exact ⟨rfl, hnext HB20.out hS21.1⟩
          · have e1 : (x.k != 0) = true := by rw [bne_iff_ne]; exact h0
            have e2 : (x.k != c.kind) = false := by rw [bne_eq_false_iff_eq]; exact h1
            have e3 : (x.k == 0) = false := beq_eq_false_iff_ne.2 h0
            have HT := hid (HN.out hH)
            clear HBAD HN hH h0 h1
            go_wp2_with fail
            obtain ⟨cb, hcb⟩ : ∃ cb, w4.heap.size = cb := ⟨_, rfl⟩
            have hC5 := HNW.out
            have hS5 := HSA.out
            have hB5 := HBA.out
            have Q1 := Q1.out
            have Q2 := Q2.out
            rw [hcb] at hC5
            rw [hcb]
            generalize w4.alloc (.cells #[.int .i64 x.k, .int .i64 x.n, .int .u64 (x.b : Int), .string x.s] 46) = w5 at *
            clear HNW HSA HBA hcb s1
            obtain ⟨t0, t1, t2, t3, _, _, _, _, tl⟩ := hC5.cells
            obtain ⟨_, s1, _, _⟩ := hS5.cells
            obtain ⟨w20, hw20⟩ : ∃ w20, (w5).drew = w20 := ⟨_, rfl⟩
            have hd20 : Below (w5).heap.size (w5) w20 := hw20 ▸ (Below.refl _ _).drew
            have mk20 : ∀ W, Below w20.heap.size w20 W → Below w20.heap.size w20 W ∧ W.cell? ⟨cb, 0, none⟩ = some (.int .i64 x.k) ∧ W.cell? ⟨cb, 1, none⟩ = some (.int .i64 x.n) ∧ W.cell? ⟨cb, 2, none⟩ = some (.int .u64 (x.b : Int)) ∧ W.cell? ⟨cb, 3, none⟩ = some (.string x.s) ∧ W.cell? ⟨g, off + k * 3 + 1, none⟩ = some (.int .i64 c.kind) ∧ W.cell? ⟨g, off + k * 3 + 2, none⟩ = some (.bool c.need) ∧ W.cell? ⟨w.heap.size, 1, none⟩ = some (.slice (some ⟨g, off, none⟩) cs.length cap) := fun W h => ⟨h, hkeep (hkeep t0 hd20) h, hkeep (hkeep t1 hd20) h, hkeep (hkeep t2 hd20) h, hkeep (hkeep t3 hd20) h, hkeep (hkeep Q1 hd20) h, hkeep (hkeep Q2 hd20) h, hkeep (hkeep s1 hd20) h⟩
            have HS20 := hid (hS5.keep hd20)
            have HB20 := hid (hnext hB5 hd20)
            clear t0 t1 t2 t3 tl Q1 Q2 s1 hS5 hB5 hC5 hd20
            refine wp_region_held_drew (S := (fun W => Below w20.heap.size w20 W ∧ W.cell? ⟨cb, 0, none⟩ = some (.int .i64 x.k) ∧ W.cell? ⟨cb, 1, none⟩ = some (.int .i64 x.n) ∧ W.cell? ⟨cb, 2, none⟩ = some (.int .u64 (x.b : Int)) ∧ W.cell? ⟨cb, 3, none⟩ = some (.string x.s) ∧ W.cell? ⟨g, off + k * 3 + 1, none⟩ = some (.int .i64 c.kind) ∧ W.cell? ⟨g, off + k * 3 + 2, none⟩ = some (.bool c.need) ∧ W.cell? ⟨w.heap.size, 1, none⟩ = some (.slice (some ⟨g, off, none⟩) cs.length cap))) (by kernel_rfl) (by rw [hw20]; exact mk20 _ (Below.refl _ _)) (fun hS20 => ?_)
            rw [hw20] at hS20 ⊢
            clear hw20
            refine wpAnyH_take (i := 0) (oi := ({ dst := some 26, op := Op.load 46 (Operand.tmp 6), type := 46, pos := "ref.go:52", after := #[], guard := none } : Oper)) (v := ?_) rfl (by kernel_rfl) (by kernel_rfl) (by kernel_rfl) (fun _ _ _ h => h) (Or.inl ⟨by rfl, ?_⟩) hS20 ?_
            rotate_left
            · intro w hSw; (try dsimp only at hSw); go_simp; (try with_reducible rfl)
            simp only [Act.put, List.setIfInBounds_toArray, List.set_cons_zero, List.set_cons_succ]
            refine wpAnyH_ready (rs := [1]) (by kernel_rfl) (by simp) ?_
            refine AllReadyH.cons (o := ({ dst := some 27, op := Op.call { callee := Callee.value (Operand.func 36), args := #[Operand.tmp 26], argTypes := #[46] }, type := 4, pos := "ref.go:52", after := #[{ on := 0, ground := Ground.data }], guard := none } : Oper)) rfl (fun K hK => ?_) AllReadyH.nil
            go_simp
            refine (hh.out _).mono ?_; rintro e w21 ⟨rfl, hb21⟩
            go_wp2_with fail
            refine hK.out _ _ (mk20 _ (hnext hS20.1 hb21)) (fun hS21 => ?_)
            clear hK K
            (try simp only [Act.put, List.setIfInBounds_toArray, List.set_cons_zero, List.set_cons_succ])
            clear hb21 hS20
            refine wpAnyH_take (i := 2) (oi := ({ dst := some 28, op := Op.unOp UnOp.not 4 (Operand.tmp 27), type := 4, pos := "ref.go:52", after := #[{ on := 1, ground := Ground.data }], guard := none } : Oper)) (v := ?_) rfl (by kernel_rfl) (by kernel_rfl) (by kernel_rfl) (fun _ _ _ h => h) (Or.inl ⟨by rfl, ?_⟩) hS21 ?_
            rotate_left
            · intro w hSw; (try dsimp only at hSw); go_simp; (try with_reducible rfl)
            simp only [Act.put, List.setIfInBounds_toArray, List.set_cons_zero, List.set_cons_succ]
            refine wpAnyH_take (i := 3) (oi := ({ dst := some 29, op := Op.move (Operand.tmp 28), type := 4, pos := "ref.go:52", after := #[{ on := 2, ground := Ground.data }, { on := 1, ground := Ground.chain }], guard := none } : Oper)) (v := ?_) rfl (by kernel_rfl) (by kernel_rfl) (by kernel_rfl) (fun _ _ _ h => h) (Or.inl ⟨by rfl, ?_⟩) hS21 ?_
            rotate_left
            · intro w hSw; (try dsimp only at hSw); go_simp; (try with_reducible rfl)
            simp only [Act.put, List.setIfInBounds_toArray, List.set_cons_zero, List.set_cons_succ]
            refine wpAnyH_take (i := 4) (oi := ({ dst := some 30, op := Op.fieldAddr 46 (Operand.tmp 6) 0, type := 0, pos := "ref.go:52", after := #[{ on := 3, ground := Ground.guard }], guard := some (3, false) } : Oper)) (v := ?_) rfl (by kernel_rfl) (by kernel_rfl) (by kernel_rfl) (fun _ _ _ h => h) (Or.inl ⟨by rfl, ?_⟩) hS21 ?_
            rotate_left
            · intro w hSw; (try dsimp only at hSw); go_simp; (try with_reducible rfl)
            simp only [Act.put, List.setIfInBounds_toArray, List.set_cons_zero, List.set_cons_succ]
            refine wpAnyH_take (i := 5) (oi := ({ dst := some 31, op := Op.load 3 (Operand.tmp 30), type := 3, pos := "ref.go:52", after := #[{ on := 4, ground := Ground.data }, { on := 3, ground := Ground.guard }], guard := some (3, false) } : Oper)) (v := ?_) rfl (by kernel_rfl) (by kernel_rfl) (by kernel_rfl) (fun _ _ _ h => h) (Or.inl ⟨by rfl, ?_⟩) hS21 ?_
            rotate_left
            · intro w hSw; (try dsimp only at hSw); go_simp; (try with_reducible rfl)
            simp only [Act.put, List.setIfInBounds_toArray, List.set_cons_zero, List.set_cons_succ]
            refine wpAnyH_take (i := 6) (oi := ({ dst := some 32, op := Op.binOp BinOp.neq 3 (Operand.tmp 31) (Operand.const (Value.int IntKind.i64 0)) 3, type := 4, pos := "ref.go:52", after := #[{ on := 5, ground := Ground.data }, { on := 3, ground := Ground.guard }], guard := some (3, false) } : Oper)) (v := ?_) rfl (by kernel_rfl) (by kernel_rfl) (by kernel_rfl) (fun _ _ _ h => h) (Or.inl ⟨by rfl, ?_⟩) hS21 ?_
            rotate_left
            · intro w hSw; (try dsimp only at hSw); go_simp; (try with_reducible rfl)
            simp only [Act.put, List.setIfInBounds_toArray, List.set_cons_zero, List.set_cons_succ]
            refine wpAnyH_take (i := 7) (oi := ({ dst := some 33, op := Op.move (Operand.tmp 32), type := 4, pos := "ref.go:52", after := #[{ on := 6, ground := Ground.data }, { on := 3, ground := Ground.chain }, { on := 3, ground := Ground.guard }], guard := some (3, false) } : Oper)) (v := ?_) rfl (by kernel_rfl) (by kernel_rfl) (by kernel_rfl) (fun _ _ _ h => h) (Or.inl ⟨by rfl, ?_⟩) hS21 ?_
            rotate_left
            · intro w hSw; (try dsimp only at hSw); go_simp; (try with_reducible rfl)
            simp only [Act.put, List.setIfInBounds_toArray, List.set_cons_zero, List.set_cons_succ]
            refine wpAnyH_take (i := 8) (oi := ({ dst := some 34, op := Op.fieldAddr 46 (Operand.tmp 6) 0, type := 0, pos := "ref.go:52", after := #[{ on := 7, ground := Ground.guard }], guard := some (7, true) } : Oper)) (v := ?_) rfl (by kernel_rfl) (by kernel_rfl) (by kernel_rfl) (fun _ _ _ h => h) (Or.inl ⟨by rfl, ?_⟩) hS21 ?_
            rotate_left
            · intro w hSw; (try dsimp only at hSw); go_simp; (try with_reducible rfl)
            simp only [Act.put, List.setIfInBounds_toArray, List.set_cons_zero, List.set_cons_succ]
            refine wpAnyH_take (i := 9) (oi := ({ dst := some 35, op := Op.load 3 (Operand.tmp 34), type := 3, pos := "ref.go:52", after := #[{ on := 8, ground := Ground.data }, { on := 7, ground := Ground.guard }], guard := some (7, true) } : Oper)) (v := ?_) rfl (by kernel_rfl) (by kernel_rfl) (by kernel_rfl) (fun _ _ _ h => h) (Or.inl ⟨by rfl, ?_⟩) hS21 ?_
            rotate_left
            · intro w hSw; (try dsimp only at hSw); go_simp; (try with_reducible rfl)
            simp only [Act.put, List.setIfInBounds_toArray, List.set_cons_zero, List.set_cons_succ]
            refine wpAnyH_take (i := 10) (oi := ({ dst := some 36, op := Op.fieldAddr 24 (Operand.tmp 2) 1, type := 0, pos := "ref.go:52", after := #[{ on := 7, ground := Ground.guard }], guard := some (7, true) } : Oper)) (v := ?_) rfl (by kernel_rfl) (by kernel_rfl) (by kernel_rfl) (fun _ _ _ h => h) (Or.inl ⟨by rfl, ?_⟩) hS21 ?_
            rotate_left
            · intro w hSw; (try dsimp only at hSw); go_simp; (try with_reducible rfl)
            simp only [Act.put, List.setIfInBounds_toArray, List.set_cons_zero, List.set_cons_succ]
            refine wpAnyH_take (i := 11) (oi := ({ dst := some 37, op := Op.load 22 (Operand.tmp 36), type := 22, pos := "ref.go:52", after := #[{ on := 10, ground := Ground.data }, { on := 7, ground := Ground.guard }], guard := some (7, true) } : Oper)) (v := ?_) rfl (by kernel_rfl) (by kernel_rfl) (by kernel_rfl) (fun _ _ _ h => h) (Or.inl ⟨by rfl, ?_⟩) hS21 ?_
            rotate_left
            · intro w hSw; (try dsimp only at hSw); go_simp; (try with_reducible rfl)
            simp only [Act.put, List.setIfInBounds_toArray, List.set_cons_zero, List.set_cons_succ]
            refine wpAnyH_take (i := 12) (oi := ({ dst := some 38, op := Op.move (Operand.tmp 5), type := 3, pos := "ref.go:52", after := #[{ on := 7, ground := Ground.guard }], guard := some (7, true) } : Oper)) (v := ?_) rfl (by kernel_rfl) (by kernel_rfl) (by kernel_rfl) (fun _ _ _ h => h) (Or.inl ⟨by rfl, ?_⟩) hS21 ?_
            rotate_left
            · intro w hSw; (try dsimp only at hSw); go_simp; (try with_reducible rfl)
            simp only [Act.put, List.setIfInBounds_toArray, List.set_cons_zero, List.set_cons_succ]
            refine wpAnyH_take (i := 13) (oi := ({ dst := some 39, op := Op.indexAddr 22 (Operand.tmp 37) (Operand.tmp 38), type := 0, pos := "ref.go:52", after := #[{ on := 11, ground := Ground.data }, { on := 12, ground := Ground.data }, { on := 7, ground := Ground.guard }], guard := some (7, true) } : Oper)) (v := ?_) rfl (by kernel_rfl) (by kernel_rfl) (by kernel_rfl) (fun _ _ _ h => h) (Or.inl ⟨by rfl, ?_⟩) hS21 ?_
            rotate_left
            · intro w hSw; (try dsimp only at hSw); go_simp; (try with_reducible rfl)
            simp only [Act.put, List.setIfInBounds_toArray, List.set_cons_zero, List.set_cons_succ]
            refine wpAnyH_take (i := 14) (oi := ({ dst := some 40, op := Op.fieldAddr 49 (Operand.tmp 39) 1, type := 0, pos := "ref.go:52", after := #[{ on := 13, ground := Ground.data }, { on := 7, ground := Ground.guard }], guard := some (7, true) } : Oper)) (v := ?_) rfl (by kernel_rfl) (by kernel_rfl) (by kernel_rfl) (fun _ _ _ h => h) (Or.inl ⟨by rfl, ?_⟩) hS21 ?_
            rotate_left
            · intro w hSw; (try dsimp only at hSw); go_simp; (try with_reducible rfl)
            simp only [Act.put, List.setIfInBounds_toArray, List.set_cons_zero, List.set_cons_succ]
            refine wpAnyH_take (i := 15) (oi := ({ dst := some 41, op := Op.load 3 (Operand.tmp 40), type := 3, pos := "ref.go:52", after := #[{ on := 14, ground := Ground.data }, { on := 7, ground := Ground.guard }], guard := some (7, true) } : Oper)) (v := ?_) rfl (by kernel_rfl) (by kernel_rfl) (by kernel_rfl) (fun _ _ _ h => h) (Or.inl ⟨by rfl, ?_⟩) hS21 ?_
            rotate_left
            · intro w hSw; (try dsimp only at hSw); go_simp; (try with_reducible rfl)
            simp only [Act.put, List.setIfInBounds_toArray, List.set_cons_zero, List.set_cons_succ]
            refine wpAnyH_take (i := 16) (oi := ({ dst := some 42, op := Op.binOp BinOp.neq 3 (Operand.tmp 35) (Operand.tmp 41) 3, type := 4, pos := "ref.go:52", after := #[{ on := 9, ground := Ground.data }, { on := 15, ground := Ground.data }, { on := 7, ground := Ground.guard }], guard := some (7, true) } : Oper)) (v := ?_) rfl (by kernel_rfl) (by kernel_rfl) (by kernel_rfl) (fun _ _ _ h => h) (Or.inl ⟨by rfl, ?_⟩) hS21 ?_
            rotate_left
            · intro w hSw; (try dsimp only at hSw); go_simp; (try with_reducible rfl)
            simp only [Act.put, List.setIfInBounds_toArray, List.set_cons_zero, List.set_cons_succ]
            refine wpAnyH_take (i := 17) (oi := ({ dst := some 43, op := Op.pick (Operand.tmp 33) (Operand.tmp 42) (Operand.const (Value.bool false)), type := 4, pos := "ref.go:52", after := #[{ on := 7, ground := Ground.data }, { on := 16, ground := Ground.data }, { on := 3, ground := Ground.guard }], guard := some (3, false) } : Oper)) (v := ?_) rfl (by kernel_rfl) (by kernel_rfl) (by kernel_rfl) (fun _ _ _ h => h) (Or.inl ⟨by rfl, ?_⟩) hS21 ?_
            rotate_left
            · intro w hSw; (try dsimp only at hSw); go_simp; (try with_reducible rfl)
            simp only [Act.put, List.setIfInBounds_toArray, List.set_cons_zero, List.set_cons_succ]
            refine wpAnyH_take (i := 18) (oi := ({ dst := some 44, op := Op.pick (Operand.tmp 29) (Operand.const (Value.bool true)) (Operand.tmp 43), type := 4, pos := "ref.go:52", after := #[{ on := 3, ground := Ground.data }, { on := 17, ground := Ground.data }], guard := none } : Oper)) (v := ?_) rfl (by kernel_rfl) (by kernel_rfl) (by kernel_rfl) (fun _ _ _ h => h) (Or.inl ⟨by rfl, ?_⟩) hS21 ?_
            rotate_left
            · intro w hSw; (try dsimp only at hSw); go_simp; (try with_reducible rfl)
            simp only [Act.put, List.setIfInBounds_toArray, List.set_cons_zero, List.set_cons_succ]
            refine wpAnyH_take (i := 19) (oi := ({ dst := some 45, op := Op.move (Operand.tmp 44), type := 4, pos := "ref.go:52", after := #[{ on := 18, ground := Ground.data }, { on := 7, ground := Ground.chain }], guard := none } : Oper)) (v := ?_) rfl (by kernel_rfl) (by kernel_rfl) (by kernel_rfl) (fun _ _ _ h => h) (Or.inl ⟨by rfl, ?_⟩) hS21 ?_
            rotate_left
            · intro w hSw; (try dsimp only at hSw); go_simp; (try with_reducible rfl)
            simp only [Act.put, List.setIfInBounds_toArray, List.set_cons_zero, List.set_cons_succ]
            refine wpAnyH_take (i := 20) (oi := ({ dst := some 46, op := Op.fieldAddr 46 (Operand.tmp 6) 0, type := 0, pos := "ref.go:52", after := #[{ on := 19, ground := Ground.guard }], guard := some (19, false) } : Oper)) (v := ?_) rfl (by kernel_rfl) (by kernel_rfl) (by kernel_rfl) (fun _ _ _ h => h) (Or.inl ⟨by rfl, ?_⟩) hS21 ?_
            rotate_left
            · intro w hSw; (try dsimp only at hSw); go_simp; (try with_reducible rfl)
            simp only [Act.put, List.setIfInBounds_toArray, List.set_cons_zero, List.set_cons_succ]
            refine wpAnyH_take (i := 21) (oi := ({ dst := some 47, op := Op.load 3 (Operand.tmp 46), type := 3, pos := "ref.go:52", after := #[{ on := 20, ground := Ground.data }, { on := 19, ground := Ground.guard }], guard := some (19, false) } : Oper)) (v := ?_) rfl (by kernel_rfl) (by kernel_rfl) (by kernel_rfl) (fun _ _ _ h => h) (Or.inl ⟨by rfl, ?_⟩) hS21 ?_
            rotate_left
            · intro w hSw; (try dsimp only at hSw); go_simp; (try with_reducible rfl)
            simp only [Act.put, List.setIfInBounds_toArray, List.set_cons_zero, List.set_cons_succ]
            refine wpAnyH_take (i := 22) (oi := ({ dst := some 48, op := Op.binOp BinOp.eql 3 (Operand.tmp 47) (Operand.const (Value.int IntKind.i64 0)) 3, type := 4, pos := "ref.go:52", after := #[{ on := 21, ground := Ground.data }, { on := 19, ground := Ground.guard }], guard := some (19, false) } : Oper)) (v := ?_) rfl (by kernel_rfl) (by kernel_rfl) (by kernel_rfl) (fun _ _ _ h => h) (Or.inl ⟨by rfl, ?_⟩) hS21 ?_
            rotate_left
            · intro w hSw; (try dsimp only at hSw); go_simp; (try with_reducible rfl)
            simp only [Act.put, List.setIfInBounds_toArray, List.set_cons_zero, List.set_cons_succ]
            refine wpAnyH_take (i := 23) (oi := ({ dst := some 49, op := Op.move (Operand.tmp 48), type := 4, pos := "ref.go:52", after := #[{ on := 22, ground := Ground.data }, { on := 19, ground := Ground.chain }, { on := 19, ground := Ground.guard }], guard := some (19, false) } : Oper)) (v := ?_) rfl (by kernel_rfl) (by kernel_rfl) (by kernel_rfl) (fun _ _ _ h => h) (Or.inl ⟨by rfl, ?_⟩) hS21 ?_
            rotate_left
            · intro w hSw; (try dsimp only at hSw); go_simp; (try with_reducible rfl)
            simp only [Act.put, List.setIfInBounds_toArray, List.set_cons_zero, List.set_cons_succ]
            refine wpAnyH_take (i := 24) (oi := ({ dst := some 50, op := Op.fieldAddr 24 (Operand.tmp 2) 1, type := 0, pos := "ref.go:52", after := #[{ on := 23, ground := Ground.guard }], guard := some (23, true) } : Oper)) (v := undef) rfl (by kernel_rfl) (by kernel_rfl) (by kernel_rfl) (fun _ _ _ h => h) (Or.inr ⟨by rfl, rfl⟩) hS21 ?_
            simp only [Act.put, List.setIfInBounds_toArray, List.set_cons_zero, List.set_cons_succ]
            refine wpAnyH_take (i := 25) (oi := ({ dst := some 51, op := Op.load 22 (Operand.tmp 50), type := 22, pos := "ref.go:52", after := #[{ on := 24, ground := Ground.data }, { on := 23, ground := Ground.guard }], guard := some (23, true) } : Oper)) (v := undef) rfl (by kernel_rfl) (by kernel_rfl) (by kernel_rfl) (fun _ _ _ h => h) (Or.inr ⟨by rfl, rfl⟩) hS21 ?_
            simp only [Act.put, List.setIfInBounds_toArray, List.set_cons_zero, List.set_cons_succ]
            refine wpAnyH_take (i := 26) (oi := ({ dst := some 52, op := Op.move (Operand.tmp 5), type := 3, pos := "ref.go:52", after := #[{ on := 23, ground := Ground.guard }], guard := some (23, true) } : Oper)) (v := undef) rfl (by kernel_rfl) (by kernel_rfl) (by kernel_rfl) (fun _ _ _ h => h) (Or.inr ⟨by rfl, rfl⟩) hS21 ?_
            simp only [Act.put, List.setIfInBounds_toArray, List.set_cons_zero, List.set_cons_succ]
            refine wpAnyH_take (i := 27) (oi := ({ dst := some 53, op := Op.indexAddr 22 (Operand.tmp 51) (Operand.tmp 52), type := 0, pos := "ref.go:52", after := #[{ on := 25, ground := Ground.data }, { on := 26, ground := Ground.data }, { on := 23, ground := Ground.guard }], guard := some (23, true) } : Oper)) (v := undef) rfl (by kernel_rfl) (by kernel_rfl) (by kernel_rfl) (fun _ _ _ h => h) (Or.inr ⟨by rfl, rfl⟩) hS21 ?_
            simp only [Act.put, List.setIfInBounds_toArray, List.set_cons_zero, List.set_cons_succ]
            refine wpAnyH_take (i := 28) (oi := ({ dst := some 54, op := Op.fieldAddr 49 (Operand.tmp 53) 2, type := 0, pos := "ref.go:52", after := #[{ on := 27, ground := Ground.data }, { on := 23, ground := Ground.guard }], guard := some (23, true) } : Oper)) (v := undef) rfl (by kernel_rfl) (by kernel_rfl) (by kernel_rfl) (fun _ _ _ h => h) (Or.inr ⟨by rfl, rfl⟩) hS21 ?_
            simp only [Act.put, List.setIfInBounds_toArray, List.set_cons_zero, List.set_cons_succ]
            refine wpAnyH_take (i := 29) (oi := ({ dst := some 55, op := Op.load 4 (Operand.tmp 54), type := 4, pos := "ref.go:52", after := #[{ on := 28, ground := Ground.data }, { on := 23, ground := Ground.guard }], guard := some (23, true) } : Oper)) (v := undef) rfl (by kernel_rfl) (by kernel_rfl) (by kernel_rfl) (fun _ _ _ h => h) (Or.inr ⟨by rfl, rfl⟩) hS21 ?_
            simp only [Act.put, List.setIfInBounds_toArray, List.set_cons_zero, List.set_cons_succ]
            refine wpAnyH_take (i := 30) (oi := ({ dst := some 56, op := Op.pick (Operand.tmp 49) (Operand.tmp 55) (Operand.const (Value.bool false)), type := 4, pos := "ref.go:52", after := #[{ on := 23, ground := Ground.data }, { on := 29, ground := Ground.data }, { on := 19, ground := Ground.guard }], guard := some (19, false) } : Oper)) (v := ?_) rfl (by kernel_rfl) (by kernel_rfl) (by kernel_rfl) (fun _ _ _ h => h) (Or.inl ⟨by rfl, ?_⟩) hS21 ?_
            rotate_left
            · intro w hSw; (try dsimp only at hSw); go_simp; (try with_reducible rfl)
            simp only [Act.put, List.setIfInBounds_toArray, List.set_cons_zero, List.set_cons_succ]
            refine wpAnyH_take (i := 31) (oi := ({ dst := some 57, op := Op.pick (Operand.tmp 45) (Operand.const (Value.bool true)) (Operand.tmp 56), type := 4, pos := "ref.go:52", after := #[{ on := 19, ground := Ground.data }, { on := 30, ground := Ground.data }], guard := none } : Oper)) (v := ?_) rfl (by kernel_rfl) (by kernel_rfl) (by kernel_rfl) (fun _ _ _ h => h) (Or.inl ⟨by rfl, ?_⟩) hS21 ?_
            rotate_left
            · intro w hSw; (try dsimp only at hSw); go_simp; (try with_reducible rfl)
            simp only [Act.put, List.setIfInBounds_toArray, List.set_cons_zero, List.set_cons_succ]
            refine wpAnyH_done (by kernel_rfl) ?_ _
            go_wp2_with fail
            go_roundw
            case rel => exact ⟨k + 1, hlk, by go_num, HT, HS20.out.keep hS21.1, hnext HB20.out hS21.1⟩
            case measure => simp [intOf]; omega
          · have e1 : (x.k != 0) = false := by rw [bne_eq_false_iff_eq]; exact h0
            have e3 : (x.k == 0) = true := beq_iff_eq.2 h0
            have HF := hid (HBAD.out hH)
            have Q2o := Q2.out
            rw [h1] at Q2o
            have Q2b := hid Q2o
            clear HBAD HN hH h0 h1 Q2 Q2o
            have Q2 := Q2b
            clear Q2b
            go_wp2_with fail
            obtain ⟨cb, hcb⟩ : ∃ cb, w4.heap.size = cb := ⟨_, rfl⟩
            have hC5 := HNW.out
            have hS5 := HSA.out
            have hB5 := HBA.out
            have Q1 := Q1.out
            have Q2 := Q2.out
            rw [hcb] at hC5
            rw [hcb]
            generalize w4.alloc (.cells #[.int .i64 x.k, .int .i64 x.n, .int .u64 (x.b : Int), .string x.s] 46) = w5 at *
            clear HNW HSA HBA hcb s1
            obtain ⟨t0, t1, t2, t3, _, _, _, _, tl⟩ := hC5.cells
            obtain ⟨_, s1, _, _⟩ := hS5.cells
            obtain ⟨w20, hw20⟩ : ∃ w20, (w5).drew = w20 := ⟨_, rfl⟩
            have hd20 : Below (w5).heap.size (w5) w20 := hw20 ▸ (Below.refl _ _).drew
            have mk20 : ∀ W, Below w20.heap.size w20 W → Below w20.heap.size w20 W ∧ W.cell? ⟨cb, 0, none⟩ = some (.int .i64 x.k) ∧ W.cell? ⟨cb, 1, none⟩ = some (.int .i64 x.n) ∧ W.cell? ⟨cb, 2, none⟩ = some (.int .u64 (x.b : Int)) ∧ W.cell? ⟨cb, 3, none⟩ = some (.string x.s) ∧ W.cell? ⟨g, off + k * 3 + 1, none⟩ = some (.int .i64 c.kind) ∧ W.cell? ⟨g, off + k * 3 + 2, none⟩ = some (.bool true) ∧ W.cell? ⟨w.heap.size, 1, none⟩ = some (.slice (some ⟨g, off, none⟩) cs.length cap) := fun W h => ⟨h, hkeep (hkeep t0 hd20) h, hkeep (hkeep t1 hd20) h, hkeep (hkeep t2 hd20) h, hkeep (hkeep t3 hd20) h, hkeep (hkeep Q1 hd20) h, hkeep (hkeep Q2 hd20) h, hkeep (hkeep s1 hd20) h⟩
            have HS20 := hid (hS5.keep hd20)
            have HB20 := hid (hnext hB5 hd20)
            clear t0 t1 t2 t3 tl Q1 Q2 s1 hS5 hB5 hC5 hd20
            refine wp_region_held_drew (S := (fun W => Below w20.heap.size w20 W ∧ W.cell? ⟨cb, 0, none⟩ = some (.int .i64 x.k) ∧ W.cell? ⟨cb, 1, none⟩ = some (.int .i64 x.n) ∧ W.cell? ⟨cb, 2, none⟩ = some (.int .u64 (x.b : Int)) ∧ W.cell? ⟨cb, 3, none⟩ = some (.string x.s) ∧ W.cell? ⟨g, off + k * 3 + 1, none⟩ = some (.int .i64 c.kind) ∧ W.cell? ⟨g, off + k * 3 + 2, none⟩ = some (.bool true) ∧ W.cell? ⟨w.heap.size, 1, none⟩ = some (.slice (some ⟨g, off, none⟩) cs.length cap))) (by kernel_rfl) (by rw [hw20]; exact mk20 _ (Below.refl _ _)) (fun hS20 => ?_)
            rw [hw20] at hS20 ⊢
            clear hw20
            refine wpAnyH_take (i := 0) (oi := ({ dst := some 26, op := Op.load 46 (Operand.tmp 6), type := 46, pos := "ref.go:52", after := #[], guard := none } : Oper)) (v := ?_) rfl (by kernel_rfl) (by kernel_rfl) (by kernel_rfl) (fun _ _ _ h => h) (Or.inl ⟨by rfl, ?_⟩) hS20 ?_
            rotate_left
            · intro w hSw; (try dsimp only at hSw); go_simp; (try with_reducible rfl)
            simp only [Act.put, List.setIfInBounds_toArray, List.set_cons_zero, List.set_cons_succ]
            refine wpAnyH_ready (rs := [1]) (by kernel_rfl) (by simp) ?_
            refine AllReadyH.cons (o := ({ dst := some 27, op := Op.call { callee := Callee.value (Operand.func 36), args := #[Operand.tmp 26], argTypes := #[46] }, type := 4, pos := "ref.go:52", after := #[{ on := 0, ground := Ground.data }], guard := none } : Oper)) rfl (fun K hK => ?_) AllReadyH.nil
            go_simp
            refine (hh.out _).mono ?_; rintro e w21 ⟨rfl, hb21⟩
            go_wp2_with fail
            refine hK.out _ _ (mk20 _ (hnext hS20.1 hb21)) (fun hS21 => ?_)
            clear hK K
            (try simp only [Act.put, List.setIfInBounds_toArray, List.set_cons_zero, List.set_cons_succ])
            clear hb21 hS20
            refine wpAnyH_take (i := 2) (oi := ({ dst := some 28, op := Op.unOp UnOp.not 4 (Operand.tmp 27), type := 4, pos := "ref.go:52", after := #[{ on := 1, ground := Ground.data }], guard := none } : Oper)) (v := ?_) rfl (by kernel_rfl) (by kernel_rfl) (by kernel_rfl) (fun _ _ _ h => h) (Or.inl ⟨by rfl, ?_⟩) hS21 ?_
            rotate_left
            · intro w hSw; (try dsimp only at hSw); go_simp; (try with_reducible rfl)
            simp only [Act.put, List.setIfInBounds_toArray, List.set_cons_zero, List.set_cons_succ]
            refine wpAnyH_take (i := 3) (oi := ({ dst := some 29, op := Op.move (Operand.tmp 28), type := 4, pos := "ref.go:52", after := #[{ on := 2, ground := Ground.data }, { on := 1, ground := Ground.chain }], guard := none } : Oper)) (v := ?_) rfl (by kernel_rfl) (by kernel_rfl) (by kernel_rfl) (fun _ _ _ h => h) (Or.inl ⟨by rfl, ?_⟩) hS21 ?_
            rotate_left
            · intro w hSw; (try dsimp only at hSw); go_simp; (try with_reducible rfl)
            simp only [Act.put, List.setIfInBounds_toArray, List.set_cons_zero, List.set_cons_succ]
            refine wpAnyH_take (i := 4) (oi := ({ dst := some 30, op := Op.fieldAddr 46 (Operand.tmp 6) 0, type := 0, pos := "ref.go:52", after := #[{ on := 3, ground := Ground.guard }], guard := some (3, false) } : Oper)) (v := ?_) rfl (by kernel_rfl) (by kernel_rfl) (by kernel_rfl) (fun _ _ _ h => h) (Or.inl ⟨by rfl, ?_⟩) hS21 ?_
            rotate_left
            · intro w hSw; (try dsimp only at hSw); go_simp; (try with_reducible rfl)
            simp only [Act.put, List.setIfInBounds_toArray, List.set_cons_zero, List.set_cons_succ]
            refine wpAnyH_take (i := 5) (oi := ({ dst := some 31, op := Op.load 3 (Operand.tmp 30), type := 3, pos := "ref.go:52", after := #[{ on := 4, ground := Ground.data }, { on := 3, ground := Ground.guard }], guard := some (3, false) } : Oper)) (v := ?_) rfl (by kernel_rfl) (by kernel_rfl) (by kernel_rfl) (fun _ _ _ h => h) (Or.inl ⟨by rfl, ?_⟩) hS21 ?_
            rotate_left
            · intro w hSw; (try dsimp only at hSw); go_simp; (try with_reducible rfl)
            simp only [Act.put, List.setIfInBounds_toArray, List.set_cons_zero, List.set_cons_succ]
            refine wpAnyH_take (i := 6) (oi := ({ dst := some 32, op := Op.binOp BinOp.neq 3 (Operand.tmp 31) (Operand.const (Value.int IntKind.i64 0)) 3, type := 4, pos := "ref.go:52", after := #[{ on := 5, ground := Ground.data }, { on := 3, ground := Ground.guard }], guard := some (3, false) } : Oper)) (v := ?_) rfl (by kernel_rfl) (by kernel_rfl) (by kernel_rfl) (fun _ _ _ h => h) (Or.inl ⟨by rfl, ?_⟩) hS21 ?_
            rotate_left
            · intro w hSw; (try dsimp only at hSw); go_simp; (try with_reducible rfl)
            simp only [Act.put, List.setIfInBounds_toArray, List.set_cons_zero, List.set_cons_succ]
            refine wpAnyH_take (i := 7) (oi := ({ dst := some 33, op := Op.move (Operand.tmp 32), type := 4, pos := "ref.go:52", after := #[{ on := 6, ground := Ground.data }, { on := 3, ground := Ground.chain }, { on := 3, ground := Ground.guard }], guard := some (3, false) } : Oper)) (v := ?_) rfl (by kernel_rfl) (by kernel_rfl) (by kernel_rfl) (fun _ _ _ h => h) (Or.inl ⟨by rfl, ?_⟩) hS21 ?_
            rotate_left
            · intro w hSw; (try dsimp only at hSw); go_simp; (try with_reducible rfl)
            simp only [Act.put, List.setIfInBounds_toArray, List.set_cons_zero, List.set_cons_succ]
            refine wpAnyH_take (i := 8) (oi := ({ dst := some 34, op := Op.fieldAddr 46 (Operand.tmp 6) 0, type := 0, pos := "ref.go:52", after := #[{ on := 7, ground := Ground.guard }], guard := some (7, true) } : Oper)) (v := undef) rfl (by kernel_rfl) (by kernel_rfl) (by kernel_rfl) (fun _ _ _ h => h) (Or.inr ⟨by rfl, rfl⟩) hS21 ?_
            simp only [Act.put, List.setIfInBounds_toArray, List.set_cons_zero, List.set_cons_succ]
            refine wpAnyH_take (i := 9) (oi := ({ dst := some 35, op := Op.load 3 (Operand.tmp 34), type := 3, pos := "ref.go:52", after := #[{ on := 8, ground := Ground.data }, { on := 7, ground := Ground.guard }], guard := some (7, true) } : Oper)) (v := undef) rfl (by kernel_rfl) (by kernel_rfl) (by kernel_rfl) (fun _ _ _ h => h) (Or.inr ⟨by rfl, rfl⟩) hS21 ?_
            simp only [Act.put, List.setIfInBounds_toArray, List.set_cons_zero, List.set_cons_succ]
            refine wpAnyH_take (i := 10) (oi := ({ dst := some 36, op := Op.fieldAddr 24 (Operand.tmp 2) 1, type := 0, pos := "ref.go:52", after := #[{ on := 7, ground := Ground.guard }], guard := some (7, true) } : Oper)) (v := undef) rfl (by kernel_rfl) (by kernel_rfl) (by kernel_rfl) (fun _ _ _ h => h) (Or.inr ⟨by rfl, rfl⟩) hS21 ?_
            simp only [Act.put, List.setIfInBounds_toArray, List.set_cons_zero, List.set_cons_succ]
            refine wpAnyH_take (i := 11) (oi := ({ dst := some 37, op := Op.load 22 (Operand.tmp 36), type := 22, pos := "ref.go:52", after := #[{ on := 10, ground := Ground.data }, { on := 7, ground := Ground.guard }], guard := some (7, true) } : Oper)) (v := undef) rfl (by kernel_rfl) (by kernel_rfl) (by kernel_rfl) (fun _ _ _ h => h) (Or.inr ⟨by rfl, rfl⟩) hS21 ?_
            simp only [Act.put, List.setIfInBounds_toArray, List.set_cons_zero, List.set_cons_succ]
            refine wpAnyH_take (i := 12) (oi := ({ dst := some 38, op := Op.move (Operand.tmp 5), type := 3, pos := "ref.go:52", after := #[{ on := 7, ground := Ground.guard }], guard := some (7, true) } : Oper)) (v := undef) rfl (by kernel_rfl) (by kernel_rfl) (by kernel_rfl) (fun _ _ _ h => h) (Or.inr ⟨by rfl, rfl⟩) hS21 ?_
            simp only [Act.put, List.setIfInBounds_toArray, List.set_cons_zero, List.set_cons_succ]
            refine wpAnyH_take (i := 13) (oi := ({ dst := some 39, op := Op.indexAddr 22 (Operand.tmp 37) (Operand.tmp 38), type := 0, pos := "ref.go:52", after := #[{ on := 11, ground := Ground.data }, { on := 12, ground := Ground.data }, { on := 7, ground := Ground.guard }], guard := some (7, true) } : Oper)) (v := undef) rfl (by kernel_rfl) (by kernel_rfl) (by kernel_rfl) (fun _ _ _ h => h) (Or.inr ⟨by rfl, rfl⟩) hS21 ?_
            simp only [Act.put, List.setIfInBounds_toArray, List.set_cons_zero, List.set_cons_succ]
            refine wpAnyH_take (i := 14) (oi := ({ dst := some 40, op := Op.fieldAddr 49 (Operand.tmp 39) 1, type := 0, pos := "ref.go:52", after := #[{ on := 13, ground := Ground.data }, { on := 7, ground := Ground.guard }], guard := some (7, true) } : Oper)) (v := undef) rfl (by kernel_rfl) (by kernel_rfl) (by kernel_rfl) (fun _ _ _ h => h) (Or.inr ⟨by rfl, rfl⟩) hS21 ?_
            simp only [Act.put, List.setIfInBounds_toArray, List.set_cons_zero, List.set_cons_succ]
            refine wpAnyH_take (i := 15) (oi := ({ dst := some 41, op := Op.load 3 (Operand.tmp 40), type := 3, pos := "ref.go:52", after := #[{ on := 14, ground := Ground.data }, { on := 7, ground := Ground.guard }], guard := some (7, true) } : Oper)) (v := undef) rfl (by kernel_rfl) (by kernel_rfl) (by kernel_rfl) (fun _ _ _ h => h) (Or.inr ⟨by rfl, rfl⟩) hS21 ?_
            simp only [Act.put, List.setIfInBounds_toArray, List.set_cons_zero, List.set_cons_succ]
            refine wpAnyH_take (i := 16) (oi := ({ dst := some 42, op := Op.binOp BinOp.neq 3 (Operand.tmp 35) (Operand.tmp 41) 3, type := 4, pos := "ref.go:52", after := #[{ on := 9, ground := Ground.data }, { on := 15, ground := Ground.data }, { on := 7, ground := Ground.guard }], guard := some (7, true) } : Oper)) (v := undef) rfl (by kernel_rfl) (by kernel_rfl) (by kernel_rfl) (fun _ _ _ h => h) (Or.inr ⟨by rfl, rfl⟩) hS21 ?_
            simp only [Act.put, List.setIfInBounds_toArray, List.set_cons_zero, List.set_cons_succ]
            refine wpAnyH_take (i := 17) (oi := ({ dst := some 43, op := Op.pick (Operand.tmp 33) (Operand.tmp 42) (Operand.const (Value.bool false)), type := 4, pos := "ref.go:52", after := #[{ on := 7, ground := Ground.data }, { on := 16, ground := Ground.data }, { on := 3, ground := Ground.guard }], guard := some (3, false) } : Oper)) (v := ?_) rfl (by kernel_rfl) (by kernel_rfl) (by kernel_rfl) (fun _ _ _ h => h) (Or.inl ⟨by rfl, ?_⟩) hS21 ?_
            rotate_left
            · intro w hSw; (try dsimp only at hSw); go_simp; (try with_reducible rfl)
            simp only [Act.put, List.setIfInBounds_toArray, List.set_cons_zero, List.set_cons_succ]
            refine wpAnyH_take (i := 18) (oi := ({ dst := some 44, op := Op.pick (Operand.tmp 29) (Operand.const (Value.bool true)) (Operand.tmp 43), type := 4, pos := "ref.go:52", after := #[{ on := 3, ground := Ground.data }, { on := 17, ground := Ground.data }], guard := none } : Oper)) (v := ?_) rfl (by kernel_rfl) (by kernel_rfl) (by kernel_rfl) (fun _ _ _ h => h) (Or.inl ⟨by rfl, ?_⟩) hS21 ?_
            rotate_left
            · intro w hSw; (try dsimp only at hSw); go_simp; (try with_reducible rfl)
            simp only [Act.put, List.setIfInBounds_toArray, List.set_cons_zero, List.set_cons_succ]
            refine wpAnyH_take (i := 19) (oi := ({ dst := some 45, op := Op.move (Operand.tmp 44), type := 4, pos := "ref.go:52", after := #[{ on := 18, ground := Ground.data }, { on := 7, ground := Ground.chain }], guard := none } : Oper)) (v := ?_) rfl (by kernel_rfl) (by kernel_rfl) (by kernel_rfl) (fun _ _ _ h => h) (Or.inl ⟨by rfl, ?_⟩) hS21 ?_
            rotate_left
            · intro w hSw; (try dsimp only at hSw); go_simp; (try with_reducible rfl)
            simp only [Act.put, List.setIfInBounds_toArray, List.set_cons_zero, List.set_cons_succ]
            refine wpAnyH_take (i := 20) (oi := ({ dst := some 46, op := Op.fieldAddr 46 (Operand.tmp 6) 0, type := 0, pos := "ref.go:52", after := #[{ on := 19, ground := Ground.guard }], guard := some (19, false) } : Oper)) (v := ?_) rfl (by kernel_rfl) (by kernel_rfl) (by kernel_rfl) (fun _ _ _ h => h) (Or.inl ⟨by rfl, ?_⟩) hS21 ?_
            rotate_left
            · intro w hSw; (try dsimp only at hSw); go_simp; (try with_reducible rfl)
            simp only [Act.put, List.setIfInBounds_toArray, List.set_cons_zero, List.set_cons_succ]
            refine wpAnyH_take (i := 21) (oi := ({ dst := some 47, op := Op.load 3 (Operand.tmp 46), type := 3, pos := "ref.go:52", after := #[{ on := 20, ground := Ground.data }, { on := 19, ground := Ground.guard }], guard := some (19, false) } : Oper)) (v := ?_) rfl (by kernel_rfl) (by kernel_rfl) (by kernel_rfl) (fun _ _ _ h => h) (Or.inl ⟨by rfl, ?_⟩) hS21 ?_
            rotate_left
            · intro w hSw; (try dsimp only at hSw); go_simp; (try with_reducible rfl)
            simp only [Act.put, List.setIfInBounds_toArray, List.set_cons_zero, List.set_cons_succ]
            refine wpAnyH_take (i := 22) (oi := ({ dst := some 48, op := Op.binOp BinOp.eql 3 (Operand.tmp 47) (Operand.const (Value.int IntKind.i64 0)) 3, type := 4, pos := "ref.go:52", after := #[{ on := 21, ground := Ground.data }, { on := 19, ground := Ground.guard }], guard := some (19, false) } : Oper)) (v := ?_) rfl (by kernel_rfl) (by kernel_rfl) (by kernel_rfl) (fun _ _ _ h => h) (Or.inl ⟨by rfl, ?_⟩) hS21 ?_
            rotate_left
            · intro w hSw; (try dsimp only at hSw); go_simp; (try with_reducible rfl)
            simp only [Act.put, List.setIfInBounds_toArray, List.set_cons_zero, List.set_cons_succ]
            refine wpAnyH_take (i := 23) (oi := ({ dst := some 49, op := Op.move (Operand.tmp 48), type := 4, pos := "ref.go:52", after := #[{ on := 22, ground := Ground.data }, { on := 19, ground := Ground.chain }, { on := 19, ground := Ground.guard }], guard := some (19, false) } : Oper)) (v := ?_) rfl (by kernel_rfl) (by kernel_rfl) (by kernel_rfl) (fun _ _ _ h => h) (Or.inl ⟨by rfl, ?_⟩) hS21 ?_
            rotate_left
            · intro w hSw; (try dsimp only at hSw); go_simp; (try with_reducible rfl)
            simp only [Act.put, List.setIfInBounds_toArray, List.set_cons_zero, List.set_cons_succ]
            refine wpAnyH_take (i := 24) (oi := ({ dst := some 50, op := Op.fieldAddr 24 (Operand.tmp 2) 1, type := 0, pos := "ref.go:52", after := #[{ on := 23, ground := Ground.guard }], guard := some (23, true) } : Oper)) (v := ?_) rfl (by kernel_rfl) (by kernel_rfl) (by kernel_rfl) (fun _ _ _ h => h) (Or.inl ⟨by rfl, ?_⟩) hS21 ?_
            rotate_left
            · intro w hSw; (try dsimp only at hSw); go_simp; (try with_reducible rfl)
            simp only [Act.put, List.setIfInBounds_toArray, List.set_cons_zero, List.set_cons_succ]
            refine wpAnyH_take (i := 25) (oi := ({ dst := some 51, op := Op.load 22 (Operand.tmp 50), type := 22, pos := "ref.go:52", after := #[{ on := 24, ground := Ground.data }, { on := 23, ground := Ground.guard }], guard := some (23, true) } : Oper)) (v := ?_) rfl (by kernel_rfl) (by kernel_rfl) (by kernel_rfl) (fun _ _ _ h => h) (Or.inl ⟨by rfl, ?_⟩) hS21 ?_
            rotate_left
            · intro w hSw; (try dsimp only at hSw); go_simp; (try with_reducible rfl)
            simp only [Act.put, List.setIfInBounds_toArray, List.set_cons_zero, List.set_cons_succ]
            refine wpAnyH_take (i := 26) (oi := ({ dst := some 52, op := Op.move (Operand.tmp 5), type := 3, pos := "ref.go:52", after := #[{ on := 23, ground := Ground.guard }], guard := some (23, true) } : Oper)) (v := ?_) rfl (by kernel_rfl) (by kernel_rfl) (by kernel_rfl) (fun _ _ _ h => h) (Or.inl ⟨by rfl, ?_⟩) hS21 ?_
            rotate_left
            · intro w hSw; (try dsimp only at hSw); go_simp; (try with_reducible rfl)
            simp only [Act.put, List.setIfInBounds_toArray, List.set_cons_zero, List.set_cons_succ]
            refine wpAnyH_take (i := 27) (oi := ({ dst := some 53, op := Op.indexAddr 22 (Operand.tmp 51) (Operand.tmp 52), type := 0, pos := "ref.go:52", after := #[{ on := 25, ground := Ground.data }, { on := 26, ground := Ground.data }, { on := 23, ground := Ground.guard }], guard := some (23, true) } : Oper)) (v := ?_) rfl (by kernel_rfl) (by kernel_rfl) (by kernel_rfl) (fun _ _ _ h => h) (Or.inl ⟨by rfl, ?_⟩) hS21 ?_
            rotate_left
            · intro w hSw; (try dsimp only at hSw); go_simp; (try with_reducible rfl)
            simp only [Act.put, List.setIfInBounds_toArray, List.set_cons_zero, List.set_cons_succ]
            refine wpAnyH_take (i := 28) (oi := ({ dst := some 54, op := Op.fieldAddr 49 (Operand.tmp 53) 2, type := 0, pos := "ref.go:52", after := #[{ on := 27, ground := Ground.data }, { on := 23, ground := Ground.guard }], guard := some (23, true) } : Oper)) (v := ?_) rfl (by kernel_rfl) (by kernel_rfl) (by kernel_rfl) (fun _ _ _ h => h) (Or.inl ⟨by rfl, ?_⟩) hS21 ?_
            rotate_left
            · intro w hSw; (try dsimp only at hSw); go_simp; (try with_reducible rfl)
            simp only [Act.put, List.setIfInBounds_toArray, List.set_cons_zero, List.set_cons_succ]
            refine wpAnyH_take (i := 29) (oi := ({ dst := some 55, op := Op.load 4 (Operand.tmp 54), type := 4, pos := "ref.go:52", after := #[{ on := 28, ground := Ground.data }, { on := 23, ground := Ground.guard }], guard := some (23, true) } : Oper)) (v := ?_) rfl (by kernel_rfl) (by kernel_rfl) (by kernel_rfl) (fun _ _ _ h => h) (Or.inl ⟨by rfl, ?_⟩) hS21 ?_
            rotate_left
            · intro w hSw; (try dsimp only at hSw); go_simp; (try with_reducible rfl)
            simp only [Act.put, List.setIfInBounds_toArray, List.set_cons_zero, List.set_cons_succ]
            refine wpAnyH_take (i := 30) (oi := ({ dst := some 56, op := Op.pick (Operand.tmp 49) (Operand.tmp 55) (Operand.const (Value.bool false)), type := 4, pos := "ref.go:52", after := #[{ on := 23, ground := Ground.data }, { on := 29, ground := Ground.data }, { on := 19, ground := Ground.guard }], guard := some (19, false) } : Oper)) (v := ?_) rfl (by kernel_rfl) (by kernel_rfl) (by kernel_rfl) (fun _ _ _ h => h) (Or.inl ⟨by rfl, ?_⟩) hS21 ?_
            rotate_left
            · intro w hSw; (try dsimp only at hSw); go_simp; (try with_reducible rfl)
            simp only [Act.put, List.setIfInBounds_toArray, List.set_cons_zero, List.set_cons_succ]
            refine wpAnyH_take (i := 31) (oi := ({ dst := some 57, op := Op.pick (Operand.tmp 45) (Operand.const (Value.bool true)) (Operand.tmp 56), type := 4, pos := "ref.go:52", after := #[{ on := 19, ground := Ground.data }, { on := 30, ground := Ground.data }], guard := none } : Oper)) (v := ?_) rfl (by kernel_rfl) (by kernel_rfl) (by kernel_rfl) (fun _ _ _ h => h) (Or.inl ⟨by rfl, ?_⟩) hS21 ?_
            rotate_left
            · intro w hSw; (try dsimp only at hSw); go_simp; (try with_reducible rfl)
            simp only [Act.put, List.setIfInBounds_toArray, List.set_cons_zero, List.set_cons_succ]
            refine wpAnyH_done (by kernel_rfl) ?_ _
            go_wp2_with fail
            go_ret
            rw [HF.out]
            exact ⟨rfl, hnext HB20.out hS21.1⟩
          · have e1 : (x.k != 0) = false := by rw [bne_eq_false_iff_eq]; exact h0
            have e3 : (x.k == 0) = true := beq_iff_eq.2 h0
            have HT := hid (HN.out hH)
            have Q2o := Q2.out
            rw [h1] at Q2o
            have Q2b := hid Q2o
            clear HBAD HN hH h0 h1 Q2 Q2o
            have Q2 := Q2b
            clear Q2b
            go_wp2_with fail
            obtain ⟨cb, hcb⟩ : ∃ cb, w4.heap.size = cb := ⟨_, rfl⟩
            have hC5 := HNW.out
            have hS5 := HSA.out
            have hB5 := HBA.out
            have Q1 := Q1.out
            have Q2 := Q2.out
            rw [hcb] at hC5
            rw [hcb]
            generalize w4.alloc (.cells #[.int .i64 x.k, .int .i64 x.n, .int .u64 (x.b : Int), .string x.s] 46) = w5 at *
            clear HNW HSA HBA hcb s1
            obtain ⟨t0, t1, t2, t3, _, _, _, _, tl⟩ := hC5.cells
            obtain ⟨_, s1, _, _⟩ := hS5.cells
            obtain ⟨w20, hw20⟩ : ∃ w20, (w5).drew = w20 := ⟨_, rfl⟩
            have hd20 : Below (w5).heap.size (w5) w20 := hw20 ▸ (Below.refl _ _).drew
            have mk20 : ∀ W, Below w20.heap.size w20 W → Below w20.heap.size w20 W ∧ W.cell? ⟨cb, 0, none⟩ = some (.int .i64 x.k) ∧ W.cell? ⟨cb, 1, none⟩ = some (.int .i64 x.n) ∧ W.cell? ⟨cb, 2, none⟩ = some (.int .u64 (x.b : Int)) ∧ W.cell? ⟨cb, 3, none⟩ = some (.string x.s) ∧ W.cell? ⟨g, off + k * 3 + 1, none⟩ = some (.int .i64 c.kind) ∧ W.cell? ⟨g, off + k * 3 + 2, none⟩ = some (.bool false) ∧ W.cell? ⟨w.heap.size, 1, none⟩ = some (.slice (some ⟨g, off, none⟩) cs.length cap) := fun W h => ⟨h, hkeep (hkeep t0 hd20) h, hkeep (hkeep t1 hd20) h, hkeep (hkeep t2 hd20) h, hkeep (hkeep t3 hd20) h, hkeep (hkeep Q1 hd20) h, hkeep (hkeep Q2 hd20) h, hkeep (hkeep s1 hd20) h⟩
            have HS20 := hid (hS5.keep hd20)
            have HB20 := hid (hnext hB5 hd20)
            clear t0 t1 t2 t3 tl Q1 Q2 s1 hS5 hB5 hC5 hd20
            refine wp_region_held_drew (S := (fun W => Below w20.heap.size w20 W ∧ W.cell? ⟨cb, 0, none⟩ = some (.int .i64 x.k) ∧ W.cell? ⟨cb, 1, none⟩ = some (.int .i64 x.n) ∧ W.cell? ⟨cb, 2, none⟩ = some (.int .u64 (x.b : Int)) ∧ W.cell? ⟨cb, 3, none⟩ = some (.string x.s) ∧ W.cell? ⟨g, off + k * 3 + 1, none⟩ = some (.int .i64 c.kind) ∧ W.cell? ⟨g, off + k * 3 + 2, none⟩ = some (.bool false) ∧ W.cell? ⟨w.heap.size, 1, none⟩ = some (.slice (some ⟨g, off, none⟩) cs.length cap))) (by kernel_rfl) (by rw [hw20]; exact mk20 _ (Below.refl _ _)) (fun hS20 => ?_)
            rw [hw20] at hS20 ⊢
            clear hw20
            refine wpAnyH_take (i := 0) (oi := ({ dst := some 26, op := Op.load 46 (Operand.tmp 6), type := 46, pos := "ref.go:52", after := #[], guard := none } : Oper)) (v := ?_) rfl (by kernel_rfl) (by kernel_rfl) (by kernel_rfl) (fun _ _ _ h => h) (Or.inl ⟨by rfl, ?_⟩) hS20 ?_
            rotate_left
            · intro w hSw; (try dsimp only at hSw); go_simp; (try with_reducible rfl)
            simp only [Act.put, List.setIfInBounds_toArray, List.set_cons_zero, List.set_cons_succ]
            refine wpAnyH_ready (rs := [1]) (by kernel_rfl) (by simp) ?_
            refine AllReadyH.cons (o := ({ dst := some 27, op := Op.call { callee := Callee.value (Operand.func 36), args := #[Operand.tmp 26], argTypes := #[46] }, type := 4, pos := "ref.go:52", after := #[{ on := 0, ground := Ground.data }], guard := none } : Oper)) rfl (fun K hK => ?_) AllReadyH.nil
            go_simp
            refine (hh.out _).mono ?_; rintro e w21 ⟨rfl, hb21⟩
            go_wp2_with fail
            refine hK.out _ _ (mk20 _ (hnext hS20.1 hb21)) (fun hS21 => ?_)
            clear hK K
            (try simp only [Act.put, List.setIfInBounds_toArray, List.set_cons_zero, List.set_cons_succ])
            clear hb21 hS20
            refine wpAnyH_take (i := 2) (oi := ({ dst := some 28, op := Op.unOp UnOp.not 4 (Operand.tmp 27), type := 4, pos := "ref.go:52", after := #[{ on := 1, ground := Ground.data }], guard := none } : Oper)) (v := ?_) rfl (by kernel_rfl) (by kernel_rfl) (by kernel_rfl) (fun _ _ _ h => h) (Or.inl ⟨by rfl, ?_⟩) hS21 ?_
            rotate_left
            · intro w hSw; (try dsimp only at hSw); go_simp; (try with_reducible rfl)
            simp only [Act.put, List.setIfInBounds_toArray, List.set_cons_zero, List.set_cons_succ]
            refine wpAnyH_take (i := 3) (oi := ({ dst := some 29, op := Op.move (Operand.tmp 28), type := 4, pos := "ref.go:52", after := #[{ on := 2, ground := Ground.data }, { on := 1, ground := Ground.chain }], guard := none } : Oper)) (v := ?_) rfl (by kernel_rfl) (by kernel_rfl) (by kernel_rfl) (fun _ _ _ h => h) (Or.inl ⟨by rfl, ?_⟩) hS21 ?_
            rotate_left
            · intro w hSw; (try dsimp only at hSw); go_simp; (try with_reducible rfl)
            simp only [Act.put, List.setIfInBounds_toArray, List.set_cons_zero, List.set_cons_succ]
            refine wpAnyH_take (i := 4) (oi := ({ dst := some 30, op := Op.fieldAddr 46 (Operand.tmp 6) 0, type := 0, pos := "ref.go:52", after := #[{ on := 3, ground := Ground.guard }], guard := some (3, false) } : Oper)) (v := ?_) rfl (by kernel_rfl) (by kernel_rfl) (by kernel_rfl) (fun _ _ _ h => h) (Or.inl ⟨by rfl, ?_⟩) hS21 ?_
            rotate_left
            · intro w hSw; (try dsimp only at hSw); go_simp; (try with_reducible rfl)
            simp only [Act.put, List.setIfInBounds_toArray, List.set_cons_zero, List.set_cons_succ]
            refine wpAnyH_take (i := 5) (oi := ({ dst := some 31, op := Op.load 3 (Operand.tmp 30), type := 3, pos := "ref.go:52", after := #[{ on := 4, ground := Ground.data }, { on := 3, ground := Ground.guard }], guard := some (3, false) } : Oper)) (v := ?_) rfl (by kernel_rfl) (by kernel_rfl) (by kernel_rfl) (fun _ _ _ h => h) (Or.inl ⟨by rfl, ?_⟩) hS21 ?_
            rotate_left
            · intro w hSw; (try dsimp only at hSw); go_simp; (try with_reducible rfl)
            simp only [Act.put, List.setIfInBounds_toArray, List.set_cons_zero, List.set_cons_succ]
            refine wpAnyH_take (i := 6) (oi := ({ dst := some 32, op := Op.binOp BinOp.neq 3 (Operand.tmp 31) (Operand.const (Value.int IntKind.i64 0)) 3, type := 4, pos := "ref.go:52", after := #[{ on := 5, ground := Ground.data }, { on := 3, ground := Ground.guard }], guard := some (3, false) } : Oper)) (v := ?_) rfl (by kernel_rfl) (by kernel_rfl) (by kernel_rfl) (fun _ _ _ h => h) (Or.inl ⟨by rfl, ?_⟩) hS21 ?_
            rotate_left
            · intro w hSw; (try dsimp only at hSw); go_simp; (try with_reducible rfl)
            simp only [Act.put, List.setIfInBounds_toArray, List.set_cons_zero, List.set_cons_succ]
            refine wpAnyH_take (i := 7) (oi := ({ dst := some 33, op := Op.move (Operand.tmp 32), type := 4, pos := "ref.go:52", after := #[{ on := 6, ground := Ground.data }, { on := 3, ground := Ground.chain }, { on := 3, ground := Ground.guard }], guard := some (3, false) } : Oper)) (v := ?_) rfl (by kernel_rfl) (by kernel_rfl) (by kernel_rfl) (fun _ _ _ h => h) (Or.inl ⟨by rfl, ?_⟩) hS21 ?_
            rotate_left
            · intro w hSw; (try dsimp only at hSw); go_simp; (try with_reducible rfl)
            simp only [Act.put, List.setIfInBounds_toArray, List.set_cons_zero, List.set_cons_succ]
            refine wpAnyH_take (i := 8) (oi := ({ dst := some 34, op := Op.fieldAddr 46 (Operand.tmp 6) 0, type := 0, pos := "ref.go:52", after := #[{ on := 7, ground := Ground.guard }], guard := some (7, true) } : Oper)) (v := undef) rfl (by kernel_rfl) (by kernel_rfl) (by kernel_rfl) (fun _ _ _ h => h) (Or.inr ⟨by rfl, rfl⟩) hS21 ?_
            simp only [Act.put, List.setIfInBounds_toArray, List.set_cons_zero, List.set_cons_succ]
            refine wpAnyH_take (i := 9) (oi := ({ dst := some 35, op := Op.load 3 (Operand.tmp 34), type := 3, pos := "ref.go:52", after := #[{ on := 8, ground := Ground.data }, { on := 7, ground := Ground.guard }], guard := some (7, true) } : Oper)) (v := undef) rfl (by kernel_rfl) (by kernel_rfl) (by kernel_rfl) (fun _ _ _ h => h) (Or.inr ⟨by rfl, rfl⟩) hS21 ?_
            simp only [Act.put, List.setIfInBounds_toArray, List.set_cons_zero, List.set_cons_succ]
            refine wpAnyH_take (i := 10) (oi := ({ dst := some 36, op := Op.fieldAddr 24 (Operand.tmp 2) 1, type := 0, pos := "ref.go:52", after := #[{ on := 7, ground := Ground.guard }], guard := some (7, true) } : Oper)) (v := undef) rfl (by kernel_rfl) (by kernel_rfl) (by kernel_rfl) (fun _ _ _ h => h) (Or.inr ⟨by rfl, rfl⟩) hS21 ?_
            simp only [Act.put, List.setIfInBounds_toArray, List.set_cons_zero, List.set_cons_succ]
            refine wpAnyH_take (i := 11) (oi := ({ dst := some 37, op := Op.load 22 (Operand.tmp 36), type := 22, pos := "ref.go:52", after := #[{ on := 10, ground := Ground.data }, { on := 7, ground := Ground.guard }], guard := some (7, true) } : Oper)) (v := undef) rfl (by kernel_rfl) (by kernel_rfl) (by kernel_rfl) (fun _ _ _ h => h) (Or.inr ⟨by rfl, rfl⟩) hS21 ?_
            simp only [Act.put, List.setIfInBounds_toArray, List.set_cons_zero, List.set_cons_succ]
            refine wpAnyH_take (i := 12) (oi := ({ dst := some 38, op := Op.move (Operand.tmp 5), type := 3, pos := "ref.go:52", after := #[{ on := 7, ground := Ground.guard }], guard := some (7, true) } : Oper)) (v := undef) rfl (by kernel_rfl) (by kernel_rfl) (by kernel_rfl) (fun _ _ _ h => h) (Or.inr ⟨by rfl, rfl⟩) hS21 ?_
            simp only [Act.put, List.setIfInBounds_toArray, List.set_cons_zero, List.set_cons_succ]
            refine wpAnyH_take (i := 13) (oi := ({ dst := some 39, op := Op.indexAddr 22 (Operand.tmp 37) (Operand.tmp 38), type := 0, pos := "ref.go:52", after := #[{ on := 11, ground := Ground.data }, { on := 12, ground := Ground.data }, { on := 7, ground := Ground.guard }], guard := some (7, true) } : Oper)) (v := undef) rfl (by kernel_rfl) (by kernel_rfl) (by kernel_rfl) (fun _ _ _ h => h) (Or.inr ⟨by rfl, rfl⟩) hS21 ?_
            simp only [Act.put, List.setIfInBounds_toArray, List.set_cons_zero, List.set_cons_succ]
            refine wpAnyH_take (i := 14) (oi := ({ dst := some 40, op := Op.fieldAddr 49 (Operand.tmp 39) 1, type := 0, pos := "ref.go:52", after := #[{ on := 13, ground := Ground.data }, { on := 7, ground := Ground.guard }], guard := some (7, true) } : Oper)) (v := undef) rfl (by kernel_rfl) (by kernel_rfl) (by kernel_rfl) (fun _ _ _ h => h) (Or.inr ⟨by rfl, rfl⟩) hS21 ?_
            simp only [Act.put, List.setIfInBounds_toArray, List.set_cons_zero, List.set_cons_succ]
            refine wpAnyH_take (i := 15) (oi := ({ dst := some 41, op := Op.load 3 (Operand.tmp 40), type := 3, pos := "ref.go:52", after := #[{ on := 14, ground := Ground.data }, { on := 7, ground := Ground.guard }], guard := some (7, true) } : Oper)) (v := undef) rfl (by kernel_rfl) (by kernel_rfl) (by kernel_rfl) (fun _ _ _ h => h) (Or.inr ⟨by rfl, rfl⟩) hS21 ?_
            simp only [Act.put, List.setIfInBounds_toArray, List.set_cons_zero, List.set_cons_succ]
            refine wpAnyH_take (i := 16) (oi := ({ dst := some 42, op := Op.binOp BinOp.neq 3 (Operand.tmp 35) (Operand.tmp 41) 3, type := 4, pos := "ref.go:52", after := #[{ on := 9, ground := Ground.data }, { on := 15, ground := Ground.data }, { on := 7, ground := Ground.guard }], guard := some (7, true) } : Oper)) (v := undef) rfl (by kernel_rfl) (by kernel_rfl) (by kernel_rfl) (fun _ _ _ h => h) (Or.inr ⟨by rfl, rfl⟩) hS21 ?_
            simp only [Act.put, List.setIfInBounds_toArray, List.set_cons_zero, List.set_cons_succ]
            refine wpAnyH_take (i := 17) (oi := ({ dst := some 43, op := Op.pick (Operand.tmp 33) (Operand.tmp 42) (Operand.const (Value.bool false)), type := 4, pos := "ref.go:52", after := #[{ on := 7, ground := Ground.data }, { on := 16, ground := Ground.data }, { on := 3, ground := Ground.guard }], guard := some (3, false) } : Oper)) (v := ?_) rfl (by kernel_rfl) (by kernel_rfl) (by kernel_rfl) (fun _ _ _ h => h) (Or.inl ⟨by rfl, ?_⟩) hS21 ?_
            rotate_left
            · intro w hSw; (try dsimp only at hSw); go_simp; (try with_reducible rfl)
            simp only [Act.put, List.setIfInBounds_toArray, List.set_cons_zero, List.set_cons_succ]
            refine wpAnyH_take (i := 18) (oi := ({ dst := some 44, op := Op.pick (Operand.tmp 29) (Operand.const (Value.bool true)) (Operand.tmp 43), type := 4, pos := "ref.go:52", after := #[{ on := 3, ground := Ground.data }, { on := 17, ground := Ground.data }], guard := none } : Oper)) (v := ?_) rfl (by kernel_rfl) (by kernel_rfl) (by kernel_rfl) (fun _ _ _ h => h) (Or.inl ⟨by rfl, ?_⟩) hS21 ?_
            rotate_left
            · intro w hSw; (try dsimp only at hSw); go_simp; (try with_reducible rfl)
            simp only [Act.put, List.setIfInBounds_toArray, List.set_cons_zero, List.set_cons_succ]
            refine wpAnyH_take (i := 19) (oi := ({ dst := some 45, op := Op.move (Operand.tmp 44), type := 4, pos := "ref.go:52", after := #[{ on := 18, ground := Ground.data }, { on := 7, ground := Ground.chain }], guard := none } : Oper)) (v := ?_) rfl (by kernel_rfl) (by kernel_rfl) (by kernel_rfl) (fun _ _ _ h => h) (Or.inl ⟨by rfl, ?_⟩) hS21 ?_
            rotate_left
            · intro w hSw; (try dsimp only at hSw); go_simp; (try with_reducible rfl)
            simp only [Act.put, List.setIfInBounds_toArray, List.set_cons_zero, List.set_cons_succ]
            refine wpAnyH_take (i := 20) (oi := ({ dst := some 46, op := Op.fieldAddr 46 (Operand.tmp 6) 0, type := 0, pos := "ref.go:52", after := #[{ on := 19, ground := Ground.guard }], guard := some (19, false) } : Oper)) (v := ?_) rfl (by kernel_rfl) (by kernel_rfl) (by kernel_rfl) (fun _ _ _ h => h) (Or.inl ⟨by rfl, ?_⟩) hS21 ?_
            rotate_left
            · intro w hSw; (try dsimp only at hSw); go_simp; (try with_reducible rfl)
            simp only [Act.put, List.setIfInBounds_toArray, List.set_cons_zero, List.set_cons_succ]
            refine wpAnyH_take (i := 21) (oi := ({ dst := some 47, op := Op.load 3 (Operand.tmp 46), type := 3, pos := "ref.go:52", after := #[{ on := 20, ground := Ground.data }, { on := 19, ground := Ground.guard }], guard := some (19, false) } : Oper)) (v := ?_) rfl (by kernel_rfl) (by kernel_rfl) (by kernel_rfl) (fun _ _ _ h => h) (Or.inl ⟨by rfl, ?_⟩) hS21 ?_
            rotate_left
            · intro w hSw; (try dsimp only at hSw); go_simp; (try with_reducible rfl)
            simp only [Act.put, List.setIfInBounds_toArray, List.set_cons_zero, List.set_cons_succ]
            refine wpAnyH_take (i := 22) (oi := ({ dst := some 48, op := Op.binOp BinOp.eql 3 (Operand.tmp 47) (Operand.const (Value.int IntKind.i64 0)) 3, type := 4, pos := "ref.go:52", after := #[{ on := 21, ground := Ground.data }, { on := 19, ground := Ground.guard }], guard := some (19, false) } : Oper)) (v := ?_) rfl (by kernel_rfl) (by kernel_rfl) (by kernel_rfl) (fun _ _ _ h => h) (Or.inl ⟨by rfl, ?_⟩) hS21 ?_
            rotate_left
            · intro w hSw; (try dsimp only at hSw); go_simp; (try with_reducible rfl)
            simp only [Act.put, List.setIfInBounds_toArray, List.set_cons_zero, List.set_cons_succ]
            refine wpAnyH_take (i := 23) (oi := ({ dst := some 49, op := Op.move (Operand.tmp 48), type := 4, pos := "ref.go:52", after := #[{ on := 22, ground := Ground.data }, { on := 19, ground := Ground.chain }, { on := 19, ground := Ground.guard }], guard := some (19, false) } : Oper)) (v := ?_) rfl (by kernel_rfl) (by kernel_rfl) (by kernel_rfl) (fun _ _ _ h => h) (Or.inl ⟨by rfl, ?_⟩) hS21 ?_
            rotate_left
            · intro w hSw; (try dsimp only at hSw); go_simp; (try with_reducible rfl)
            simp only [Act.put, List.setIfInBounds_toArray, List.set_cons_zero, List.set_cons_succ]
            refine wpAnyH_take (i := 24) (oi := ({ dst := some 50, op := Op.fieldAddr 24 (Operand.tmp 2) 1, type := 0, pos := "ref.go:52", after := #[{ on := 23, ground := Ground.guard }], guard := some (23, true) } : Oper)) (v := ?_) rfl (by kernel_rfl) (by kernel_rfl) (by kernel_rfl) (fun _ _ _ h => h) (Or.inl ⟨by rfl, ?_⟩) hS21 ?_
            rotate_left
            · intro w hSw; (try dsimp only at hSw); go_simp; (try with_reducible rfl)
            simp only [Act.put, List.setIfInBounds_toArray, List.set_cons_zero, List.set_cons_succ]
            refine wpAnyH_take (i := 25) (oi := ({ dst := some 51, op := Op.load 22 (Operand.tmp 50), type := 22, pos := "ref.go:52", after := #[{ on := 24, ground := Ground.data }, { on := 23, ground := Ground.guard }], guard := some (23, true) } : Oper)) (v := ?_) rfl (by kernel_rfl) (by kernel_rfl) (by kernel_rfl) (fun _ _ _ h => h) (Or.inl ⟨by rfl, ?_⟩) hS21 ?_
            rotate_left
            · intro w hSw; (try dsimp only at hSw); go_simp; (try with_reducible rfl)
            simp only [Act.put, List.setIfInBounds_toArray, List.set_cons_zero, List.set_cons_succ]
            refine wpAnyH_take (i := 26) (oi := ({ dst := some 52, op := Op.move (Operand.tmp 5), type := 3, pos := "ref.go:52", after := #[{ on := 23, ground := Ground.guard }], guard := some (23, true) } : Oper)) (v := ?_) rfl (by kernel_rfl) (by kernel_rfl) (by kernel_rfl) (fun _ _ _ h => h) (Or.inl ⟨by rfl, ?_⟩) hS21 ?_
            rotate_left
            · intro w hSw; (try dsimp only at hSw); go_simp; (try with_reducible rfl)
            simp only [Act.put, List.setIfInBounds_toArray, List.set_cons_zero, List.set_cons_succ]
            refine wpAnyH_take (i := 27) (oi := ({ dst := some 53, op := Op.indexAddr 22 (Operand.tmp 51) (Operand.tmp 52), type := 0, pos := "ref.go:52", after := #[{ on := 25, ground := Ground.data }, { on := 26, ground := Ground.data }, { on := 23, ground := Ground.guard }], guard := some (23, true) } : Oper)) (v := ?_) rfl (by kernel_rfl) (by kernel_rfl) (by kernel_rfl) (fun _ _ _ h => h) (Or.inl ⟨by rfl, ?_⟩) hS21 ?_
            rotate_left
            · intro w hSw; (try dsimp only at hSw); go_simp; (try with_reducible rfl)
            simp only [Act.put, List.setIfInBounds_toArray, List.set_cons_zero, List.set_cons_succ]
            refine wpAnyH_take (i := 28) (oi := ({ dst := some 54, op := Op.fieldAddr 49 (Operand.tmp 53) 2, type := 0, pos := "ref.go:52", after := #[{ on := 27, ground := Ground.data }, { on := 23, ground := Ground.guard }], guard := some (23, true) } : Oper)) (v := ?_) rfl (by kernel_rfl) (by kernel_rfl) (by kernel_rfl) (fun _ _ _ h => h) (Or.inl ⟨by rfl, ?_⟩) hS21 ?_
            rotate_left
            · intro w hSw; (try dsimp only at hSw); go_simp; (try with_reducible rfl)
            simp only [Act.put, List.setIfInBounds_toArray, List.set_cons_zero, List.set_cons_succ]
            refine wpAnyH_take (i := 29) (oi := ({ dst := some 55, op := Op.load 4 (Operand.tmp 54), type := 4, pos := "ref.go:52", after := #[{ on := 28, ground := Ground.data }, { on := 23, ground := Ground.guard }], guard := some (23, true) } : Oper)) (v := ?_) rfl (by kernel_rfl) (by kernel_rfl) (by kernel_rfl) (fun _ _ _ h => h) (Or.inl ⟨by rfl, ?_⟩) hS21 ?_
            rotate_left
            · intro w hSw; (try dsimp only at hSw); go_simp; (try with_reducible rfl)
            simp only [Act.put, List.setIfInBounds_toArray, List.set_cons_zero, List.set_cons_succ]
            refine wpAnyH_take (i := 30) (oi := ({ dst := some 56, op := Op.pick (Operand.tmp 49) (Operand.tmp 55) (Operand.const (Value.bool false)), type := 4, pos := "ref.go:52", after := #[{ on := 23, ground := Ground.data }, { on := 29, ground := Ground.data }, { on := 19, ground := Ground.guard }], guard := some (19, false) } : Oper)) (v := ?_) rfl (by kernel_rfl) (by kernel_rfl) (by kernel_rfl) (fun _ _ _ h => h) (Or.inl ⟨by rfl, ?_⟩) hS21 ?_
            rotate_left
            · intro w hSw; (try dsimp only at hSw); go_simp; (try with_reducible rfl)
            simp only [Act.put, List.setIfInBounds_toArray, List.set_cons_zero, List.set_cons_succ]
            refine wpAnyH_take (i := 31) (oi := ({ dst := some 57, op := Op.pick (Operand.tmp 45) (Operand.const (Value.bool true)) (Operand.tmp 56), type := 4, pos := "ref.go:52", after := #[{ on := 19, ground := Ground.data }, { on := 30, ground := Ground.data }], guard := none } : Oper)) (v := ?_) rfl (by kernel_rfl) (by kernel_rfl) (by kernel_rfl) (fun _ _ _ h => h) (Or.inl ⟨by rfl, ?_⟩) hS21 ?_
            rotate_left
            · intro w hSw; (try dsimp only at hSw); go_simp; (try with_reducible rfl)
            simp only [Act.put, List.setIfInBounds_toArray, List.set_cons_zero, List.set_cons_succ]
            refine wpAnyH_done (by kernel_rfl) ?_ _
            go_wp2_with fail
            go_roundw
            case rel => exact ⟨k + 1, hlk, by go_num, HT, HS20.out.keep hS21.1, hnext HB20.out hS21.1⟩
            case measure => simp [intOf]; omega
        · obtain rfl : k = cs.length := by omega
          have HF : Hid (Sc.fits ⟨nm, cs, ks⟩ l = 0) := by show _ = _; rw [hE3.out, Sc.fitTo_all HLEN.out hft.out, if_pos rfl]
          go_wp2_with fail
          go_ret
          rw [HF.out]
          exact ⟨rfl, hB⟩
    · have e1 : ((l.length : Int) != (cs.length : Int)) = true := by rw [bne_iff_ne]; omega
      have HF : Hid (Sc.fits ⟨nm, cs, ks⟩ l = 10) := by show _ = _; rw [hE2.out, if_pos hlen]
      clear hE2 hlen
      go_enter Try.func24, Try.ntmps24
      go_wp2_with fail
      refine (hR.out).mono ?_; rintro e w1 ⟨rfl, hb1⟩
      have hS1 := HS0.out.keep hb1
      have hB1 := hnext HBOX.out hb1
      obtain ⟨s0, s1, s2, sl⟩ := hS1.cells
      go_wp2_with fail
      go_ret
      rw [HF.out]
      exact ⟨rfl, hB1⟩
end Go.Proofs.Ytmgafcblbbbanaa
