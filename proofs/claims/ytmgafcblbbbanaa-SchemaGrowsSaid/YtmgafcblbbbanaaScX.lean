/-
  Decode of schema: its contract. Condition: the text has at most 1000000 bytes.
-/
import Derived.Test.YtmgafcblbbbanaaScC
namespace Go.Proofs.Ytmgafcblbbbanaa
open Go.RowKit

theorem CsAt.nil (w : World) : CsAt w (.slice none 0 0) [] := ⟨none, 0, rfl, Nat.le_refl _, by decide, fun k hk => absurd hk (Nat.not_lt_zero k)⟩
theorem CsAt.slc {w : World} {v : Value} {l : List Sc.C} (h : CsAt w v l) : ∃ adr cap, v = .slice adr l.length cap := by
  obtain ⟨adr, cap, rfl, _⟩ := h; exact ⟨adr, cap, rfl⟩
theorem CsAt.slc' {w : World} {v : Value} {l : List Sc.C} (h : CsAt w v l) {m : Nat} (hm : l.length = m) : ∃ adr cap, v = .slice adr m cap := by
  subst hm; exact h.slc
theorem own_upd' {w w' : World} {g B e size : Nat} {v : Value} {n : Nat} {xs : List Value} (h : w.ownsRow B e size v n xs) (hu : Upd g w w') (hg : g < B) : w'.ownsRow B e size v n xs := own_upd h hu hg
set_option maxRecDepth 100000 in
set_option maxHeartbeats 12800000 in
theorem decode_any (b : ByteArray) (hb : b.size ≤ 1000000) (w : World) : Calls Try.prog 28 #[.string b] w (DecP b w) := by
  have hs9 : b.size ≤ 1000000000 := by omega
  go_enter Try.func28, Try.ntmps28
  go_wp2_with fail
  -- the reader
  have hZ0 := BS.new w ⟨#[]⟩ (.slice none 0 0) 0
  have hL0 := hba w (.cells #[.string ⟨#[]⟩, .slice none 0 0, .int .i64 0] 24)
  obtain ⟨w1, hw1⟩ : ∃ w1, w.alloc (.cells #[.string ⟨#[]⟩, .slice none 0 0, .int .i64 0] 24) = w1 := ⟨_, rfl⟩
  rw [hw1] at hZ0 hL0 ⊢
  clear hw1
  refine (new_any b _).mono ?_; rintro e w2 ⟨rfl, hw2⟩
  have R0 := new_rdr b w1
  have hba1 := hba w1 (.cells #[.string b, .int .i64 0, .int .i64 0] 68)
  rw [← hw2] at R0 hba1
  have hZ1 := hZ0.keep hba1
  have hL1 := hnext hL0 hba1
  have hzg : w.heap.size ≠ w1.heap.size := Nat.ne_of_lt hZ0.cells.2.2.2
  have hzl : w.heap.size < w1.heap.size := hZ0.cells.2.2.2
  generalize w1.heap.size = g at R0 hzg hzl ⊢
  clear hw2 hba1 hZ0 hL0
  -- its name, keys, columns
  obtain ⟨⟨nm, j1, e1⟩, hT1⟩ : ∃ t, Cd.top ⟨#[]⟩ (Cd.textR b 1000000) 0 0 = t := ⟨_, rfl⟩
  obtain ⟨⟨kn, j2, e2⟩, hT2⟩ : ∃ t, Cd.top 0 (Cd.uintR b.data.toList) j1 e1 = t := ⟨_, rfl⟩
  obtain ⟨⟨n0, j3, e3⟩, hT3⟩ : ∃ t, Cd.top 0 (Cd.uintR b.data.toList) j2 e2 = t := ⟨_, rfl⟩
  have m1 := hid (fun W h => mText g b 0 0 W h (Nat.zero_le _) hs9)
  rw [hT1] at m1
  have m2 := hid (fun W h hj => mUint g b j1 e1 W h hj hs9)
  rw [hT2] at m2
  have m3 := hid (fun W h hj => mUint g b j2 e2 W h hj hs9)
  rw [hT3] at m3
  have HT1 := hid hT1
  have HT2 := hid hT2
  have HT3 := hid hT3
  clear hT1 hT2 hT3
  have t1 := top_text HT1.out
  have t2 := top_uint HT2.out
  have t3 := top_uint HT3.out
  have hnm := t1.1
  have HPOS : Hid (e3 = 0 → 0 < b.size) := fun h => (t1.2 (t2.2 (t3.2 h))).2
  have hn64 : (n0 : Int) ≤ 18446744073709551615 := by have := t3.1; omega
  have HN64 := hid t3.1
  clear t1 t2 t3
  go_wp2_with fail
  refine (m1.out _ R0).mono ?_; rintro e w3 ⟨rfl, u3, R1, hj1⟩
  simp only at R1 hj1
  have hZ3 := hZ1.upd u3 hzg
  have HL3 := hid (Upd.below hL1 u3 (Nat.le_of_lt hzl) hL1.size)
  clear hZ1 hL1 u3 m1 R0
  dsimp only
  go_wp2_with fail
  refine (m2.out _ R1 hj1).mono ?_; rintro e w4 ⟨rfl, u4, R2, hj2⟩
  simp only at R2 hj2
  have hZ4 := hZ3.upd u4 hzg
  have HL4 := hid (Upd.below HL3.out u4 (Nat.le_of_lt hzl) HL3.out.size)
  clear hZ3 HL3 u4 m2 R1 hj1
  dsimp only
  go_wp2_with (with_reducible refine min_u64 _ rfl (.tmp 13) (.const (.int .u64 9)) _ rfl kn 9 9 rfl rfl rfl ?_; intro p hp9 hp)
  -- the schema that is made
  have hR0 : Hid (Sc.ReadSt b nm (p : Int) [] n0 j3 e3) := by
    have := Sc.ReadSt.start (g := fun m => min m 9) (g' := fun m => m) (fun m hm => Nat.min_eq_left (by omega)) (fun m _ => rfl) HT1.out HT2.out HT3.out
    rw [hp.out]; exact this
  have hS5 := BS.new w4 nm (.slice none 0 0) (p : Int)
  have hba4 := hba w4 (.cells #[.string nm, .slice none 0 0, .int .i64 (p : Int)] 24)
  have R3 := R2.keep hba4
  have hZ5 := hZ4.keep hba4
  have HL5 := hid (hnext HL4.out hba4)
  have hsg : g < w4.heap.size := R2.cells.2.2.2.2.2
  have hsz : w.heap.size < w4.heap.size := hZ4.cells.2.2.2
  obtain ⟨sb, hsb⟩ : ∃ sb, w4.heap.size = sb := ⟨_, rfl⟩
  rw [hsb] at hS5 hsg hsz
  rw [hsb]
  generalize w4.alloc (.cells #[.string nm, .slice none 0 0, .int .i64 (p : Int)] 24) = w5 at *
  have hsl : sb < w5.heap.size := hS5.cells.2.2.2
  have hgs : g ≠ sb := Nat.ne_of_lt hsg
  have hsgn : sb ≠ g := fun h => hgs h.symm
  have hzs : w.heap.size ≠ sb := Nat.ne_of_lt hsz
  have hszn : sb ≠ w.heap.size := fun h => hzs h.symm
  clear hba4 hZ4 HL4 R2 hsb HT1 HT2 HT3 hp
  refine (m3.out _ R3 hj2).mono ?_; rintro e w6 ⟨rfl, u6, R4, hj3⟩
  simp only at R4 hj3
  have hZ6 := hZ5.upd u6 hzg
  have hS6 := hS5.upd u6 hsgn
  have HL6 := hid (Upd.below HL5.out u6 (Nat.le_of_lt hzl) HL5.out.size)
  have hsl6 : sb < w6.heap.size := hS6.cells.2.2.2
  clear hZ5 HL5 u6 m3 R3 hS5 hsl hj2
  dsimp only
  go_wp2_with fail
  go_loopw [6] (fun q wr => ∃ (cols : List Sc.C) (n j : Nat) (er : Int) (v : Value), q = .int .u64 (n : Int) ∧ n < 18446744073709551616 ∧ Hid (Sc.ReadSt b nm (p : Int) cols n j er) ∧ (cols.length ≤ 17 ∧ ∀ c ∈ cols, c.name.size ≤ 1000000) ∧
      Rdr wr g b j er ∧ j ≤ b.size ∧ BS wr sb nm v (p : Int) ∧ wr.ownsRow (sb + 1) 49 3 v cols.length (ccells cols) ∧ BS wr w.heap.size ⟨#[]⟩ (.slice none 0 0) 0 ∧ Hid (Below w.heap.size w wr) ∧ Hid (er = 0 → 0 < b.size)) (fun q _ => (intOf q).toNat)
  case atStart => exact ⟨[], n0, j3, e3, _, rfl, HN64.out, hR0, ⟨by simp, fun c hc => absurd hc List.not_mem_nil⟩, R4, hj3, hS6, World.ownsRow_nil _ _ _ _, hZ6, HL6, HPOS⟩
  case round =>
    obtain ⟨cols, n, j, er, v, rfl, hn, hst, ⟨hcl, hcs⟩, hr, hj, hS, hO, hZ, hL, hpos⟩ := hrel
    clear R4 hS6 hZ6 HL6 HPOS hR0 hj3 hsl6
    obtain ⟨w7, rfl⟩ : ∃ w7 : World, w7 = wr := ⟨_, rfl⟩
    have hn0 : (0 : Int) ≤ (n : Int) := by omega
    have hn1 : (n : Int) ≤ 18446744073709551615 := by omega
    obtain ⟨s0, s1, s2, sl⟩ := hS.cells
    have f1 := frozen_of_row w7 sb 1 _ _ hS
    have HO := hid hO
    have HCS := hid hcs
    clear hO hcs
    obtain ⟨adr, cap, rfl, hcc1, hcc2⟩ : ∃ adr cap, v = .slice adr cols.length cap ∧ cols.length ≤ cap ∧ cap ≤ maxLen := by
      obtain ⟨adr, cap, e, h1, h2, _⟩ := CsAt.own HO.out
      exact ⟨adr, cap, e, h1, h2⟩
    have herr := hid (err_any g b j er w7 hr)
    by_cases hgo : 0 < n ∧ er = 0 ∧ cols.length ≤ 16
    · obtain ⟨hg1, rfl, hg3⟩ := hgo
      have hg1' : (0 : Int) < (n : Int) := by omega
      have hg3' : (cols.length : Int) ≤ 16 := by omega
      clear hn
      obtain ⟨⟨cn, i1, a1⟩, hT1⟩ : ∃ t, Cd.top ⟨#[]⟩ (Cd.textR b 1000000) j 0 = t := ⟨_, rfl⟩
      obtain ⟨⟨kd, i2, a2⟩, hT2⟩ : ∃ t, Cd.top 0 (Cd.uintR b.data.toList) i1 a1 = t := ⟨_, rfl⟩
      obtain ⟨⟨nd, i3, a3⟩, hT3⟩ : ∃ t, Cd.top 0 (Cd.uintR b.data.toList) i2 a2 = t := ⟨_, rfl⟩
      have m1 := hid (mText g b j 0 w7 hr hj hs9)
      rw [hT1] at m1
      have m2 := hid (fun W h hj => mUint g b i1 a1 W h hj hs9)
      rw [hT2] at m2
      have m3 := hid (fun W h hj => mUint g b i2 a2 W h hj hs9)
      rw [hT3] at m3
      have HNX := hid (hst.out.next hg1 (g := fun m => min m 6) (fun m hm => Nat.min_eq_left (by omega)) (d := fun m => decide (0 < m)) rfl rfl hT1 hT2 hT3)
      have hcn := (top_text hT1).1
      have HP3 : Hid (a3 = 0 → 0 < b.size) := fun _ => hpos.out rfl
      clear hT1 hT2 hT3 hst hpos
      go_wp2_with fail
      refine (herr.out).mono ?_; rintro e w8 ⟨rfl, rfl⟩
      go_wp2_with fail
      refine (m1.out).mono ?_; rintro e w9 ⟨rfl, u9, r9, hi1⟩
      simp only at r9 hi1
      have S9 := hS.upd u9 hsgn
      have Z9 := hZ.upd u9 hzg
      have O9 := hid (own_upd HO.out u9 (by omega))
      have L9 := hid (Upd.below hL.out u9 (Nat.le_of_lt hzl) hL.out.size)
      clear u9 hr hS hZ HO hL m1 s0 s1 s2 sl f1 herr
      dsimp only
      go_wp2_with fail
      refine (m2.out _ r9 hi1).mono ?_; rintro e wA ⟨rfl, uA, rA, hi2⟩
      simp only at rA hi2
      have SA := S9.upd uA hsgn
      have ZA := Z9.upd uA hzg
      have OA := hid (own_upd O9.out uA (by omega))
      have LA := hid (Upd.below L9.out uA (Nat.le_of_lt hzl) L9.out.size)
      clear uA r9 S9 Z9 O9 L9 m2 hi1
      dsimp only
      go_wp2_with (with_reducible refine min_u64 _ rfl (.tmp 37) (.const (.int .u64 6)) _ rfl kd 6 6 rfl rfl rfl ?_; intro pk hpk6 hpk)
      have hC := BC.new wA ⟨cn, (pk : Int), false⟩
      simp only at hC
      have hbaA := hba wA (.cells #[.string cn, .int .i64 (pk : Int), .bool false] 49)
      have rB := rA.keep hbaA
      have SB := SA.keep hbaA
      have ZB := ZA.keep hbaA
      have OB := hid (OA.out.alloc (.cells #[.string cn, .int .i64 (pk : Int), .bool false] 49))
      have LB := hid (hnext LA.out hbaA)
      have hcg : g < wA.heap.size := rA.cells.2.2.2.2.2
      have hcs : sb < wA.heap.size := SA.cells.2.2.2
      obtain ⟨cb, hcb⟩ : ∃ cb, wA.heap.size = cb := ⟨_, rfl⟩
      have HOL : Hid (∀ q, (Value.slice adr cols.length cap).ownBlock = some q → q < cb) := fun q hq => by rw [← hcb]; exact (OA.out.lt q hq).2
      rw [hcb] at hC hcg hcs
      rw [hcb]
      generalize wA.alloc (.cells #[.string cn, .int .i64 (pk : Int), .bool false] 49) = wB at *
      have hcgn : cb ≠ g := fun h => by omega
      have hcsn : cb ≠ sb := fun h => by omega
      have hczn : cb ≠ w.heap.size := fun h => by omega
      have hscn : sb ≠ cb := fun h => by omega
      clear hbaA rA SA ZA OA LA hcb
      refine (m3.out _ rB hi2).mono ?_; rintro e wC ⟨rfl, uC, rC, hi3⟩
      simp only at rC hi3
      have SC := SB.upd uC hsgn
      have ZC := ZB.upd uC hzg
      have CC := hC.upd uC hcgn
      have OC := hid (own_upd OB.out uC (by omega))
      have LC := hid (Upd.below LB.out uC (Nat.le_of_lt hzl) LB.out.size)
      clear uC rB SB ZB OB LB m3 hi2 hC
      dsimp only
      obtain ⟨d, hd⟩ : ∃ d, decide (0 < nd) = d := ⟨_, rfl⟩
      have hd2 : decide ((0 : Int) < (nd : Int)) = d := by rw [← hd]; congr 1; exact propext (by omega)
      rw [hd] at HNX
      have hC9 := CC.cells
      obtain ⟨c0, c1, c2, cl⟩ := CC.cells
      have fc := frozen_of_row wC cb 2 _ _ CC
      have SD := SC.setO (o := 2) (u := .bool d) hcsn
      have ZD := ZC.setO (o := 2) (u := .bool d) hczn
      have rD := rC.setO (o := 2) (.bool d) hcgn
      have OD := hid (OC.out.kept (row := some cb) (Upd.set cb 2 wC (.bool d)) (.inr (fun e => by have := HOL.out cb e; omega)))
      have LD := hid (LC.out.setCell (p := ⟨cb, 2, none⟩) (by show w.heap.size ≤ cb; omega) (.bool d))
      have hsl : sb + 1 ≤ (wC.setCell ⟨cb, 2, none⟩ (.bool d)).heap.size := SD.cells.2.2.2
      have HSL := hid hsl
      have HSD := hid SD
      have HZD := hid ZD
      have HRD := hid rD
      have HGS : Hid (g < sb + 1) := by show _ < _; omega
      have HZS : Hid (w.heap.size < sb + 1) := by show _ < _; omega
      obtain ⟨s0, s1, s2, sl⟩ := SC.cells
      clear hC9 SC ZC rC OC LC hsl SD ZD rD hcc1 hcc2
      go_wp2_with (at_builtin; refine append_col _ rfl _ _ rfl (sb + 1) _ cols rfl OD.out cn (pk : Int) d _ (by first | rfl | (simp; done)) rfl (by omega) HSL.out ?_; intro v6 w6 hown6 hgrow6; have hO6 := hid hown6; have hS6 := HSD.out.grown hgrow6 (fun e => by have := (OD.out.lt sb e.symm).1; omega); have hZ6 := hid (HZD.out.grown hgrow6 (fun e => by have := (OD.out.lt _ e.symm).1; have := HZS.out; omega)); have hr6 := hid (HRD.out.grown hgrow6 (fun e => by have := (OD.out.lt g e.symm).1; have := HGS.out; omega)); have hL6 := hid (LD.out.grown hgrow6 LD.out.size (fun q hq => by have := (OD.out.lt q hq).1; have := HZS.out; omega)); clear hown6 hgrow6; obtain ⟨adr6, cap6, rfl⟩ := (CsAt.own hO6.out).slc' (m := cols.length + 1) (by simp); obtain ⟨x0, x1, x2, xl⟩ := hS6.cells; have fx := frozen_of_row w6 sb 1 _ _ hS6)
      go_roundw
      case rel =>
        refine ⟨cols ++ [⟨cn, (pk : Int), d⟩], n - 1, i3, a3, _, int_eq (by omega), by omega, ?_, ⟨by simp; omega, ?_⟩, hr6.out.setO (o := 1) _ (fun h => hgs h.symm), hi3, hS6.setV _, own_upd' hO6.out (Upd.set sb 1 w6 _) (Nat.lt_succ_self _), hZ6.out.setO (o := 1) hszn, hL6.out.setCell (p := ⟨sb, 1, none⟩) (Nat.le_of_lt hsz) _, HP3⟩
        · show Sc.ReadSt _ _ _ _ _ _ _
          rw [hpk.out]
          exact HNX.out
        · intro c hc
          rcases List.mem_append.1 hc with hc | hc
          · exact HCS.out c hc
          · rw [List.mem_singleton.1 hc]; exact hcn
      case measure => simp [intOf]; omega
    · by_cases hn2 : n = 0
      · subst hn2
        by_cases he : er = 0
        · subst he
          have HSTOP : Hid (∀ t, Sc.right t = true → b = bstr (Sc.encode t) → (⟨nm, cols, (p : Int)⟩ : Sc.S) = t) := fun t ht hb => (hst.out.stop (.inl rfl) t ht hb).1
          clear hgo
          go_wp2_with fail
          refine (herr.out).mono ?_; rintro e w8 ⟨rfl, rfl⟩
          have henc := hid (encode_any ⟨nm, cols, (p : Int)⟩ (.slice adr cols.length cap) w7 (CsAt.own HO.out) ⟨by show nm.size ≤ maxLen; unfold maxLen; omega, fun c hc => by have := HCS.out c hc; unfold maxLen; omega⟩)
          unfold sv at henc
          go_wp2_with fail
          refine (henc.out).mono ?_; rintro e w9 ⟨rfl, hb9⟩
          have hZ9 := hZ.keep hb9
          have hS9 := hS.keep hb9
          have O9 := hid (HO.out.kept (row := none) ⟨hb9.os, hb9.tape, hb9.output, hb9.size, fun i hi _ => hb9.block i hi⟩ (by cases adr <;> simp [Value.ownBlock]))
          have L9 := hid (hnext hL.out hb9)
          clear hb9 hZ hS HO hL s0 s1 s2 sl f1 henc herr hr
          obtain ⟨s0, s1, s2, sl⟩ := hS9.cells
          obtain ⟨z0, z1, z2, zl⟩ := hZ9.cells
          have y0 := frozen_of_row w9 w.heap.size 0 _ _ hZ9
          have y1 := frozen_of_row w9 w.heap.size 1 _ _ hZ9
          have y2 := frozen_of_row w9 w.heap.size 2 _ _ hZ9
          by_cases heq : bstr (Sc.encode ⟨nm, cols, (p : Int)⟩) = b
          · have hq : ((bstr (Sc.encode ⟨nm, cols, (p : Int)⟩)).toList == b.toList) = true := by rw [bytes_beq]; exact decide_eq_true heq
            have HR : Hid (Sc.right ⟨nm, cols, (p : Int)⟩ = true) := by
              show _ = _
              cases hr : Sc.right ⟨nm, cols, (p : Int)⟩ with
              | true => rfl
              | false =>
                rw [Sc.encode_no hr] at heq
                have := hpos.out (by simp)
                rw [← heq] at this
                exact absurd this (by decide)
            have HEQ := hid heq.symm
            clear heq hpos hst
            obtain ⟨E, hE⟩ : ∃ E, bstr (Sc.encode ⟨nm, cols, (p : Int)⟩) = E := ⟨_, rfl⟩
            rw [hE] at hq ⊢
            have HE := hid hE
            clear hE
            go_wp2_with fail
            have hLF := ((L9.out.setCell (p := ⟨w.heap.size, 0, none⟩) (Nat.le_refl _) (.string nm)).setCell (p := ⟨w.heap.size, 1, none⟩) (Nat.le_refl _) (.slice adr cols.length cap)).setCell (p := ⟨w.heap.size, 2, none⟩) (Nat.le_refl _) (.int .i64 (p : Int))
            have hOF := own_upd (own_upd (own_upd O9.out (Upd.set w.heap.size 0 _ (.string nm)) (by omega)) (Upd.set w.heap.size 1 _ (.slice adr cols.length cap)) (by omega)) (Upd.set w.heap.size 2 _ (.int .i64 (p : Int))) (by omega)
            exact bodyPost_ret (v := .tuple #[.agg #[.string nm, .slice adr cols.length cap, .int .i64 (p : Int)], .int .i64 0]) (by simp [results, Try.results28, go_sem, z0, z1, z2]) rfl
              ⟨⟨nm, cols, (p : Int)⟩, _, 0, rfl, CsAt.own hOF, ⟨by show nm.size ≤ maxLen; unfold maxLen; omega, fun c hc => by have := HCS.out c hc; unfold maxLen; omega⟩, hLF, .inl ⟨rfl, HR.out, HEQ.out⟩⟩
          · have hq : ((bstr (Sc.encode ⟨nm, cols, (p : Int)⟩)).toList == b.toList) = false := by rw [bytes_beq]; exact decide_eq_false heq
            have HNO : Hid (∀ t, Sc.right t = true → b ≠ bstr (Sc.encode t)) := fun t ht hb => heq (by rw [HSTOP.out t ht hb]; exact hb.symm)
            clear heq hpos hst HSTOP
            obtain ⟨E, hE⟩ : ∃ E, bstr (Sc.encode ⟨nm, cols, (p : Int)⟩) = E := ⟨_, rfl⟩
            rw [hE] at hq ⊢
            have HE := hid hE
            clear hE
            go_wp2_with fail
            have hLF := ((L9.out.setCell (p := ⟨w.heap.size, 0, none⟩) (Nat.le_refl _) (.string ⟨#[]⟩)).setCell (p := ⟨w.heap.size, 1, none⟩) (Nat.le_refl _) (.slice none 0 0)).setCell (p := ⟨w.heap.size, 2, none⟩) (Nat.le_refl _) (.int .i64 0)
            exact bodyPost_ret (v := .tuple #[.agg #[.string ⟨#[]⟩, .slice none 0 0, .int .i64 0], .int .i64 7]) (by simp [results, Try.results28, go_sem, z0, z1, z2]) rfl
              ⟨⟨⟨#[]⟩, [], 0⟩, _, 7, rfl, CsAt.nil _, ⟨by decide, fun c hc => absurd hc List.not_mem_nil⟩, hLF, .inr ⟨rfl, rfl, HNO.out⟩⟩
        · skip
          have HNO : Hid (∀ t, Sc.right t = true → b ≠ bstr (Sc.encode t)) := fun t ht hb => he ((hst.out.stop (.inr (.inl he)) t ht hb).2)
          have heq : (er == 0) = false := beq_eq_false_iff_ne.2 he
          have hne : (er != 0) = true := by rw [bne_iff_ne]; exact he
          clear hst hpos he hgo
          go_wp2_with fail
          refine (herr.out).mono ?_; rintro e w8 ⟨rfl, rfl⟩
          obtain ⟨z0, z1, z2, zl⟩ := hZ.cells
          have y0 := frozen_of_row w7 w.heap.size 0 _ _ hZ
          have y1 := frozen_of_row w7 w.heap.size 1 _ _ hZ
          have y2 := frozen_of_row w7 w.heap.size 2 _ _ hZ
          go_wp2_with fail
          have hLF := ((hL.out.setCell (p := ⟨w.heap.size, 0, none⟩) (Nat.le_refl _) (.string ⟨#[]⟩)).setCell (p := ⟨w.heap.size, 1, none⟩) (Nat.le_refl _) (.slice none 0 0)).setCell (p := ⟨w.heap.size, 2, none⟩) (Nat.le_refl _) (.int .i64 0)
          exact bodyPost_ret (v := .tuple #[.agg #[.string ⟨#[]⟩, .slice none 0 0, .int .i64 0], .int .i64 7]) (by simp [results, Try.results28, go_sem, z0, z1, z2]) rfl
            ⟨⟨⟨#[]⟩, [], 0⟩, _, 7, rfl, CsAt.nil _, ⟨by decide, fun c hc => absurd hc List.not_mem_nil⟩, hLF, .inr ⟨rfl, rfl, HNO.out⟩⟩
      · have hn3 : (0 : Int) < (n : Int) := by omega
        by_cases he : er = 0
        · subst he
          have hlen : 16 < cols.length := by
            by_cases h16 : cols.length ≤ 16
            · exact absurd ⟨by omega, rfl, h16⟩ hgo
            · omega
          have hlen' : (16 : Int) < (cols.length : Int) := by omega
          have HSTOP : Hid (∀ t, Sc.right t = true → b = bstr (Sc.encode t) → (⟨nm, cols, (p : Int)⟩ : Sc.S) = t) := fun t ht hb => (hst.out.stop (.inr (.inr hlen)) t ht hb).1
          clear hgo hn2
          go_wp2_with fail
          refine (herr.out).mono ?_; rintro e w7b ⟨rfl, rfl⟩
          go_wp2_with fail
          refine (herr.out).mono ?_; rintro e w8 ⟨rfl, rfl⟩
          have henc := hid (encode_any ⟨nm, cols, (p : Int)⟩ (.slice adr cols.length cap) w7 (CsAt.own HO.out) ⟨by show nm.size ≤ maxLen; unfold maxLen; omega, fun c hc => by have := HCS.out c hc; unfold maxLen; omega⟩)
          unfold sv at henc
          go_wp2_with fail
          refine (henc.out).mono ?_; rintro e w9 ⟨rfl, hb9⟩
          have hZ9 := hZ.keep hb9
          have hS9 := hS.keep hb9
          have O9 := hid (HO.out.kept (row := none) ⟨hb9.os, hb9.tape, hb9.output, hb9.size, fun i hi _ => hb9.block i hi⟩ (by cases adr <;> simp [Value.ownBlock]))
          have L9 := hid (hnext hL.out hb9)
          clear hb9 hZ hS HO hL s0 s1 s2 sl f1 henc herr hr
          obtain ⟨s0, s1, s2, sl⟩ := hS9.cells
          obtain ⟨z0, z1, z2, zl⟩ := hZ9.cells
          have y0 := frozen_of_row w9 w.heap.size 0 _ _ hZ9
          have y1 := frozen_of_row w9 w.heap.size 1 _ _ hZ9
          have y2 := frozen_of_row w9 w.heap.size 2 _ _ hZ9
          by_cases heq : bstr (Sc.encode ⟨nm, cols, (p : Int)⟩) = b
          · have hq : ((bstr (Sc.encode ⟨nm, cols, (p : Int)⟩)).toList == b.toList) = true := by rw [bytes_beq]; exact decide_eq_true heq
            have HR : Hid (Sc.right ⟨nm, cols, (p : Int)⟩ = true) := by
              show _ = _
              cases hr : Sc.right ⟨nm, cols, (p : Int)⟩ with
              | true => rfl
              | false =>
                rw [Sc.encode_no hr] at heq
                have := hpos.out (by simp)
                rw [← heq] at this
                exact absurd this (by decide)
            have HEQ := hid heq.symm
            clear heq hpos hst
            obtain ⟨E, hE⟩ : ∃ E, bstr (Sc.encode ⟨nm, cols, (p : Int)⟩) = E := ⟨_, rfl⟩
            rw [hE] at hq ⊢
            have HE := hid hE
            clear hE
            go_wp2_with fail
            have hLF := ((L9.out.setCell (p := ⟨w.heap.size, 0, none⟩) (Nat.le_refl _) (.string nm)).setCell (p := ⟨w.heap.size, 1, none⟩) (Nat.le_refl _) (.slice adr cols.length cap)).setCell (p := ⟨w.heap.size, 2, none⟩) (Nat.le_refl _) (.int .i64 (p : Int))
            have hOF := own_upd (own_upd (own_upd O9.out (Upd.set w.heap.size 0 _ (.string nm)) (by omega)) (Upd.set w.heap.size 1 _ (.slice adr cols.length cap)) (by omega)) (Upd.set w.heap.size 2 _ (.int .i64 (p : Int))) (by omega)
            exact bodyPost_ret (v := .tuple #[.agg #[.string nm, .slice adr cols.length cap, .int .i64 (p : Int)], .int .i64 0]) (by simp [results, Try.results28, go_sem, z0, z1, z2]) rfl
              ⟨⟨nm, cols, (p : Int)⟩, _, 0, rfl, CsAt.own hOF, ⟨by show nm.size ≤ maxLen; unfold maxLen; omega, fun c hc => by have := HCS.out c hc; unfold maxLen; omega⟩, hLF, .inl ⟨rfl, HR.out, HEQ.out⟩⟩
          · have hq : ((bstr (Sc.encode ⟨nm, cols, (p : Int)⟩)).toList == b.toList) = false := by rw [bytes_beq]; exact decide_eq_false heq
            have HNO : Hid (∀ t, Sc.right t = true → b ≠ bstr (Sc.encode t)) := fun t ht hb => heq (by rw [HSTOP.out t ht hb]; exact hb.symm)
            clear heq hpos hst HSTOP
            obtain ⟨E, hE⟩ : ∃ E, bstr (Sc.encode ⟨nm, cols, (p : Int)⟩) = E := ⟨_, rfl⟩
            rw [hE] at hq ⊢
            have HE := hid hE
            clear hE
            go_wp2_with fail
            have hLF := ((L9.out.setCell (p := ⟨w.heap.size, 0, none⟩) (Nat.le_refl _) (.string ⟨#[]⟩)).setCell (p := ⟨w.heap.size, 1, none⟩) (Nat.le_refl _) (.slice none 0 0)).setCell (p := ⟨w.heap.size, 2, none⟩) (Nat.le_refl _) (.int .i64 0)
            exact bodyPost_ret (v := .tuple #[.agg #[.string ⟨#[]⟩, .slice none 0 0, .int .i64 0], .int .i64 7]) (by simp [results, Try.results28, go_sem, z0, z1, z2]) rfl
              ⟨⟨⟨#[]⟩, [], 0⟩, _, 7, rfl, CsAt.nil _, ⟨by decide, fun c hc => absurd hc List.not_mem_nil⟩, hLF, .inr ⟨rfl, rfl, HNO.out⟩⟩
        · skip
          have HNO : Hid (∀ t, Sc.right t = true → b ≠ bstr (Sc.encode t)) := fun t ht hb => he ((hst.out.stop (.inr (.inl he)) t ht hb).2)
          have heq : (er == 0) = false := beq_eq_false_iff_ne.2 he
          have hne : (er != 0) = true := by rw [bne_iff_ne]; exact he
          clear hst hpos he hgo
          clear hn2
          go_wp2_with fail
          refine (herr.out).mono ?_; rintro e w7b ⟨rfl, rfl⟩
          go_wp2_with fail
          refine (herr.out).mono ?_; rintro e w8 ⟨rfl, rfl⟩
          obtain ⟨z0, z1, z2, zl⟩ := hZ.cells
          have y0 := frozen_of_row w7 w.heap.size 0 _ _ hZ
          have y1 := frozen_of_row w7 w.heap.size 1 _ _ hZ
          have y2 := frozen_of_row w7 w.heap.size 2 _ _ hZ
          go_wp2_with fail
          have hLF := ((hL.out.setCell (p := ⟨w.heap.size, 0, none⟩) (Nat.le_refl _) (.string ⟨#[]⟩)).setCell (p := ⟨w.heap.size, 1, none⟩) (Nat.le_refl _) (.slice none 0 0)).setCell (p := ⟨w.heap.size, 2, none⟩) (Nat.le_refl _) (.int .i64 0)
          exact bodyPost_ret (v := .tuple #[.agg #[.string ⟨#[]⟩, .slice none 0 0, .int .i64 0], .int .i64 7]) (by simp [results, Try.results28, go_sem, z0, z1, z2]) rfl
            ⟨⟨⟨#[]⟩, [], 0⟩, _, 7, rfl, CsAt.nil _, ⟨by decide, fun c hc => absurd hc List.not_mem_nil⟩, hLF, .inr ⟨rfl, rfl, HNO.out⟩⟩
end Go.Proofs.Ytmgafcblbbbanaa
