/-
  Read and Decode of the reference of schema: their contracts. Condition: the text has at most 1000000 bytes.
-/
import Derived.Test.YtmgafcblbbbanaaScX
import Derived.Test.YtmgafcblbbbanaaRx4
namespace Go.Proofs.Ytmgafcblbbbanaa
open Go.RowKit

theorem small_any (n : Nat) (w : World) : Calls Try.prog 52 #[.int .u64 (n : Int)] w fun e w' => ∃ p : Nat, e = .returned (.int .i64 (p : Int)) ∧ p ≤ 1000 ∧ Hid (p = min n 1000) ∧ w = w' := by
  by_cases h : 1000 < n
  · have h' : (1000 : Int) < (n : Int) := by omega
    go_enter Try.func52, Try.ntmps52
    go_wp2
    go_ret
    exact ⟨1000, rfl, Nat.le_refl _, by show _ = _; omega, rfl⟩
  · have h' : ¬ (1000 : Int) < (n : Int) := by omega
    have h0 : (0 : Int) ≤ (n : Int) := by omega
    go_enter Try.func52, Try.ntmps52
    go_wp2
    go_ret
    exact ⟨n, rfl, by omega, by show _ = _; omega, rfl⟩
theorem Rfx.grown {w w' : World} {g : Nat} {r : Option Nat} {s : ByteArray} {i : Nat} {e : Int} (h : Rfx w g s i e) (hg : w.grownBy w' r) (hne : some g ≠ r) : Rfx w' g s i e := by
  show w'.heap[g]? = _
  rw [hg.block g h.cells.2.2.2.2.2 hne]; exact h
theorem BS.setK {w : World} {g : Nat} {n : ByteArray} {v : Value} {k : Int} (h : BS w g n v k) (u : Int) : BS (w.setCell ⟨g, 2, none⟩ (.int .i64 u)) g n v u := heap_setCell_same w g 2 _ _ (.int .i64 u) h
theorem BC.setK {w : World} {g : Nat} {n : ByteArray} {k : Int} {d : Bool} (h : BC w g ⟨n, k, d⟩) (u : Int) : BC (w.setCell ⟨g, 1, none⟩ (.int .i64 u)) g ⟨n, u, d⟩ := heap_setCell_same w g 1 _ _ (.int .i64 u) h
theorem Upd.setNew {g r o : Nat} {w w' : World} (h : Upd g w w') (v : Value) (hr : w.heap.size ≤ r) : Upd g w (w'.setCell ⟨r, o, none⟩ v) := by
  have hb2 : Below r w' (w'.setCell ⟨r, o, none⟩ v) := (Below.refl r w').setCell (p := ⟨r, o, none⟩) (Nat.le_refl _) v
  exact ⟨hb2.os.trans h.os, hb2.tape.trans h.tape, hb2.output.trans h.output, Nat.le_trans h.size hb2.size, fun i hi hn => by
    rw [heap_setCell_other w' ⟨r, o, none⟩ i v (by simp; omega)]; exact h.block i hi hn⟩
theorem upd_grown {g : Nat} {w a b : World} {r : Option Nat} (h : Upd g w a) (hg : a.grownBy b r) (hr : ∀ q, r = some q → w.heap.size ≤ q) : Upd g w b :=
  ⟨hg.os.trans h.os, hg.tape.trans h.tape, hg.output.trans h.output, Nat.le_trans h.size hg.size, fun i hi hn => (hg.block i (Nat.lt_of_lt_of_le hi h.size) (fun e => by have := hr i e.symm; omega)).trans (h.block i hi hn)⟩
/-- what Read leaves -/
def ReadP (b : ByteArray) (g : Nat) (w : World) (e : Ending) (w' : World) : Prop :=
  ∃ (s : Sc.S) (v : Value), e = .returned (sv s v) ∧ w'.ownsRow w.heap.size 49 3 v s.cols.length (ccells s.cols) ∧ Sok s ∧ Upd g w w' ∧ ∀ t, Sc.right t = true → b = bstr (Sc.encode t) → s = t

set_option maxRecDepth 100000 in
set_option maxHeartbeats 12800000 in
theorem read_any (b : ByteArray) (hb : b.size ≤ 1000000) (g : Nat) (w : World) (hr0 : Rfx w g b 0 0) : Calls Try.prog 41 #[.pointer (some ⟨g, 0, none⟩)] w (ReadP b g w) := by
  have hs9 : b.size ≤ 1000000000 := by omega
  have hgw : g < w.heap.size := hr0.cells.2.2.2.2.2
  have hzg : w.heap.size ≠ g := by omega
  go_enter Try.func41, Try.ntmps41
  go_wp2_with fail
  have hZ1 := BS.new w ⟨#[]⟩ (.slice none 0 0) 0
  have hba0 := hba w (.cells #[.string ⟨#[]⟩, .slice none 0 0, .int .i64 0] 24)
  have R0 := hr0.keep hba0
  have HL1 := hid (Upd.of (g := g) hba0)
  obtain ⟨w1, hw1⟩ : ∃ w1, w.alloc (.cells #[.string ⟨#[]⟩, .slice none 0 0, .int .i64 0] 24) = w1 := ⟨_, rfl⟩
  rw [hw1] at hZ1 R0 HL1 ⊢
  clear hw1 hba0
  obtain ⟨⟨nm, j1, e1⟩, hT1⟩ : ∃ t, Cd.top ⟨#[]⟩ (Cd.textR b 1000000) 0 0 = t := ⟨_, rfl⟩
  obtain ⟨⟨kn, j2, e2⟩, hT2⟩ : ∃ t, Cd.top 0 (Cd.uintR b.data.toList) j1 e1 = t := ⟨_, rfl⟩
  obtain ⟨⟨n0, j3, e3⟩, hT3⟩ : ∃ t, Cd.top 0 (Cd.uintR b.data.toList) j2 e2 = t := ⟨_, rfl⟩
  have m1 := hid (fun W h => mTextX g b 0 0 W h (Nat.zero_le _) hs9)
  rw [hT1] at m1
  have m2 := hid (fun W h hj => mUintX g b j1 e1 W h hj hs9)
  rw [hT2] at m2
  have m3 := hid (fun W h hj => mUintX g b j2 e2 W h hj hs9)
  rw [hT3] at m3
  have HT1 := hid hT1
  have HT2 := hid hT2
  have HT3 := hid hT3
  clear hT1 hT2 hT3
  have hnm := (top_text HT1.out).1
  refine (m1.out _ R0).mono ?_; rintro e w3 ⟨rfl, u3, R1, hj1⟩
  simp only at R1 hj1
  have hZ3 := hZ1.upd u3 hzg
  have HL3 := hid (HL1.out.trans u3)
  clear hZ1 HL1 u3 m1 R0
  dsimp only
  go_wp2_with fail
  have hS5 := BS.new w3 nm (.slice none 0 0) 0
  have hba4 := hba w3 (.cells #[.string nm, .slice none 0 0, .int .i64 0] 24)
  have R3 := R1.keep hba4
  have hZ5 := hZ3.keep hba4
  have HL5 := hid (HL3.out.trans (Upd.of hba4))
  have hsg : g < w3.heap.size := R1.cells.2.2.2.2.2
  have hsz : w.heap.size < w3.heap.size := hZ3.cells.2.2.2
  obtain ⟨sb, hsb⟩ : ∃ sb, w3.heap.size = sb := ⟨_, rfl⟩
  rw [hsb] at hS5 hsg hsz
  rw [hsb]
  generalize w3.alloc (.cells #[.string nm, .slice none 0 0, .int .i64 0] 24) = w5 at *
  have hgs : g ≠ sb := Nat.ne_of_lt hsg
  have hsgn : sb ≠ g := fun h => hgs h.symm
  have hzs : w.heap.size ≠ sb := Nat.ne_of_lt hsz
  have hszn : sb ≠ w.heap.size := fun h => hzs h.symm
  clear hba4 hZ3 HL3 R1 hsb
  refine (m2.out _ R3 hj1).mono ?_; rintro e w6 ⟨rfl, u6, R4, hj2⟩
  simp only at R4 hj2
  have hZ6 := hZ5.upd u6 hzg
  have hS6 := hS5.upd u6 hsgn
  have HL6 := hid (HL5.out.trans u6)
  clear hZ5 HL5 u6 m2 R3 hS5 hj1
  dsimp only
  go_wp2_with fail
  refine (small_any kn _).mono ?_; rintro e w6b ⟨p, rfl, hp1, hp, rfl⟩
  obtain ⟨s0, s1, s2, sl⟩ := hS6.cells
  have f2 := frozen_of_row w6 sb 2 _ _ hS6
  go_wp2_with fail
  have R5 := R4.setO (o := 2) (.int .i64 (p : Int)) hsgn
  have hZ7 := hZ6.setO (o := 2) (u := .int .i64 (p : Int)) hszn
  have hS7 := hS6.setK (p : Int)
  have HL7 := hid (HL6.out.setNew (r := sb) (o := 2) (.int .i64 (p : Int)) (Nat.le_of_lt hsz))
  generalize w6.setCell ⟨sb, 2, none⟩ (.int .i64 (p : Int)) = w7 at *
  clear R4 hZ6 hS6 HL6 s0 s1 s2 sl f2
  refine (m3.out _ R5 hj2).mono ?_; rintro e w8 ⟨rfl, u8, R6, hj3⟩
  simp only at R6 hj3
  have hZ8 := hZ7.upd u8 hzg
  have hS8 := hS7.upd u8 hsgn
  have HL8 := hid (HL7.out.trans u8)
  clear hZ7 HL7 u8 m3 R5 hS7 hj2
  dsimp only
  go_wp2_with fail
  refine (small_any n0 _).mono ?_; rintro e w8b ⟨n, rfl, hn1, hn, rfl⟩
  have hR0 : Hid (Sc.ReadSt b nm (p : Int) [] n j3 e3) := by
    have := Sc.ReadSt.start (g := fun m => min m 1000) (g' := fun m => min m 1000) (fun m hm => Nat.min_eq_left (by omega)) (fun m hm => Nat.min_eq_left (by omega)) HT1.out HT2.out HT3.out
    rw [hp.out, hn.out]; exact this
  clear HT1 HT2 HT3 hp hn hr0
  go_wp2_with fail
  go_loopw [5] (fun q wr => ∃ (cols : List Sc.C) (k j : Nat) (er : Int) (v : Value), q = .int .i64 (k : Int) ∧ k ≤ n ∧ Hid (cols.length = k) ∧ Hid (Sc.ReadSt b nm (p : Int) cols (n - k) j er) ∧ (∀ c ∈ cols, c.name.size ≤ 1000000) ∧
      Rfx wr g b j er ∧ j ≤ b.size ∧ BS wr sb nm v (p : Int) ∧ wr.ownsRow (sb + 1) 49 3 v cols.length (ccells cols) ∧ BS wr w.heap.size ⟨#[]⟩ (.slice none 0 0) 0 ∧ Hid (Upd g w wr)) (fun q _ => n - (intOf q).toNat)
  case atStart => exact ⟨[], 0, j3, e3, _, rfl, by omega, rfl, hR0, fun c hc => absurd hc List.not_mem_nil, R6, hj3, hS8, World.ownsRow_nil _ _ _ _, hZ8, HL8⟩
  case round =>
    obtain ⟨cols, k, j, er, v, rfl, hk, hlen, hst, hcs, hr, hj, hS, hO, hZ, hL⟩ := hrel
    clear R6 hS8 hZ8 HL8 hR0 hj3
    obtain ⟨w9, rfl⟩ : ∃ w9 : World, w9 = wr := ⟨_, rfl⟩
    have hk0 : (0 : Int) ≤ (k : Int) := by omega
    obtain ⟨s0, s1, s2, sl⟩ := hS.cells
    have HO := hid hO
    have HCS := hid hcs
    clear hO hcs
    have hcl : cols.length ≤ 1000 := by have := hlen.out; omega
    obtain ⟨adr, cap, rfl⟩ := (CsAt.own HO.out).slc
    have c2 := hr.cells.2.2.1
    by_cases hgo : k < n ∧ er = 0
    · obtain ⟨hg1, rfl⟩ := hgo
      have hg1' : (k : Int) < (n : Int) := by omega
      obtain ⟨⟨cn, i1, a1⟩, hT1⟩ : ∃ t, Cd.top ⟨#[]⟩ (Cd.textR b 1000000) j 0 = t := ⟨_, rfl⟩
      obtain ⟨⟨kd, i2, a2⟩, hT2⟩ : ∃ t, Cd.top 0 (Cd.uintR b.data.toList) i1 a1 = t := ⟨_, rfl⟩
      obtain ⟨⟨nd, i3, a3⟩, hT3⟩ : ∃ t, Cd.top 0 (Cd.uintR b.data.toList) i2 a2 = t := ⟨_, rfl⟩
      have m1 := hid (mTextX g b j 0 w9 hr hj hs9)
      rw [hT1] at m1
      have m2 := hid (fun W h hj => mUintX g b i1 a1 W h hj hs9)
      rw [hT2] at m2
      have m3 := hid (fun W h hj => mUintX g b i2 a2 W h hj hs9)
      rw [hT3] at m3
      have HNX := hid (hst.out.next (by omega) (g := fun m => min m 1000) (fun m hm => Nat.min_eq_left (by omega)) (d := fun m => decide (m = 1)) rfl rfl hT1 hT2 hT3)
      have hcn := (top_text hT1).1
      clear hT1 hT2 hT3 hst
      go_wp2_with fail
      refine (m1.out).mono ?_; rintro e wA ⟨rfl, uA, rA, hi1⟩
      simp only at rA hi1
      have SA := hS.upd uA hsgn
      have ZA := hZ.upd uA hzg
      have OA := hid (own_upd HO.out uA (by omega))
      have LA := hid (hL.out.trans uA)
      clear uA hr hS hZ HO hL m1 s0 s1 s2 sl c2
      dsimp only
      go_wp2_with fail
      have hC := BC.new wA ⟨cn, 0, false⟩
      simp only at hC
      have hbaA := hba wA (.cells #[.string cn, .int .i64 0, .bool false] 49)
      have rB := rA.keep hbaA
      have SB := SA.keep hbaA
      have ZB := ZA.keep hbaA
      have OB := hid (OA.out.alloc (.cells #[.string cn, .int .i64 0, .bool false] 49))
      have LB := hid (LA.out.trans (Upd.of hbaA))
      have hcg : g < wA.heap.size := rA.cells.2.2.2.2.2
      have hcs : sb < wA.heap.size := SA.cells.2.2.2
      obtain ⟨cb, hcb⟩ : ∃ cb, wA.heap.size = cb := ⟨_, rfl⟩
      have HOL : Hid (∀ q, (Value.slice adr cols.length cap).ownBlock = some q → q < cb) := fun q hq => by rw [← hcb]; exact (OA.out.lt q hq).2
      rw [hcb] at hC hcg hcs
      rw [hcb]
      generalize wA.alloc (.cells #[.string cn, .int .i64 0, .bool false] 49) = wB at *
      have hcgn : cb ≠ g := fun h => by omega
      have hcsn : cb ≠ sb := fun h => by omega
      have hczn : cb ≠ w.heap.size := fun h => by omega
      have hscn : sb ≠ cb := fun h => by omega
      have hwcb : w.heap.size ≤ cb := by omega
      clear hbaA rA SA ZA OA LA hcb
      refine (m2.out _ rB hi1).mono ?_; rintro e wC ⟨rfl, uC, rC, hi2⟩
      simp only at rC hi2
      have SC := SB.upd uC hsgn
      have ZC := ZB.upd uC hzg
      have CC := hC.upd uC hcgn
      have OC := hid (own_upd OB.out uC (by omega))
      have LC := hid (LB.out.trans uC)
      clear uC rB SB ZB OB LB m2 hi1 hC
      dsimp only
      go_wp2_with fail
      refine (small_any kd _).mono ?_; rintro e wCb ⟨pk, rfl, hpk1, hpk, rfl⟩
      obtain ⟨c0, c1, c2, cl⟩ := CC.cells
      have fc1 := frozen_of_row wC cb 1 _ _ CC
      go_wp2_with fail
      have SD := SC.setO (o := 1) (u := .int .i64 (pk : Int)) hcsn
      have ZD := ZC.setO (o := 1) (u := .int .i64 (pk : Int)) hczn
      have CD := CC.setK (pk : Int)
      have rD := rC.setO (o := 1) (.int .i64 (pk : Int)) hcgn
      have OD := hid (OC.out.kept (row := some cb) (Upd.set cb 1 wC (.int .i64 (pk : Int))) (.inr (fun e => by have := HOL.out cb e; omega)))
      have LD := hid (LC.out.setNew (r := cb) (o := 1) (.int .i64 (pk : Int)) hwcb)
      generalize wC.setCell ⟨cb, 1, none⟩ (.int .i64 (pk : Int)) = wD at *
      clear SC ZC CC rC OC LC c0 c1 c2 cl fc1
      refine (m3.out _ rD hi2).mono ?_; rintro e wE ⟨rfl, uE, rE, hi3⟩
      simp only at rE hi3
      have SE := SD.upd uE hsgn
      have ZE := ZD.upd uE hzg
      have CE := CD.upd uE hcgn
      have OE := hid (own_upd OD.out uE (by omega))
      have LE := hid (LD.out.trans uE)
      clear uE rD SD ZD OD LD m3 hi2 CD
      dsimp only
      obtain ⟨d, hd⟩ : ∃ d, decide (nd = 1) = d := ⟨_, rfl⟩
      have hd2 : ((nd : Int) == 1) = d := by rw [← hd, Bool.eq_iff_iff, beq_iff_eq, decide_eq_true_iff]; omega
      rw [hd] at HNX
      obtain ⟨c0, c1, c2, cl⟩ := CE.cells
      have fc := frozen_of_row wE cb 2 _ _ CE
      have HSD := hid (SE.setO (o := 2) (u := .bool d) hcsn)
      have HZD := hid (ZE.setO (o := 2) (u := .bool d) hczn)
      have HRD := hid (rE.setO (o := 2) (.bool d) hcgn)
      have OD := hid (OE.out.kept (row := some cb) (Upd.set cb 2 wE (.bool d)) (.inr (fun e => by have := HOL.out cb e; omega)))
      have LD := hid (LE.out.setNew (r := cb) (o := 2) (.bool d) hwcb)
      have HSL : Hid (sb + 1 ≤ (wE.setCell ⟨cb, 2, none⟩ (.bool d)).heap.size) := HSD.out.cells.2.2.2
      have HGS : Hid (g < sb + 1) := by show _ < _; omega
      have HZS : Hid (w.heap.size < sb + 1) := by show _ < _; omega
      obtain ⟨s0, s1, s2, sl⟩ := SE.cells
      clear SE ZE rE OE LE
      go_wp2_with (at_builtin; refine append_col _ rfl _ _ rfl (sb + 1) _ cols rfl OD.out cn (pk : Int) d _ (by first | rfl | (simp; done)) rfl (by omega) HSL.out ?_; intro v6 wF hown6 hgrow6; have hO6 := hid hown6; have hS6 := HSD.out.grown hgrow6 (fun e => by have := (OD.out.lt sb e.symm).1; omega); have hZ6 := hid (HZD.out.grown hgrow6 (fun e => by have := (OD.out.lt _ e.symm).1; have := HZS.out; omega)); have hr6 := hid (HRD.out.grown hgrow6 (fun e => by have := (OD.out.lt g e.symm).1; have := HGS.out; omega)); have hL6 := hid (upd_grown LD.out hgrow6 (fun q hq => by have := (OD.out.lt q hq).1; have := HZS.out; omega)); clear hown6 hgrow6; obtain ⟨adr6, cap6, rfl⟩ := (CsAt.own hO6.out).slc' (m := cols.length + 1) (by simp); obtain ⟨x0, x1, x2, xl⟩ := hS6.cells; have fx := frozen_of_row wF sb 1 _ _ hS6)
      go_roundw
      case rel =>
        refine ⟨cols ++ [⟨cn, (pk : Int), d⟩], k + 1, i3, a3, _, by go_num, hg1, ?_, ?_, ?_, hr6.out.setO (o := 1) _ hsgn, hi3, hS6.setV _, own_upd' hO6.out (Upd.set sb 1 wF _) (Nat.lt_succ_self _), hZ6.out.setO (o := 1) hszn, hL6.out.setNew (r := sb) (o := 1) _ (Nat.le_of_lt hsz)⟩
        · show _ = _
          rw [List.length_append, hlen.out]; rfl
        · show Sc.ReadSt _ _ _ _ _ _ _
          rw [hpk.out, show n - (k + 1) = n - k - 1 by omega]
          exact HNX.out
        · intro c hc
          rcases List.mem_append.1 hc with hc | hc
          · exact HCS.out c hc
          · rw [List.mem_singleton.1 hc]; exact hcn
      case measure => simp [intOf]; omega
    · have HFIN : Hid (∀ t, Sc.right t = true → b = bstr (Sc.encode t) → (⟨nm, cols, (p : Int)⟩ : Sc.S) = t) := fun t ht hbt => (hst.out.stop (by
        by_cases he : er = 0
        · exact .inl (by have : ¬ k < n := fun h => hgo ⟨h, he⟩; omega)
        · exact .inr (.inl he)) t ht hbt).1
      obtain ⟨z0, z1, z2, zl⟩ := hZ.cells
      have y0 := frozen_of_row w9 w.heap.size 0 _ _ hZ
      have y1 := frozen_of_row w9 w.heap.size 1 _ _ hZ
      have y2 := frozen_of_row w9 w.heap.size 2 _ _ hZ
      have hLF := hid (((hL.out.setNew (r := w.heap.size) (o := 0) (.string nm) (Nat.le_refl _)).setNew (r := w.heap.size) (o := 1) (.slice adr cols.length cap) (Nat.le_refl _)).setNew (r := w.heap.size) (o := 2) (.int .i64 (p : Int)) (Nat.le_refl _))
      have hOF := hid (own_upd (own_upd (own_upd HO.out (Upd.set w.heap.size 0 _ (.string nm)) (by omega)) (Upd.set w.heap.size 1 _ (.slice adr cols.length cap)) (by omega)) (Upd.set w.heap.size 2 _ (.int .i64 (p : Int))) (by omega))
      have HFS : Hid (Sok ⟨nm, cols, (p : Int)⟩) := ⟨by show nm.size ≤ maxLen; unfold maxLen; omega, fun c hc => by have := HCS.out c hc; unfold maxLen; omega⟩
      by_cases hkn : k < n
      · have hkn' : (k : Int) < (n : Int) := by omega
        have he : (er == 0) = false := beq_eq_false_iff_ne.2 (fun h => hgo ⟨hkn, h⟩)
        clear hgo hst hL HO hZ hS hr
        go_wp2_with fail
        exact bodyPost_ret (v := .agg #[.string nm, .slice adr cols.length cap, .int .i64 (p : Int)]) (by simp [results, Try.results41, go_sem, z0, z1, z2]) rfl ⟨⟨nm, cols, (p : Int)⟩, _, rfl, own_base hOF.out (by omega), HFS.out, hLF.out, HFIN.out⟩
      · have hkn' : ¬ (k : Int) < (n : Int) := by omega
        clear hgo hst hL HO hZ hS hr
        go_wp2_with fail
        exact bodyPost_ret (v := .agg #[.string nm, .slice adr cols.length cap, .int .i64 (p : Int)]) (by simp [results, Try.results41, go_sem, z0, z1, z2]) rfl ⟨⟨nm, cols, (p : Int)⟩, _, rfl, own_base hOF.out (by omega), HFS.out, hLF.out, HFIN.out⟩
end Go.Proofs.Ytmgafcblbbbanaa
