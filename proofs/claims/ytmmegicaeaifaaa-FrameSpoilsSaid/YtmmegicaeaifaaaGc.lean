/-
  Decode of transactions: the contracts, of the program and of the reference. Condition: the text has at most 1000000 bytes.
-/
import Derived.Test.YtmmegicaeaifaaaGb
namespace Go.Proofs.Ytmmegicaeaifaaa
open Go.RowKit Fr

/-- the transaction that is read, its result's block, the reader -/
structure RT (t : TypeId) (w0 : World) (g T : Nat) (s : ByteArray) (cs : Array Value) (i : Nat) (er : Int) (w : World) : Prop where
  bel : Below w0.heap.size w0 w
  rd : w.heap[g]? = some (.cells #[.string s, .int .i64 (i : Int), .int .i64 er] t (0, 0))
  blk : Var w T cs 24
  res : Var w w0.heap.size #[.int .i64 0, .int .i64 0, .slice none 0 0] 24
  gl : w0.heap.size < g
  tl : g < T
theorem RT.call {t : TypeId} {w0 w w' : World} {g T : Nat} {s : ByteArray} {cs : Array Value} {i i' : Nat} {er er' : Int} (h : RT t w0 g T s cs i er w) (u : Upd g w w') (r : w'.heap[g]? = some (.cells #[.string s, .int .i64 (i' : Int), .int .i64 er'] t (0, 0))) : RT t w0 g T s cs i' er' w' :=
  ⟨Upd.below h.bel u (Nat.le_of_lt h.gl) h.bel.size, r, h.blk.upd u (by have := h.tl; omega), h.res.upd u (by have := h.gl; omega), h.gl, h.tl⟩
theorem RT.keep {t : TypeId} {w0 w w' : World} {g T : Nat} {s : ByteArray} {cs : Array Value} {i : Nat} {er : Int} (h : RT t w0 g T s cs i er w) (b : Below w.heap.size w w') : RT t w0 g T s cs i er w' :=
  ⟨hnext h.bel b, keepBlock h.rd b, h.blk.keep b, h.res.keep b, h.gl, h.tl⟩
theorem RT.set {t : TypeId} {w0 w : World} {g T : Nat} {s : ByteArray} {cs : Array Value} {i : Nat} {er : Int} (h : RT t w0 g T s cs i er w) (o : Nat) (v : Value) : RT t w0 g T s (cs.setIfInBounds o v) i er (w.setCell ⟨T, o, none⟩ v) :=
  ⟨h.bel.setCell (p := ⟨T, o, none⟩) (by have := h.gl; have := h.tl; show _ ≤ T; omega) v, (heap_setCell_other w ⟨T, o, none⟩ g v (by have := h.tl; simp; omega)).trans h.rd, h.blk.set o v, h.res.setO v (by have := h.gl; have := h.tl; omega), h.gl, h.tl⟩
theorem RT.grow {t : TypeId} {w0 w w' : World} {g T : Nat} {s : ByteArray} {cs : Array Value} {i : Nat} {er : Int} (h : RT t w0 g T s cs i er w) {r : Option Nat} (gr : w.grownBy w' r) (hr : ∀ q, r = some q → T < q) : RT t w0 g T s cs i er w' := by
  have hg := h.gl
  have ht := h.tl
  have hT := h.blk.lt
  have kp : ∀ k, k ≤ T → w'.heap[k]? = w.heap[k]? := fun k hk => gr.block k (by omega) (fun e => by have := hr k e.symm; omega)
  exact ⟨Below.grown h.bel gr h.bel.size (fun q e => by have := hr q e; omega), (kp _ (by omega)).trans h.rd, (kp _ (Nat.le_refl _)).trans h.blk, (kp _ (by omega)).trans h.res, hg, ht⟩
theorem RT.lt {t : TypeId} {w0 w : World} {g T : Nat} {s : ByteArray} {cs : Array Value} {i : Nat} {er : Int} (h : RT t w0 g T s cs i er w) : T < w.heap.size := h.blk.lt
theorem clamp_toNat (n : Nat) : ((clamp n).toNat : Int) = clamp n := by have := (clamp_range n).1; omega
theorem map_snoc (L : List (Ch × Value × Value)) (c : Ch × Value × Value) : (L ++ [c]).map (·.1) = L.map (·.1) ++ [c.1] := by simp
set_option maxRecDepth 100000 in
set_option maxHeartbeats 12800000 in
theorem fdecode_any (b : ByteArray) (hb : b.size ≤ 1000000) (w : World) : Calls Try.prog 25 #[.string b] w (DecT b w) := by
  have hs9 : b.size ≤ 1000000000 := by omega
  obtain ⟨⟨n1, j1, e1⟩, hT1⟩ : ∃ t, Cd.top 0 (Cd.uintR b.data.toList) 0 0 = t := ⟨_, rfl⟩
  obtain ⟨⟨n2, j2, e2⟩, hT2⟩ : ∃ t, Cd.top 0 (Cd.uintR b.data.toList) j1 e1 = t := ⟨_, rfl⟩
  obtain ⟨⟨n3, j3, e3⟩, hT3⟩ : ∃ t, Cd.top 0 (Cd.uintR b.data.toList) j2 e2 = t := ⟨_, rfl⟩
  have m1 := hid (fun g W h hj => fbound_any g b 0 0 W h hj hs9)
  rw [hT1] at m1
  have m2 := hid (fun g W h hj => fbound_any g b j1 e1 W h hj hs9)
  rw [hT2] at m2
  have m3 := hid (fun g W h hj => fbound_any g b j2 e2 W h hj hs9)
  rw [hT3] at m3
  have HD0 : Hid (decR b = (⟨clamp n1, clamp n2, (loopR b (clamp n3).toNat [] j3 e3).1⟩, (loopR b (clamp n3).toNat [] j3 e3).2.2)) := by
    show _ = _
    unfold decR
    simp only [hT1, hT2, hT3]
  have HQ1 := hid (clamp_range n1)
  have HQ2 := hid (clamp_range n2)
  clear hT1 hT2 hT3
  have hn3 := clamp_range n3
  obtain ⟨N, hN⟩ : ∃ N : Nat, clamp n3 = (N : Int) := ⟨(clamp n3).toNat, by omega⟩
  rw [hN] at hn3 HD0 
  rw [Int.toNat_natCast] at HD0
  generalize hsq : clamp n1 = sq at HD0 HQ1 
  generalize htm : clamp n2 = tm at HD0 HQ2 
  have HSQ := hid hsq
  have HTM := hid htm
  have HNN := hid hN
  clear hsq htm hN
  go_enter Try.func25, Try.ntmps25
  go_wp2_with fail
  have hb0 := hba w (.cells #[.int .i64 0, .int .i64 0, .slice none 0 0] 24)
  have hz0 : Var (w.alloc (.cells #[.int .i64 0, .int .i64 0, .slice none 0 0] 24)) w.heap.size #[.int .i64 0, .int .i64 0, .slice none 0 0] 24 := heap_alloc_new w _
  obtain ⟨w1, hw1⟩ : ∃ w1, w.alloc (.cells #[.int .i64 0, .int .i64 0, .slice none 0 0] 24) = w1 := ⟨_, rfl⟩
  rw [hw1] at hb0 hz0 ⊢
  clear hw1
  refine (new_any b _).mono ?_; rintro e w2 ⟨rfl, hw2⟩
  have R0 := new_rdr b w1
  have hb1 := hba w1 (.cells #[.string b, .int .i64 0, .int .i64 0] 95)
  rw [← hw2] at R0 hb1
  have hz1 := hz0.keep hb1
  have hl1 := hnext hb0 hb1
  have hzg : w.heap.size < w1.heap.size := hz0.lt
  clear hw2 hb1 hz0 hb0
  generalize w1.heap.size = g at R0 hzg ⊢
  go_wp2_with fail
  refine (m1.out g _ R0 (Nat.zero_le _)).mono ?_; rintro e W1 ⟨rfl, u1, R1, hj1⟩
  simp only at R1 hj1
  dsimp only
  rw [HSQ.out]
  have hz2 := hz1.upd u1 (by omega)
  have hl2 := Upd.below hl1 u1 (Nat.le_of_lt hzg) hl1.size
  have hgw : g < W1.heap.size := (Array.getElem?_eq_some_iff.1 R1).1
  clear u1 R0 hz1 hl1 m1
  have rt1 : RT 95 w g W1.heap.size b #[.int .i64 sq, .int .i64 0, .slice none 0 0] j1 e1 (W1.alloc (.cells #[.int .i64 sq, .int .i64 0, .slice none 0 0] 24)) := by
    have hb2 := hba W1 (.cells #[.int .i64 sq, .int .i64 0, .slice none 0 0] 24)
    exact ⟨hnext hl2 hb2, keepBlock R1 hb2, heap_alloc_new W1 _, hz2.keep hb2, hzg, hgw⟩
  clear hz2 hl2 R1
  obtain ⟨C, hC⟩ : ∃ C, W1.heap.size = C := ⟨_, rfl⟩
  rw [hC] at rt1
  clear hgw
  go_wp2_with fail
  (try rw [hC])
  generalize W1.alloc (.cells #[.int .i64 sq, .int .i64 0, .slice none 0 0] 24) = w3 at rt1 ⊢
  clear hC
  refine (m2.out g _ rt1.rd hj1).mono ?_; rintro e W2 ⟨rfl, u2, R2, hj2⟩
  simp only at R2 hj2
  dsimp only
  rw [HTM.out]
  have rt2 := rt1.call u2 R2
  clear u2 R2 rt1 m2
  have x1 : W2.cell? ⟨C, 1, none⟩ = some (.int .i64 0) := rt2.blk.cell 1
  have f1 : W2.frozen? ⟨C, 1, none⟩ = false := rt2.blk.free 1
  have rt3 : RT 95 w g C b #[.int .i64 sq, .int .i64 tm, .slice none 0 0] j2 e2 (W2.setCell ⟨C, 1, none⟩ (.int .i64 tm)) := rt2.set 1 (.int .i64 tm)
  clear rt2
  go_wp2_with fail
  clear x1 f1
  generalize W2.setCell ⟨C, 1, none⟩ (.int .i64 tm) = w4 at rt3 ⊢
  refine (m3.out g _ rt3.rd hj2).mono ?_; rintro e W3 ⟨rfl, u3, R3, hj3⟩
  simp only at R3 hj3
  dsimp only
  rw [HNN.out]
  have rt4 := rt3.call u3 R3
  clear u3 R3 rt3 m3
  go_wp2_with fail
  go_loopw [6] (fun q wr => ∃ (L : List (Ch × Value × Value)) (m j : Nat) (e : Int) (v : Value), q = .int .i64 (m : Int) ∧ m ≤ 1099511627777 ∧ Hid (decR b = (⟨sq, tm, (loopR b m (L.map (·.1)) j e).1⟩, (loopR b m (L.map (·.1)) j e).2.2)) ∧ L.length ≤ 101 ∧ (∀ c ∈ L.map (·.1), Chk c ∧ c.row.length ≤ 9223372036854775807) ∧ RT 95 w g C b #[.int .i64 sq, .int .i64 tm, v] j e wr ∧ OwnH wr (C + 1) v L ∧ j ≤ b.size) (fun q _ => (intOf q).toNat)
  case atStart => exact ⟨[], N, j3, e3, _, rfl, by omega, HD0.out, Nat.zero_le _, fun c hc => absurd hc List.not_mem_nil, rt4, OwnH.nil _ _, hj3⟩
  case round =>
    obtain ⟨L, m, j, e, v, rfl, hm, hD, hL, hk, rt, ho, hj⟩ := hrel
    obtain ⟨w5, rfl⟩ : ∃ w5 : World, w5 = wr := ⟨_, rfl⟩
    clear rt4 HD0 hj3
    have hm0 : (0 : Int) ≤ (m : Int) := by omega
    have hl0 : (0 : Int) ≤ (L.length : Int) := by omega
    obtain ⟨vadr, vcap, hv⟩ := ho.at.slc
    rw [List.length_map] at hv
    subst hv
    have HRT := hid rt
    have HO := hid ho
    have HK := hid hk
    have x0 : w5.cell? ⟨C, 0, none⟩ = some (.int .i64 sq) := rt.blk.cell 0
    have x1 : w5.cell? ⟨C, 1, none⟩ = some (.int .i64 tm) := rt.blk.cell 1
    have x2 : w5.cell? ⟨C, 2, none⟩ = some (.slice vadr L.length vcap) := rt.blk.cell 2
    have ce := hid (err_any g b j e w5 rt.rd)
    clear rt ho hk
    cases m with
    | zero =>
      have HDE : Hid (decR b = (⟨sq, tm, L.map (·.1)⟩, e)) := by
        show _ = _
        rw [hD.out, show loopR b 0 (L.map (·.1)) j e = (L.map (·.1), j, e) from rfl]
      clear hD
      have HHK : Hid (Hok (L.map (·.1))) := ⟨by rw [List.length_map]; omega, HK.out⟩
      by_cases hez : e = 0
      · subst hez
        go_wp2_with fail
        refine ce.out.mono ?_; rintro e w5' ⟨rfl, rfl⟩
        have cb0 := fbody_any ⟨sq, tm, L.map (·.1)⟩ (.slice vadr L.length vcap) w5 HO.out.at HHK.out
        unfold tv at cb0
        have CB := hid cb0
        clear cb0
        go_wp2_with fail
        refine CB.out.mono ?_; rintro e w6 ⟨rfl, b6⟩
        have RT6 := hid (HRT.out.keep b6)
        have HO6 := hid (HO.out.keep b6)
        clear b6 x0 x1 x2
        have x0 : w6.cell? ⟨C, 0, none⟩ = some (.int .i64 sq) := RT6.out.blk.cell 0
        have x1 : w6.cell? ⟨C, 1, none⟩ = some (.int .i64 tm) := RT6.out.blk.cell 1
        have x2 : w6.cell? ⟨C, 2, none⟩ = some (.slice vadr L.length vcap) := RT6.out.blk.cell 2
        by_cases heq : bstr (body ⟨sq, tm, L.map (·.1)⟩) = b
        · have hq : ((bstr (body ⟨sq, tm, L.map (·.1)⟩)).toList == b.toList) = true := by rw [bytes_beq]; exact decide_eq_true heq
          have HEQ := hid heq.symm
          have HEE := hid heq
          clear heq
          generalize hgE : bstr (body ⟨sq, tm, L.map (·.1)⟩) = E at hq CB
          clear hgE CB
          have z0 : w6.cell? ⟨w.heap.size, 0, none⟩ = some (.int .i64 0) := RT6.out.res.cell 0
          have z1 : w6.cell? ⟨w.heap.size, 1, none⟩ = some (.int .i64 0) := RT6.out.res.cell 1
          have z2 : w6.cell? ⟨w.heap.size, 2, none⟩ = some (.slice none 0 0) := RT6.out.res.cell 2
          have y0 : w6.frozen? ⟨w.heap.size, 0, none⟩ = false := RT6.out.res.free 0
          have y1 : w6.frozen? ⟨w.heap.size, 1, none⟩ = false := RT6.out.res.free 1
          have y2 : w6.frozen? ⟨w.heap.size, 2, none⟩ = false := RT6.out.res.free 2
          have hw0 : w.heap.size < C + 1 := by have := RT6.out.gl; have := RT6.out.tl; omega
          have HBF := hid (((RT6.out.bel.setCell (p := ⟨w.heap.size, 0, none⟩) (Nat.le_refl _) (.int .i64 sq)).setCell (p := ⟨w.heap.size, 1, none⟩) (Nat.le_refl _) (.int .i64 tm)).setCell (p := ⟨w.heap.size, 2, none⟩) (Nat.le_refl _) (.slice vadr L.length vcap))
          have HOF := hid (((HO6.out.setO (o := 0) (u := .int .i64 sq) hw0).setO (o := 1) (u := .int .i64 tm) hw0).setO (o := 2) (u := .slice vadr L.length vcap) hw0)
          have HYS := hid (dec_some HDE.out rfl HEE.out)
          clear hw0
          go_wp2_with fail
          exact bodyPost_ret (v := .tuple #[.agg #[.int .i64 sq, .int .i64 tm, .slice vadr L.length vcap], .int .i64 0]) (by simp [results, Try.results25, go_sem, z0, z1, z2]) rfl ⟨⟨sq, tm, L.map (·.1)⟩, .slice vadr L.length vcap, 0, rfl, HOF.out.at, HHK.out, HBF.out, .inl ⟨rfl, HYS.out, HEQ.out⟩⟩
        · have hq : ((bstr (body ⟨sq, tm, L.map (·.1)⟩)).toList == b.toList) = false := by rw [bytes_beq]; exact decide_eq_false heq
          have HEE := hid heq
          clear heq
          generalize hgE : bstr (body ⟨sq, tm, L.map (·.1)⟩) = E at hq CB
          clear hgE CB
          have z0 : w6.cell? ⟨w.heap.size, 0, none⟩ = some (.int .i64 0) := RT6.out.res.cell 0
          have z1 : w6.cell? ⟨w.heap.size, 1, none⟩ = some (.int .i64 0) := RT6.out.res.cell 1
          have z2 : w6.cell? ⟨w.heap.size, 2, none⟩ = some (.slice none 0 0) := RT6.out.res.cell 2
          have y0 : w6.frozen? ⟨w.heap.size, 0, none⟩ = false := RT6.out.res.free 0
          have y1 : w6.frozen? ⟨w.heap.size, 1, none⟩ = false := RT6.out.res.free 1
          have y2 : w6.frozen? ⟨w.heap.size, 2, none⟩ = false := RT6.out.res.free 2
          have HBF := hid (((RT6.out.bel.setCell (p := ⟨w.heap.size, 0, none⟩) (Nat.le_refl _) (.int .i64 0)).setCell (p := ⟨w.heap.size, 1, none⟩) (Nat.le_refl _) (.int .i64 0)).setCell (p := ⟨w.heap.size, 2, none⟩) (Nat.le_refl _) (.slice none 0 0))
          have HNO := hid (dec_none HDE.out (.inr HEE.out))
          clear HRT HO HK HDE
          go_wp2_with fail
          exact bodyPost_ret (v := .tuple #[.agg #[.int .i64 0, .int .i64 0, .slice none 0 0], .int .i64 7]) (by simp [results, Try.results25, go_sem, z0, z1, z2]) rfl ⟨noT, .slice none 0 0, 7, rfl, HsAt.nil _, ⟨Nat.zero_le _, fun c hc => absurd hc List.not_mem_nil⟩, HBF.out, .inr ⟨rfl, rfl, HNO.out⟩⟩
      · have hez1 : (e == 0) = false := by rw [beq_eq_false_iff_ne]; exact hez
        have hez2 : (e != 0) = true := by rw [bne_iff_ne]; exact hez
        have HEZ := hid hez
        clear hez
        go_wp2_with fail
        refine ce.out.mono ?_; rintro e w5' ⟨rfl, rfl⟩
        have z0 : w5.cell? ⟨w.heap.size, 0, none⟩ = some (.int .i64 0) := HRT.out.res.cell 0
        have z1 : w5.cell? ⟨w.heap.size, 1, none⟩ = some (.int .i64 0) := HRT.out.res.cell 1
        have z2 : w5.cell? ⟨w.heap.size, 2, none⟩ = some (.slice none 0 0) := HRT.out.res.cell 2
        have y0 : w5.frozen? ⟨w.heap.size, 0, none⟩ = false := HRT.out.res.free 0
        have y1 : w5.frozen? ⟨w.heap.size, 1, none⟩ = false := HRT.out.res.free 1
        have y2 : w5.frozen? ⟨w.heap.size, 2, none⟩ = false := HRT.out.res.free 2
        have HBF := hid (((HRT.out.bel.setCell (p := ⟨w.heap.size, 0, none⟩) (Nat.le_refl _) (.int .i64 0)).setCell (p := ⟨w.heap.size, 1, none⟩) (Nat.le_refl _) (.int .i64 0)).setCell (p := ⟨w.heap.size, 2, none⟩) (Nat.le_refl _) (.slice none 0 0))
        have HNO := hid (dec_none HDE.out (.inl HEZ.out))
        clear HRT HO HK HDE
        go_wp2_with fail
        exact bodyPost_ret (v := .tuple #[.agg #[.int .i64 0, .int .i64 0, .slice none 0 0], .int .i64 7]) (by simp [results, Try.results25, go_sem, z0, z1, z2]) rfl ⟨noT, .slice none 0 0, 7, rfl, HsAt.nil _, ⟨Nat.zero_le _, fun c hc => absurd hc List.not_mem_nil⟩, HBF.out, .inr ⟨rfl, rfl, HNO.out⟩⟩
    | succ m =>
      have hm1 : (0 : Int) < ((m + 1 : Nat) : Int) := by omega
      have hmm : IntKind.i64.wrap (((m + 1 : Nat) : Int) - 1) = (m : Int) := by rw [IntKind.wrap_i64]; omega
      obtain ⟨M, hM⟩ : ∃ M : Int, ((m + 1 : Nat) : Int) = M := ⟨_, rfl⟩
      rw [hM] at hm0 hm1 hmm ⊢
      by_cases he0 : e = 0
      · subst he0
        by_cases hl1 : L.length ≤ 100
        · have CR := hid (fun W h => fread_any g b j 0 W h hj hb)
          have HD2 : Hid (decR b = (⟨sq, tm, (loopR b m (L.map (·.1) ++ [(chR b j 0).1]) (chR b j 0).2.1 (chR b j 0).2.2).1⟩, (loopR b m (L.map (·.1) ++ [(chR b j 0).1]) (chR b j 0).2.1 (chR b j 0).2.2).2.2)) := by
            show _ = _
            rw [hD.out, loopR_next (by rw [List.length_map]; omega)]
          have HK2 : Hid (∀ c ∈ L.map (·.1) ++ [(chR b j 0).1], Chk c ∧ c.row.length ≤ 9223372036854775807) := fun c hc => by
            rcases List.mem_append.1 hc with hc | hc
            · exact HK.out c hc
            · rw [List.mem_singleton.1 hc]; exact chR_ok b j 0
          clear hD HK
          have hl100 : (L.length : Int) ≤ 100 := by omega
          have hM' := hid hM
          clear hl1 hM
          go_wp2_with fail
          refine ce.out.mono ?_; rintro e w5x ⟨rfl, rfl⟩
          go_wp2_with fail
          refine wp_region_held_drew (S := fun _ => True) (by kernel_rfl) trivial (fun hS => ?_)
          obtain ⟨w20, hw20⟩ : ∃ w20, w5.drew = w20 := ⟨_, rfl⟩
          have hd20 : Below w5.heap.size w5 w20 := hw20 ▸ (Below.refl _ _).drew
          rw [hw20]
          have RT20 := hid (HRT.out.keep hd20)
          have HO20 := hid (HO.out.keep hd20)
          clear hd20 hw20 HRT HO x0 x1 x2
          refine wpAnyH_take (i := 0) (oi := ({ dst := some 32, op := Op.fieldAddr 24 (Operand.tmp 5) 2, type := 0, pos := "frame.go:122", after := #[], guard := none } : Oper)) (v := ?_) rfl (by kernel_rfl) (by kernel_rfl) (by kernel_rfl) (fun _ _ _ h => h) (Or.inl ⟨by rfl, ?_⟩) hS ?_
          rotate_left
          · intro w hSw; (try dsimp only at hSw); go_simp; (try with_reducible rfl)
          simp only [Act.put, List.setIfInBounds_toArray, List.set_cons_zero, List.set_cons_succ]
          refine wpAnyH_take (i := 2) (oi := ({ dst := some 34, op := Op.move (Operand.tmp 4), type := 75, pos := "frame.go:122", after := #[], guard := none } : Oper)) (v := ?_) rfl (by kernel_rfl) (by kernel_rfl) (by kernel_rfl) (fun _ _ _ h => h) (Or.inl ⟨by rfl, ?_⟩) hS ?_
          rotate_left
          · intro w hSw; (try dsimp only at hSw); go_simp; (try with_reducible rfl)
          simp only [Act.put, List.setIfInBounds_toArray, List.set_cons_zero, List.set_cons_succ]
          refine wpAnyH_ready (rs := [1, 3]) (by kernel_rfl) (by simp) ?_
          refine AllReadyH.cons (o := ({ dst := some 33, op := Op.load 22 (Operand.tmp 32), type := 22, pos := "frame.go:122", after := #[{ on := 0, ground := Ground.data }], guard := none } : Oper)) rfl (fun K hK => ?_) (AllReadyH.cons (o := ({ dst := some 35, op := Op.call { callee := Callee.value (Operand.func 53), args := #[Operand.tmp 34], argTypes := #[75] }, type := 32, pos := "frame.go:122", after := #[{ on := 2, ground := Ground.data }], guard := none } : Oper)) rfl (fun K hK => ?_) AllReadyH.nil)
          · have x2 : w20.cell? ⟨C, 2, none⟩ = some (.slice vadr L.length vcap) := RT20.out.blk.cell 2
            go_simp
            refine hK.out _ _ trivial (fun _ => ?_)
            clear hK K
            (try simp only [Act.put, List.setIfInBounds_toArray, List.set_cons_zero, List.set_cons_succ])
            clear x2
            refine wpAnyH_ready (rs := [3]) (by kernel_rfl) (by simp) ?_
            refine AllReadyH.cons (o := ({ dst := some 35, op := Op.call { callee := Callee.value (Operand.func 53), args := #[Operand.tmp 34], argTypes := #[75] }, type := 32, pos := "frame.go:122", after := #[{ on := 2, ground := Ground.data }], guard := none } : Oper)) rfl (fun K hK => ?_) AllReadyH.nil
            go_simp
            refine (CR.out _ RT20.out.rd).mono ?_; rintro e w21 ⟨⟨vr, vc, rfl, ownr, ownc⟩, u21, R21, hj21⟩
            have RT21 := hid (RT20.out.call u21 R21)
            have hC20 := RT20.out.lt
            have hg20 : g < C + 1 := by have := RT20.out.tl; omega
            have HO21 := hid (HO20.out.upd u21 hg20)
            have HIN : Hid (In w21 (C + 1) ((chR b j 0).1, vr, vc)) := ⟨own_base ownr (by omega), own_base ownc (by omega)⟩
            obtain ⟨ra, rc, er1⟩ := vs_slc (VsAt.own ownr)
            obtain ⟨ca, cc, er2⟩ := (CsAt.own ownc).slc
            have HJ := hid hj21
            clear ownr ownc u21 R21 hj21 hC20 hg20 RT20 HO20
            generalize hch : chR b j 0 = ch at *
            obtain ⟨⟨op, tb, row, fr, to, ⟨nm, cols, ky⟩⟩, j', e'⟩ := ch
            simp only at er1 er2 HIN RT21 HJ
            subst er1 er2
            have HCH := hid hch
            clear hch
            unfold cvv
            dsimp only
            go_wp2_with fail
            refine hK.out _ _ trivial (fun _ => ?_)
            clear hK K
            (try simp only [Act.put, List.setIfInBounds_toArray, List.set_cons_zero, List.set_cons_succ])
            refine wpAnyH_ready (rs := [4]) (by kernel_rfl) (by simp) ?_
            refine AllReadyH.cons (o := ({ dst := some 36, op := Op.buildSlice 22 1 #[(0, Operand.tmp 35)], type := 22, pos := "frame.go:122", after := #[{ on := 3, ground := Ground.data }], guard := none } : Oper)) rfl (fun K hK => ?_) AllReadyH.nil
            go_simp
            refine hK.out _ _ trivial (fun _ => ?_)
            clear hK K
            (try simp only [Act.put, List.setIfInBounds_toArray, List.set_cons_zero, List.set_cons_succ])
            refine wpAnyH_ready (rs := [5]) (by kernel_rfl) (by simp) ?_
            refine AllReadyH.cons (o := ({ dst := some 37, op := Op.call { callee := Callee.builtin Builtin.append, args := #[Operand.tmp 33, Operand.tmp 36], argTypes := #[22, 22] }, type := 22, pos := "frame.go:122", after := #[{ on := 1, ground := Ground.data }, { on := 4, ground := Ground.data }, { on := 3, ground := Ground.chain }], guard := none } : Oper)) rfl (fun K hK => ?_) AllReadyH.nil
            refine append_ch_wp w21 _ _ rfl (C + 1) _ L rfl HO21.out (⟨op, tb, row, fr, to, ⟨nm, cols, ky⟩⟩, _, _) HIN.out _ rfl rfl (by omega) RT21.out.lt rfl ?_
            intro v2 w7 own2 gr2
            have HO7 := hid own2
            have RT7 := hid (RT21.out.grow gr2 (fun q e => by have := (World.ownsRow.lt HO21.out.1 q e).1; omega))
            obtain ⟨vadr2, vcap2, hv2⟩ := own2.at.slc
            rw [List.length_map, List.length_append, List.length_singleton] at hv2
            subst hv2
            clear own2 gr2 RT21 HO21 HIN
            have x2 : w7.cell? ⟨C, 2, none⟩ = some (.slice vadr L.length vcap) := RT7.out.blk.cell 2
            have f2 : w7.frozen? ⟨C, 2, none⟩ = false := RT7.out.blk.free 2
            refine hK.out _ _ trivial (fun _ => ?_)
            clear hK K
            (try simp only [Act.put, List.setIfInBounds_toArray, List.set_cons_zero, List.set_cons_succ])
            refine wpAnyH_take (i := 6) (oi := ({ dst := some 38, op := Op.fieldAddr 24 (Operand.tmp 5) 2, type := 0, pos := "frame.go:122", after := #[{ on := 0, ground := Ground.phase }, { on := 1, ground := Ground.phase }, { on := 2, ground := Ground.phase }, { on := 3, ground := Ground.phase }, { on := 4, ground := Ground.phase }, { on := 5, ground := Ground.phase }], guard := none } : Oper)) (v := ?_) rfl (by kernel_rfl) (by kernel_rfl) (by kernel_rfl) (fun _ _ _ h => h) (Or.inl ⟨by rfl, ?_⟩) hS ?_
            rotate_left
            · intro w hSw; (try dsimp only at hSw); go_simp; (try with_reducible rfl)
            simp only [Act.put, List.setIfInBounds_toArray, List.set_cons_zero, List.set_cons_succ]
            refine wpAnyH_ready (rs := [7]) (by kernel_rfl) (by simp) ?_
            refine AllReadyH.cons (o := ({ dst := none, op := Op.store 22 (Operand.tmp 38) (Operand.tmp 37), type := 0, pos := "frame.go:122", after := #[{ on := 6, ground := Ground.data }, { on := 5, ground := Ground.data }, { on := 5, ground := Ground.chain }, { on := 0, ground := Ground.phase }, { on := 1, ground := Ground.phase }, { on := 2, ground := Ground.phase }, { on := 3, ground := Ground.phase }, { on := 4, ground := Ground.phase }, { on := 5, ground := Ground.phase }], guard := none } : Oper)) rfl (fun K hK => ?_) AllReadyH.nil
            go_simp
            refine hK.out _ _ trivial (fun _ => ?_)
            clear hK K
            (try simp only [Act.put, List.setIfInBounds_toArray, List.set_cons_zero, List.set_cons_succ])
            refine wpAnyH_done (by kernel_rfl) ?_ _
            have RT8 : RT 95 w g C b #[.int .i64 sq, .int .i64 tm, .slice vadr2 (L.length + 1) vcap2] j' e' (w7.setCell ⟨C, 2, none⟩ (.slice vadr2 (L.length + 1) vcap2)) := RT7.out.set 2 _
            have HO8 := HO7.out.setO (r := C) (o := 2) (u := .slice vadr2 (L.length + 1) vcap2) (Nat.lt_succ_self _)
            have HDN := hid HD2.out
            have HKN := hid HK2.out
            rw [← map_snoc L (⟨op, tb, row, fr, to, ⟨nm, cols, ky⟩⟩, .slice ra row.length rc, .slice ca cols.length cc)] at HDN HKN
            clear HD2 HK2
            go_wp2_with fail
            go_roundw
            case rel => exact ⟨L ++ [_], m, j', e', _, by first | rfl | go_num, by omega, HDN.out, by simp; omega, HKN.out, RT8, HO8, HJ.out⟩
            case measure => (have := hM'.out; simp [intOf] <;> omega)
          · go_simp
            refine (CR.out _ RT20.out.rd).mono ?_; rintro e w21 ⟨⟨vr, vc, rfl, ownr, ownc⟩, u21, R21, hj21⟩
            have RT21 := hid (RT20.out.call u21 R21)
            have hC20 := RT20.out.lt
            have hg20 : g < C + 1 := by have := RT20.out.tl; omega
            have HO21 := hid (HO20.out.upd u21 hg20)
            have HIN : Hid (In w21 (C + 1) ((chR b j 0).1, vr, vc)) := ⟨own_base ownr (by omega), own_base ownc (by omega)⟩
            obtain ⟨ra, rc, er1⟩ := vs_slc (VsAt.own ownr)
            obtain ⟨ca, cc, er2⟩ := (CsAt.own ownc).slc
            have HJ := hid hj21
            clear ownr ownc u21 R21 hj21 hC20 hg20 RT20 HO20
            generalize hch : chR b j 0 = ch at *
            obtain ⟨⟨op, tb, row, fr, to, ⟨nm, cols, ky⟩⟩, j', e'⟩ := ch
            simp only at er1 er2 HIN RT21 HJ
            subst er1 er2
            have HCH := hid hch
            clear hch
            unfold cvv
            dsimp only
            go_wp2_with fail
            refine hK.out _ _ trivial (fun _ => ?_)
            clear hK K
            (try simp only [Act.put, List.setIfInBounds_toArray, List.set_cons_zero, List.set_cons_succ])
            refine wpAnyH_ready (rs := [1, 4]) (by kernel_rfl) (by simp) ?_
            refine AllReadyH.cons (o := ({ dst := some 33, op := Op.load 22 (Operand.tmp 32), type := 22, pos := "frame.go:122", after := #[{ on := 0, ground := Ground.data }], guard := none } : Oper)) rfl (fun K hK => ?_) (AllReadyH.cons (o := ({ dst := some 36, op := Op.buildSlice 22 1 #[(0, Operand.tmp 35)], type := 22, pos := "frame.go:122", after := #[{ on := 3, ground := Ground.data }], guard := none } : Oper)) rfl (fun K hK => ?_) AllReadyH.nil)
            · have x2 : w21.cell? ⟨C, 2, none⟩ = some (.slice vadr L.length vcap) := RT21.out.blk.cell 2
              go_simp
              refine hK.out _ _ trivial (fun _ => ?_)
              clear hK K
              (try simp only [Act.put, List.setIfInBounds_toArray, List.set_cons_zero, List.set_cons_succ])
              clear x2
              refine wpAnyH_ready (rs := [4]) (by kernel_rfl) (by simp) ?_
              refine AllReadyH.cons (o := ({ dst := some 36, op := Op.buildSlice 22 1 #[(0, Operand.tmp 35)], type := 22, pos := "frame.go:122", after := #[{ on := 3, ground := Ground.data }], guard := none } : Oper)) rfl (fun K hK => ?_) AllReadyH.nil
              go_simp
              refine hK.out _ _ trivial (fun _ => ?_)
              clear hK K
              (try simp only [Act.put, List.setIfInBounds_toArray, List.set_cons_zero, List.set_cons_succ])
              refine wpAnyH_ready (rs := [5]) (by kernel_rfl) (by simp) ?_
              refine AllReadyH.cons (o := ({ dst := some 37, op := Op.call { callee := Callee.builtin Builtin.append, args := #[Operand.tmp 33, Operand.tmp 36], argTypes := #[22, 22] }, type := 22, pos := "frame.go:122", after := #[{ on := 1, ground := Ground.data }, { on := 4, ground := Ground.data }, { on := 3, ground := Ground.chain }], guard := none } : Oper)) rfl (fun K hK => ?_) AllReadyH.nil
              refine append_ch_wp w21 _ _ rfl (C + 1) _ L rfl HO21.out (⟨op, tb, row, fr, to, ⟨nm, cols, ky⟩⟩, _, _) HIN.out _ rfl rfl (by omega) RT21.out.lt rfl ?_
              intro v2 w7 own2 gr2
              have HO7 := hid own2
              have RT7 := hid (RT21.out.grow gr2 (fun q e => by have := (World.ownsRow.lt HO21.out.1 q e).1; omega))
              obtain ⟨vadr2, vcap2, hv2⟩ := own2.at.slc
              rw [List.length_map, List.length_append, List.length_singleton] at hv2
              subst hv2
              clear own2 gr2 RT21 HO21 HIN
              have x2 : w7.cell? ⟨C, 2, none⟩ = some (.slice vadr L.length vcap) := RT7.out.blk.cell 2
              have f2 : w7.frozen? ⟨C, 2, none⟩ = false := RT7.out.blk.free 2
              refine hK.out _ _ trivial (fun _ => ?_)
              clear hK K
              (try simp only [Act.put, List.setIfInBounds_toArray, List.set_cons_zero, List.set_cons_succ])
              refine wpAnyH_take (i := 6) (oi := ({ dst := some 38, op := Op.fieldAddr 24 (Operand.tmp 5) 2, type := 0, pos := "frame.go:122", after := #[{ on := 0, ground := Ground.phase }, { on := 1, ground := Ground.phase }, { on := 2, ground := Ground.phase }, { on := 3, ground := Ground.phase }, { on := 4, ground := Ground.phase }, { on := 5, ground := Ground.phase }], guard := none } : Oper)) (v := ?_) rfl (by kernel_rfl) (by kernel_rfl) (by kernel_rfl) (fun _ _ _ h => h) (Or.inl ⟨by rfl, ?_⟩) hS ?_
              rotate_left
              · intro w hSw; (try dsimp only at hSw); go_simp; (try with_reducible rfl)
              simp only [Act.put, List.setIfInBounds_toArray, List.set_cons_zero, List.set_cons_succ]
              refine wpAnyH_ready (rs := [7]) (by kernel_rfl) (by simp) ?_
              refine AllReadyH.cons (o := ({ dst := none, op := Op.store 22 (Operand.tmp 38) (Operand.tmp 37), type := 0, pos := "frame.go:122", after := #[{ on := 6, ground := Ground.data }, { on := 5, ground := Ground.data }, { on := 5, ground := Ground.chain }, { on := 0, ground := Ground.phase }, { on := 1, ground := Ground.phase }, { on := 2, ground := Ground.phase }, { on := 3, ground := Ground.phase }, { on := 4, ground := Ground.phase }, { on := 5, ground := Ground.phase }], guard := none } : Oper)) rfl (fun K hK => ?_) AllReadyH.nil
              go_simp
              refine hK.out _ _ trivial (fun _ => ?_)
              clear hK K
              (try simp only [Act.put, List.setIfInBounds_toArray, List.set_cons_zero, List.set_cons_succ])
              refine wpAnyH_done (by kernel_rfl) ?_ _
              have RT8 : RT 95 w g C b #[.int .i64 sq, .int .i64 tm, .slice vadr2 (L.length + 1) vcap2] j' e' (w7.setCell ⟨C, 2, none⟩ (.slice vadr2 (L.length + 1) vcap2)) := RT7.out.set 2 _
              have HO8 := HO7.out.setO (r := C) (o := 2) (u := .slice vadr2 (L.length + 1) vcap2) (Nat.lt_succ_self _)
              have HDN := hid HD2.out
              have HKN := hid HK2.out
              rw [← map_snoc L (⟨op, tb, row, fr, to, ⟨nm, cols, ky⟩⟩, .slice ra row.length rc, .slice ca cols.length cc)] at HDN HKN
              clear HD2 HK2
              go_wp2_with fail
              go_roundw
              case rel => exact ⟨L ++ [_], m, j', e', _, by first | rfl | go_num, by omega, HDN.out, by simp; omega, HKN.out, RT8, HO8, HJ.out⟩
              case measure => (have := hM'.out; simp [intOf] <;> omega)
            · go_simp
              refine hK.out _ _ trivial (fun _ => ?_)
              clear hK K
              (try simp only [Act.put, List.setIfInBounds_toArray, List.set_cons_zero, List.set_cons_succ])
              refine wpAnyH_ready (rs := [1]) (by kernel_rfl) (by simp) ?_
              refine AllReadyH.cons (o := ({ dst := some 33, op := Op.load 22 (Operand.tmp 32), type := 22, pos := "frame.go:122", after := #[{ on := 0, ground := Ground.data }], guard := none } : Oper)) rfl (fun K hK => ?_) AllReadyH.nil
              have x2 : (w21.alloc (.cells #[.int .i64 op, .string tb, .slice ra row.length rc, .int .i64 fr, .int .i64 to, .string nm, .slice ca cols.length cc, .int .i64 ky] 32)).cell? ⟨C, 2, none⟩ = some (.slice vadr L.length vcap) := hkeep (RT21.out.blk.cell 2) (hba w21 _)
              go_simp
              refine hK.out _ _ trivial (fun _ => ?_)
              clear hK K
              (try simp only [Act.put, List.setIfInBounds_toArray, List.set_cons_zero, List.set_cons_succ])
              clear x2
              refine wpAnyH_ready (rs := [5]) (by kernel_rfl) (by simp) ?_
              refine AllReadyH.cons (o := ({ dst := some 37, op := Op.call { callee := Callee.builtin Builtin.append, args := #[Operand.tmp 33, Operand.tmp 36], argTypes := #[22, 22] }, type := 22, pos := "frame.go:122", after := #[{ on := 1, ground := Ground.data }, { on := 4, ground := Ground.data }, { on := 3, ground := Ground.chain }], guard := none } : Oper)) rfl (fun K hK => ?_) AllReadyH.nil
              refine append_ch_wp w21 _ _ rfl (C + 1) _ L rfl HO21.out (⟨op, tb, row, fr, to, ⟨nm, cols, ky⟩⟩, _, _) HIN.out _ rfl rfl (by omega) RT21.out.lt rfl ?_
              intro v2 w7 own2 gr2
              have HO7 := hid own2
              have RT7 := hid (RT21.out.grow gr2 (fun q e => by have := (World.ownsRow.lt HO21.out.1 q e).1; omega))
              obtain ⟨vadr2, vcap2, hv2⟩ := own2.at.slc
              rw [List.length_map, List.length_append, List.length_singleton] at hv2
              subst hv2
              clear own2 gr2 RT21 HO21 HIN
              have x2 : w7.cell? ⟨C, 2, none⟩ = some (.slice vadr L.length vcap) := RT7.out.blk.cell 2
              have f2 : w7.frozen? ⟨C, 2, none⟩ = false := RT7.out.blk.free 2
              refine hK.out _ _ trivial (fun _ => ?_)
              clear hK K
              (try simp only [Act.put, List.setIfInBounds_toArray, List.set_cons_zero, List.set_cons_succ])
              refine wpAnyH_take (i := 6) (oi := ({ dst := some 38, op := Op.fieldAddr 24 (Operand.tmp 5) 2, type := 0, pos := "frame.go:122", after := #[{ on := 0, ground := Ground.phase }, { on := 1, ground := Ground.phase }, { on := 2, ground := Ground.phase }, { on := 3, ground := Ground.phase }, { on := 4, ground := Ground.phase }, { on := 5, ground := Ground.phase }], guard := none } : Oper)) (v := ?_) rfl (by kernel_rfl) (by kernel_rfl) (by kernel_rfl) (fun _ _ _ h => h) (Or.inl ⟨by rfl, ?_⟩) hS ?_
              rotate_left
              · intro w hSw; (try dsimp only at hSw); go_simp; (try with_reducible rfl)
              simp only [Act.put, List.setIfInBounds_toArray, List.set_cons_zero, List.set_cons_succ]
              refine wpAnyH_ready (rs := [7]) (by kernel_rfl) (by simp) ?_
              refine AllReadyH.cons (o := ({ dst := none, op := Op.store 22 (Operand.tmp 38) (Operand.tmp 37), type := 0, pos := "frame.go:122", after := #[{ on := 6, ground := Ground.data }, { on := 5, ground := Ground.data }, { on := 5, ground := Ground.chain }, { on := 0, ground := Ground.phase }, { on := 1, ground := Ground.phase }, { on := 2, ground := Ground.phase }, { on := 3, ground := Ground.phase }, { on := 4, ground := Ground.phase }, { on := 5, ground := Ground.phase }], guard := none } : Oper)) rfl (fun K hK => ?_) AllReadyH.nil
              go_simp
              refine hK.out _ _ trivial (fun _ => ?_)
              clear hK K
              (try simp only [Act.put, List.setIfInBounds_toArray, List.set_cons_zero, List.set_cons_succ])
              refine wpAnyH_done (by kernel_rfl) ?_ _
              have RT8 : RT 95 w g C b #[.int .i64 sq, .int .i64 tm, .slice vadr2 (L.length + 1) vcap2] j' e' (w7.setCell ⟨C, 2, none⟩ (.slice vadr2 (L.length + 1) vcap2)) := RT7.out.set 2 _
              have HO8 := HO7.out.setO (r := C) (o := 2) (u := .slice vadr2 (L.length + 1) vcap2) (Nat.lt_succ_self _)
              have HDN := hid HD2.out
              have HKN := hid HK2.out
              rw [← map_snoc L (⟨op, tb, row, fr, to, ⟨nm, cols, ky⟩⟩, .slice ra row.length rc, .slice ca cols.length cc)] at HDN HKN
              clear HD2 HK2
              go_wp2_with fail
              go_roundw
              case rel => exact ⟨L ++ [_], m, j', e', _, by first | rfl | go_num, by omega, HDN.out, by simp; omega, HKN.out, RT8, HO8, HJ.out⟩
              case measure => (have := hM'.out; simp [intOf] <;> omega)
        · have hl100 : ¬ (L.length : Int) ≤ 100 := by omega
          have HDE : Hid (decR b = (⟨sq, tm, L.map (·.1)⟩, 0)) := by
            show _ = _
            rw [hD.out, loopR_stop (by rw [List.length_map]; rintro ⟨_, h⟩; exact hl1 h)]
          clear hD
          clear hM
          have HHK : Hid (Hok (L.map (·.1))) := ⟨by rw [List.length_map]; omega, HK.out⟩
          go_wp2_with fail
          refine ce.out.mono ?_; rintro e w5x ⟨rfl, rfl⟩
          go_wp2_with fail
          refine ce.out.mono ?_; rintro e w5' ⟨rfl, rfl⟩
          have cb0 := fbody_any ⟨sq, tm, L.map (·.1)⟩ (.slice vadr L.length vcap) w5 HO.out.at HHK.out
          unfold tv at cb0
          have CB := hid cb0
          clear cb0
          go_wp2_with fail
          refine CB.out.mono ?_; rintro e w6 ⟨rfl, b6⟩
          have RT6 := hid (HRT.out.keep b6)
          have HO6 := hid (HO.out.keep b6)
          clear b6 x0 x1 x2
          have x0 : w6.cell? ⟨C, 0, none⟩ = some (.int .i64 sq) := RT6.out.blk.cell 0
          have x1 : w6.cell? ⟨C, 1, none⟩ = some (.int .i64 tm) := RT6.out.blk.cell 1
          have x2 : w6.cell? ⟨C, 2, none⟩ = some (.slice vadr L.length vcap) := RT6.out.blk.cell 2
          by_cases heq : bstr (body ⟨sq, tm, L.map (·.1)⟩) = b
          · have hq : ((bstr (body ⟨sq, tm, L.map (·.1)⟩)).toList == b.toList) = true := by rw [bytes_beq]; exact decide_eq_true heq
            have HEQ := hid heq.symm
            have HEE := hid heq
            clear heq
            generalize hgE : bstr (body ⟨sq, tm, L.map (·.1)⟩) = E at hq CB
            clear hgE CB
            have z0 : w6.cell? ⟨w.heap.size, 0, none⟩ = some (.int .i64 0) := RT6.out.res.cell 0
            have z1 : w6.cell? ⟨w.heap.size, 1, none⟩ = some (.int .i64 0) := RT6.out.res.cell 1
            have z2 : w6.cell? ⟨w.heap.size, 2, none⟩ = some (.slice none 0 0) := RT6.out.res.cell 2
            have y0 : w6.frozen? ⟨w.heap.size, 0, none⟩ = false := RT6.out.res.free 0
            have y1 : w6.frozen? ⟨w.heap.size, 1, none⟩ = false := RT6.out.res.free 1
            have y2 : w6.frozen? ⟨w.heap.size, 2, none⟩ = false := RT6.out.res.free 2
            have hw0 : w.heap.size < C + 1 := by have := RT6.out.gl; have := RT6.out.tl; omega
            have HBF := hid (((RT6.out.bel.setCell (p := ⟨w.heap.size, 0, none⟩) (Nat.le_refl _) (.int .i64 sq)).setCell (p := ⟨w.heap.size, 1, none⟩) (Nat.le_refl _) (.int .i64 tm)).setCell (p := ⟨w.heap.size, 2, none⟩) (Nat.le_refl _) (.slice vadr L.length vcap))
            have HOF := hid (((HO6.out.setO (o := 0) (u := .int .i64 sq) hw0).setO (o := 1) (u := .int .i64 tm) hw0).setO (o := 2) (u := .slice vadr L.length vcap) hw0)
            have HYS := hid (dec_some HDE.out rfl HEE.out)
            clear hw0
            go_wp2_with fail
            exact bodyPost_ret (v := .tuple #[.agg #[.int .i64 sq, .int .i64 tm, .slice vadr L.length vcap], .int .i64 0]) (by simp [results, Try.results25, go_sem, z0, z1, z2]) rfl ⟨⟨sq, tm, L.map (·.1)⟩, .slice vadr L.length vcap, 0, rfl, HOF.out.at, HHK.out, HBF.out, .inl ⟨rfl, HYS.out, HEQ.out⟩⟩
          · have hq : ((bstr (body ⟨sq, tm, L.map (·.1)⟩)).toList == b.toList) = false := by rw [bytes_beq]; exact decide_eq_false heq
            have HEE := hid heq
            clear heq
            generalize hgE : bstr (body ⟨sq, tm, L.map (·.1)⟩) = E at hq CB
            clear hgE CB
            have z0 : w6.cell? ⟨w.heap.size, 0, none⟩ = some (.int .i64 0) := RT6.out.res.cell 0
            have z1 : w6.cell? ⟨w.heap.size, 1, none⟩ = some (.int .i64 0) := RT6.out.res.cell 1
            have z2 : w6.cell? ⟨w.heap.size, 2, none⟩ = some (.slice none 0 0) := RT6.out.res.cell 2
            have y0 : w6.frozen? ⟨w.heap.size, 0, none⟩ = false := RT6.out.res.free 0
            have y1 : w6.frozen? ⟨w.heap.size, 1, none⟩ = false := RT6.out.res.free 1
            have y2 : w6.frozen? ⟨w.heap.size, 2, none⟩ = false := RT6.out.res.free 2
            have HBF := hid (((RT6.out.bel.setCell (p := ⟨w.heap.size, 0, none⟩) (Nat.le_refl _) (.int .i64 0)).setCell (p := ⟨w.heap.size, 1, none⟩) (Nat.le_refl _) (.int .i64 0)).setCell (p := ⟨w.heap.size, 2, none⟩) (Nat.le_refl _) (.slice none 0 0))
            have HNO := hid (dec_none HDE.out (.inr HEE.out))
            clear HRT HO HK HDE
            go_wp2_with fail
            exact bodyPost_ret (v := .tuple #[.agg #[.int .i64 0, .int .i64 0, .slice none 0 0], .int .i64 7]) (by simp [results, Try.results25, go_sem, z0, z1, z2]) rfl ⟨noT, .slice none 0 0, 7, rfl, HsAt.nil _, ⟨Nat.zero_le _, fun c hc => absurd hc List.not_mem_nil⟩, HBF.out, .inr ⟨rfl, rfl, HNO.out⟩⟩
      · have he1 : (e == 0) = false := by rw [beq_eq_false_iff_ne]; exact he0
        have HDE : Hid (decR b = (⟨sq, tm, L.map (·.1)⟩, e)) := by
          show _ = _
          rw [hD.out, loopR_stop (fun h => he0 h.1)]
        clear hD
        clear hM
        have HHK : Hid (Hok (L.map (·.1))) := ⟨by rw [List.length_map]; omega, HK.out⟩
        have hez := he0
        have hez1 : (e == 0) = false := by rw [beq_eq_false_iff_ne]; exact hez
        have hez2 : (e != 0) = true := by rw [bne_iff_ne]; exact hez
        have HEZ := hid hez
        clear hez he0
        go_wp2_with fail
        refine ce.out.mono ?_; rintro e w5x ⟨rfl, rfl⟩
        go_wp2_with fail
        refine ce.out.mono ?_; rintro e w5' ⟨rfl, rfl⟩
        have z0 : w5.cell? ⟨w.heap.size, 0, none⟩ = some (.int .i64 0) := HRT.out.res.cell 0
        have z1 : w5.cell? ⟨w.heap.size, 1, none⟩ = some (.int .i64 0) := HRT.out.res.cell 1
        have z2 : w5.cell? ⟨w.heap.size, 2, none⟩ = some (.slice none 0 0) := HRT.out.res.cell 2
        have y0 : w5.frozen? ⟨w.heap.size, 0, none⟩ = false := HRT.out.res.free 0
        have y1 : w5.frozen? ⟨w.heap.size, 1, none⟩ = false := HRT.out.res.free 1
        have y2 : w5.frozen? ⟨w.heap.size, 2, none⟩ = false := HRT.out.res.free 2
        have HBF := hid (((HRT.out.bel.setCell (p := ⟨w.heap.size, 0, none⟩) (Nat.le_refl _) (.int .i64 0)).setCell (p := ⟨w.heap.size, 1, none⟩) (Nat.le_refl _) (.int .i64 0)).setCell (p := ⟨w.heap.size, 2, none⟩) (Nat.le_refl _) (.slice none 0 0))
        have HNO := hid (dec_none HDE.out (.inl HEZ.out))
        clear HRT HO HK HDE
        go_wp2_with fail
        exact bodyPost_ret (v := .tuple #[.agg #[.int .i64 0, .int .i64 0, .slice none 0 0], .int .i64 7]) (by simp [results, Try.results25, go_sem, z0, z1, z2]) rfl ⟨noT, .slice none 0 0, 7, rfl, HsAt.nil _, ⟨Nat.zero_le _, fun c hc => absurd hc List.not_mem_nil⟩, HBF.out, .inr ⟨rfl, rfl, HNO.out⟩⟩
set_option maxRecDepth 100000 in
set_option maxHeartbeats 12800000 in
theorem fdecodeR_any (b : ByteArray) (hb : b.size ≤ 1000000) (w : World) : Calls Try.prog 26 #[.string b] w (DecT b w) := by
  have hs9 : b.size ≤ 1000000000 := by omega
  obtain ⟨⟨n1, j1, e1⟩, hT1⟩ : ∃ t, Cd.top 0 (Cd.uintR b.data.toList) 0 0 = t := ⟨_, rfl⟩
  obtain ⟨⟨n2, j2, e2⟩, hT2⟩ : ∃ t, Cd.top 0 (Cd.uintR b.data.toList) j1 e1 = t := ⟨_, rfl⟩
  obtain ⟨⟨n3, j3, e3⟩, hT3⟩ : ∃ t, Cd.top 0 (Cd.uintR b.data.toList) j2 e2 = t := ⟨_, rfl⟩
  have m1 := hid (fun g W h hj => mUintX g b 0 0 W h hj hs9)
  rw [hT1] at m1
  have m2 := hid (fun g W h hj => mUintX g b j1 e1 W h hj hs9)
  rw [hT2] at m2
  have m3 := hid (fun g W h hj => mUintX g b j2 e2 W h hj hs9)
  rw [hT3] at m3
  have cn1 := hid (fun W => fnumR_any n1 (top_uint hT1).1 W)
  have cn2 := hid (fun W => fnumR_any n2 (top_uint hT2).1 W)
  have cn3 := hid (fun W => fnumR_any n3 (top_uint hT3).1 W)
  have HD0 : Hid (decR b = (⟨clamp n1, clamp n2, (loopR b (clamp n3).toNat [] j3 e3).1⟩, (loopR b (clamp n3).toNat [] j3 e3).2.2)) := by
    show _ = _
    unfold decR
    simp only [hT1, hT2, hT3]
  have HQ1 := hid (clamp_range n1)
  have HQ2 := hid (clamp_range n2)
  clear hT1 hT2 hT3
  have hn3 := clamp_range n3
  obtain ⟨N, hN⟩ : ∃ N : Nat, clamp n3 = (N : Int) := ⟨(clamp n3).toNat, by omega⟩
  rw [hN] at hn3 HD0 cn3
  rw [Int.toNat_natCast] at HD0
  generalize hsq : clamp n1 = sq at HD0 HQ1 cn1
  generalize htm : clamp n2 = tm at HD0 HQ2 cn2
  have HSQ := hid hsq
  have HTM := hid htm
  have HNN := hid hN
  clear hsq htm hN
  go_enter Try.func26, Try.ntmps26
  go_wp2_with fail
  have hb0 := hba w (.cells #[.int .i64 0, .int .i64 0, .slice none 0 0] 24)
  have hz0 : Var (w.alloc (.cells #[.int .i64 0, .int .i64 0, .slice none 0 0] 24)) w.heap.size #[.int .i64 0, .int .i64 0, .slice none 0 0] 24 := heap_alloc_new w _
  obtain ⟨w1, hw1⟩ : ∃ w1, w.alloc (.cells #[.int .i64 0, .int .i64 0, .slice none 0 0] 24) = w1 := ⟨_, rfl⟩
  rw [hw1] at hb0 hz0 ⊢
  clear hw1
  refine (newX_any b _).mono ?_; rintro e w2 ⟨rfl, hw2⟩
  have R0 := newX_rfx b w1
  have hb1 := hba w1 (.cells #[.string b, .int .i64 0, .int .i64 0] 85)
  rw [← hw2] at R0 hb1
  have hz1 := hz0.keep hb1
  have hl1 := hnext hb0 hb1
  have hzg : w.heap.size < w1.heap.size := hz0.lt
  clear hw2 hb1 hz0 hb0
  generalize w1.heap.size = g at R0 hzg ⊢
  go_wp2_with fail
  refine (m1.out g _ R0 (Nat.zero_le _)).mono ?_; rintro e W1 ⟨rfl, u1, R1, hj1⟩
  simp only at R1 hj1
  dsimp only
  go_wp2_with fail
  refine (cn1.out _).mono ?_; rintro e W1' ⟨rfl, rfl⟩
  have hz2 := hz1.upd u1 (by omega)
  have hl2 := Upd.below hl1 u1 (Nat.le_of_lt hzg) hl1.size
  have hgw : g < W1.heap.size := (Array.getElem?_eq_some_iff.1 R1).1
  clear u1 R0 hz1 hl1 m1
  have rt1 : RT 85 w g W1.heap.size b #[.int .i64 sq, .int .i64 0, .slice none 0 0] j1 e1 (W1.alloc (.cells #[.int .i64 sq, .int .i64 0, .slice none 0 0] 24)) := by
    have hb2 := hba W1 (.cells #[.int .i64 sq, .int .i64 0, .slice none 0 0] 24)
    exact ⟨hnext hl2 hb2, keepBlock R1 hb2, heap_alloc_new W1 _, hz2.keep hb2, hzg, hgw⟩
  clear hz2 hl2 R1
  obtain ⟨C, hC⟩ : ∃ C, W1.heap.size = C := ⟨_, rfl⟩
  rw [hC] at rt1
  clear hgw
  go_wp2_with fail
  (try rw [hC])
  generalize W1.alloc (.cells #[.int .i64 sq, .int .i64 0, .slice none 0 0] 24) = w3 at rt1 ⊢
  clear hC
  refine (m2.out g _ rt1.rd hj1).mono ?_; rintro e W2 ⟨rfl, u2, R2, hj2⟩
  simp only at R2 hj2
  dsimp only
  go_wp2_with fail
  refine (cn2.out _).mono ?_; rintro e W2' ⟨rfl, rfl⟩
  have rt2 := rt1.call u2 R2
  clear u2 R2 rt1 m2
  have x1 : W2.cell? ⟨C, 1, none⟩ = some (.int .i64 0) := rt2.blk.cell 1
  have f1 : W2.frozen? ⟨C, 1, none⟩ = false := rt2.blk.free 1
  have rt3 : RT 85 w g C b #[.int .i64 sq, .int .i64 tm, .slice none 0 0] j2 e2 (W2.setCell ⟨C, 1, none⟩ (.int .i64 tm)) := rt2.set 1 (.int .i64 tm)
  clear rt2
  go_wp2_with fail
  clear x1 f1
  generalize W2.setCell ⟨C, 1, none⟩ (.int .i64 tm) = w4 at rt3 ⊢
  refine (m3.out g _ rt3.rd hj2).mono ?_; rintro e W3 ⟨rfl, u3, R3, hj3⟩
  simp only at R3 hj3
  dsimp only
  go_wp2_with fail
  refine (cn3.out _).mono ?_; rintro e W3' ⟨rfl, rfl⟩
  have rt4 := rt3.call u3 R3
  clear u3 R3 rt3 m3
  go_wp2_with fail
  go_loopw [7] (fun q wr => ∃ (L : List (Ch × Value × Value)) (m j : Nat) (e : Int) (v : Value), q = .int .i64 (L.length : Int) ∧ m + L.length = N ∧ Hid (decR b = (⟨sq, tm, (loopR b m (L.map (·.1)) j e).1⟩, (loopR b m (L.map (·.1)) j e).2.2)) ∧ L.length ≤ 101 ∧ (∀ c ∈ L.map (·.1), Chk c ∧ c.row.length ≤ 9223372036854775807) ∧ RT 85 w g C b #[.int .i64 sq, .int .i64 tm, v] j e wr ∧ OwnH wr (C + 1) v L ∧ j ≤ b.size) (fun q _ => N - (intOf q).toNat)
  case atStart => exact ⟨[], N, j3, e3, _, rfl, rfl, HD0.out, Nat.zero_le _, fun c hc => absurd hc List.not_mem_nil, rt4, OwnH.nil _ _, hj3⟩
  case round =>
    obtain ⟨L, m, j, e, v, rfl, hm, hD, hL, hk, rt, ho, hj⟩ := hrel
    obtain ⟨w5, rfl⟩ : ∃ w5 : World, w5 = wr := ⟨_, rfl⟩
    clear rt4 HD0 hj3
    have hm0 : (0 : Int) ≤ (m : Int) := by omega
    have hl0 : (0 : Int) ≤ (L.length : Int) := by omega
    obtain ⟨vadr, vcap, hv⟩ := ho.at.slc
    rw [List.length_map] at hv
    subst hv
    have HRT := hid rt
    have HO := hid ho
    have HK := hid hk
    have x0 : w5.cell? ⟨C, 0, none⟩ = some (.int .i64 sq) := rt.blk.cell 0
    have x1 : w5.cell? ⟨C, 1, none⟩ = some (.int .i64 tm) := rt.blk.cell 1
    have x2 : w5.cell? ⟨C, 2, none⟩ = some (.slice vadr L.length vcap) := rt.blk.cell 2
    have r2 : w5.cell? ⟨g, 2, none⟩ = some (.int .i64 e) := cell_of_row w5 g 2 _ _ (0, 0) rt.rd
    clear rt ho hk
    cases m with
    | zero =>
      have hNl : ¬ (L.length : Int) < (N : Int) := by omega
      have HDE : Hid (decR b = (⟨sq, tm, L.map (·.1)⟩, e)) := by
        show _ = _
        rw [hD.out, show loopR b 0 (L.map (·.1)) j e = (L.map (·.1), j, e) from rfl]
      clear hD
      have HHK : Hid (Hok (L.map (·.1))) := ⟨by rw [List.length_map]; omega, HK.out⟩
      by_cases hbe : b = ⟨#[]⟩
      · have hbq : (b.toList == []) = true := by subst hbe; rw [ByteArray.toList_eq]; rfl
        have hbq' : b.toList.isEmpty = true := by subst hbe; rw [ByteArray.toList_eq]; rfl
        have HNE : Hid (∀ t', Hok t'.cs → body t' ≠ [] → b ≠ bstr (body t')) := fun t' _ hn he => hn (by rw [hbe] at he; rw [← bstr_toList (body t'), ← he])
        clear hbe
        have z0 : w5.cell? ⟨w.heap.size, 0, none⟩ = some (.int .i64 0) := HRT.out.res.cell 0
        have z1 : w5.cell? ⟨w.heap.size, 1, none⟩ = some (.int .i64 0) := HRT.out.res.cell 1
        have z2 : w5.cell? ⟨w.heap.size, 2, none⟩ = some (.slice none 0 0) := HRT.out.res.cell 2
        have y0 : w5.frozen? ⟨w.heap.size, 0, none⟩ = false := HRT.out.res.free 0
        have y1 : w5.frozen? ⟨w.heap.size, 1, none⟩ = false := HRT.out.res.free 1
        have y2 : w5.frozen? ⟨w.heap.size, 2, none⟩ = false := HRT.out.res.free 2
        have HBF := hid (((HRT.out.bel.setCell (p := ⟨w.heap.size, 0, none⟩) (Nat.le_refl _) (.int .i64 0)).setCell (p := ⟨w.heap.size, 1, none⟩) (Nat.le_refl _) (.int .i64 0)).setCell (p := ⟨w.heap.size, 2, none⟩) (Nat.le_refl _) (.slice none 0 0))
        have HNO := hid (HNE.out)
        clear HRT HO HK HDE
        go_wp2_with fail
        exact bodyPost_ret (v := .tuple #[.agg #[.int .i64 0, .int .i64 0, .slice none 0 0], .int .i64 7]) (by simp [results, Try.results26, go_sem, z0, z1, z2]) rfl ⟨noT, .slice none 0 0, 7, rfl, HsAt.nil _, ⟨Nat.zero_le _, fun c hc => absurd hc List.not_mem_nil⟩, HBF.out, .inr ⟨rfl, rfl, HNO.out⟩⟩
      · have hbq : (b.toList == []) = false := by
          rw [beq_eq_false_iff_ne]
          intro h
          exact hbe (by rw [ByteArray.toList_eq] at h; exact ByteArray.ext (Array.toList_inj.1 h))
        have hbq' : b.toList.isEmpty = false := by
          cases h : b.toList with
          | nil => rw [h] at hbq; cases hbq
          | cons c r => rfl
        have HBE := hid hbe
        clear hbe
        have cb0 := fbodyR_any ⟨sq, tm, L.map (·.1)⟩ (.slice vadr L.length vcap) w5 HO.out.at HHK.out
        unfold tv at cb0
        have CB := hid cb0
        clear cb0
        go_wp2_with fail
        refine CB.out.mono ?_; rintro e w6 ⟨rfl, b6⟩
        have RT6 := hid (HRT.out.keep b6)
        have HO6 := hid (HO.out.keep b6)
        clear b6 x0 x1 x2
        have x0 : w6.cell? ⟨C, 0, none⟩ = some (.int .i64 sq) := RT6.out.blk.cell 0
        have x1 : w6.cell? ⟨C, 1, none⟩ = some (.int .i64 tm) := RT6.out.blk.cell 1
        have x2 : w6.cell? ⟨C, 2, none⟩ = some (.slice vadr L.length vcap) := RT6.out.blk.cell 2
        by_cases heq : bstr (body ⟨sq, tm, L.map (·.1)⟩) = b
        · have hq : ((bstr (body ⟨sq, tm, L.map (·.1)⟩)).toList == b.toList) = true := by rw [bytes_beq]; exact decide_eq_true heq
          have HEQ := hid heq.symm
          have HEE := hid heq
          clear heq
          generalize hgE : bstr (body ⟨sq, tm, L.map (·.1)⟩) = E at hq CB
          clear hgE CB
          have z0 : w6.cell? ⟨w.heap.size, 0, none⟩ = some (.int .i64 0) := RT6.out.res.cell 0
          have z1 : w6.cell? ⟨w.heap.size, 1, none⟩ = some (.int .i64 0) := RT6.out.res.cell 1
          have z2 : w6.cell? ⟨w.heap.size, 2, none⟩ = some (.slice none 0 0) := RT6.out.res.cell 2
          have y0 : w6.frozen? ⟨w.heap.size, 0, none⟩ = false := RT6.out.res.free 0
          have y1 : w6.frozen? ⟨w.heap.size, 1, none⟩ = false := RT6.out.res.free 1
          have y2 : w6.frozen? ⟨w.heap.size, 2, none⟩ = false := RT6.out.res.free 2
          have hw0 : w.heap.size < C + 1 := by have := RT6.out.gl; have := RT6.out.tl; omega
          have HBF := hid (((RT6.out.bel.setCell (p := ⟨w.heap.size, 0, none⟩) (Nat.le_refl _) (.int .i64 sq)).setCell (p := ⟨w.heap.size, 1, none⟩) (Nat.le_refl _) (.int .i64 tm)).setCell (p := ⟨w.heap.size, 2, none⟩) (Nat.le_refl _) (.slice vadr L.length vcap))
          have HOF := hid (((HO6.out.setO (o := 0) (u := .int .i64 sq) hw0).setO (o := 1) (u := .int .i64 tm) hw0).setO (o := 2) (u := .slice vadr L.length vcap) hw0)
          have HYS := hid ((dec_zero HHK.out HDE.out HEE.out HBE.out).2)
          clear hw0
          go_wp2_with fail
          exact bodyPost_ret (v := .tuple #[.agg #[.int .i64 sq, .int .i64 tm, .slice vadr L.length vcap], .int .i64 0]) (by simp [results, Try.results26, go_sem, z0, z1, z2]) rfl ⟨⟨sq, tm, L.map (·.1)⟩, .slice vadr L.length vcap, 0, rfl, HOF.out.at, HHK.out, HBF.out, .inl ⟨rfl, HYS.out, HEQ.out⟩⟩
        · have hq : ((bstr (body ⟨sq, tm, L.map (·.1)⟩)).toList == b.toList) = false := by rw [bytes_beq]; exact decide_eq_false heq
          have HEE := hid heq
          clear heq
          generalize hgE : bstr (body ⟨sq, tm, L.map (·.1)⟩) = E at hq CB
          clear hgE CB
          have z0 : w6.cell? ⟨w.heap.size, 0, none⟩ = some (.int .i64 0) := RT6.out.res.cell 0
          have z1 : w6.cell? ⟨w.heap.size, 1, none⟩ = some (.int .i64 0) := RT6.out.res.cell 1
          have z2 : w6.cell? ⟨w.heap.size, 2, none⟩ = some (.slice none 0 0) := RT6.out.res.cell 2
          have y0 : w6.frozen? ⟨w.heap.size, 0, none⟩ = false := RT6.out.res.free 0
          have y1 : w6.frozen? ⟨w.heap.size, 1, none⟩ = false := RT6.out.res.free 1
          have y2 : w6.frozen? ⟨w.heap.size, 2, none⟩ = false := RT6.out.res.free 2
          have HBF := hid (((RT6.out.bel.setCell (p := ⟨w.heap.size, 0, none⟩) (Nat.le_refl _) (.int .i64 0)).setCell (p := ⟨w.heap.size, 1, none⟩) (Nat.le_refl _) (.int .i64 0)).setCell (p := ⟨w.heap.size, 2, none⟩) (Nat.le_refl _) (.slice none 0 0))
          have HNO := hid (dec_none HDE.out (.inr HEE.out))
          clear HRT HO HK HDE
          go_wp2_with fail
          exact bodyPost_ret (v := .tuple #[.agg #[.int .i64 0, .int .i64 0, .slice none 0 0], .int .i64 7]) (by simp [results, Try.results26, go_sem, z0, z1, z2]) rfl ⟨noT, .slice none 0 0, 7, rfl, HsAt.nil _, ⟨Nat.zero_le _, fun c hc => absurd hc List.not_mem_nil⟩, HBF.out, .inr ⟨rfl, rfl, HNO.out⟩⟩
    | succ m =>
      have hNl : (L.length : Int) < (N : Int) := by omega
      by_cases hl1 : L.length ≤ 100
      · have hl100 : (L.length : Int) < 101 := by omega
        by_cases he0 : e = 0
        · subst he0
          have CR := hid (fun W h => freadR_any g b j 0 W h hj hb)
          have HD2 : Hid (decR b = (⟨sq, tm, (loopR b m (L.map (·.1) ++ [(chR b j 0).1]) (chR b j 0).2.1 (chR b j 0).2.2).1⟩, (loopR b m (L.map (·.1) ++ [(chR b j 0).1]) (chR b j 0).2.1 (chR b j 0).2.2).2.2)) := by
            show _ = _
            rw [hD.out, loopR_next (by rw [List.length_map]; omega)]
          have HK2 : Hid (∀ c ∈ L.map (·.1) ++ [(chR b j 0).1], Chk c ∧ c.row.length ≤ 9223372036854775807) := fun c hc => by
            rcases List.mem_append.1 hc with hc | hc
            · exact HK.out c hc
            · rw [List.mem_singleton.1 hc]; exact chR_ok b j 0
          clear hD HK
          clear hl1
          go_wp2_with fail
          refine wp_region_held_drew (S := fun _ => True) (by kernel_rfl) trivial (fun hS => ?_)
          obtain ⟨w20, hw20⟩ : ∃ w20, w5.drew = w20 := ⟨_, rfl⟩
          have hd20 : Below w5.heap.size w5 w20 := hw20 ▸ (Below.refl _ _).drew
          rw [hw20]
          have RT20 := hid (HRT.out.keep hd20)
          have HO20 := hid (HO.out.keep hd20)
          clear hd20 hw20 HRT HO x0 x1 x2
          refine wpAnyH_take (i := 0) (oi := ({ dst := some 37, op := Op.fieldAddr 24 (Operand.tmp 5) 2, type := 0, pos := "ref.go:113", after := #[], guard := none } : Oper)) (v := ?_) rfl (by kernel_rfl) (by kernel_rfl) (by kernel_rfl) (fun _ _ _ h => h) (Or.inl ⟨by rfl, ?_⟩) hS ?_
          rotate_left
          · intro w hSw; (try dsimp only at hSw); go_simp; (try with_reducible rfl)
          simp only [Act.put, List.setIfInBounds_toArray, List.set_cons_zero, List.set_cons_succ]
          refine wpAnyH_take (i := 2) (oi := ({ dst := some 39, op := Op.move (Operand.tmp 4), type := 80, pos := "ref.go:113", after := #[], guard := none } : Oper)) (v := ?_) rfl (by kernel_rfl) (by kernel_rfl) (by kernel_rfl) (fun _ _ _ h => h) (Or.inl ⟨by rfl, ?_⟩) hS ?_
          rotate_left
          · intro w hSw; (try dsimp only at hSw); go_simp; (try with_reducible rfl)
          simp only [Act.put, List.setIfInBounds_toArray, List.set_cons_zero, List.set_cons_succ]
          refine wpAnyH_ready (rs := [1, 3]) (by kernel_rfl) (by simp) ?_
          refine AllReadyH.cons (o := ({ dst := some 38, op := Op.load 22 (Operand.tmp 37), type := 22, pos := "ref.go:113", after := #[{ on := 0, ground := Ground.data }], guard := none } : Oper)) rfl (fun K hK => ?_) (AllReadyH.cons (o := ({ dst := some 40, op := Op.call { callee := Callee.value (Operand.func 57), args := #[Operand.tmp 39], argTypes := #[80] }, type := 32, pos := "ref.go:113", after := #[{ on := 2, ground := Ground.data }], guard := none } : Oper)) rfl (fun K hK => ?_) AllReadyH.nil)
          · have x2 : w20.cell? ⟨C, 2, none⟩ = some (.slice vadr L.length vcap) := RT20.out.blk.cell 2
            go_simp
            refine hK.out _ _ trivial (fun _ => ?_)
            clear hK K
            (try simp only [Act.put, List.setIfInBounds_toArray, List.set_cons_zero, List.set_cons_succ])
            clear x2
            refine wpAnyH_ready (rs := [3]) (by kernel_rfl) (by simp) ?_
            refine AllReadyH.cons (o := ({ dst := some 40, op := Op.call { callee := Callee.value (Operand.func 57), args := #[Operand.tmp 39], argTypes := #[80] }, type := 32, pos := "ref.go:113", after := #[{ on := 2, ground := Ground.data }], guard := none } : Oper)) rfl (fun K hK => ?_) AllReadyH.nil
            go_simp
            refine (CR.out _ RT20.out.rd).mono ?_; rintro e w21 ⟨⟨vr, vc, rfl, ownr, ownc⟩, u21, R21, hj21⟩
            have RT21 := hid (RT20.out.call u21 R21)
            have hC20 := RT20.out.lt
            have hg20 : g < C + 1 := by have := RT20.out.tl; omega
            have HO21 := hid (HO20.out.upd u21 hg20)
            have HIN : Hid (In w21 (C + 1) ((chR b j 0).1, vr, vc)) := ⟨own_base ownr (by omega), own_base ownc (by omega)⟩
            obtain ⟨ra, rc, er1⟩ := vs_slc (VsAt.own ownr)
            obtain ⟨ca, cc, er2⟩ := (CsAt.own ownc).slc
            have HJ := hid hj21
            clear ownr ownc u21 R21 hj21 hC20 hg20 RT20 HO20
            generalize hch : chR b j 0 = ch at *
            obtain ⟨⟨op, tb, row, fr, to, ⟨nm, cols, ky⟩⟩, j', e'⟩ := ch
            simp only at er1 er2 HIN RT21 HJ
            subst er1 er2
            have HCH := hid hch
            clear hch
            unfold cvv
            dsimp only
            go_wp2_with fail
            refine hK.out _ _ trivial (fun _ => ?_)
            clear hK K
            (try simp only [Act.put, List.setIfInBounds_toArray, List.set_cons_zero, List.set_cons_succ])
            refine wpAnyH_ready (rs := [4]) (by kernel_rfl) (by simp) ?_
            refine AllReadyH.cons (o := ({ dst := some 41, op := Op.buildSlice 22 1 #[(0, Operand.tmp 40)], type := 22, pos := "ref.go:113", after := #[{ on := 3, ground := Ground.data }], guard := none } : Oper)) rfl (fun K hK => ?_) AllReadyH.nil
            go_simp
            refine hK.out _ _ trivial (fun _ => ?_)
            clear hK K
            (try simp only [Act.put, List.setIfInBounds_toArray, List.set_cons_zero, List.set_cons_succ])
            refine wpAnyH_ready (rs := [5]) (by kernel_rfl) (by simp) ?_
            refine AllReadyH.cons (o := ({ dst := some 42, op := Op.call { callee := Callee.builtin Builtin.append, args := #[Operand.tmp 38, Operand.tmp 41], argTypes := #[22, 22] }, type := 22, pos := "ref.go:113", after := #[{ on := 1, ground := Ground.data }, { on := 4, ground := Ground.data }, { on := 3, ground := Ground.chain }], guard := none } : Oper)) rfl (fun K hK => ?_) AllReadyH.nil
            refine append_ch_wp w21 _ _ rfl (C + 1) _ L rfl HO21.out (⟨op, tb, row, fr, to, ⟨nm, cols, ky⟩⟩, _, _) HIN.out _ rfl rfl (by omega) RT21.out.lt rfl ?_
            intro v2 w7 own2 gr2
            have HO7 := hid own2
            have RT7 := hid (RT21.out.grow gr2 (fun q e => by have := (World.ownsRow.lt HO21.out.1 q e).1; omega))
            obtain ⟨vadr2, vcap2, hv2⟩ := own2.at.slc
            rw [List.length_map, List.length_append, List.length_singleton] at hv2
            subst hv2
            clear own2 gr2 RT21 HO21 HIN
            have x2 : w7.cell? ⟨C, 2, none⟩ = some (.slice vadr L.length vcap) := RT7.out.blk.cell 2
            have f2 : w7.frozen? ⟨C, 2, none⟩ = false := RT7.out.blk.free 2
            refine hK.out _ _ trivial (fun _ => ?_)
            clear hK K
            (try simp only [Act.put, List.setIfInBounds_toArray, List.set_cons_zero, List.set_cons_succ])
            refine wpAnyH_take (i := 6) (oi := ({ dst := some 43, op := Op.fieldAddr 24 (Operand.tmp 5) 2, type := 0, pos := "ref.go:113", after := #[{ on := 0, ground := Ground.phase }, { on := 1, ground := Ground.phase }, { on := 2, ground := Ground.phase }, { on := 3, ground := Ground.phase }, { on := 4, ground := Ground.phase }, { on := 5, ground := Ground.phase }], guard := none } : Oper)) (v := ?_) rfl (by kernel_rfl) (by kernel_rfl) (by kernel_rfl) (fun _ _ _ h => h) (Or.inl ⟨by rfl, ?_⟩) hS ?_
            rotate_left
            · intro w hSw; (try dsimp only at hSw); go_simp; (try with_reducible rfl)
            simp only [Act.put, List.setIfInBounds_toArray, List.set_cons_zero, List.set_cons_succ]
            refine wpAnyH_ready (rs := [7]) (by kernel_rfl) (by simp) ?_
            refine AllReadyH.cons (o := ({ dst := none, op := Op.store 22 (Operand.tmp 43) (Operand.tmp 42), type := 0, pos := "ref.go:113", after := #[{ on := 6, ground := Ground.data }, { on := 5, ground := Ground.data }, { on := 5, ground := Ground.chain }, { on := 0, ground := Ground.phase }, { on := 1, ground := Ground.phase }, { on := 2, ground := Ground.phase }, { on := 3, ground := Ground.phase }, { on := 4, ground := Ground.phase }, { on := 5, ground := Ground.phase }], guard := none } : Oper)) rfl (fun K hK => ?_) AllReadyH.nil
            go_simp
            refine hK.out _ _ trivial (fun _ => ?_)
            clear hK K
            (try simp only [Act.put, List.setIfInBounds_toArray, List.set_cons_zero, List.set_cons_succ])
            refine wpAnyH_done (by kernel_rfl) ?_ _
            have RT8 : RT 85 w g C b #[.int .i64 sq, .int .i64 tm, .slice vadr2 (L.length + 1) vcap2] j' e' (w7.setCell ⟨C, 2, none⟩ (.slice vadr2 (L.length + 1) vcap2)) := RT7.out.set 2 _
            have HO8 := HO7.out.setO (r := C) (o := 2) (u := .slice vadr2 (L.length + 1) vcap2) (Nat.lt_succ_self _)
            have HDN := hid HD2.out
            have HKN := hid HK2.out
            rw [← map_snoc L (⟨op, tb, row, fr, to, ⟨nm, cols, ky⟩⟩, .slice ra row.length rc, .slice ca cols.length cc)] at HDN HKN
            clear HD2 HK2
            go_wp2_with fail
            go_roundw
            case rel => exact ⟨L ++ [_], m, j', e', _, by first | rfl | (simp; done) | (simp; omega), by simp; omega, HDN.out, by simp; omega, HKN.out, RT8, HO8, HJ.out⟩
            case measure => simp [intOf] <;> omega
          · go_simp
            refine (CR.out _ RT20.out.rd).mono ?_; rintro e w21 ⟨⟨vr, vc, rfl, ownr, ownc⟩, u21, R21, hj21⟩
            have RT21 := hid (RT20.out.call u21 R21)
            have hC20 := RT20.out.lt
            have hg20 : g < C + 1 := by have := RT20.out.tl; omega
            have HO21 := hid (HO20.out.upd u21 hg20)
            have HIN : Hid (In w21 (C + 1) ((chR b j 0).1, vr, vc)) := ⟨own_base ownr (by omega), own_base ownc (by omega)⟩
            obtain ⟨ra, rc, er1⟩ := vs_slc (VsAt.own ownr)
            obtain ⟨ca, cc, er2⟩ := (CsAt.own ownc).slc
            have HJ := hid hj21
            clear ownr ownc u21 R21 hj21 hC20 hg20 RT20 HO20
            generalize hch : chR b j 0 = ch at *
            obtain ⟨⟨op, tb, row, fr, to, ⟨nm, cols, ky⟩⟩, j', e'⟩ := ch
            simp only at er1 er2 HIN RT21 HJ
            subst er1 er2
            have HCH := hid hch
            clear hch
            unfold cvv
            dsimp only
            go_wp2_with fail
            refine hK.out _ _ trivial (fun _ => ?_)
            clear hK K
            (try simp only [Act.put, List.setIfInBounds_toArray, List.set_cons_zero, List.set_cons_succ])
            refine wpAnyH_ready (rs := [1, 4]) (by kernel_rfl) (by simp) ?_
            refine AllReadyH.cons (o := ({ dst := some 38, op := Op.load 22 (Operand.tmp 37), type := 22, pos := "ref.go:113", after := #[{ on := 0, ground := Ground.data }], guard := none } : Oper)) rfl (fun K hK => ?_) (AllReadyH.cons (o := ({ dst := some 41, op := Op.buildSlice 22 1 #[(0, Operand.tmp 40)], type := 22, pos := "ref.go:113", after := #[{ on := 3, ground := Ground.data }], guard := none } : Oper)) rfl (fun K hK => ?_) AllReadyH.nil)
            · have x2 : w21.cell? ⟨C, 2, none⟩ = some (.slice vadr L.length vcap) := RT21.out.blk.cell 2
              go_simp
              refine hK.out _ _ trivial (fun _ => ?_)
              clear hK K
              (try simp only [Act.put, List.setIfInBounds_toArray, List.set_cons_zero, List.set_cons_succ])
              clear x2
              refine wpAnyH_ready (rs := [4]) (by kernel_rfl) (by simp) ?_
              refine AllReadyH.cons (o := ({ dst := some 41, op := Op.buildSlice 22 1 #[(0, Operand.tmp 40)], type := 22, pos := "ref.go:113", after := #[{ on := 3, ground := Ground.data }], guard := none } : Oper)) rfl (fun K hK => ?_) AllReadyH.nil
              go_simp
              refine hK.out _ _ trivial (fun _ => ?_)
              clear hK K
              (try simp only [Act.put, List.setIfInBounds_toArray, List.set_cons_zero, List.set_cons_succ])
              refine wpAnyH_ready (rs := [5]) (by kernel_rfl) (by simp) ?_
              refine AllReadyH.cons (o := ({ dst := some 42, op := Op.call { callee := Callee.builtin Builtin.append, args := #[Operand.tmp 38, Operand.tmp 41], argTypes := #[22, 22] }, type := 22, pos := "ref.go:113", after := #[{ on := 1, ground := Ground.data }, { on := 4, ground := Ground.data }, { on := 3, ground := Ground.chain }], guard := none } : Oper)) rfl (fun K hK => ?_) AllReadyH.nil
              refine append_ch_wp w21 _ _ rfl (C + 1) _ L rfl HO21.out (⟨op, tb, row, fr, to, ⟨nm, cols, ky⟩⟩, _, _) HIN.out _ rfl rfl (by omega) RT21.out.lt rfl ?_
              intro v2 w7 own2 gr2
              have HO7 := hid own2
              have RT7 := hid (RT21.out.grow gr2 (fun q e => by have := (World.ownsRow.lt HO21.out.1 q e).1; omega))
              obtain ⟨vadr2, vcap2, hv2⟩ := own2.at.slc
              rw [List.length_map, List.length_append, List.length_singleton] at hv2
              subst hv2
              clear own2 gr2 RT21 HO21 HIN
              have x2 : w7.cell? ⟨C, 2, none⟩ = some (.slice vadr L.length vcap) := RT7.out.blk.cell 2
              have f2 : w7.frozen? ⟨C, 2, none⟩ = false := RT7.out.blk.free 2
              refine hK.out _ _ trivial (fun _ => ?_)
              clear hK K
              (try simp only [Act.put, List.setIfInBounds_toArray, List.set_cons_zero, List.set_cons_succ])
              refine wpAnyH_take (i := 6) (oi := ({ dst := some 43, op := Op.fieldAddr 24 (Operand.tmp 5) 2, type := 0, pos := "ref.go:113", after := #[{ on := 0, ground := Ground.phase }, { on := 1, ground := Ground.phase }, { on := 2, ground := Ground.phase }, { on := 3, ground := Ground.phase }, { on := 4, ground := Ground.phase }, { on := 5, ground := Ground.phase }], guard := none } : Oper)) (v := ?_) rfl (by kernel_rfl) (by kernel_rfl) (by kernel_rfl) (fun _ _ _ h => h) (Or.inl ⟨by rfl, ?_⟩) hS ?_
              rotate_left
              · intro w hSw; (try dsimp only at hSw); go_simp; (try with_reducible rfl)
              simp only [Act.put, List.setIfInBounds_toArray, List.set_cons_zero, List.set_cons_succ]
              refine wpAnyH_ready (rs := [7]) (by kernel_rfl) (by simp) ?_
              refine AllReadyH.cons (o := ({ dst := none, op := Op.store 22 (Operand.tmp 43) (Operand.tmp 42), type := 0, pos := "ref.go:113", after := #[{ on := 6, ground := Ground.data }, { on := 5, ground := Ground.data }, { on := 5, ground := Ground.chain }, { on := 0, ground := Ground.phase }, { on := 1, ground := Ground.phase }, { on := 2, ground := Ground.phase }, { on := 3, ground := Ground.phase }, { on := 4, ground := Ground.phase }, { on := 5, ground := Ground.phase }], guard := none } : Oper)) rfl (fun K hK => ?_) AllReadyH.nil
              go_simp
              refine hK.out _ _ trivial (fun _ => ?_)
              clear hK K
              (try simp only [Act.put, List.setIfInBounds_toArray, List.set_cons_zero, List.set_cons_succ])
              refine wpAnyH_done (by kernel_rfl) ?_ _
              have RT8 : RT 85 w g C b #[.int .i64 sq, .int .i64 tm, .slice vadr2 (L.length + 1) vcap2] j' e' (w7.setCell ⟨C, 2, none⟩ (.slice vadr2 (L.length + 1) vcap2)) := RT7.out.set 2 _
              have HO8 := HO7.out.setO (r := C) (o := 2) (u := .slice vadr2 (L.length + 1) vcap2) (Nat.lt_succ_self _)
              have HDN := hid HD2.out
              have HKN := hid HK2.out
              rw [← map_snoc L (⟨op, tb, row, fr, to, ⟨nm, cols, ky⟩⟩, .slice ra row.length rc, .slice ca cols.length cc)] at HDN HKN
              clear HD2 HK2
              go_wp2_with fail
              go_roundw
              case rel => exact ⟨L ++ [_], m, j', e', _, by first | rfl | (simp; done) | (simp; omega), by simp; omega, HDN.out, by simp; omega, HKN.out, RT8, HO8, HJ.out⟩
              case measure => simp [intOf] <;> omega
            · go_simp
              refine hK.out _ _ trivial (fun _ => ?_)
              clear hK K
              (try simp only [Act.put, List.setIfInBounds_toArray, List.set_cons_zero, List.set_cons_succ])
              refine wpAnyH_ready (rs := [1]) (by kernel_rfl) (by simp) ?_
              refine AllReadyH.cons (o := ({ dst := some 38, op := Op.load 22 (Operand.tmp 37), type := 22, pos := "ref.go:113", after := #[{ on := 0, ground := Ground.data }], guard := none } : Oper)) rfl (fun K hK => ?_) AllReadyH.nil
              have x2 : (w21.alloc (.cells #[.int .i64 op, .string tb, .slice ra row.length rc, .int .i64 fr, .int .i64 to, .string nm, .slice ca cols.length cc, .int .i64 ky] 32)).cell? ⟨C, 2, none⟩ = some (.slice vadr L.length vcap) := hkeep (RT21.out.blk.cell 2) (hba w21 _)
              go_simp
              refine hK.out _ _ trivial (fun _ => ?_)
              clear hK K
              (try simp only [Act.put, List.setIfInBounds_toArray, List.set_cons_zero, List.set_cons_succ])
              clear x2
              refine wpAnyH_ready (rs := [5]) (by kernel_rfl) (by simp) ?_
              refine AllReadyH.cons (o := ({ dst := some 42, op := Op.call { callee := Callee.builtin Builtin.append, args := #[Operand.tmp 38, Operand.tmp 41], argTypes := #[22, 22] }, type := 22, pos := "ref.go:113", after := #[{ on := 1, ground := Ground.data }, { on := 4, ground := Ground.data }, { on := 3, ground := Ground.chain }], guard := none } : Oper)) rfl (fun K hK => ?_) AllReadyH.nil
              refine append_ch_wp w21 _ _ rfl (C + 1) _ L rfl HO21.out (⟨op, tb, row, fr, to, ⟨nm, cols, ky⟩⟩, _, _) HIN.out _ rfl rfl (by omega) RT21.out.lt rfl ?_
              intro v2 w7 own2 gr2
              have HO7 := hid own2
              have RT7 := hid (RT21.out.grow gr2 (fun q e => by have := (World.ownsRow.lt HO21.out.1 q e).1; omega))
              obtain ⟨vadr2, vcap2, hv2⟩ := own2.at.slc
              rw [List.length_map, List.length_append, List.length_singleton] at hv2
              subst hv2
              clear own2 gr2 RT21 HO21 HIN
              have x2 : w7.cell? ⟨C, 2, none⟩ = some (.slice vadr L.length vcap) := RT7.out.blk.cell 2
              have f2 : w7.frozen? ⟨C, 2, none⟩ = false := RT7.out.blk.free 2
              refine hK.out _ _ trivial (fun _ => ?_)
              clear hK K
              (try simp only [Act.put, List.setIfInBounds_toArray, List.set_cons_zero, List.set_cons_succ])
              refine wpAnyH_take (i := 6) (oi := ({ dst := some 43, op := Op.fieldAddr 24 (Operand.tmp 5) 2, type := 0, pos := "ref.go:113", after := #[{ on := 0, ground := Ground.phase }, { on := 1, ground := Ground.phase }, { on := 2, ground := Ground.phase }, { on := 3, ground := Ground.phase }, { on := 4, ground := Ground.phase }, { on := 5, ground := Ground.phase }], guard := none } : Oper)) (v := ?_) rfl (by kernel_rfl) (by kernel_rfl) (by kernel_rfl) (fun _ _ _ h => h) (Or.inl ⟨by rfl, ?_⟩) hS ?_
              rotate_left
              · intro w hSw; (try dsimp only at hSw); go_simp; (try with_reducible rfl)
              simp only [Act.put, List.setIfInBounds_toArray, List.set_cons_zero, List.set_cons_succ]
              refine wpAnyH_ready (rs := [7]) (by kernel_rfl) (by simp) ?_
              refine AllReadyH.cons (o := ({ dst := none, op := Op.store 22 (Operand.tmp 43) (Operand.tmp 42), type := 0, pos := "ref.go:113", after := #[{ on := 6, ground := Ground.data }, { on := 5, ground := Ground.data }, { on := 5, ground := Ground.chain }, { on := 0, ground := Ground.phase }, { on := 1, ground := Ground.phase }, { on := 2, ground := Ground.phase }, { on := 3, ground := Ground.phase }, { on := 4, ground := Ground.phase }, { on := 5, ground := Ground.phase }], guard := none } : Oper)) rfl (fun K hK => ?_) AllReadyH.nil
              go_simp
              refine hK.out _ _ trivial (fun _ => ?_)
              clear hK K
              (try simp only [Act.put, List.setIfInBounds_toArray, List.set_cons_zero, List.set_cons_succ])
              refine wpAnyH_done (by kernel_rfl) ?_ _
              have RT8 : RT 85 w g C b #[.int .i64 sq, .int .i64 tm, .slice vadr2 (L.length + 1) vcap2] j' e' (w7.setCell ⟨C, 2, none⟩ (.slice vadr2 (L.length + 1) vcap2)) := RT7.out.set 2 _
              have HO8 := HO7.out.setO (r := C) (o := 2) (u := .slice vadr2 (L.length + 1) vcap2) (Nat.lt_succ_self _)
              have HDN := hid HD2.out
              have HKN := hid HK2.out
              rw [← map_snoc L (⟨op, tb, row, fr, to, ⟨nm, cols, ky⟩⟩, .slice ra row.length rc, .slice ca cols.length cc)] at HDN HKN
              clear HD2 HK2
              go_wp2_with fail
              go_roundw
              case rel => exact ⟨L ++ [_], m, j', e', _, by first | rfl | (simp; done) | (simp; omega), by simp; omega, HDN.out, by simp; omega, HKN.out, RT8, HO8, HJ.out⟩
              case measure => simp [intOf] <;> omega
        · have he1 : (e == 0) = false := by rw [beq_eq_false_iff_ne]; exact he0
          have HDE : Hid (decR b = (⟨sq, tm, L.map (·.1)⟩, e)) := by
            show _ = _
            rw [hD.out, loopR_stop (fun h => he0 h.1)]
          clear hD
          clear he0
          have HHK : Hid (Hok (L.map (·.1))) := ⟨by rw [List.length_map]; omega, HK.out⟩
          by_cases hbe : b = ⟨#[]⟩
          · have hbq : (b.toList == []) = true := by subst hbe; rw [ByteArray.toList_eq]; rfl
            have hbq' : b.toList.isEmpty = true := by subst hbe; rw [ByteArray.toList_eq]; rfl
            have HNE : Hid (∀ t', Hok t'.cs → body t' ≠ [] → b ≠ bstr (body t')) := fun t' _ hn he => hn (by rw [hbe] at he; rw [← bstr_toList (body t'), ← he])
            clear hbe
            have z0 : w5.cell? ⟨w.heap.size, 0, none⟩ = some (.int .i64 0) := HRT.out.res.cell 0
            have z1 : w5.cell? ⟨w.heap.size, 1, none⟩ = some (.int .i64 0) := HRT.out.res.cell 1
            have z2 : w5.cell? ⟨w.heap.size, 2, none⟩ = some (.slice none 0 0) := HRT.out.res.cell 2
            have y0 : w5.frozen? ⟨w.heap.size, 0, none⟩ = false := HRT.out.res.free 0
            have y1 : w5.frozen? ⟨w.heap.size, 1, none⟩ = false := HRT.out.res.free 1
            have y2 : w5.frozen? ⟨w.heap.size, 2, none⟩ = false := HRT.out.res.free 2
            have HBF := hid (((HRT.out.bel.setCell (p := ⟨w.heap.size, 0, none⟩) (Nat.le_refl _) (.int .i64 0)).setCell (p := ⟨w.heap.size, 1, none⟩) (Nat.le_refl _) (.int .i64 0)).setCell (p := ⟨w.heap.size, 2, none⟩) (Nat.le_refl _) (.slice none 0 0))
            have HNO := hid (HNE.out)
            clear HRT HO HK HDE
            go_wp2_with fail
            exact bodyPost_ret (v := .tuple #[.agg #[.int .i64 0, .int .i64 0, .slice none 0 0], .int .i64 7]) (by simp [results, Try.results26, go_sem, z0, z1, z2]) rfl ⟨noT, .slice none 0 0, 7, rfl, HsAt.nil _, ⟨Nat.zero_le _, fun c hc => absurd hc List.not_mem_nil⟩, HBF.out, .inr ⟨rfl, rfl, HNO.out⟩⟩
          · have hbq : (b.toList == []) = false := by
              rw [beq_eq_false_iff_ne]
              intro h
              exact hbe (by rw [ByteArray.toList_eq] at h; exact ByteArray.ext (Array.toList_inj.1 h))
            have hbq' : b.toList.isEmpty = false := by
              cases h : b.toList with
              | nil => rw [h] at hbq; cases hbq
              | cons c r => rfl
            have HBE := hid hbe
            clear hbe
            have cb0 := fbodyR_any ⟨sq, tm, L.map (·.1)⟩ (.slice vadr L.length vcap) w5 HO.out.at HHK.out
            unfold tv at cb0
            have CB := hid cb0
            clear cb0
            go_wp2_with fail
            refine CB.out.mono ?_; rintro e w6 ⟨rfl, b6⟩
            have RT6 := hid (HRT.out.keep b6)
            have HO6 := hid (HO.out.keep b6)
            clear b6 x0 x1 x2
            have x0 : w6.cell? ⟨C, 0, none⟩ = some (.int .i64 sq) := RT6.out.blk.cell 0
            have x1 : w6.cell? ⟨C, 1, none⟩ = some (.int .i64 tm) := RT6.out.blk.cell 1
            have x2 : w6.cell? ⟨C, 2, none⟩ = some (.slice vadr L.length vcap) := RT6.out.blk.cell 2
            by_cases heq : bstr (body ⟨sq, tm, L.map (·.1)⟩) = b
            · have hq : ((bstr (body ⟨sq, tm, L.map (·.1)⟩)).toList == b.toList) = true := by rw [bytes_beq]; exact decide_eq_true heq
              have HEQ := hid heq.symm
              have HEE := hid heq
              clear heq
              generalize hgE : bstr (body ⟨sq, tm, L.map (·.1)⟩) = E at hq CB
              clear hgE CB
              have z0 : w6.cell? ⟨w.heap.size, 0, none⟩ = some (.int .i64 0) := RT6.out.res.cell 0
              have z1 : w6.cell? ⟨w.heap.size, 1, none⟩ = some (.int .i64 0) := RT6.out.res.cell 1
              have z2 : w6.cell? ⟨w.heap.size, 2, none⟩ = some (.slice none 0 0) := RT6.out.res.cell 2
              have y0 : w6.frozen? ⟨w.heap.size, 0, none⟩ = false := RT6.out.res.free 0
              have y1 : w6.frozen? ⟨w.heap.size, 1, none⟩ = false := RT6.out.res.free 1
              have y2 : w6.frozen? ⟨w.heap.size, 2, none⟩ = false := RT6.out.res.free 2
              have hw0 : w.heap.size < C + 1 := by have := RT6.out.gl; have := RT6.out.tl; omega
              have HBF := hid (((RT6.out.bel.setCell (p := ⟨w.heap.size, 0, none⟩) (Nat.le_refl _) (.int .i64 sq)).setCell (p := ⟨w.heap.size, 1, none⟩) (Nat.le_refl _) (.int .i64 tm)).setCell (p := ⟨w.heap.size, 2, none⟩) (Nat.le_refl _) (.slice vadr L.length vcap))
              have HOF := hid (((HO6.out.setO (o := 0) (u := .int .i64 sq) hw0).setO (o := 1) (u := .int .i64 tm) hw0).setO (o := 2) (u := .slice vadr L.length vcap) hw0)
              have HYS := hid ((dec_zero HHK.out HDE.out HEE.out HBE.out).2)
              clear hw0
              go_wp2_with fail
              exact bodyPost_ret (v := .tuple #[.agg #[.int .i64 sq, .int .i64 tm, .slice vadr L.length vcap], .int .i64 0]) (by simp [results, Try.results26, go_sem, z0, z1, z2]) rfl ⟨⟨sq, tm, L.map (·.1)⟩, .slice vadr L.length vcap, 0, rfl, HOF.out.at, HHK.out, HBF.out, .inl ⟨rfl, HYS.out, HEQ.out⟩⟩
            · have hq : ((bstr (body ⟨sq, tm, L.map (·.1)⟩)).toList == b.toList) = false := by rw [bytes_beq]; exact decide_eq_false heq
              have HEE := hid heq
              clear heq
              generalize hgE : bstr (body ⟨sq, tm, L.map (·.1)⟩) = E at hq CB
              clear hgE CB
              have z0 : w6.cell? ⟨w.heap.size, 0, none⟩ = some (.int .i64 0) := RT6.out.res.cell 0
              have z1 : w6.cell? ⟨w.heap.size, 1, none⟩ = some (.int .i64 0) := RT6.out.res.cell 1
              have z2 : w6.cell? ⟨w.heap.size, 2, none⟩ = some (.slice none 0 0) := RT6.out.res.cell 2
              have y0 : w6.frozen? ⟨w.heap.size, 0, none⟩ = false := RT6.out.res.free 0
              have y1 : w6.frozen? ⟨w.heap.size, 1, none⟩ = false := RT6.out.res.free 1
              have y2 : w6.frozen? ⟨w.heap.size, 2, none⟩ = false := RT6.out.res.free 2
              have HBF := hid (((RT6.out.bel.setCell (p := ⟨w.heap.size, 0, none⟩) (Nat.le_refl _) (.int .i64 0)).setCell (p := ⟨w.heap.size, 1, none⟩) (Nat.le_refl _) (.int .i64 0)).setCell (p := ⟨w.heap.size, 2, none⟩) (Nat.le_refl _) (.slice none 0 0))
              have HNO := hid (dec_none HDE.out (.inr HEE.out))
              clear HRT HO HK HDE
              go_wp2_with fail
              exact bodyPost_ret (v := .tuple #[.agg #[.int .i64 0, .int .i64 0, .slice none 0 0], .int .i64 7]) (by simp [results, Try.results26, go_sem, z0, z1, z2]) rfl ⟨noT, .slice none 0 0, 7, rfl, HsAt.nil _, ⟨Nat.zero_le _, fun c hc => absurd hc List.not_mem_nil⟩, HBF.out, .inr ⟨rfl, rfl, HNO.out⟩⟩
      · have hl100 : ¬ (L.length : Int) < 101 := by omega
        have HDE : Hid (decR b = (⟨sq, tm, L.map (·.1)⟩, e)) := by
          show _ = _
          rw [hD.out, loopR_stop (by rw [List.length_map]; rintro ⟨_, h⟩; exact hl1 h)]
        clear hD
        have HHK : Hid (Hok (L.map (·.1))) := ⟨by rw [List.length_map]; omega, HK.out⟩
        by_cases hbe : b = ⟨#[]⟩
        · have hbq : (b.toList == []) = true := by subst hbe; rw [ByteArray.toList_eq]; rfl
          have hbq' : b.toList.isEmpty = true := by subst hbe; rw [ByteArray.toList_eq]; rfl
          have HNE : Hid (∀ t', Hok t'.cs → body t' ≠ [] → b ≠ bstr (body t')) := fun t' _ hn he => hn (by rw [hbe] at he; rw [← bstr_toList (body t'), ← he])
          clear hbe
          have z0 : w5.cell? ⟨w.heap.size, 0, none⟩ = some (.int .i64 0) := HRT.out.res.cell 0
          have z1 : w5.cell? ⟨w.heap.size, 1, none⟩ = some (.int .i64 0) := HRT.out.res.cell 1
          have z2 : w5.cell? ⟨w.heap.size, 2, none⟩ = some (.slice none 0 0) := HRT.out.res.cell 2
          have y0 : w5.frozen? ⟨w.heap.size, 0, none⟩ = false := HRT.out.res.free 0
          have y1 : w5.frozen? ⟨w.heap.size, 1, none⟩ = false := HRT.out.res.free 1
          have y2 : w5.frozen? ⟨w.heap.size, 2, none⟩ = false := HRT.out.res.free 2
          have HBF := hid (((HRT.out.bel.setCell (p := ⟨w.heap.size, 0, none⟩) (Nat.le_refl _) (.int .i64 0)).setCell (p := ⟨w.heap.size, 1, none⟩) (Nat.le_refl _) (.int .i64 0)).setCell (p := ⟨w.heap.size, 2, none⟩) (Nat.le_refl _) (.slice none 0 0))
          have HNO := hid (HNE.out)
          clear HRT HO HK HDE
          go_wp2_with fail
          exact bodyPost_ret (v := .tuple #[.agg #[.int .i64 0, .int .i64 0, .slice none 0 0], .int .i64 7]) (by simp [results, Try.results26, go_sem, z0, z1, z2]) rfl ⟨noT, .slice none 0 0, 7, rfl, HsAt.nil _, ⟨Nat.zero_le _, fun c hc => absurd hc List.not_mem_nil⟩, HBF.out, .inr ⟨rfl, rfl, HNO.out⟩⟩
        · have hbq : (b.toList == []) = false := by
            rw [beq_eq_false_iff_ne]
            intro h
            exact hbe (by rw [ByteArray.toList_eq] at h; exact ByteArray.ext (Array.toList_inj.1 h))
          have hbq' : b.toList.isEmpty = false := by
            cases h : b.toList with
            | nil => rw [h] at hbq; cases hbq
            | cons c r => rfl
          have HBE := hid hbe
          clear hbe
          have cb0 := fbodyR_any ⟨sq, tm, L.map (·.1)⟩ (.slice vadr L.length vcap) w5 HO.out.at HHK.out
          unfold tv at cb0
          have CB := hid cb0
          clear cb0
          go_wp2_with fail
          refine CB.out.mono ?_; rintro e w6 ⟨rfl, b6⟩
          have RT6 := hid (HRT.out.keep b6)
          have HO6 := hid (HO.out.keep b6)
          clear b6 x0 x1 x2
          have x0 : w6.cell? ⟨C, 0, none⟩ = some (.int .i64 sq) := RT6.out.blk.cell 0
          have x1 : w6.cell? ⟨C, 1, none⟩ = some (.int .i64 tm) := RT6.out.blk.cell 1
          have x2 : w6.cell? ⟨C, 2, none⟩ = some (.slice vadr L.length vcap) := RT6.out.blk.cell 2
          by_cases heq : bstr (body ⟨sq, tm, L.map (·.1)⟩) = b
          · have hq : ((bstr (body ⟨sq, tm, L.map (·.1)⟩)).toList == b.toList) = true := by rw [bytes_beq]; exact decide_eq_true heq
            have HEQ := hid heq.symm
            have HEE := hid heq
            clear heq
            generalize hgE : bstr (body ⟨sq, tm, L.map (·.1)⟩) = E at hq CB
            clear hgE CB
            have z0 : w6.cell? ⟨w.heap.size, 0, none⟩ = some (.int .i64 0) := RT6.out.res.cell 0
            have z1 : w6.cell? ⟨w.heap.size, 1, none⟩ = some (.int .i64 0) := RT6.out.res.cell 1
            have z2 : w6.cell? ⟨w.heap.size, 2, none⟩ = some (.slice none 0 0) := RT6.out.res.cell 2
            have y0 : w6.frozen? ⟨w.heap.size, 0, none⟩ = false := RT6.out.res.free 0
            have y1 : w6.frozen? ⟨w.heap.size, 1, none⟩ = false := RT6.out.res.free 1
            have y2 : w6.frozen? ⟨w.heap.size, 2, none⟩ = false := RT6.out.res.free 2
            have hw0 : w.heap.size < C + 1 := by have := RT6.out.gl; have := RT6.out.tl; omega
            have HBF := hid (((RT6.out.bel.setCell (p := ⟨w.heap.size, 0, none⟩) (Nat.le_refl _) (.int .i64 sq)).setCell (p := ⟨w.heap.size, 1, none⟩) (Nat.le_refl _) (.int .i64 tm)).setCell (p := ⟨w.heap.size, 2, none⟩) (Nat.le_refl _) (.slice vadr L.length vcap))
            have HOF := hid (((HO6.out.setO (o := 0) (u := .int .i64 sq) hw0).setO (o := 1) (u := .int .i64 tm) hw0).setO (o := 2) (u := .slice vadr L.length vcap) hw0)
            have HYS := hid ((dec_zero HHK.out HDE.out HEE.out HBE.out).2)
            clear hw0
            go_wp2_with fail
            exact bodyPost_ret (v := .tuple #[.agg #[.int .i64 sq, .int .i64 tm, .slice vadr L.length vcap], .int .i64 0]) (by simp [results, Try.results26, go_sem, z0, z1, z2]) rfl ⟨⟨sq, tm, L.map (·.1)⟩, .slice vadr L.length vcap, 0, rfl, HOF.out.at, HHK.out, HBF.out, .inl ⟨rfl, HYS.out, HEQ.out⟩⟩
          · have hq : ((bstr (body ⟨sq, tm, L.map (·.1)⟩)).toList == b.toList) = false := by rw [bytes_beq]; exact decide_eq_false heq
            have HEE := hid heq
            clear heq
            generalize hgE : bstr (body ⟨sq, tm, L.map (·.1)⟩) = E at hq CB
            clear hgE CB
            have z0 : w6.cell? ⟨w.heap.size, 0, none⟩ = some (.int .i64 0) := RT6.out.res.cell 0
            have z1 : w6.cell? ⟨w.heap.size, 1, none⟩ = some (.int .i64 0) := RT6.out.res.cell 1
            have z2 : w6.cell? ⟨w.heap.size, 2, none⟩ = some (.slice none 0 0) := RT6.out.res.cell 2
            have y0 : w6.frozen? ⟨w.heap.size, 0, none⟩ = false := RT6.out.res.free 0
            have y1 : w6.frozen? ⟨w.heap.size, 1, none⟩ = false := RT6.out.res.free 1
            have y2 : w6.frozen? ⟨w.heap.size, 2, none⟩ = false := RT6.out.res.free 2
            have HBF := hid (((RT6.out.bel.setCell (p := ⟨w.heap.size, 0, none⟩) (Nat.le_refl _) (.int .i64 0)).setCell (p := ⟨w.heap.size, 1, none⟩) (Nat.le_refl _) (.int .i64 0)).setCell (p := ⟨w.heap.size, 2, none⟩) (Nat.le_refl _) (.slice none 0 0))
            have HNO := hid (dec_none HDE.out (.inr HEE.out))
            clear HRT HO HK HDE
            go_wp2_with fail
            exact bodyPost_ret (v := .tuple #[.agg #[.int .i64 0, .int .i64 0, .slice none 0 0], .int .i64 7]) (by simp [results, Try.results26, go_sem, z0, z1, z2]) rfl ⟨noT, .slice none 0 0, 7, rfl, HsAt.nil _, ⟨Nat.zero_le _, fun c hc => absurd hc List.not_mem_nil⟩, HBF.out, .inr ⟨rfl, rfl, HNO.out⟩⟩
end Go.Proofs.Ytmmegicaeaifaaa
