/-
  Decode of a query: the contract, of the reference. Condition: the text has at most 1000000000 bytes.
-/
import Derived.Test.YtmcneelapghfcaaRn
import Derived.Test.YtmcneelapghfcaaRf
import Derived.Test.YtmcneelapghfcaaQp
namespace Go.Proofs.Ytmcneelapghfcaa
open Go.RowKit Pd Qu

theorem own_sl {w : World} {B e s n : Nat} {v : Value} {xs : List Value} (h : w.ownsRow B e s v n xs) : ∃ a c, v = .slice a n c := by
  rcases h.2 with ⟨rfl, hn⟩ | ⟨g, cap, cur, rfl, _⟩
  · exact ⟨none, 0, by rw [hn]⟩
  · exact ⟨_, cap, rfl⟩
theorem own_two {w w' : World} {B e size n B' e' size' n' : Nat} {v u : Value} {xs xs' : List Value} (h : w.ownsRow B e size v n xs) (hi : w.ownsRow B' e' size' u n' xs') (hne : e ≠ e') (gr : w.grownBy w' u.ownBlock) : w'.ownsRow B e size v n xs := by
  rcases hi.2 with ⟨rfl, _⟩ | ⟨g, cap, cur, rfl, _, hg, _⟩
  · exact h.kept (row := none) gr (Classical.em _)
  · exact own_type h hg hne gr
theorem nodeR_ok {s : ByteArray} {i : Nat} {er : Int} : Nok (nodeR s i er).1 := by
  unfold nodeR
  refine ⟨tint (j := (Cd.top 0 (Cd.intR s.data.toList) i er).2.1) (e := (Cd.top 0 (Cd.intR s.data.toList) i er).2.2) rfl, tint (j := (Cd.top 0 (Cd.intR s.data.toList) _ _).2.1) (e := (Cd.top 0 (Cd.intR s.data.toList) _ _).2.2) rfl, ?_⟩
  obtain ⟨⟨l, p3, q3⟩, hA3⟩ : ∃ t, Cd.top [] (Cd.rowR s) (Cd.top 0 (Cd.intR s.data.toList) (Cd.top 0 (Cd.intR s.data.toList) i er).2.1 (Cd.top 0 (Cd.intR s.data.toList) i er).2.2).2.1 (Cd.top 0 (Cd.intR s.data.toList) (Cd.top 0 (Cd.intR s.data.toList) i er).2.1 (Cd.top 0 (Cd.intR s.data.toList) i er).2.2).2.2 = t := ⟨_, rfl⟩
  simp only [hA3]
  cases l with
  | nil => exact nul_ok
  | cons y l => exact (trow hA3).1 y (List.mem_cons_self ..)
set_option maxRecDepth 100000 in
set_option maxHeartbeats 12800000 in
theorem qdecR_any (b : ByteArray) (hs9 : b.size ≤ 1000000000) (w : World) : Calls Try.prog 22 #[.string b] w (DecT b w) := by
  obtain ⟨⟨n1, j1, e1⟩, hT1⟩ : ∃ t, Cd.top 0 (Cd.uintR b.data.toList) 0 0 = t := ⟨_, rfl⟩
  have m1 := hid (fun g W h hj => mUintX g b 0 0 W h hj hs9)
  rw [hT1] at m1
  obtain ⟨⟨tb, j2, e2⟩, hT2⟩ : ∃ t, Cd.top ⟨#[]⟩ (Cd.textR b 1000000) j1 e1 = t := ⟨_, rfl⟩
  have m2 := hid (fun g W h hj => mTextX g b j1 e1 W h hj hs9)
  rw [hT2] at m2
  obtain ⟨⟨key, j3, e3⟩, hT3⟩ : ∃ t, Cd.top [] (Cd.rowR b) j2 e2 = t := ⟨_, rfl⟩
  have m3 := hid (fun g W h hj => mRowX g b j2 e2 W h hj hs9)
  rw [hT3] at m3
  obtain ⟨⟨t, j4, e4⟩, hT4⟩ : ∃ t, Cd.top 0 (Cd.intR b.data.toList) j3 e3 = t := ⟨_, rfl⟩
  have m4 := hid (fun g W h hj => mIntX g b j3 e3 W h hj hs9)
  rw [hT4] at m4
  obtain ⟨⟨v, j5, e5⟩, hT5⟩ : ∃ t, Cd.top 0 (Cd.intR b.data.toList) j4 e4 = t := ⟨_, rfl⟩
  have m5 := hid (fun g W h hj => mIntX g b j4 e4 W h hj hs9)
  rw [hT5] at m5
  obtain ⟨⟨fr, j6, e6⟩, hT6⟩ : ∃ t, Cd.top 0 (Cd.intR b.data.toList) j5 e5 = t := ⟨_, rfl⟩
  have m6 := hid (fun g W h hj => mIntX g b j5 e5 W h hj hs9)
  rw [hT6] at m6
  obtain ⟨⟨to, j7, e7⟩, hT7⟩ : ∃ t, Cd.top 0 (Cd.intR b.data.toList) j6 e6 = t := ⟨_, rfl⟩
  have m7 := hid (fun g W h hj => mIntX g b j6 e6 W h hj hs9)
  rw [hT7] at m7
  obtain ⟨⟨n8, j8, e8⟩, hT8⟩ : ∃ t, Cd.top 0 (Cd.uintR b.data.toList) j7 e7 = t := ⟨_, rfl⟩
  have m8 := hid (fun g W h hj => mUintX g b j7 e7 W h hj hs9)
  rw [hT8] at m8
  obtain ⟨kd, hkd⟩ : ∃ kd : Int, IntKind.i64.wrap (n1 : Int) = kd := ⟨_, rfl⟩
  have HKD : Hid (I64 kd) := by
    show I64 kd
    rw [← hkd, IntKind.wrap_i64]
    constructor <;> omega
  obtain ⟨nw, hN⟩ : ∃ nw : Nat, (clamp n8).toNat = nw := ⟨_, rfl⟩
  have hnw : nw ≤ 1001 ∧ nw ≤ n8 ∧ (nw < 1001 → nw = n8) := by rw [← hN]; unfold clamp; omega
  have HD0 : Hid (decR (fun n => decide (n = 1)) b = afterWh (fun n => decide (n = 1)) b kd tb key t v fr to (loopG (nodeR b) nw [] j8 e8)) := by
    show _ = _
    unfold decR
    simp only [hT1, hT2, hT3, hT4, hT5, hT6, hT7, hT8, hkd, hN]
  have HTB := hid (ttext hT2)
  have HKY := hid (trow hT3)
  have HIt := hid (tint hT4)
  have HIv := hid (tint hT5)
  have HIfr := hid (tint hT6)
  have HIto := hid (tint hT7)
  have hn8 : n8 < 18446744073709551616 := tuint hT8
  clear hT1 hT2 hT3 hT4 hT5 hT6 hT7 hT8 hN
  have HNW := hid hnw
  clear hnw
  go_enter Try.func22, Try.ntmps22
  go_wp2_with fail
  have hb0 := hba w (.cells #[.int .i64 0, .string ⟨#[]⟩, .slice none 0 0, .int .i64 0, .int .i64 0, .int .i64 0, .int .i64 0, .slice none 0 0, .slice none 0 0, .int .i64 0, .bool false] 39)
  have hz0 : Var (w.alloc (.cells #[.int .i64 0, .string ⟨#[]⟩, .slice none 0 0, .int .i64 0, .int .i64 0, .int .i64 0, .int .i64 0, .slice none 0 0, .slice none 0 0, .int .i64 0, .bool false] 39)) w.heap.size zq 39 := heap_alloc_new w _
  obtain ⟨w1, hw1⟩ : ∃ w1, w.alloc (.cells #[.int .i64 0, .string ⟨#[]⟩, .slice none 0 0, .int .i64 0, .int .i64 0, .int .i64 0, .int .i64 0, .slice none 0 0, .slice none 0 0, .int .i64 0, .bool false] 39) = w1 := ⟨_, rfl⟩
  rw [hw1] at hb0 hz0 ⊢
  clear hw1
  refine (newX_any b _).mono ?_; rintro e w2 ⟨rfl, hw2⟩
  have R0 := newX_rfx b w1
  have hb1 := hba w1 (.cells #[.string b, .int .i64 0, .int .i64 0] 97)
  rw [← hw2] at R0 hb1
  have hz1 := hid (hz0.keep hb1)
  have hl1 := hid (hnext hb0 hb1)
  have hzg : w.heap.size < w1.heap.size := hz0.lt
  clear hw2 hb1 hz0 hb0
  generalize w1.heap.size = g at R0 hzg ⊢
  go_wp2_with fail
  refine (m1.out g _ R0 (Nat.zero_le _)).mono ?_; rintro e W1 ⟨rfl, u1, R1, hj1⟩
  simp only at R1 hj1
  dsimp only
  have U1 := hid u1
  have RR1 := hid R1
  clear u1 R1 R0 m1
  go_wp2_with fail
  refine (m2.out g _ RR1.out hj1).mono ?_; rintro e W2 ⟨rfl, u2, R2, hj2⟩
  simp only at R2 hj2
  dsimp only
  have hgw : g < W2.heap.size := (Array.getElem?_eq_some_iff.1 R2).1
  have U2 := U1.out.trans u2
  have hz2 := hz1.out.upd U2 (by omega)
  have hl2 := Upd.below hl1.out U2 (Nat.le_of_lt hzg) hl1.out.size
  have HR : Hid (RQ 97 39 w (W2.alloc (.cells #[.int .i64 kd, .string tb, .slice none 0 0, .int .i64 0, .int .i64 0, .int .i64 0, .int .i64 0, .slice none 0 0, .slice none 0 0, .int .i64 0, .bool false] 39)) g W2.heap.size W2.heap.size b #[.int .i64 kd, .string tb, .slice none 0 0, .int .i64 0, .int .i64 0, .int .i64 0, .int .i64 0, .slice none 0 0, .slice none 0 0, .int .i64 0, .bool false] j2 e2 (W2.alloc (.cells #[.int .i64 kd, .string tb, .slice none 0 0, .int .i64 0, .int .i64 0, .int .i64 0, .int .i64 0, .slice none 0 0, .slice none 0 0, .int .i64 0, .bool false] 39))) := by
    have hb2 := hba W2 (.cells #[.int .i64 kd, .string tb, .slice none 0 0, .int .i64 0, .int .i64 0, .int .i64 0, .int .i64 0, .slice none 0 0, .slice none 0 0, .int .i64 0, .bool false] 39)
    exact ⟨hnext hl2 hb2, keepBlock R2 hb2, heap_alloc_new W2 _, hz2.keep hb2, fun k h1 h2 => absurd h2 (Nat.not_lt.2 h1), hzg, hgw, Nat.le_refl _⟩
  have hsz : (W2.alloc (.cells #[.int .i64 kd, .string tb, .slice none 0 0, .int .i64 0, .int .i64 0, .int .i64 0, .int .i64 0, .slice none 0 0, .slice none 0 0, .int .i64 0, .bool false] 39)).heap.size = W2.heap.size + 1 := by simp
  clear u2 R2 RR1 U1 U2 m2 hz1 hl1 hz2 hl2 hgw
  rw [← hkd]
  go_wp2_with fail
  rw [hkd]
  obtain ⟨C, hC⟩ : ∃ C, W2.heap.size = C := ⟨_, rfl⟩
  rw [hC] at HR hsz
  (try rw [hC])
  generalize W2.alloc (.cells #[.int .i64 kd, .string tb, .slice none 0 0, .int .i64 0, .int .i64 0, .int .i64 0, .int .i64 0, .slice none 0 0, .slice none 0 0, .int .i64 0, .bool false] 39) = w3 at *
  clear hC hkd
  refine (m3.out g _ HR.out.rd hj2).mono ?_; rintro e W3 ⟨⟨vk, rfl, ownk⟩, u, R, hj3⟩
  simp only at R hj3 ownk
  rw [hsz] at ownk
  obtain ⟨ka, kc, rfl⟩ := OwnV.slc ownk
  have HR3 := hid (HR.out.call u R)
  have hgC : g < C + 1 := by have := HR.out.gB; omega
  have x1 : W3.cell? ⟨C, 2, none⟩ = some (.slice none 0 0) := HR3.out.blk.cell 2
  have f1 : W3.frozen? ⟨C, 2, none⟩ = false := HR3.out.blk.free 2
  have HRS0 := hid (HR3.out.set 2 (.slice ka key.length kc))
  have HKS0 := hid (own_setO (r := C) (o := 2) (u := (.slice ka key.length kc)) ownk (Nat.lt_succ_self _))
  clear u R HR HR3 ownk m3 hsz
  go_wp2_with fail
  clear x1 f1
  generalize W3.setCell ⟨C, 2, none⟩ (.slice ka key.length kc) = V0 at *
  refine (m4.out g _ HRS0.out.rd hj3).mono ?_; rintro e W4 ⟨rfl, u, R, hj4⟩
  simp only at R hj4
  dsimp only
  have HRn := hid (HRS0.out.call u R)
  have HKn := hid (own_upd HKS0.out u hgC)
  have x1 : W4.cell? ⟨C, 3, none⟩ = some (.int .i64 0) := HRn.out.blk.cell 3
  have f1 : W4.frozen? ⟨C, 3, none⟩ = false := HRn.out.blk.free 3
  have HRS1 := hid (HRn.out.set 3 (.int .i64 t))
  have HKS1 := hid (own_setO (r := C) (o := 3) (u := .int .i64 t) HKn.out (Nat.lt_succ_self _))
  clear u R HRn HKn HRS0 HKS0 m4
  go_wp2_with fail
  clear x1 f1
  generalize W4.setCell ⟨C, 3, none⟩ (.int .i64 t) = V1 at *
  refine (m5.out g _ HRS1.out.rd hj4).mono ?_; rintro e W5 ⟨rfl, u, R, hj5⟩
  simp only at R hj5
  dsimp only
  have HRn := hid (HRS1.out.call u R)
  have HKn := hid (own_upd HKS1.out u hgC)
  have x1 : W5.cell? ⟨C, 4, none⟩ = some (.int .i64 0) := HRn.out.blk.cell 4
  have f1 : W5.frozen? ⟨C, 4, none⟩ = false := HRn.out.blk.free 4
  have HRS2 := hid (HRn.out.set 4 (.int .i64 v))
  have HKS2 := hid (own_setO (r := C) (o := 4) (u := .int .i64 v) HKn.out (Nat.lt_succ_self _))
  clear u R HRn HKn HRS1 HKS1 m5
  go_wp2_with fail
  clear x1 f1
  generalize W5.setCell ⟨C, 4, none⟩ (.int .i64 v) = V2 at *
  refine (m6.out g _ HRS2.out.rd hj5).mono ?_; rintro e W6 ⟨rfl, u, R, hj6⟩
  simp only at R hj6
  dsimp only
  have HRn := hid (HRS2.out.call u R)
  have HKn := hid (own_upd HKS2.out u hgC)
  have x1 : W6.cell? ⟨C, 5, none⟩ = some (.int .i64 0) := HRn.out.blk.cell 5
  have f1 : W6.frozen? ⟨C, 5, none⟩ = false := HRn.out.blk.free 5
  have HRS3 := hid (HRn.out.set 5 (.int .i64 fr))
  have HKS3 := hid (own_setO (r := C) (o := 5) (u := .int .i64 fr) HKn.out (Nat.lt_succ_self _))
  clear u R HRn HKn HRS2 HKS2 m6
  go_wp2_with fail
  clear x1 f1
  generalize W6.setCell ⟨C, 5, none⟩ (.int .i64 fr) = V3 at *
  refine (m7.out g _ HRS3.out.rd hj6).mono ?_; rintro e W7 ⟨rfl, u, R, hj7⟩
  simp only at R hj7
  dsimp only
  have HRn := hid (HRS3.out.call u R)
  have HKn := hid (own_upd HKS3.out u hgC)
  have x1 : W7.cell? ⟨C, 6, none⟩ = some (.int .i64 0) := HRn.out.blk.cell 6
  have f1 : W7.frozen? ⟨C, 6, none⟩ = false := HRn.out.blk.free 6
  have HRS4 := hid (HRn.out.set 6 (.int .i64 to))
  have HKS4 := hid (own_setO (r := C) (o := 6) (u := .int .i64 to) HKn.out (Nat.lt_succ_self _))
  clear u R HRn HKn HRS3 HKS3 m7
  go_wp2_with fail
  clear x1 f1
  generalize W7.setCell ⟨C, 6, none⟩ (.int .i64 to) = V4 at *
  refine (m8.out g _ HRS4.out.rd hj7).mono ?_; rintro e W8 ⟨rfl, u, R, hj8⟩
  simp only at R hj8
  dsimp only
  have HR8 := hid (HRS4.out.call u R)
  have HK8 := hid (own_upd HKS4.out u hgC)
  clear u R HRS4 HKS4 m8 hj1 hj2 hj3 hj4 hj5 hj6 hj7
  go_wp2_with fail
  rename_i K1 hK1
  have EXIT1 : ∀ (x1 x5 x7 x8 x9 x10 x11 x12 x13 x14 x15 x16 x17 x18 x19 x20 x21 x22 x23 x24 x25 x26 x27 x28 x29 x30 x31 x32 x33 x34 x35 x36 x37 x38 x39 x40 x41 x42 x43 x44 x45 x46 x47 x48 x49 x50 x51 x52 x53 x54 x55 x56 x57 x58 x59 x60 x61 x62 x63 x64 x65 x66 x67 x68 x69 x70 x71 x72 x73 x74 x75 x76 x77 x78 x79 x80 x81 x82 x83 x84 x85 x86 x87 x88 x89 x90 x91 x92 x93 x94 x95 x96 x97 x98 x99 x100 x101 x102 x103 x104 x105 x106 : Value) (L : List N) (va : Option Addr) (vcap j : Nat) (e : Int) (wr : World), Hid (decR (fun n => decide (n = 1)) b = afterWh (fun n => decide (n = 1)) b kd tb key t v fr to (L, j, e)) → Hid (∀ x ∈ L, Nok x) → L.length ≤ 1001 → Hid (RQ 97 39 w w3 g C C b #[.int .i64 kd, .string tb, .slice ka key.length kc, .int .i64 t, .int .i64 v, .int .i64 fr, .int .i64 to, .slice va L.length vcap, .slice none 0 0, .int .i64 0, .bool false] j e wr) → Hid (wr.ownsRow (C + 1) 36 4 (.slice ka key.length kc) key.length (vcells key)) → Hid (OwnR wr (C + 1) (.slice va L.length vcap) L) → j ≤ b.size → K1 ⟨#[.string b, x1, .pointer (some ⟨w.heap.size, 0, none⟩), .int .i64 0, .pointer (some ⟨g, 0, none⟩), x5, .pointer (some ⟨C, 0, none⟩), x7, x8, x9, x10, x11, x12, x13, x14, x15, x16, x17, x18, x19, x20, x21, x22, x23, x24, x25, x26, x27, x28, x29, x30, x31, x32, x33, x34, x35, x36, x37, x38, x39, x40, x41, x42, x43, x44, x45, x46, x47, x48, x49, x50, x51, x52, x53, x54, x55, x56, x57, x58, x59, x60, x61, x62, x63, x64, x65, x66, x67, x68, x69, x70, x71, x72, x73, x74, x75, x76, x77, x78, x79, x80, x81, x82, x83, x84, x85, x86, x87, x88, x89, x90, x91, x92, x93, x94, x95, x96, x97, x98, x99, x100, x101, x102, x103, x104, x105, x106], []⟩ wr := by
    intro x1 x5 x7 x8 x9 x10 x11 x12 x13 x14 x15 x16 x17 x18 x19 x20 x21 x22 x23 x24 x25 x26 x27 x28 x29 x30 x31 x32 x33 x34 x35 x36 x37 x38 x39 x40 x41 x42 x43 x44 x45 x46 x47 x48 x49 x50 x51 x52 x53 x54 x55 x56 x57 x58 x59 x60 x61 x62 x63 x64 x65 x66 x67 x68 x69 x70 x71 x72 x73 x74 x75 x76 x77 x78 x79 x80 x81 x82 x83 x84 x85 x86 x87 x88 x89 x90 x91 x92 x93 x94 x95 x96 x97 x98 x99 x100 x101 x102 x103 x104 x105 x106 L va vcap j e W9 HDE HK hLz HR HKc HOW hj
    obtain ⟨⟨n10, j10, e10⟩, hT10⟩ : ∃ t, Cd.top 0 (Cd.uintR b.data.toList) j e = t := ⟨_, rfl⟩
    have m10 := hid (fun g W h hj => mUintX g b j e W h hj hs9)
    rw [hT10] at m10
    obtain ⟨nc, hNc⟩ : ∃ nc : Nat, (clamp n10).toNat = nc := ⟨_, rfl⟩
    have hnc : nc ≤ 1001 ∧ nc ≤ n10 ∧ (nc < 1001 → nc = n10) := by rw [← hNc]; unfold clamp; omega
    have HDC : Hid (decR (fun n => decide (n = 1)) b = afterCols (fun n => decide (n = 1)) b kd tb key t v fr to L (loopG (intN b) nc [] j10 e10)) := by
      show _ = _
      rw [HDE.out]
      unfold afterWh
      simp only [hT10, hNc]
    have hn10 : n10 < 18446744073709551616 := tuint hT10
    clear hT10 HDE hNc
    have HNC := hid hnc
    clear hnc
    refine hK1 _ _ ?_
    clear hK1 K1
    go_wp2_with fail
    refine (m10.out g _ HR.out.rd hj).mono ?_; rintro e W10 ⟨rfl, u, R, hj10⟩
    simp only at R hj10
    dsimp only
    have HR10 := hid (HR.out.call u R)
    have HKc10 := hid (own_upd HKc.out u hgC)
    have HOW10 : Hid (OwnR W10 (C + 1) (.slice va L.length vcap) L) := own_upd HOW.out u hgC
    clear u R HR HKc HOW m10
    go_wp2_with fail
    rename_i K2 hK2
    have EXIT2 : ∀ (x1 x5 x7 x8 x9 x10 x11 x12 x13 x14 x15 x16 x17 x18 x19 x20 x21 x22 x23 x24 x25 x26 x27 x28 x29 x30 x31 x32 x33 x34 x35 x36 x37 x38 x39 x40 x41 x42 x43 x44 x45 x46 x47 x48 x49 x50 x51 x52 x53 x54 x55 x56 x57 x58 x59 x60 x61 x62 x63 x64 x65 x66 x67 x68 x69 x70 x71 x72 x73 x74 x75 x76 x77 x78 x79 x80 x81 x82 x83 x84 x85 x86 x87 x88 x89 x90 x91 x92 x93 x94 x95 x96 x97 x98 x99 x100 x101 x102 x103 x104 x105 x106 : Value) (Y : List Int) (ua : Option Addr) (ucap jc : Nat) (ec : Int) (wr : World), Hid (decR (fun n => decide (n = 1)) b = afterCols (fun n => decide (n = 1)) b kd tb key t v fr to L (Y, jc, ec)) → Hid (∀ c ∈ Y, I64 c) → Y.length ≤ 1001 → Hid (RQ 97 39 w w3 g C C b #[.int .i64 kd, .string tb, .slice ka key.length kc, .int .i64 t, .int .i64 v, .int .i64 fr, .int .i64 to, .slice va L.length vcap, .slice ua Y.length ucap, .int .i64 0, .bool false] jc ec wr) → Hid (wr.ownsRow (C + 1) 36 4 (.slice ka key.length kc) key.length (vcells key)) → Hid (OwnR wr (C + 1) (.slice va L.length vcap) L) → Hid (OwnI wr (C + 1) (.slice ua Y.length ucap) Y) → jc ≤ b.size → K2 ⟨#[.string b, x1, .pointer (some ⟨w.heap.size, 0, none⟩), .int .i64 0, .pointer (some ⟨g, 0, none⟩), x5, .pointer (some ⟨C, 0, none⟩), x7, x8, x9, x10, x11, x12, x13, x14, x15, x16, x17, x18, x19, x20, x21, x22, x23, x24, x25, x26, x27, x28, x29, x30, x31, x32, x33, x34, x35, x36, x37, x38, x39, x40, x41, x42, x43, x44, x45, x46, x47, x48, x49, x50, x51, x52, x53, x54, x55, x56, x57, x58, x59, x60, x61, x62, x63, x64, x65, x66, x67, x68, x69, x70, x71, x72, x73, x74, x75, x76, x77, x78, x79, x80, x81, x82, x83, x84, x85, x86, x87, x88, x89, x90, x91, x92, x93, x94, x95, x96, x97, x98, x99, x100, x101, x102, x103, x104, x105, x106], []⟩ wr := by
      intro x1 x5 x7 x8 x9 x10 x11 x12 x13 x14 x15 x16 x17 x18 x19 x20 x21 x22 x23 x24 x25 x26 x27 x28 x29 x30 x31 x32 x33 x34 x35 x36 x37 x38 x39 x40 x41 x42 x43 x44 x45 x46 x47 x48 x49 x50 x51 x52 x53 x54 x55 x56 x57 x58 x59 x60 x61 x62 x63 x64 x65 x66 x67 x68 x69 x70 x71 x72 x73 x74 x75 x76 x77 x78 x79 x80 x81 x82 x83 x84 x85 x86 x87 x88 x89 x90 x91 x92 x93 x94 x95 x96 x97 x98 x99 x100 x101 x102 x103 x104 x105 x106 Y ua ucap jc ec W11 HDE HKC hYz HRc HKc HOW HOI hjc
      obtain ⟨⟨lim, j12, e12⟩, hT12⟩ : ∃ t, Cd.top 0 (Cd.intR b.data.toList) jc ec = t := ⟨_, rfl⟩
      obtain ⟨⟨n13, j13, e13⟩, hT13⟩ : ∃ t, Cd.top 0 (Cd.uintR b.data.toList) j12 e12 = t := ⟨_, rfl⟩
      have m12 := hid (fun g W h hj => mIntX g b jc ec W h hj hs9)
      rw [hT12] at m12
      have m13 := hid (fun g W h hj => mUintX g b j12 e12 W h hj hs9)
      rw [hT13] at m13
      obtain ⟨z13, hz13⟩ : ∃ z : Int, (n13 : Int) = z := ⟨_, rfl⟩
      obtain ⟨dz, hdz⟩ : ∃ d : Bool, (fun n => decide (n = 1)) n13 = d := ⟨_, rfl⟩
      have hd1 : decide (z13 = 1) = dz := by rw [← hz13, ← hdz]; simp; omega
      have hd2 : (z13 == 1) = dz := by rw [← hd1]; rfl
      have HDF : Hid (decR (fun n => decide (n = 1)) b = (⟨kd, tb, key, t, v, fr, to, L, Y, lim, dz⟩, e13)) := by
        show _ = _
        rw [HDE.out]
        unfold afterCols
        simp only [hT12, hT13, hdz]
      have HSM : Hid (Small ⟨kd, tb, key, t, v, fr, to, L, Y, lim, dz⟩) := by
        have h1 := HTB.out
        have h2 := HKY.out.2
        exact ⟨⟨HKD.out, Nat.le_trans h1 (by decide), HKY.out.1, HIt.out, HIv.out, HIfr.out, HIto.out, HK.out, HKC.out, tint hT12, Nat.le_trans h2 (by decide), Nat.le_trans hLz (by decide), Nat.le_trans hYz (by decide)⟩, h1, h2, hLz, hYz⟩
      have HZZ := hid hz13
      clear hT12 hT13 hdz HDE hz13 HTB HKY HKD HIt HIv HIfr HIto HK HKC hLz hYz
      refine hK2 _ _ ?_
      clear hK2 K2
      go_wp2_with fail
      refine (m12.out g _ HRc.out.rd hjc).mono ?_; rintro e W12 ⟨rfl, u, R, hj12⟩
      simp only at R hj12
      dsimp only
      have HR12 := hid (HRc.out.call u R)
      have HKc12 := hid (own_upd HKc.out u hgC)
      have HOW12 := hid (own_upd HOW.out u hgC)
      have HOI12 := hid (own_upd HOI.out u hgC)
      clear u R HRc HKc HOW HOI m12
      have x9 : W12.cell? ⟨C, 9, none⟩ = some (.int .i64 0) := HR12.out.blk.cell 9
      have f9 : W12.frozen? ⟨C, 9, none⟩ = false := HR12.out.blk.free 9
      have HR13 := hid (HR12.out.set 9 (.int .i64 lim))
      have HKc13 := hid (own_setO (r := C) (o := 9) (u := .int .i64 lim) HKc12.out (Nat.lt_succ_self _))
      have HOW13 := hid (own_setO (r := C) (o := 9) (u := .int .i64 lim) HOW12.out (Nat.lt_succ_self _))
      have HOI13 := hid (own_setO (r := C) (o := 9) (u := .int .i64 lim) HOI12.out (Nat.lt_succ_self _))
      clear HR12 HKc12 HOW12 HOI12
      go_wp2_with fail
      clear x9 f9
      generalize W12.setCell ⟨C, 9, none⟩ (.int .i64 lim) = W13 at *
      refine (m13.out g _ HR13.out.rd hj12).mono ?_; rintro e W14 ⟨rfl, u, R, hj13⟩
      simp only at R hj13
      dsimp only
      rw [HZZ.out]
      have HR14 := hid (HR13.out.call u R)
      have HKc14 := hid (own_upd HKc13.out u hgC)
      have HOW14 := hid (own_upd HOW13.out u hgC)
      have HOI14 := hid (own_upd HOI13.out u hgC)
      clear u R HR13 HKc13 HOW13 HOI13 m13 HZZ
      have x10 : W14.cell? ⟨C, 10, none⟩ = some (.bool false) := HR14.out.blk.cell 10
      have f10 : W14.frozen? ⟨C, 10, none⟩ = false := HR14.out.blk.free 10
      have HR15 := hid (HR14.out.set 10 (.bool dz))
      have HKc15 := hid (own_setO (r := C) (o := 10) (u := .bool dz) HKc14.out (Nat.lt_succ_self _))
      have HOW15 := hid (own_setO (r := C) (o := 10) (u := .bool dz) HOW14.out (Nat.lt_succ_self _))
      have HOI15 := hid (own_setO (r := C) (o := 10) (u := .bool dz) HOI14.out (Nat.lt_succ_self _))
      have rd2 : W14.cell? ⟨g, 2, none⟩ = some (.int .i64 e13) := cell_of_row _ g 2 _ _ _ HR14.out.rd
      have hgne : g ≠ C := by have := HR14.out.gB; omega
      have hgne' : C ≠ g := by have := HR14.out.gB; omega
      have x0 : W14.cell? ⟨C, 0, none⟩ = some (.int .i64 kd) := HR14.out.blk.cell 0
      have x1 : W14.cell? ⟨C, 1, none⟩ = some (.string tb) := HR14.out.blk.cell 1
      have x2 : W14.cell? ⟨C, 2, none⟩ = some (.slice ka key.length kc) := HR14.out.blk.cell 2
      have x3 : W14.cell? ⟨C, 3, none⟩ = some (.int .i64 t) := HR14.out.blk.cell 3
      have x4 : W14.cell? ⟨C, 4, none⟩ = some (.int .i64 v) := HR14.out.blk.cell 4
      have x5 : W14.cell? ⟨C, 5, none⟩ = some (.int .i64 fr) := HR14.out.blk.cell 5
      have x6 : W14.cell? ⟨C, 6, none⟩ = some (.int .i64 to) := HR14.out.blk.cell 6
      have x7 : W14.cell? ⟨C, 7, none⟩ = some (.slice va L.length vcap) := HR14.out.blk.cell 7
      have x8 : W14.cell? ⟨C, 8, none⟩ = some (.slice ua Y.length ucap) := HR14.out.blk.cell 8
      have x9 : W14.cell? ⟨C, 9, none⟩ = some (.int .i64 lim) := HR14.out.blk.cell 9
      have x10' : W14.cell? ⟨C, 10, none⟩ = some (.bool false) := HR14.out.blk.cell 10
      clear HKc14 HOW14 HOI14 x10'
      by_cases hez : e13 = 0
      · subst hez
        have cb0 := qencR_any ⟨kd, tb, key, t, v, fr, to, L, Y, lim, dz⟩ (.slice ka key.length kc) (.slice va L.length vcap) (.slice ua Y.length ucap) (W14.setCell ⟨C, 10, none⟩ (.bool dz)) ⟨VsAt.own HKc15.out, NsAt.own HOW15.out, IsAt.own HOI15.out⟩ HSM.out.ok (Nat.le_trans HSM.out.key (by decide)) (Nat.le_trans HSM.out.wh (by decide)) (Nat.le_trans HSM.out.cols (by decide)) (Nat.le_trans HSM.out.tab (by decide))
        unfold qv at cb0
        have CB := hid cb0
        clear cb0
        go_wp2_with fail
        refine CB.out.mono ?_; rintro e w6 ⟨rfl, b6⟩
        have HR16 := hid (HR15.out.keep b6)
        have HKc16 := hid (own_below HKc15.out b6)
        have HOW16 := hid (own_below HOW15.out b6)
        have HOI16 := hid (own_below HOI15.out b6)
        clear b6 rd2 f10 HR14 x0 x1 x2 x3 x4 x5 x6 x7 x8 x9 x10 HR15 HKc15 HOW15 HOI15
        have x0 : w6.cell? ⟨C, 0, none⟩ = some (.int .i64 kd) := HR16.out.blk.cell 0
        have x1 : w6.cell? ⟨C, 1, none⟩ = some (.string tb) := HR16.out.blk.cell 1
        have x2 : w6.cell? ⟨C, 2, none⟩ = some (.slice ka key.length kc) := HR16.out.blk.cell 2
        have x3 : w6.cell? ⟨C, 3, none⟩ = some (.int .i64 t) := HR16.out.blk.cell 3
        have x4 : w6.cell? ⟨C, 4, none⟩ = some (.int .i64 v) := HR16.out.blk.cell 4
        have x5 : w6.cell? ⟨C, 5, none⟩ = some (.int .i64 fr) := HR16.out.blk.cell 5
        have x6 : w6.cell? ⟨C, 6, none⟩ = some (.int .i64 to) := HR16.out.blk.cell 6
        have x7 : w6.cell? ⟨C, 7, none⟩ = some (.slice va L.length vcap) := HR16.out.blk.cell 7
        have x8 : w6.cell? ⟨C, 8, none⟩ = some (.slice ua Y.length ucap) := HR16.out.blk.cell 8
        have x9 : w6.cell? ⟨C, 9, none⟩ = some (.int .i64 lim) := HR16.out.blk.cell 9
        have x10 : w6.cell? ⟨C, 10, none⟩ = some (.bool dz) := HR16.out.blk.cell 10
        by_cases heq : bstr (enc ⟨kd, tb, key, t, v, fr, to, L, Y, lim, dz⟩) = b
        · have hq : ((bstr (enc ⟨kd, tb, key, t, v, fr, to, L, Y, lim, dz⟩)).toList == b.toList) = true := by rw [bytes_beq]; exact decide_eq_true heq
          have HEQ := hid heq.symm
          have HEE := hid heq
          clear heq
          generalize hgE : bstr (enc ⟨kd, tb, key, t, v, fr, to, L, Y, lim, dz⟩) = E at hq CB
          clear hgE CB
          have z0 : w6.cell? ⟨w.heap.size, 0, none⟩ = some (.int .i64 0) := HR16.out.res.cell 0
          have z1 : w6.cell? ⟨w.heap.size, 1, none⟩ = some (.string ⟨#[]⟩) := HR16.out.res.cell 1
          have z2 : w6.cell? ⟨w.heap.size, 2, none⟩ = some (.slice none 0 0) := HR16.out.res.cell 2
          have z3 : w6.cell? ⟨w.heap.size, 3, none⟩ = some (.int .i64 0) := HR16.out.res.cell 3
          have z4 : w6.cell? ⟨w.heap.size, 4, none⟩ = some (.int .i64 0) := HR16.out.res.cell 4
          have z5 : w6.cell? ⟨w.heap.size, 5, none⟩ = some (.int .i64 0) := HR16.out.res.cell 5
          have z6 : w6.cell? ⟨w.heap.size, 6, none⟩ = some (.int .i64 0) := HR16.out.res.cell 6
          have z7 : w6.cell? ⟨w.heap.size, 7, none⟩ = some (.slice none 0 0) := HR16.out.res.cell 7
          have z8 : w6.cell? ⟨w.heap.size, 8, none⟩ = some (.slice none 0 0) := HR16.out.res.cell 8
          have z9 : w6.cell? ⟨w.heap.size, 9, none⟩ = some (.int .i64 0) := HR16.out.res.cell 9
          have z10 : w6.cell? ⟨w.heap.size, 10, none⟩ = some (.bool false) := HR16.out.res.cell 10
          have y0 : w6.frozen? ⟨w.heap.size, 0, none⟩ = false := HR16.out.res.free 0
          have y1 : w6.frozen? ⟨w.heap.size, 1, none⟩ = false := HR16.out.res.free 1
          have y2 : w6.frozen? ⟨w.heap.size, 2, none⟩ = false := HR16.out.res.free 2
          have y3 : w6.frozen? ⟨w.heap.size, 3, none⟩ = false := HR16.out.res.free 3
          have y4 : w6.frozen? ⟨w.heap.size, 4, none⟩ = false := HR16.out.res.free 4
          have y5 : w6.frozen? ⟨w.heap.size, 5, none⟩ = false := HR16.out.res.free 5
          have y6 : w6.frozen? ⟨w.heap.size, 6, none⟩ = false := HR16.out.res.free 6
          have y7 : w6.frozen? ⟨w.heap.size, 7, none⟩ = false := HR16.out.res.free 7
          have y8 : w6.frozen? ⟨w.heap.size, 8, none⟩ = false := HR16.out.res.free 8
          have y9 : w6.frozen? ⟨w.heap.size, 9, none⟩ = false := HR16.out.res.free 9
          have y10 : w6.frozen? ⟨w.heap.size, 10, none⟩ = false := HR16.out.res.free 10
          have hw0 : w.heap.size < C + 1 := by have := HR16.out.gl; have := HR16.out.gB; omega
          have HBF := hid (((((((((((HR16.out.bel.setCell (p := ⟨w.heap.size, 0, none⟩) (Nat.le_refl _) (.int .i64 kd)).setCell (p := ⟨w.heap.size, 1, none⟩) (Nat.le_refl _) (.string tb)).setCell (p := ⟨w.heap.size, 2, none⟩) (Nat.le_refl _) (.slice ka key.length kc)).setCell (p := ⟨w.heap.size, 3, none⟩) (Nat.le_refl _) (.int .i64 t)).setCell (p := ⟨w.heap.size, 4, none⟩) (Nat.le_refl _) (.int .i64 v)).setCell (p := ⟨w.heap.size, 5, none⟩) (Nat.le_refl _) (.int .i64 fr)).setCell (p := ⟨w.heap.size, 6, none⟩) (Nat.le_refl _) (.int .i64 to)).setCell (p := ⟨w.heap.size, 7, none⟩) (Nat.le_refl _) (.slice va L.length vcap)).setCell (p := ⟨w.heap.size, 8, none⟩) (Nat.le_refl _) (.slice ua Y.length ucap)).setCell (p := ⟨w.heap.size, 9, none⟩) (Nat.le_refl _) (.int .i64 lim)).setCell (p := ⟨w.heap.size, 10, none⟩) (Nat.le_refl _) (.bool dz))
          have HKF := hid (own_setO (r := w.heap.size) (o := 10) (u := .bool dz) (own_setO (r := w.heap.size) (o := 9) (u := .int .i64 lim) (own_setO (r := w.heap.size) (o := 8) (u := .slice ua Y.length ucap) (own_setO (r := w.heap.size) (o := 7) (u := .slice va L.length vcap) (own_setO (r := w.heap.size) (o := 6) (u := .int .i64 to) (own_setO (r := w.heap.size) (o := 5) (u := .int .i64 fr) (own_setO (r := w.heap.size) (o := 4) (u := .int .i64 v) (own_setO (r := w.heap.size) (o := 3) (u := .int .i64 t) (own_setO (r := w.heap.size) (o := 2) (u := .slice ka key.length kc) (own_setO (r := w.heap.size) (o := 1) (u := .string tb) (own_setO (r := w.heap.size) (o := 0) (u := .int .i64 kd) HKc16.out hw0) hw0) hw0) hw0) hw0) hw0) hw0) hw0) hw0) hw0) hw0)
          have HWF := hid (own_setO (r := w.heap.size) (o := 10) (u := .bool dz) (own_setO (r := w.heap.size) (o := 9) (u := .int .i64 lim) (own_setO (r := w.heap.size) (o := 8) (u := .slice ua Y.length ucap) (own_setO (r := w.heap.size) (o := 7) (u := .slice va L.length vcap) (own_setO (r := w.heap.size) (o := 6) (u := .int .i64 to) (own_setO (r := w.heap.size) (o := 5) (u := .int .i64 fr) (own_setO (r := w.heap.size) (o := 4) (u := .int .i64 v) (own_setO (r := w.heap.size) (o := 3) (u := .int .i64 t) (own_setO (r := w.heap.size) (o := 2) (u := .slice ka key.length kc) (own_setO (r := w.heap.size) (o := 1) (u := .string tb) (own_setO (r := w.heap.size) (o := 0) (u := .int .i64 kd) HOW16.out hw0) hw0) hw0) hw0) hw0) hw0) hw0) hw0) hw0) hw0) hw0)
          have HIF := hid (own_setO (r := w.heap.size) (o := 10) (u := .bool dz) (own_setO (r := w.heap.size) (o := 9) (u := .int .i64 lim) (own_setO (r := w.heap.size) (o := 8) (u := .slice ua Y.length ucap) (own_setO (r := w.heap.size) (o := 7) (u := .slice va L.length vcap) (own_setO (r := w.heap.size) (o := 6) (u := .int .i64 to) (own_setO (r := w.heap.size) (o := 5) (u := .int .i64 fr) (own_setO (r := w.heap.size) (o := 4) (u := .int .i64 v) (own_setO (r := w.heap.size) (o := 3) (u := .int .i64 t) (own_setO (r := w.heap.size) (o := 2) (u := .slice ka key.length kc) (own_setO (r := w.heap.size) (o := 1) (u := .string tb) (own_setO (r := w.heap.size) (o := 0) (u := .int .i64 kd) HOI16.out hw0) hw0) hw0) hw0) hw0) hw0) hw0) hw0) hw0) hw0) hw0)
          have HYS := hid (dec_some HDF.out rfl HEE.out)
          clear hw0
          go_wp2_with fail
          exact bodyPost_ret (v := .tuple #[.agg #[.int .i64 kd, .string tb, .slice ka key.length kc, .int .i64 t, .int .i64 v, .int .i64 fr, .int .i64 to, .slice va L.length vcap, .slice ua Y.length ucap, .int .i64 lim, .bool dz], .int .i64 0]) (by simp [results, Try.results22, go_sem, z0, z1, z2, z3, z4, z5, z6, z7, z8, z9, z10]) rfl ⟨⟨kd, tb, key, t, v, fr, to, L, Y, lim, dz⟩, (.slice ka key.length kc), (.slice va L.length vcap), (.slice ua Y.length ucap), 0, rfl, ⟨VsAt.own HKF.out, NsAt.own HWF.out, IsAt.own HIF.out⟩, HSM.out, HBF.out, .inl ⟨rfl, HYS.out, HEQ.out⟩⟩
        · have hq : ((bstr (enc ⟨kd, tb, key, t, v, fr, to, L, Y, lim, dz⟩)).toList == b.toList) = false := by rw [bytes_beq]; exact decide_eq_false heq
          have HEE := hid heq
          clear heq
          generalize hgE : bstr (enc ⟨kd, tb, key, t, v, fr, to, L, Y, lim, dz⟩) = E at hq CB
          clear hgE CB
          have z0 : w6.cell? ⟨w.heap.size, 0, none⟩ = some (.int .i64 0) := HR16.out.res.cell 0
          have z1 : w6.cell? ⟨w.heap.size, 1, none⟩ = some (.string ⟨#[]⟩) := HR16.out.res.cell 1
          have z2 : w6.cell? ⟨w.heap.size, 2, none⟩ = some (.slice none 0 0) := HR16.out.res.cell 2
          have z3 : w6.cell? ⟨w.heap.size, 3, none⟩ = some (.int .i64 0) := HR16.out.res.cell 3
          have z4 : w6.cell? ⟨w.heap.size, 4, none⟩ = some (.int .i64 0) := HR16.out.res.cell 4
          have z5 : w6.cell? ⟨w.heap.size, 5, none⟩ = some (.int .i64 0) := HR16.out.res.cell 5
          have z6 : w6.cell? ⟨w.heap.size, 6, none⟩ = some (.int .i64 0) := HR16.out.res.cell 6
          have z7 : w6.cell? ⟨w.heap.size, 7, none⟩ = some (.slice none 0 0) := HR16.out.res.cell 7
          have z8 : w6.cell? ⟨w.heap.size, 8, none⟩ = some (.slice none 0 0) := HR16.out.res.cell 8
          have z9 : w6.cell? ⟨w.heap.size, 9, none⟩ = some (.int .i64 0) := HR16.out.res.cell 9
          have z10 : w6.cell? ⟨w.heap.size, 10, none⟩ = some (.bool false) := HR16.out.res.cell 10
          have y0 : w6.frozen? ⟨w.heap.size, 0, none⟩ = false := HR16.out.res.free 0
          have y1 : w6.frozen? ⟨w.heap.size, 1, none⟩ = false := HR16.out.res.free 1
          have y2 : w6.frozen? ⟨w.heap.size, 2, none⟩ = false := HR16.out.res.free 2
          have y3 : w6.frozen? ⟨w.heap.size, 3, none⟩ = false := HR16.out.res.free 3
          have y4 : w6.frozen? ⟨w.heap.size, 4, none⟩ = false := HR16.out.res.free 4
          have y5 : w6.frozen? ⟨w.heap.size, 5, none⟩ = false := HR16.out.res.free 5
          have y6 : w6.frozen? ⟨w.heap.size, 6, none⟩ = false := HR16.out.res.free 6
          have y7 : w6.frozen? ⟨w.heap.size, 7, none⟩ = false := HR16.out.res.free 7
          have y8 : w6.frozen? ⟨w.heap.size, 8, none⟩ = false := HR16.out.res.free 8
          have y9 : w6.frozen? ⟨w.heap.size, 9, none⟩ = false := HR16.out.res.free 9
          have y10 : w6.frozen? ⟨w.heap.size, 10, none⟩ = false := HR16.out.res.free 10
          have HBF := hid (((((((((((HR16.out.bel.setCell (p := ⟨w.heap.size, 0, none⟩) (Nat.le_refl _) (.int .i64 0)).setCell (p := ⟨w.heap.size, 1, none⟩) (Nat.le_refl _) (.string ⟨#[]⟩)).setCell (p := ⟨w.heap.size, 2, none⟩) (Nat.le_refl _) (.slice none 0 0)).setCell (p := ⟨w.heap.size, 3, none⟩) (Nat.le_refl _) (.int .i64 0)).setCell (p := ⟨w.heap.size, 4, none⟩) (Nat.le_refl _) (.int .i64 0)).setCell (p := ⟨w.heap.size, 5, none⟩) (Nat.le_refl _) (.int .i64 0)).setCell (p := ⟨w.heap.size, 6, none⟩) (Nat.le_refl _) (.int .i64 0)).setCell (p := ⟨w.heap.size, 7, none⟩) (Nat.le_refl _) (.slice none 0 0)).setCell (p := ⟨w.heap.size, 8, none⟩) (Nat.le_refl _) (.slice none 0 0)).setCell (p := ⟨w.heap.size, 9, none⟩) (Nat.le_refl _) (.int .i64 0)).setCell (p := ⟨w.heap.size, 10, none⟩) (Nat.le_refl _) (.bool false))
          have HNO := hid (dec_none (D := (fun n => decide (n = 1))) rfl rfl HDF.out (.inr HEE.out))
          clear HKc16 HOW16 HOI16 HDF HSM
          go_wp2_with fail
          exact bodyPost_ret (v := .tuple #[.agg #[.int .i64 0, .string ⟨#[]⟩, .slice none 0 0, .int .i64 0, .int .i64 0, .int .i64 0, .int .i64 0, .slice none 0 0, .slice none 0 0, .int .i64 0, .bool false], .int .i64 7]) (by simp [results, Try.results22, go_sem, z0, z1, z2, z3, z4, z5, z6, z7, z8, z9, z10]) rfl ⟨noQ, .slice none 0 0, .slice none 0 0, .slice none 0 0, 7, rfl, ⟨VsAt.own (World.ownsRow_nil _ 0 _ _), NsAt.own (OwN.nil _ 0), IsAt.nil _⟩, small_no, HBF.out, .inr ⟨rfl, rfl, HNO.out⟩⟩
      · have hez1 : (e13 == 0) = false := by rw [beq_eq_false_iff_ne]; exact hez
        have hez2 : (e13 != 0) = true := by rw [bne_iff_ne]; exact hez
        have HEZ := hid hez
        clear hez
        have z0 : W14.cell? ⟨w.heap.size, 0, none⟩ = some (.int .i64 0) := HR14.out.res.cell 0
        have z1 : W14.cell? ⟨w.heap.size, 1, none⟩ = some (.string ⟨#[]⟩) := HR14.out.res.cell 1
        have z2 : W14.cell? ⟨w.heap.size, 2, none⟩ = some (.slice none 0 0) := HR14.out.res.cell 2
        have z3 : W14.cell? ⟨w.heap.size, 3, none⟩ = some (.int .i64 0) := HR14.out.res.cell 3
        have z4 : W14.cell? ⟨w.heap.size, 4, none⟩ = some (.int .i64 0) := HR14.out.res.cell 4
        have z5 : W14.cell? ⟨w.heap.size, 5, none⟩ = some (.int .i64 0) := HR14.out.res.cell 5
        have z6 : W14.cell? ⟨w.heap.size, 6, none⟩ = some (.int .i64 0) := HR14.out.res.cell 6
        have z7 : W14.cell? ⟨w.heap.size, 7, none⟩ = some (.slice none 0 0) := HR14.out.res.cell 7
        have z8 : W14.cell? ⟨w.heap.size, 8, none⟩ = some (.slice none 0 0) := HR14.out.res.cell 8
        have z9 : W14.cell? ⟨w.heap.size, 9, none⟩ = some (.int .i64 0) := HR14.out.res.cell 9
        have z10 : W14.cell? ⟨w.heap.size, 10, none⟩ = some (.bool false) := HR14.out.res.cell 10
        have y0 : W14.frozen? ⟨w.heap.size, 0, none⟩ = false := HR14.out.res.free 0
        have y1 : W14.frozen? ⟨w.heap.size, 1, none⟩ = false := HR14.out.res.free 1
        have y2 : W14.frozen? ⟨w.heap.size, 2, none⟩ = false := HR14.out.res.free 2
        have y3 : W14.frozen? ⟨w.heap.size, 3, none⟩ = false := HR14.out.res.free 3
        have y4 : W14.frozen? ⟨w.heap.size, 4, none⟩ = false := HR14.out.res.free 4
        have y5 : W14.frozen? ⟨w.heap.size, 5, none⟩ = false := HR14.out.res.free 5
        have y6 : W14.frozen? ⟨w.heap.size, 6, none⟩ = false := HR14.out.res.free 6
        have y7 : W14.frozen? ⟨w.heap.size, 7, none⟩ = false := HR14.out.res.free 7
        have y8 : W14.frozen? ⟨w.heap.size, 8, none⟩ = false := HR14.out.res.free 8
        have y9 : W14.frozen? ⟨w.heap.size, 9, none⟩ = false := HR14.out.res.free 9
        have y10 : W14.frozen? ⟨w.heap.size, 10, none⟩ = false := HR14.out.res.free 10
        have hrc : w.heap.size ≠ C := by have := HR14.out.gl; have := HR14.out.gB; omega
        have hrc' : C ≠ w.heap.size := fun h => hrc h.symm
        have HBF := hid (((((((((((HR15.out.bel.setCell (p := ⟨w.heap.size, 0, none⟩) (Nat.le_refl _) (.int .i64 0)).setCell (p := ⟨w.heap.size, 1, none⟩) (Nat.le_refl _) (.string ⟨#[]⟩)).setCell (p := ⟨w.heap.size, 2, none⟩) (Nat.le_refl _) (.slice none 0 0)).setCell (p := ⟨w.heap.size, 3, none⟩) (Nat.le_refl _) (.int .i64 0)).setCell (p := ⟨w.heap.size, 4, none⟩) (Nat.le_refl _) (.int .i64 0)).setCell (p := ⟨w.heap.size, 5, none⟩) (Nat.le_refl _) (.int .i64 0)).setCell (p := ⟨w.heap.size, 6, none⟩) (Nat.le_refl _) (.int .i64 0)).setCell (p := ⟨w.heap.size, 7, none⟩) (Nat.le_refl _) (.slice none 0 0)).setCell (p := ⟨w.heap.size, 8, none⟩) (Nat.le_refl _) (.slice none 0 0)).setCell (p := ⟨w.heap.size, 9, none⟩) (Nat.le_refl _) (.int .i64 0)).setCell (p := ⟨w.heap.size, 10, none⟩) (Nat.le_refl _) (.bool false))
        have HNO := hid (dec_none (D := (fun n => decide (n = 1))) rfl rfl HDF.out (.inl HEZ.out))
        clear HKc15 HOW15 HOI15 HDF HSM
        go_wp2_with fail
        exact bodyPost_ret (v := .tuple #[.agg #[.int .i64 0, .string ⟨#[]⟩, .slice none 0 0, .int .i64 0, .int .i64 0, .int .i64 0, .int .i64 0, .slice none 0 0, .slice none 0 0, .int .i64 0, .bool false], .int .i64 7]) (by simp [results, Try.results22, go_sem, z0, z1, z2, z3, z4, z5, z6, z7, z8, z9, z10]) rfl ⟨noQ, .slice none 0 0, .slice none 0 0, .slice none 0 0, 7, rfl, ⟨VsAt.own (World.ownsRow_nil _ 0 _ _), NsAt.own (OwN.nil _ 0), IsAt.nil _⟩, small_no, HBF.out, .inr ⟨rfl, rfl, HNO.out⟩⟩
    clear hK2
    obtain ⟨hn1, hn2, hn3⟩ := HNC.out
    go_loopw [10] (fun q wr => ∃ (Y : List Int) (k j : Nat) (e : Int) (v2 : Value), q = .int .u64 (k : Int) ∧ k ≤ nc ∧ Y.length = k ∧ Hid (decR (fun n => decide (n = 1)) b = afterCols (fun n => decide (n = 1)) b kd tb key t v fr to L (loopG (intN b) (nc - k) Y j e)) ∧ Hid (∀ c ∈ Y, I64 c) ∧ Hid (RQ 97 39 w w3 g C C b #[.int .i64 kd, .string tb, .slice ka key.length kc, .int .i64 t, .int .i64 v, .int .i64 fr, .int .i64 to, .slice va L.length vcap, v2, .int .i64 0, .bool false] j e wr) ∧ Hid (wr.ownsRow (C + 1) 36 4 (.slice ka key.length kc) key.length (vcells key)) ∧ Hid (OwnR wr (C + 1) (.slice va L.length vcap) L) ∧ Hid (OwnI wr (C + 1) v2 Y) ∧ j ≤ b.size) (fun q _ => nc - (intOf q).toNat)
    case atStart => exact ⟨[], 0, j10, e10, _, rfl, Nat.zero_le _, rfl, by simpa using HDC, fun x hx => absurd hx List.not_mem_nil, HR10, HKc10, HOW10, OwnI.nil _ _, hj10⟩
    case round =>
      obtain ⟨Y, k, j, e, v2, rfl, hkn, hlen, HD, HKC, HR, HKc, HOW, HO, hj⟩ := hrel
      obtain ⟨w5, rfl⟩ : ∃ w5 : World, w5 = wr := ⟨_, rfl⟩
      clear HR10 HKc10 HOW10 HDC hj10
      obtain ⟨ua, ucap, rfl⟩ := own_sl HO.out
      have hk0 : (0 : Int) ≤ (k : Int) := by omega
      have HLN := hid hlen
      clear hlen
      have rd2 : w5.cell? ⟨g, 2, none⟩ = some (.int .i64 e) := cell_of_row _ g 2 _ _ _ HR.out.rd
      by_cases hkl : k < nc
      · have hk1 : (k : Int) < (n10 : Int) := by omega
        have hk2 : (k : Int) < 1001 := by omega
        by_cases he0 : e = 0
        · subst he0
          obtain ⟨⟨cv, p1, q1⟩, hA⟩ : ∃ t, Cd.top 0 (Cd.intR b.data.toList) j 0 = t := ⟨_, rfl⟩
          have cn := hid (fun W h => mIntX g b j 0 W h hj hs9)
          rw [hA] at cn
          have hX : I64 cv := tint hA
          have HDN : Hid (decR (fun n => decide (n = 1)) b = afterCols (fun n => decide (n = 1)) b kd tb key t v fr to L (loopG (intN b) (nc - (k + 1)) (Y ++ [cv]) p1 q1)) := by
            show _ = _
            rw [HD.out, show nc - k = (nc - (k + 1)) + 1 by omega, loopG_next]
            unfold intN
            simp only [hA]
          have HKN : Hid (∀ x ∈ Y ++ [cv], I64 x) := fun x hx => by
            rcases List.mem_append.1 hx with hx | hx
            · exact HKC.out x hx
            · rw [List.mem_singleton.1 hx]; exact hX
          clear HD HKC hA hX EXIT2
          go_wp2_with fail
          refine wp_region_held_drew (S := fun _ => True) (by kernel_rfl) trivial (fun hS => ?_)
          obtain ⟨w20, hw20⟩ : ∃ w20, w5.drew = w20 := ⟨_, rfl⟩
          have hd20 : Below w5.heap.size w5 w20 := hw20 ▸ (Below.refl _ _).drew
          rw [hw20]
          have RT20 := hid (HR.out.keep hd20)
          have HKc20 : Hid (w20.ownsRow (C + 1) 36 4 (.slice ka key.length kc) key.length (vcells key)) := own_below HKc.out hd20
          have HOW20 : Hid (OwnR w20 (C + 1) (.slice va L.length vcap) L) := own_below HOW.out hd20
          have HO20 : Hid (OwnI w20 (C + 1) (.slice ua Y.length ucap) Y) := own_below HO.out hd20
          clear hd20 hw20 rd2 HR HKc HOW HO
          refine wT 0 hS ?_
          refine wT 2 hS ?_
          refine wpAnyH_ready (rs := [1, 3]) (by kernel_rfl) (by simp) ?_
          refine wC (fun K hK => ?_) (wC (fun K hK => ?_) AllReadyH.nil)
          · have x8 : w20.cell? ⟨C, 8, none⟩ = some (.slice ua Y.length ucap) := RT20.out.blk.cell 8
            go_simp
            refine hK.out _ _ trivial (fun _ => ?_)
            clear hK K
            (try simp only [Act.put, List.setIfInBounds_toArray, List.set_cons_zero, List.set_cons_succ])
            clear x8
            refine wpAnyH_ready (rs := [3]) (by kernel_rfl) (by simp) ?_
            refine wC (fun K hK => ?_) AllReadyH.nil
            go_simp
            refine (cn.out w20 RT20.out.rd).mono ?_; rintro e w21 ⟨rfl, u21, R21, hj21⟩
            (try simp only at R21 hj21)
            (try dsimp only)
            have RT21 := hid (RT20.out.call u21 R21)
            have HKc21 : Hid (w21.ownsRow (C + 1) 36 4 (.slice ka key.length kc) key.length (vcells key)) := own_upd HKc20.out u21 hgC
            have HOW21 : Hid (OwnR w21 (C + 1) (.slice va L.length vcap) L) := own_upd HOW20.out u21 hgC
            have HO21 : Hid (OwnI w21 (C + 1) (.slice ua Y.length ucap) Y) := own_upd HO20.out u21 hgC
            have HJ := hid hj21
            clear u21 R21 hj21 RT20 HKc20 HOW20 HO20
            go_wp2_with fail
            refine hK.out _ _ trivial (fun _ => ?_)
            clear hK K
            (try simp only [Act.put, List.setIfInBounds_toArray, List.set_cons_zero, List.set_cons_succ])
            refine wpAnyH_ready (rs := [4]) (by kernel_rfl) (by simp) ?_
            refine wC (fun K hK => ?_) AllReadyH.nil
            go_simp
            refine hK.out _ _ trivial (fun _ => ?_)
            clear hK K
            (try simp only [Act.put, List.setIfInBounds_toArray, List.set_cons_zero, List.set_cons_succ])
            refine wpAnyH_ready (rs := [5]) (by kernel_rfl) (by simp) ?_
            refine wC (fun K hK => ?_) AllReadyH.nil
            refine append_int_wp w21 _ _ rfl (C + 1) (.slice ua Y.length ucap) Y (by go_simp) HO21.out cv w21.heap.size rfl (by go_simp) (by have := HLN.out; omega) RT21.out.lt ?_
            intro v7 w7 own2 gr2
            have HO7 := hid own2
            have HKc7 := hid (own_two HKc21.out HO21.out (by decide) gr2)
            have HOW7 := hid (own_two HOW21.out HO21.out (by decide) gr2)
            have RT7 := hid (RT21.out.grow gr2 (fun q e => by have := (World.ownsRow.lt HO21.out q e).1; omega))
            obtain ⟨ua2, ucap2, hv7⟩ := own_sl own2
            rw [List.length_append, List.length_singleton] at hv7
            subst hv7
            clear own2 gr2 RT21 HKc21 HOW21 HO21
            have x8 : w7.cell? ⟨C, 8, none⟩ = some (.slice ua Y.length ucap) := RT7.out.blk.cell 8
            have f8 : w7.frozen? ⟨C, 8, none⟩ = false := RT7.out.blk.free 8
            refine hK.out _ _ trivial (fun _ => ?_)
            clear hK K
            (try simp only [Act.put, List.setIfInBounds_toArray, List.set_cons_zero, List.set_cons_succ])
            refine wT 6 hS ?_
            refine wpAnyH_ready (rs := [7]) (by kernel_rfl) (by simp) ?_
            refine wC (fun K hK => ?_) AllReadyH.nil
            go_simp
            refine hK.out _ _ trivial (fun _ => ?_)
            clear hK K
            (try simp only [Act.put, List.setIfInBounds_toArray, List.set_cons_zero, List.set_cons_succ])
            refine wpAnyH_done (by kernel_rfl) ?_ _
            have RT8 : Hid (RQ 97 39 w w3 g C C b #[.int .i64 kd, .string tb, .slice ka key.length kc, .int .i64 t, .int .i64 v, .int .i64 fr, .int .i64 to, .slice va L.length vcap, .slice ua2 (Y.length + 1) ucap2, .int .i64 0, .bool false] p1 q1 (w7.setCell ⟨C, 8, none⟩ (.slice ua2 (Y.length + 1) ucap2))) := RT7.out.set 8 _
            have HKc8 := hid (own_setO (r := C) (o := 8) (u := (.slice ua2 (Y.length + 1) ucap2)) HKc7.out (Nat.lt_succ_self _))
            have HOW8 := hid (own_setO (r := C) (o := 8) (u := (.slice ua2 (Y.length + 1) ucap2)) HOW7.out (Nat.lt_succ_self _))
            have HO8 : Hid (OwnI (w7.setCell ⟨C, 8, none⟩ (.slice ua2 (Y.length + 1) ucap2)) (C + 1) (.slice ua2 (Y.length + 1) ucap2) (Y ++ [cv])) := own_setO (r := C) (o := 8) (u := (.slice ua2 (Y.length + 1) ucap2)) HO7.out (Nat.lt_succ_self _)
            clear RT7 HKc7 HOW7 HO7
            go_wp2_with fail
            go_roundw
            case rel => exact ⟨Y ++ [cv], k + 1, p1, q1, _, by first | rfl | go_num, by omega, by rw [List.length_append, List.length_singleton]; have := HLN.out; omega, HDN, HKN, RT8, HKc8, HOW8, HO8, HJ.out⟩
            case measure => (simp [intOf] <;> omega)
          · go_simp
            refine (cn.out w20 RT20.out.rd).mono ?_; rintro e w21 ⟨rfl, u21, R21, hj21⟩
            (try simp only at R21 hj21)
            (try dsimp only)
            have RT21 := hid (RT20.out.call u21 R21)
            have HKc21 : Hid (w21.ownsRow (C + 1) 36 4 (.slice ka key.length kc) key.length (vcells key)) := own_upd HKc20.out u21 hgC
            have HOW21 : Hid (OwnR w21 (C + 1) (.slice va L.length vcap) L) := own_upd HOW20.out u21 hgC
            have HO21 : Hid (OwnI w21 (C + 1) (.slice ua Y.length ucap) Y) := own_upd HO20.out u21 hgC
            have HJ := hid hj21
            clear u21 R21 hj21 RT20 HKc20 HOW20 HO20
            go_wp2_with fail
            refine hK.out _ _ trivial (fun _ => ?_)
            clear hK K
            (try simp only [Act.put, List.setIfInBounds_toArray, List.set_cons_zero, List.set_cons_succ])
            refine wpAnyH_ready (rs := [1, 4]) (by kernel_rfl) (by simp) ?_
            refine wC (fun K hK => ?_) (wC (fun K hK => ?_) AllReadyH.nil)
            · have x8 : w21.cell? ⟨C, 8, none⟩ = some (.slice ua Y.length ucap) := RT21.out.blk.cell 8
              go_simp
              refine hK.out _ _ trivial (fun _ => ?_)
              clear hK K
              (try simp only [Act.put, List.setIfInBounds_toArray, List.set_cons_zero, List.set_cons_succ])
              clear x8
              refine wpAnyH_ready (rs := [4]) (by kernel_rfl) (by simp) ?_
              refine wC (fun K hK => ?_) AllReadyH.nil
              go_simp
              refine hK.out _ _ trivial (fun _ => ?_)
              clear hK K
              (try simp only [Act.put, List.setIfInBounds_toArray, List.set_cons_zero, List.set_cons_succ])
              refine wpAnyH_ready (rs := [5]) (by kernel_rfl) (by simp) ?_
              refine wC (fun K hK => ?_) AllReadyH.nil
              refine append_int_wp w21 _ _ rfl (C + 1) (.slice ua Y.length ucap) Y (by go_simp) HO21.out cv w21.heap.size rfl (by go_simp) (by have := HLN.out; omega) RT21.out.lt ?_
              intro v7 w7 own2 gr2
              have HO7 := hid own2
              have HKc7 := hid (own_two HKc21.out HO21.out (by decide) gr2)
              have HOW7 := hid (own_two HOW21.out HO21.out (by decide) gr2)
              have RT7 := hid (RT21.out.grow gr2 (fun q e => by have := (World.ownsRow.lt HO21.out q e).1; omega))
              obtain ⟨ua2, ucap2, hv7⟩ := own_sl own2
              rw [List.length_append, List.length_singleton] at hv7
              subst hv7
              clear own2 gr2 RT21 HKc21 HOW21 HO21
              have x8 : w7.cell? ⟨C, 8, none⟩ = some (.slice ua Y.length ucap) := RT7.out.blk.cell 8
              have f8 : w7.frozen? ⟨C, 8, none⟩ = false := RT7.out.blk.free 8
              refine hK.out _ _ trivial (fun _ => ?_)
              clear hK K
              (try simp only [Act.put, List.setIfInBounds_toArray, List.set_cons_zero, List.set_cons_succ])
              refine wT 6 hS ?_
              refine wpAnyH_ready (rs := [7]) (by kernel_rfl) (by simp) ?_
              refine wC (fun K hK => ?_) AllReadyH.nil
              go_simp
              refine hK.out _ _ trivial (fun _ => ?_)
              clear hK K
              (try simp only [Act.put, List.setIfInBounds_toArray, List.set_cons_zero, List.set_cons_succ])
              refine wpAnyH_done (by kernel_rfl) ?_ _
              have RT8 : Hid (RQ 97 39 w w3 g C C b #[.int .i64 kd, .string tb, .slice ka key.length kc, .int .i64 t, .int .i64 v, .int .i64 fr, .int .i64 to, .slice va L.length vcap, .slice ua2 (Y.length + 1) ucap2, .int .i64 0, .bool false] p1 q1 (w7.setCell ⟨C, 8, none⟩ (.slice ua2 (Y.length + 1) ucap2))) := RT7.out.set 8 _
              have HKc8 := hid (own_setO (r := C) (o := 8) (u := (.slice ua2 (Y.length + 1) ucap2)) HKc7.out (Nat.lt_succ_self _))
              have HOW8 := hid (own_setO (r := C) (o := 8) (u := (.slice ua2 (Y.length + 1) ucap2)) HOW7.out (Nat.lt_succ_self _))
              have HO8 : Hid (OwnI (w7.setCell ⟨C, 8, none⟩ (.slice ua2 (Y.length + 1) ucap2)) (C + 1) (.slice ua2 (Y.length + 1) ucap2) (Y ++ [cv])) := own_setO (r := C) (o := 8) (u := (.slice ua2 (Y.length + 1) ucap2)) HO7.out (Nat.lt_succ_self _)
              clear RT7 HKc7 HOW7 HO7
              go_wp2_with fail
              go_roundw
              case rel => exact ⟨Y ++ [cv], k + 1, p1, q1, _, by first | rfl | go_num, by omega, by rw [List.length_append, List.length_singleton]; have := HLN.out; omega, HDN, HKN, RT8, HKc8, HOW8, HO8, HJ.out⟩
              case measure => (simp [intOf] <;> omega)
            · go_simp
              refine hK.out _ _ trivial (fun _ => ?_)
              clear hK K
              (try simp only [Act.put, List.setIfInBounds_toArray, List.set_cons_zero, List.set_cons_succ])
              refine wpAnyH_ready (rs := [1]) (by kernel_rfl) (by simp) ?_
              refine wC (fun K hK => ?_) AllReadyH.nil
              have x8 : (w21.alloc (.cells #[.int .i64 cv] 3)).cell? ⟨C, 8, none⟩ = some (.slice ua Y.length ucap) := hkeep (RT21.out.blk.cell 8) (hba w21 _)
              go_simp
              refine hK.out _ _ trivial (fun _ => ?_)
              clear hK K
              (try simp only [Act.put, List.setIfInBounds_toArray, List.set_cons_zero, List.set_cons_succ])
              clear x8
              refine wpAnyH_ready (rs := [5]) (by kernel_rfl) (by simp) ?_
              refine wC (fun K hK => ?_) AllReadyH.nil
              refine append_int_wp w21 _ _ rfl (C + 1) (.slice ua Y.length ucap) Y (by go_simp) HO21.out cv w21.heap.size rfl (by go_simp) (by have := HLN.out; omega) RT21.out.lt ?_
              intro v7 w7 own2 gr2
              have HO7 := hid own2
              have HKc7 := hid (own_two HKc21.out HO21.out (by decide) gr2)
              have HOW7 := hid (own_two HOW21.out HO21.out (by decide) gr2)
              have RT7 := hid (RT21.out.grow gr2 (fun q e => by have := (World.ownsRow.lt HO21.out q e).1; omega))
              obtain ⟨ua2, ucap2, hv7⟩ := own_sl own2
              rw [List.length_append, List.length_singleton] at hv7
              subst hv7
              clear own2 gr2 RT21 HKc21 HOW21 HO21
              have x8 : w7.cell? ⟨C, 8, none⟩ = some (.slice ua Y.length ucap) := RT7.out.blk.cell 8
              have f8 : w7.frozen? ⟨C, 8, none⟩ = false := RT7.out.blk.free 8
              refine hK.out _ _ trivial (fun _ => ?_)
              clear hK K
              (try simp only [Act.put, List.setIfInBounds_toArray, List.set_cons_zero, List.set_cons_succ])
              refine wT 6 hS ?_
              refine wpAnyH_ready (rs := [7]) (by kernel_rfl) (by simp) ?_
              refine wC (fun K hK => ?_) AllReadyH.nil
              go_simp
              refine hK.out _ _ trivial (fun _ => ?_)
              clear hK K
              (try simp only [Act.put, List.setIfInBounds_toArray, List.set_cons_zero, List.set_cons_succ])
              refine wpAnyH_done (by kernel_rfl) ?_ _
              have RT8 : Hid (RQ 97 39 w w3 g C C b #[.int .i64 kd, .string tb, .slice ka key.length kc, .int .i64 t, .int .i64 v, .int .i64 fr, .int .i64 to, .slice va L.length vcap, .slice ua2 (Y.length + 1) ucap2, .int .i64 0, .bool false] p1 q1 (w7.setCell ⟨C, 8, none⟩ (.slice ua2 (Y.length + 1) ucap2))) := RT7.out.set 8 _
              have HKc8 := hid (own_setO (r := C) (o := 8) (u := (.slice ua2 (Y.length + 1) ucap2)) HKc7.out (Nat.lt_succ_self _))
              have HOW8 := hid (own_setO (r := C) (o := 8) (u := (.slice ua2 (Y.length + 1) ucap2)) HOW7.out (Nat.lt_succ_self _))
              have HO8 : Hid (OwnI (w7.setCell ⟨C, 8, none⟩ (.slice ua2 (Y.length + 1) ucap2)) (C + 1) (.slice ua2 (Y.length + 1) ucap2) (Y ++ [cv])) := own_setO (r := C) (o := 8) (u := (.slice ua2 (Y.length + 1) ucap2)) HO7.out (Nat.lt_succ_self _)
              clear RT7 HKc7 HOW7 HO7
              go_wp2_with fail
              go_roundw
              case rel => exact ⟨Y ++ [cv], k + 1, p1, q1, _, by first | rfl | go_num, by omega, by rw [List.length_append, List.length_singleton]; have := HLN.out; omega, HDN, HKN, RT8, HKc8, HOW8, HO8, HJ.out⟩
              case measure => (simp [intOf] <;> omega)
        · have he1 : (e == 0) = false := by rw [beq_eq_false_iff_ne]; exact he0
          have HDE : Hid (decR (fun n => decide (n = 1)) b = afterCols (fun n => decide (n = 1)) b kd tb key t v fr to L (Y, j, e)) := by
            show _ = _
            rw [HD.out, loopG_stop he0]
          have hlz : Y.length ≤ 1001 := by have := HLN.out; omega
          clear HD he0
          go_wp2_with fail
          exact EXIT2 _ _ _ _ _ _ _ _ _ _ _ _ _ _ _ _ _ _ _ _ _ _ _ _ _ _ _ _ _ _ _ _ _ _ _ _ _ _ _ _ _ _ _ _ _ _ _ _ _ _ _ _ _ _ _ _ _ _ _ _ _ _ _ _ _ _ _ _ _ _ _ _ _ _ _ _ _ _ _ _ _ _ _ _ _ _ _ _ _ _ _ _ _ _ _ _ _ _ _ _ _ _ Y ua ucap j e _ HDE HKC hlz HR HKc HOW HO hj
      · have HDE : Hid (decR (fun n => decide (n = 1)) b = afterCols (fun n => decide (n = 1)) b kd tb key t v fr to L (Y, j, e)) := by
          show _ = _
          rw [HD.out, show nc - k = 0 by omega]
          rfl
        have hlz : Y.length ≤ 1001 := by have := HLN.out; omega
        clear HD
        by_cases hbig : (k : Int) < (n10 : Int)
        · have hk2 : ¬ (k : Int) < 1001 := by omega
          clear hkl
          go_wp2_with fail
          exact EXIT2 _ _ _ _ _ _ _ _ _ _ _ _ _ _ _ _ _ _ _ _ _ _ _ _ _ _ _ _ _ _ _ _ _ _ _ _ _ _ _ _ _ _ _ _ _ _ _ _ _ _ _ _ _ _ _ _ _ _ _ _ _ _ _ _ _ _ _ _ _ _ _ _ _ _ _ _ _ _ _ _ _ _ _ _ _ _ _ _ _ _ _ _ _ _ _ _ _ _ _ _ _ _ Y ua ucap j e _ HDE HKC hlz HR HKc HOW HO hj
        · clear hkl
          go_wp2_with fail
          exact EXIT2 _ _ _ _ _ _ _ _ _ _ _ _ _ _ _ _ _ _ _ _ _ _ _ _ _ _ _ _ _ _ _ _ _ _ _ _ _ _ _ _ _ _ _ _ _ _ _ _ _ _ _ _ _ _ _ _ _ _ _ _ _ _ _ _ _ _ _ _ _ _ _ _ _ _ _ _ _ _ _ _ _ _ _ _ _ _ _ _ _ _ _ _ _ _ _ _ _ _ _ _ _ _ Y ua ucap j e _ HDE HKC hlz HR HKc HOW HO hj
  clear hK1
  obtain ⟨hn1, hn2, hn3⟩ := HNW.out
  go_loopw [8] (fun q wr => ∃ (L : List N) (k j : Nat) (e : Int) (v2 : Value), q = .int .u64 (k : Int) ∧ k ≤ nw ∧ L.length = k ∧ Hid (decR (fun n => decide (n = 1)) b = afterWh (fun n => decide (n = 1)) b kd tb key t v fr to (loopG (nodeR b) (nw - k) L j e)) ∧ Hid (∀ x ∈ L, Nok x) ∧ Hid (RQ 97 39 w w3 g C C b #[.int .i64 kd, .string tb, .slice ka key.length kc, .int .i64 t, .int .i64 v, .int .i64 fr, .int .i64 to, v2, .slice none 0 0, .int .i64 0, .bool false] j e wr) ∧ Hid (wr.ownsRow (C + 1) 36 4 (.slice ka key.length kc) key.length (vcells key)) ∧ Hid (OwnR wr (C + 1) v2 L) ∧ j ≤ b.size) (fun q _ => nw - (intOf q).toNat)
  case atStart => exact ⟨[], 0, j8, e8, _, rfl, Nat.zero_le _, rfl, by simpa using HD0, fun x hx => absurd hx List.not_mem_nil, HR8, HK8, OwnR.nil _ _, hj8⟩
  case round =>
    obtain ⟨L, k, j, e, v2, rfl, hkn, hlen, HD, HK, HR, HKc, HO, hj⟩ := hrel
    obtain ⟨w5, rfl⟩ : ∃ w5 : World, w5 = wr := ⟨_, rfl⟩
    clear HR8 HK8 HD0 hj8
    obtain ⟨va, vcap, rfl⟩ := own_sl HO.out
    have hk0 : (0 : Int) ≤ (k : Int) := by omega
    have HLN := hid hlen
    clear hlen
    have rd2 : w5.cell? ⟨g, 2, none⟩ = some (.int .i64 e) := cell_of_row _ g 2 _ _ _ HR.out.rd
    by_cases hkl : k < nw
    · have hk1 : (k : Int) < (n8 : Int) := by omega
      have hk2 : (k : Int) < 1001 := by omega
      by_cases he0 : e = 0
      · subst he0
        obtain ⟨⟨x, p1, q1⟩, hA⟩ : ∃ t, nodeR b j 0 = t := ⟨_, rfl⟩
        have cn := fun W h => nodeX_any g b j 0 W h hj hs9
        rw [hA] at cn
        have hX : Nok x := by have := nodeR_ok (s := b) (i := j) (er := 0); rw [hA] at this; exact this
        obtain ⟨op, col, ⟨yk, yn, yb, ys'⟩⟩ := x
        simp only at cn
        replace cn := hid cn
        have HDN : Hid (decR (fun n => decide (n = 1)) b = afterWh (fun n => decide (n = 1)) b kd tb key t v fr to (loopG (nodeR b) (nw - (k + 1)) (L ++ [⟨op, col, ⟨yk, yn, yb, ys'⟩⟩]) p1 q1)) := by
          show _ = _
          rw [HD.out, show nw - k = (nw - (k + 1)) + 1 by omega, loopG_next]
          simp only [hA]
        have HKN : Hid (∀ x ∈ L ++ [(⟨op, col, ⟨yk, yn, yb, ys'⟩⟩ : N)], Nok x) := fun x hx => by
          rcases List.mem_append.1 hx with hx | hx
          · exact HK.out x hx
          · rw [List.mem_singleton.1 hx]; exact hX
        clear HD HK hA hX EXIT1
        go_wp2_with fail
        refine wp_region_held_drew (S := fun _ => True) (by kernel_rfl) trivial (fun hS => ?_)
        obtain ⟨w20, hw20⟩ : ∃ w20, w5.drew = w20 := ⟨_, rfl⟩
        have hd20 : Below w5.heap.size w5 w20 := hw20 ▸ (Below.refl _ _).drew
        rw [hw20]
        have RT20 := hid (HR.out.keep hd20)
        have HKc20 : Hid (w20.ownsRow (C + 1) 36 4 (.slice ka key.length kc) key.length (vcells key)) := own_below HKc.out hd20
        have HO20 : Hid (OwnR w20 (C + 1) (.slice va L.length vcap) L) := own_below HO.out hd20
        clear hd20 hw20 rd2 HR HKc HO
        refine wT 0 hS ?_
        refine wT 2 hS ?_
        refine wpAnyH_ready (rs := [1, 3]) (by kernel_rfl) (by simp) ?_
        refine wC (fun K hK => ?_) (wC (fun K hK => ?_) AllReadyH.nil)
        · have x8 : w20.cell? ⟨C, 7, none⟩ = some (.slice va L.length vcap) := RT20.out.blk.cell 7
          go_simp
          refine hK.out _ _ trivial (fun _ => ?_)
          clear hK K
          (try simp only [Act.put, List.setIfInBounds_toArray, List.set_cons_zero, List.set_cons_succ])
          clear x8
          refine wpAnyH_ready (rs := [3]) (by kernel_rfl) (by simp) ?_
          refine wC (fun K hK => ?_) AllReadyH.nil
          go_simp
          refine (cn.out w20 RT20.out.rd).mono ?_; rintro e w21 ⟨rfl, u21, R21, hj21⟩
          (try simp only at R21 hj21)
          (try dsimp only)
          have RT21 := hid (RT20.out.call u21 R21)
          have HKc21 : Hid (w21.ownsRow (C + 1) 36 4 (.slice ka key.length kc) key.length (vcells key)) := own_upd HKc20.out u21 hgC
          have HO21 : Hid (OwnR w21 (C + 1) (.slice va L.length vcap) L) := own_upd HO20.out u21 hgC
          have HJ := hid hj21
          clear u21 R21 hj21 RT20 HKc20 HO20
          go_wp2_with fail
          refine hK.out _ _ trivial (fun _ => ?_)
          clear hK K
          (try simp only [Act.put, List.setIfInBounds_toArray, List.set_cons_zero, List.set_cons_succ])
          refine wpAnyH_ready (rs := [4]) (by kernel_rfl) (by simp) ?_
          refine wC (fun K hK => ?_) AllReadyH.nil
          go_simp
          refine hK.out _ _ trivial (fun _ => ?_)
          clear hK K
          (try simp only [Act.put, List.setIfInBounds_toArray, List.set_cons_zero, List.set_cons_succ])
          refine wpAnyH_ready (rs := [5]) (by kernel_rfl) (by simp) ?_
          refine wC (fun K hK => ?_) AllReadyH.nil
          refine append_ref_wp w21 _ _ rfl (C + 1) (.slice va L.length vcap) L (by go_simp) HO21.out ⟨op, col, ⟨yk, yn, yb, ys'⟩⟩ w21.heap.size rfl (by go_simp) (by have := HLN.out; omega) RT21.out.lt rfl ?_
          intro v7 w7 own2 gr2
          have HO7 := hid own2
          have HKc7 := hid (own_two HKc21.out HO21.out (by decide) gr2)
          have RT7 := hid (RT21.out.grow gr2 (fun q e => by have := (World.ownsRow.lt HO21.out q e).1; omega))
          obtain ⟨ua2, ucap2, hv7⟩ := own_sl own2
          rw [List.length_append, List.length_singleton] at hv7
          subst hv7
          clear own2 gr2 RT21 HKc21 HO21
          have x8 : w7.cell? ⟨C, 7, none⟩ = some (.slice va L.length vcap) := RT7.out.blk.cell 7
          have f8 : w7.frozen? ⟨C, 7, none⟩ = false := RT7.out.blk.free 7
          refine hK.out _ _ trivial (fun _ => ?_)
          clear hK K
          (try simp only [Act.put, List.setIfInBounds_toArray, List.set_cons_zero, List.set_cons_succ])
          refine wT 6 hS ?_
          refine wpAnyH_ready (rs := [7]) (by kernel_rfl) (by simp) ?_
          refine wC (fun K hK => ?_) AllReadyH.nil
          go_simp
          refine hK.out _ _ trivial (fun _ => ?_)
          clear hK K
          (try simp only [Act.put, List.setIfInBounds_toArray, List.set_cons_zero, List.set_cons_succ])
          refine wpAnyH_done (by kernel_rfl) ?_ _
          have RT8 : Hid (RQ 97 39 w w3 g C C b #[.int .i64 kd, .string tb, .slice ka key.length kc, .int .i64 t, .int .i64 v, .int .i64 fr, .int .i64 to, .slice ua2 (L.length + 1) ucap2, .slice none 0 0, .int .i64 0, .bool false] p1 q1 (w7.setCell ⟨C, 7, none⟩ (.slice ua2 (L.length + 1) ucap2))) := RT7.out.set 7 _
          have HKc8 := hid (own_setO (r := C) (o := 7) (u := (.slice ua2 (L.length + 1) ucap2)) HKc7.out (Nat.lt_succ_self _))
          have HO8 : Hid (OwnR (w7.setCell ⟨C, 7, none⟩ (.slice ua2 (L.length + 1) ucap2)) (C + 1) (.slice ua2 (L.length + 1) ucap2) (L ++ [⟨op, col, ⟨yk, yn, yb, ys'⟩⟩])) := own_setO (r := C) (o := 7) (u := (.slice ua2 (L.length + 1) ucap2)) HO7.out (Nat.lt_succ_self _)
          clear RT7 HKc7 HO7
          go_wp2_with fail
          go_roundw
          case rel => exact ⟨L ++ [⟨op, col, ⟨yk, yn, yb, ys'⟩⟩], k + 1, p1, q1, _, by first | rfl | go_num, by omega, by rw [List.length_append, List.length_singleton]; have := HLN.out; omega, HDN, HKN, RT8, HKc8, HO8, HJ.out⟩
          case measure => (simp [intOf] <;> omega)
        · go_simp
          refine (cn.out w20 RT20.out.rd).mono ?_; rintro e w21 ⟨rfl, u21, R21, hj21⟩
          (try simp only at R21 hj21)
          (try dsimp only)
          have RT21 := hid (RT20.out.call u21 R21)
          have HKc21 : Hid (w21.ownsRow (C + 1) 36 4 (.slice ka key.length kc) key.length (vcells key)) := own_upd HKc20.out u21 hgC
          have HO21 : Hid (OwnR w21 (C + 1) (.slice va L.length vcap) L) := own_upd HO20.out u21 hgC
          have HJ := hid hj21
          clear u21 R21 hj21 RT20 HKc20 HO20
          go_wp2_with fail
          refine hK.out _ _ trivial (fun _ => ?_)
          clear hK K
          (try simp only [Act.put, List.setIfInBounds_toArray, List.set_cons_zero, List.set_cons_succ])
          refine wpAnyH_ready (rs := [1, 4]) (by kernel_rfl) (by simp) ?_
          refine wC (fun K hK => ?_) (wC (fun K hK => ?_) AllReadyH.nil)
          · have x8 : w21.cell? ⟨C, 7, none⟩ = some (.slice va L.length vcap) := RT21.out.blk.cell 7
            go_simp
            refine hK.out _ _ trivial (fun _ => ?_)
            clear hK K
            (try simp only [Act.put, List.setIfInBounds_toArray, List.set_cons_zero, List.set_cons_succ])
            clear x8
            refine wpAnyH_ready (rs := [4]) (by kernel_rfl) (by simp) ?_
            refine wC (fun K hK => ?_) AllReadyH.nil
            go_simp
            refine hK.out _ _ trivial (fun _ => ?_)
            clear hK K
            (try simp only [Act.put, List.setIfInBounds_toArray, List.set_cons_zero, List.set_cons_succ])
            refine wpAnyH_ready (rs := [5]) (by kernel_rfl) (by simp) ?_
            refine wC (fun K hK => ?_) AllReadyH.nil
            refine append_ref_wp w21 _ _ rfl (C + 1) (.slice va L.length vcap) L (by go_simp) HO21.out ⟨op, col, ⟨yk, yn, yb, ys'⟩⟩ w21.heap.size rfl (by go_simp) (by have := HLN.out; omega) RT21.out.lt rfl ?_
            intro v7 w7 own2 gr2
            have HO7 := hid own2
            have HKc7 := hid (own_two HKc21.out HO21.out (by decide) gr2)
            have RT7 := hid (RT21.out.grow gr2 (fun q e => by have := (World.ownsRow.lt HO21.out q e).1; omega))
            obtain ⟨ua2, ucap2, hv7⟩ := own_sl own2
            rw [List.length_append, List.length_singleton] at hv7
            subst hv7
            clear own2 gr2 RT21 HKc21 HO21
            have x8 : w7.cell? ⟨C, 7, none⟩ = some (.slice va L.length vcap) := RT7.out.blk.cell 7
            have f8 : w7.frozen? ⟨C, 7, none⟩ = false := RT7.out.blk.free 7
            refine hK.out _ _ trivial (fun _ => ?_)
            clear hK K
            (try simp only [Act.put, List.setIfInBounds_toArray, List.set_cons_zero, List.set_cons_succ])
            refine wT 6 hS ?_
            refine wpAnyH_ready (rs := [7]) (by kernel_rfl) (by simp) ?_
            refine wC (fun K hK => ?_) AllReadyH.nil
            go_simp
            refine hK.out _ _ trivial (fun _ => ?_)
            clear hK K
            (try simp only [Act.put, List.setIfInBounds_toArray, List.set_cons_zero, List.set_cons_succ])
            refine wpAnyH_done (by kernel_rfl) ?_ _
            have RT8 : Hid (RQ 97 39 w w3 g C C b #[.int .i64 kd, .string tb, .slice ka key.length kc, .int .i64 t, .int .i64 v, .int .i64 fr, .int .i64 to, .slice ua2 (L.length + 1) ucap2, .slice none 0 0, .int .i64 0, .bool false] p1 q1 (w7.setCell ⟨C, 7, none⟩ (.slice ua2 (L.length + 1) ucap2))) := RT7.out.set 7 _
            have HKc8 := hid (own_setO (r := C) (o := 7) (u := (.slice ua2 (L.length + 1) ucap2)) HKc7.out (Nat.lt_succ_self _))
            have HO8 : Hid (OwnR (w7.setCell ⟨C, 7, none⟩ (.slice ua2 (L.length + 1) ucap2)) (C + 1) (.slice ua2 (L.length + 1) ucap2) (L ++ [⟨op, col, ⟨yk, yn, yb, ys'⟩⟩])) := own_setO (r := C) (o := 7) (u := (.slice ua2 (L.length + 1) ucap2)) HO7.out (Nat.lt_succ_self _)
            clear RT7 HKc7 HO7
            go_wp2_with fail
            go_roundw
            case rel => exact ⟨L ++ [⟨op, col, ⟨yk, yn, yb, ys'⟩⟩], k + 1, p1, q1, _, by first | rfl | go_num, by omega, by rw [List.length_append, List.length_singleton]; have := HLN.out; omega, HDN, HKN, RT8, HKc8, HO8, HJ.out⟩
            case measure => (simp [intOf] <;> omega)
          · go_simp
            refine hK.out _ _ trivial (fun _ => ?_)
            clear hK K
            (try simp only [Act.put, List.setIfInBounds_toArray, List.set_cons_zero, List.set_cons_succ])
            refine wpAnyH_ready (rs := [1]) (by kernel_rfl) (by simp) ?_
            refine wC (fun K hK => ?_) AllReadyH.nil
            have x8 : (w21.alloc (.cells #[.int .i64 op, .int .i64 col, .int .i64 yk, .int .i64 yn, .int .u64 (yb : Int), .string ys'] 83)).cell? ⟨C, 7, none⟩ = some (.slice va L.length vcap) := hkeep (RT21.out.blk.cell 7) (hba w21 _)
            go_simp
            refine hK.out _ _ trivial (fun _ => ?_)
            clear hK K
            (try simp only [Act.put, List.setIfInBounds_toArray, List.set_cons_zero, List.set_cons_succ])
            clear x8
            refine wpAnyH_ready (rs := [5]) (by kernel_rfl) (by simp) ?_
            refine wC (fun K hK => ?_) AllReadyH.nil
            refine append_ref_wp w21 _ _ rfl (C + 1) (.slice va L.length vcap) L (by go_simp) HO21.out ⟨op, col, ⟨yk, yn, yb, ys'⟩⟩ w21.heap.size rfl (by go_simp) (by have := HLN.out; omega) RT21.out.lt rfl ?_
            intro v7 w7 own2 gr2
            have HO7 := hid own2
            have HKc7 := hid (own_two HKc21.out HO21.out (by decide) gr2)
            have RT7 := hid (RT21.out.grow gr2 (fun q e => by have := (World.ownsRow.lt HO21.out q e).1; omega))
            obtain ⟨ua2, ucap2, hv7⟩ := own_sl own2
            rw [List.length_append, List.length_singleton] at hv7
            subst hv7
            clear own2 gr2 RT21 HKc21 HO21
            have x8 : w7.cell? ⟨C, 7, none⟩ = some (.slice va L.length vcap) := RT7.out.blk.cell 7
            have f8 : w7.frozen? ⟨C, 7, none⟩ = false := RT7.out.blk.free 7
            refine hK.out _ _ trivial (fun _ => ?_)
            clear hK K
            (try simp only [Act.put, List.setIfInBounds_toArray, List.set_cons_zero, List.set_cons_succ])
            refine wT 6 hS ?_
            refine wpAnyH_ready (rs := [7]) (by kernel_rfl) (by simp) ?_
            refine wC (fun K hK => ?_) AllReadyH.nil
            go_simp
            refine hK.out _ _ trivial (fun _ => ?_)
            clear hK K
            (try simp only [Act.put, List.setIfInBounds_toArray, List.set_cons_zero, List.set_cons_succ])
            refine wpAnyH_done (by kernel_rfl) ?_ _
            have RT8 : Hid (RQ 97 39 w w3 g C C b #[.int .i64 kd, .string tb, .slice ka key.length kc, .int .i64 t, .int .i64 v, .int .i64 fr, .int .i64 to, .slice ua2 (L.length + 1) ucap2, .slice none 0 0, .int .i64 0, .bool false] p1 q1 (w7.setCell ⟨C, 7, none⟩ (.slice ua2 (L.length + 1) ucap2))) := RT7.out.set 7 _
            have HKc8 := hid (own_setO (r := C) (o := 7) (u := (.slice ua2 (L.length + 1) ucap2)) HKc7.out (Nat.lt_succ_self _))
            have HO8 : Hid (OwnR (w7.setCell ⟨C, 7, none⟩ (.slice ua2 (L.length + 1) ucap2)) (C + 1) (.slice ua2 (L.length + 1) ucap2) (L ++ [⟨op, col, ⟨yk, yn, yb, ys'⟩⟩])) := own_setO (r := C) (o := 7) (u := (.slice ua2 (L.length + 1) ucap2)) HO7.out (Nat.lt_succ_self _)
            clear RT7 HKc7 HO7
            go_wp2_with fail
            go_roundw
            case rel => exact ⟨L ++ [⟨op, col, ⟨yk, yn, yb, ys'⟩⟩], k + 1, p1, q1, _, by first | rfl | go_num, by omega, by rw [List.length_append, List.length_singleton]; have := HLN.out; omega, HDN, HKN, RT8, HKc8, HO8, HJ.out⟩
            case measure => (simp [intOf] <;> omega)
      · have he1 : (e == 0) = false := by rw [beq_eq_false_iff_ne]; exact he0
        have HDE : Hid (decR (fun n => decide (n = 1)) b = afterWh (fun n => decide (n = 1)) b kd tb key t v fr to (L, j, e)) := by
          show _ = _
          rw [HD.out, loopG_stop he0]
        have hlz : L.length ≤ 1001 := by have := HLN.out; omega
        clear HD he0
        go_wp2_with fail
        exact EXIT1 _ _ _ _ _ _ _ _ _ _ _ _ _ _ _ _ _ _ _ _ _ _ _ _ _ _ _ _ _ _ _ _ _ _ _ _ _ _ _ _ _ _ _ _ _ _ _ _ _ _ _ _ _ _ _ _ _ _ _ _ _ _ _ _ _ _ _ _ _ _ _ _ _ _ _ _ _ _ _ _ _ _ _ _ _ _ _ _ _ _ _ _ _ _ _ _ _ _ _ _ _ _ L va vcap j e _ HDE HK hlz HR HKc HO hj
    · have HDE : Hid (decR (fun n => decide (n = 1)) b = afterWh (fun n => decide (n = 1)) b kd tb key t v fr to (L, j, e)) := by
        show _ = _
        rw [HD.out, show nw - k = 0 by omega]
        rfl
      have hlz : L.length ≤ 1001 := by have := HLN.out; omega
      clear HD
      by_cases hbig : (k : Int) < (n8 : Int)
      · have hk2 : ¬ (k : Int) < 1001 := by omega
        clear hkl
        go_wp2_with fail
        exact EXIT1 _ _ _ _ _ _ _ _ _ _ _ _ _ _ _ _ _ _ _ _ _ _ _ _ _ _ _ _ _ _ _ _ _ _ _ _ _ _ _ _ _ _ _ _ _ _ _ _ _ _ _ _ _ _ _ _ _ _ _ _ _ _ _ _ _ _ _ _ _ _ _ _ _ _ _ _ _ _ _ _ _ _ _ _ _ _ _ _ _ _ _ _ _ _ _ _ _ _ _ _ _ _ L va vcap j e _ HDE HK hlz HR HKc HO hj
      · clear hkl
        go_wp2_with fail
        exact EXIT1 _ _ _ _ _ _ _ _ _ _ _ _ _ _ _ _ _ _ _ _ _ _ _ _ _ _ _ _ _ _ _ _ _ _ _ _ _ _ _ _ _ _ _ _ _ _ _ _ _ _ _ _ _ _ _ _ _ _ _ _ _ _ _ _ _ _ _ _ _ _ _ _ _ _ _ _ _ _ _ _ _ _ _ _ _ _ _ _ _ _ _ _ _ _ _ _ _ _ _ _ _ _ L va vcap j e _ HDE HK hlz HR HKc HO hj
end Go.Proofs.Ytmcneelapghfcaa
