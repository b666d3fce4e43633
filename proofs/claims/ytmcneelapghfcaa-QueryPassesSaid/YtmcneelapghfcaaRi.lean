/-
  Decode of a query: the contract, of the program. Condition: the text has at most 1000000000 bytes.
-/
import Derived.Test.YtmcneelapghfcaaRh
namespace Go.Proofs.Ytmcneelapghfcaa
open Go.RowKit Pd Qu

set_option maxRecDepth 100000 in
set_option maxHeartbeats 12800000 in
theorem qdec_any (b : ByteArray) (hs9 : b.size ≤ 1000000000) (w : World) : Calls Try.prog 21 #[.string b] w (DecT b w) := by
  obtain ⟨⟨n1, j1, e1⟩, hT1⟩ : ∃ t, Cd.top 0 (Cd.uintR b.data.toList) 0 0 = t := ⟨_, rfl⟩
  have m1 := hid (fun g W h hj => mUint g b 0 0 W h hj hs9)
  rw [hT1] at m1
  obtain ⟨⟨tb, j2, e2⟩, hT2⟩ : ∃ t, Cd.top ⟨#[]⟩ (Cd.textR b 1000000) j1 e1 = t := ⟨_, rfl⟩
  have m2 := hid (fun g W h hj => mText g b j1 e1 W h hj hs9)
  rw [hT2] at m2
  obtain ⟨⟨key, j3, e3⟩, hT3⟩ : ∃ t, Cd.top [] (Cd.rowR b) j2 e2 = t := ⟨_, rfl⟩
  have m3 := hid (fun g W h hj => mRow g b j2 e2 W h hj hs9)
  rw [hT3] at m3
  obtain ⟨⟨t, j4, e4⟩, hT4⟩ : ∃ t, Cd.top 0 (Cd.intR b.data.toList) j3 e3 = t := ⟨_, rfl⟩
  have m4 := hid (fun g W h hj => mInt g b j3 e3 W h hj hs9)
  rw [hT4] at m4
  obtain ⟨⟨v, j5, e5⟩, hT5⟩ : ∃ t, Cd.top 0 (Cd.intR b.data.toList) j4 e4 = t := ⟨_, rfl⟩
  have m5 := hid (fun g W h hj => mInt g b j4 e4 W h hj hs9)
  rw [hT5] at m5
  obtain ⟨⟨fr, j6, e6⟩, hT6⟩ : ∃ t, Cd.top 0 (Cd.intR b.data.toList) j5 e5 = t := ⟨_, rfl⟩
  have m6 := hid (fun g W h hj => mInt g b j5 e5 W h hj hs9)
  rw [hT6] at m6
  obtain ⟨⟨to, j7, e7⟩, hT7⟩ : ∃ t, Cd.top 0 (Cd.intR b.data.toList) j6 e6 = t := ⟨_, rfl⟩
  have m7 := hid (fun g W h hj => mInt g b j6 e6 W h hj hs9)
  rw [hT7] at m7
  obtain ⟨⟨n8, j8, e8⟩, hT8⟩ : ∃ t, Cd.top 0 (Cd.uintR b.data.toList) j7 e7 = t := ⟨_, rfl⟩
  have m8 := hid (fun g W h hj => many_any g b j7 e7 W h hj hs9)
  rw [hT8] at m8
  have hN8 := clamp_range n8
  obtain ⟨nw, hN⟩ : ∃ nw : Nat, clamp n8 = (nw : Int) := ⟨(clamp n8).toNat, by omega⟩
  obtain ⟨kd, hkd⟩ : ∃ kd : Int, IntKind.i64.wrap (n1 : Int) = kd := ⟨_, rfl⟩
  have HKD : Hid (I64 kd) := by
    show I64 kd
    rw [← hkd, IntKind.wrap_i64]
    constructor <;> omega
  have HD0 : Hid (decR (fun n => decide (0 < n)) b = afterWh (fun n => decide (0 < n)) b kd tb key t v fr to (loopG (nodeR b) nw [] j8 e8)) := by
    show _ = _
    unfold decR
    simp only [hT1, hT2, hT3, hT4, hT5, hT6, hT7, hT8, hkd, hN, Int.toNat_natCast]
  have HTB := hid (ttext hT2)
  have HKY := hid (trow hT3)
  have HIt := hid (tint hT4)
  have HIv := hid (tint hT5)
  have HIfr := hid (tint hT6)
  have HIto := hid (tint hT7)
  have hn8 : n8 < 18446744073709551616 := tuint hT8
  clear hT1 hT2 hT3 hT4 hT5 hT6 hT7 hT8
  rw [hN] at hN8
  have HNN := hid hN
  clear hN
  go_enter Try.func21, Try.ntmps21
  go_wp2_with fail
  have hb0 := hba w (.cells #[.int .i64 0, .string ⟨#[]⟩, .slice none 0 0, .int .i64 0, .int .i64 0, .int .i64 0, .int .i64 0, .slice none 0 0, .slice none 0 0, .int .i64 0, .bool false] 28)
  have hz0 : Var (w.alloc (.cells #[.int .i64 0, .string ⟨#[]⟩, .slice none 0 0, .int .i64 0, .int .i64 0, .int .i64 0, .int .i64 0, .slice none 0 0, .slice none 0 0, .int .i64 0, .bool false] 28)) w.heap.size zq 28 := heap_alloc_new w _
  obtain ⟨w1, hw1⟩ : ∃ w1, w.alloc (.cells #[.int .i64 0, .string ⟨#[]⟩, .slice none 0 0, .int .i64 0, .int .i64 0, .int .i64 0, .int .i64 0, .slice none 0 0, .slice none 0 0, .int .i64 0, .bool false] 28) = w1 := ⟨_, rfl⟩
  rw [hw1] at hb0 hz0 ⊢
  clear hw1
  refine (new_any b _).mono ?_; rintro e w2 ⟨rfl, hw2⟩
  have R0 := new_rdr b w1
  have hb1 := hba w1 (.cells #[.string b, .int .i64 0, .int .i64 0] 117)
  rw [← hw2] at R0 hb1
  have hz1 := hid (hz0.keep hb1)
  have hl1 := hid (hnext hb0 hb1)
  have hzg : w.heap.size < w1.heap.size := hz0.lt
  clear hw2 hb1 hz0 hb0
  generalize w1.heap.size = g at R0 hzg ⊢
  go_wp2_with fail
  refine (m1.out g _ R0 (Nat.zero_le _)).mono ?_; rintro e W1 ⟨rfl, u1, R1, hj1⟩
  simp only at R1 hj1
  dsimp only
  have U1 := hid u1
  have RR1 := hid R1
  clear u1 R1 R0 m1
  go_wp2_with fail
  refine (m2.out g _ RR1.out hj1).mono ?_; rintro e W2 ⟨rfl, u2, R2, hj2⟩
  simp only at R2 hj2
  dsimp only
  have U2 := hid (U1.out.trans u2)
  have RR2 := hid R2
  clear u2 R2 RR1 U1 m2
  go_wp2_with fail
  refine (m3.out g _ RR2.out hj2).mono ?_; rintro e W3 ⟨⟨vk, rfl, ownk⟩, u3, R3, hj3⟩
  simp only at R3 hj3 ownk
  have hgw : g < W2.heap.size := (Array.getElem?_eq_some_iff.1 RR2.out).1
  have hBC := u3.size
  have U3 := U2.out.trans u3
  have hz3 := hz1.out.upd U3 (by omega)
  have hl3 := Upd.below hl1.out U3 (Nat.le_of_lt hzg) hl1.out.size
  clear u3 U3 U2 RR2 m3 hz1 hl1
  obtain ⟨ka, kc, rfl⟩ := OwnV.slc ownk
  have HKO := hid ownk
  have rt1 : RQ 117 28 w W3 g W2.heap.size W3.heap.size b #[.int .i64 kd, .string tb, (.slice ka key.length kc), .int .i64 0, .int .i64 0, .int .i64 0, .int .i64 0, (.slice none 0 0), (.slice none 0 0), .int .i64 0, .bool false] j3 e3 (W3.alloc (.cells #[.int .i64 kd, .string tb, (.slice ka key.length kc), .int .i64 0, .int .i64 0, .int .i64 0, .int .i64 0, (.slice none 0 0), (.slice none 0 0), .int .i64 0, .bool false] 28)) := by
    have hb2 := hba W3 (.cells #[.int .i64 kd, .string tb, (.slice ka key.length kc), .int .i64 0, .int .i64 0, .int .i64 0, .int .i64 0, (.slice none 0 0), (.slice none 0 0), .int .i64 0, .bool false] 28)
    exact ⟨hnext hl3 hb2, keepBlock R3 hb2, heap_alloc_new W3 _, hz3.keep hb2, fun k _ hk => Below.heap_alloc W3 _ k hk, hzg, hgw, hBC⟩
  have HRT := hid rt1
  clear hz3 hl3 R3 rt1 ownk hgw hBC
  obtain ⟨B, hB⟩ : ∃ B, W2.heap.size = B := ⟨_, rfl⟩
  obtain ⟨C, hC⟩ : ∃ C, W3.heap.size = C := ⟨_, rfl⟩
  rw [hB] at HKO HRT
  rw [hC] at HRT
  have HCC := hid hC
  clear hB
  go_wp2_with fail
  (try rw [hC])
  generalize W3.alloc (.cells #[.int .i64 kd, .string tb, (.slice ka key.length kc), .int .i64 0, .int .i64 0, .int .i64 0, .int .i64 0, (.slice none 0 0), (.slice none 0 0), .int .i64 0, .bool false] 28) = w3 at HRT ⊢
  clear hC
  go_loopw [29] (fun q wr => ∃ (k : Nat) (cs : Array Value) (j : Nat) (e : Int), q = .int .i64 (k : Int) ∧ Hid ((k = 0 ∧ cs = #[.int .i64 kd, .string tb, (.slice ka key.length kc), .int .i64 0, .int .i64 0, .int .i64 0, .int .i64 0, (.slice none 0 0), (.slice none 0 0), .int .i64 0, .bool false] ∧ j = j3 ∧ e = e3) ∨ (k = 1 ∧ cs = #[.int .i64 kd, .string tb, (.slice ka key.length kc), .int .i64 t, .int .i64 0, .int .i64 0, .int .i64 0, (.slice none 0 0), (.slice none 0 0), .int .i64 0, .bool false] ∧ j = j4 ∧ e = e4) ∨ (k = 2 ∧ cs = #[.int .i64 kd, .string tb, (.slice ka key.length kc), .int .i64 t, .int .i64 v, .int .i64 0, .int .i64 0, (.slice none 0 0), (.slice none 0 0), .int .i64 0, .bool false] ∧ j = j5 ∧ e = e5) ∨ (k = 3 ∧ cs = #[.int .i64 kd, .string tb, (.slice ka key.length kc), .int .i64 t, .int .i64 v, .int .i64 fr, .int .i64 0, (.slice none 0 0), (.slice none 0 0), .int .i64 0, .bool false] ∧ j = j6 ∧ e = e6) ∨ (k = 4 ∧ cs = #[.int .i64 kd, .string tb, (.slice ka key.length kc), .int .i64 t, .int .i64 v, .int .i64 fr, .int .i64 to, (.slice none 0 0), (.slice none 0 0), .int .i64 0, .bool false] ∧ j = j7 ∧ e = e7)) ∧ Hid (RQ 117 28 w W3 g B C b cs j e wr) ∧ j ≤ b.size) (fun q _ => 4 - (intOf q).toNat)
  case atStart => exact ⟨0, _, _, _, rfl, .inl ⟨rfl, rfl, rfl, rfl⟩, HRT, hj3⟩
  case round =>
    obtain ⟨k, cs, j, e, rfl, hway, HR, hj⟩ := hrel
    obtain ⟨w4, rfl⟩ : ∃ w4 : World, w4 = wr := ⟨_, rfl⟩
    clear HRT hj3
    rcases hway.out with ⟨rfl, rfl, rfl, rfl⟩ | ⟨rfl, rfl, rfl, rfl⟩ | ⟨rfl, rfl, rfl, rfl⟩ | ⟨rfl, rfl, rfl, rfl⟩ | ⟨rfl, rfl, rfl, rfl⟩
    · clear hway
      have hix := fun W => idxp_0 (.pointer (some ⟨C, 3, none⟩)) (.pointer (some ⟨C, 4, none⟩)) (.pointer (some ⟨C, 5, none⟩)) (.pointer (some ⟨C, 6, none⟩)) W
      go_wp2_with fail
      refine (m4.out g _ HR.out.rd hj).mono ?_; rintro e W4 ⟨rfl, u4, R4, hj4⟩
      simp only at R4 hj4
      dsimp only
      have HR4 := hid (HR.out.call u4 R4)
      clear u4 R4 HR
      have x1 : W4.cell? ⟨C, 3, none⟩ = some (.int .i64 0) := HR4.out.blk.cell 3
      have f1 : W4.frozen? ⟨C, 3, none⟩ = false := HR4.out.blk.free 3
      have HR5 := hid (HR4.out.set 3 (.int .i64 t))
      clear HR4
      go_wp2_with fail
      go_roundw
      case rel => exact ⟨1, _, _, _, by first | rfl | go_num, .inr (.inl ⟨rfl, rfl, rfl, rfl⟩), HR5, hj4⟩
      case measure => simp [intOf]
    · clear hway
      have hix := fun W => idxp_1 (.pointer (some ⟨C, 3, none⟩)) (.pointer (some ⟨C, 4, none⟩)) (.pointer (some ⟨C, 5, none⟩)) (.pointer (some ⟨C, 6, none⟩)) W
      go_wp2_with fail
      refine (m5.out g _ HR.out.rd hj).mono ?_; rintro e W4 ⟨rfl, u4, R4, hj4⟩
      simp only at R4 hj4
      dsimp only
      have HR4 := hid (HR.out.call u4 R4)
      clear u4 R4 HR
      have x1 : W4.cell? ⟨C, 4, none⟩ = some (.int .i64 0) := HR4.out.blk.cell 4
      have f1 : W4.frozen? ⟨C, 4, none⟩ = false := HR4.out.blk.free 4
      have HR5 := hid (HR4.out.set 4 (.int .i64 v))
      clear HR4
      go_wp2_with fail
      go_roundw
      case rel => exact ⟨2, _, _, _, by first | rfl | go_num, .inr (.inr (.inl ⟨rfl, rfl, rfl, rfl⟩)), HR5, hj4⟩
      case measure => simp [intOf]
    · clear hway
      have hix := fun W => idxp_2 (.pointer (some ⟨C, 3, none⟩)) (.pointer (some ⟨C, 4, none⟩)) (.pointer (some ⟨C, 5, none⟩)) (.pointer (some ⟨C, 6, none⟩)) W
      go_wp2_with fail
      refine (m6.out g _ HR.out.rd hj).mono ?_; rintro e W4 ⟨rfl, u4, R4, hj4⟩
      simp only at R4 hj4
      dsimp only
      have HR4 := hid (HR.out.call u4 R4)
      clear u4 R4 HR
      have x1 : W4.cell? ⟨C, 5, none⟩ = some (.int .i64 0) := HR4.out.blk.cell 5
      have f1 : W4.frozen? ⟨C, 5, none⟩ = false := HR4.out.blk.free 5
      have HR5 := hid (HR4.out.set 5 (.int .i64 fr))
      clear HR4
      go_wp2_with fail
      go_roundw
      case rel => exact ⟨3, _, _, _, by first | rfl | go_num, .inr (.inr (.inr (.inl ⟨rfl, rfl, rfl, rfl⟩))), HR5, hj4⟩
      case measure => simp [intOf]
    · clear hway
      have hix := fun W => idxp_3 (.pointer (some ⟨C, 3, none⟩)) (.pointer (some ⟨C, 4, none⟩)) (.pointer (some ⟨C, 5, none⟩)) (.pointer (some ⟨C, 6, none⟩)) W
      go_wp2_with fail
      refine (m7.out g _ HR.out.rd hj).mono ?_; rintro e W4 ⟨rfl, u4, R4, hj4⟩
      simp only at R4 hj4
      dsimp only
      have HR4 := hid (HR.out.call u4 R4)
      clear u4 R4 HR
      have x1 : W4.cell? ⟨C, 6, none⟩ = some (.int .i64 0) := HR4.out.blk.cell 6
      have f1 : W4.frozen? ⟨C, 6, none⟩ = false := HR4.out.blk.free 6
      have HR5 := hid (HR4.out.set 6 (.int .i64 to))
      clear HR4
      go_wp2_with fail
      go_roundw
      case rel => exact ⟨4, _, _, _, by first | rfl | go_num, .inr (.inr (.inr (.inr (⟨rfl, rfl, rfl, rfl⟩)))), HR5, hj4⟩
      case measure => simp [intOf]
    · clear hway
      go_wp2_with fail
      refine (m8.out g _ HR.out.rd hj).mono ?_; rintro e W8 ⟨rfl, u8, R8, hj8⟩
      simp only at R8 hj8
      dsimp only
      rw [HNN.out]
      have HR8 := hid (HR.out.call u8 R8)
      clear u8 R8 HR m4 m5 m6 m7 m8
      go_wp2_with fail
      rename_i K1 hK1
      have EXIT1 : ∀ (x1 x6 x7 x8 x9 x10 x11 x12 x13 x14 x15 x16 x17 x18 x19 x20 x21 x22 x23 x24 x25 x26 x27 x28 x29 x30 x31 x32 x33 x34 x35 x36 x37 x38 x39 x40 x41 x42 x43 x44 x45 x46 x47 x48 x49 x50 x51 x52 x53 x54 x55 x56 x57 x58 x59 x60 x61 x62 x63 x64 x65 x66 x67 x68 x69 x70 x71 x72 x73 x74 x75 x76 x77 x78 x79 x80 x81 x82 x83 x84 x85 x86 x87 x88 x89 x90 x91 x92 x93 x94 x95 x96 x97 x98 x99 x100 x101 x102 x103 : Value) (L : List N) (va : Option Addr) (vcap j : Nat) (e : Int) (wr : World), Hid (decR (fun n => decide (0 < n)) b = afterWh (fun n => decide (0 < n)) b kd tb key t v fr to (L, j, e)) → Hid (∀ x ∈ L, Nok x) → L.length ≤ 1001 → Hid (RQ 117 28 w W3 g B C b #[.int .i64 kd, .string tb, (.slice ka key.length kc), .int .i64 t, .int .i64 v, .int .i64 fr, .int .i64 to, (.slice va L.length vcap), (.slice none 0 0), .int .i64 0, .bool false] j e wr) → Hid (OwN wr (C + 1) (.slice va L.length vcap) L) → j ≤ b.size → K1 ⟨#[.string b, x1, .pointer (some ⟨w.heap.size, 0, none⟩), .int .i64 0, .pointer (some ⟨g, 0, none⟩), .pointer (some ⟨C, 0, none⟩), x6, x7, x8, x9, x10, x11, x12, x13, x14, x15, x16, x17, x18, x19, x20, x21, x22, x23, x24, x25, x26, x27, x28, x29, x30, x31, x32, x33, x34, x35, x36, x37, x38, x39, x40, x41, x42, x43, x44, x45, x46, x47, x48, x49, x50, x51, x52, x53, x54, x55, x56, x57, x58, x59, x60, x61, x62, x63, x64, x65, x66, x67, x68, x69, x70, x71, x72, x73, x74, x75, x76, x77, x78, x79, x80, x81, x82, x83, x84, x85, x86, x87, x88, x89, x90, x91, x92, x93, x94, x95, x96, x97, x98, x99, x100, x101, x102, x103], []⟩ wr := by
        intro x1 x6 x7 x8 x9 x10 x11 x12 x13 x14 x15 x16 x17 x18 x19 x20 x21 x22 x23 x24 x25 x26 x27 x28 x29 x30 x31 x32 x33 x34 x35 x36 x37 x38 x39 x40 x41 x42 x43 x44 x45 x46 x47 x48 x49 x50 x51 x52 x53 x54 x55 x56 x57 x58 x59 x60 x61 x62 x63 x64 x65 x66 x67 x68 x69 x70 x71 x72 x73 x74 x75 x76 x77 x78 x79 x80 x81 x82 x83 x84 x85 x86 x87 x88 x89 x90 x91 x92 x93 x94 x95 x96 x97 x98 x99 x100 x101 x102 x103 L va vcap j e W9 HDE HK hLz HR HO hj
        obtain ⟨⟨n10, j10, e10⟩, hT10⟩ : ∃ t, Cd.top 0 (Cd.uintR b.data.toList) j e = t := ⟨_, rfl⟩
        have m10 := hid (fun g W h hj => many_any g b j e W h hj hs9)
        rw [hT10] at m10
        have hN10 := clamp_range n10
        obtain ⟨nc, hNc⟩ : ∃ nc : Nat, clamp n10 = (nc : Int) := ⟨(clamp n10).toNat, by omega⟩
        have HDC : Hid (decR (fun n => decide (0 < n)) b = afterCols (fun n => decide (0 < n)) b kd tb key t v fr to L (loopG (intN b) nc [] j10 e10)) := by
          show _ = _
          rw [HDE.out]
          unfold afterWh
          simp only [hT10, hNc, Int.toNat_natCast]
        have hn10 : n10 < 18446744073709551616 := tuint hT10
        have HLz : Hid (L.length ≤ 1001) := hLz
        clear hT10 HDE hLz
        rw [hNc] at hN10
        have HNC := hid hNc
        clear hNc
        refine hK1 _ _ ?_
        clear hK1 K1
        go_wp2_with fail
        refine (m10.out g _ HR.out.rd hj).mono ?_; rintro e W10 ⟨rfl, u, R, hj10⟩
        simp only at R hj10
        dsimp only
        rw [HNC.out]
        have HR10 := hid (HR.out.call u R)
        have HO10 := hid (own_upd (B := C + 1) HO.out u (by have := HR.out.gB; have := HR.out.BC; omega))
        clear u R HR HO m10
        go_wp2_with fail
        rename_i K2 hK2
        have EXIT2 : ∀ (x1 x6 x7 x8 x9 x10 x11 x12 x13 x14 x15 x16 x17 x18 x19 x20 x21 x22 x23 x24 x25 x26 x27 x28 x29 x30 x31 x32 x33 x34 x35 x36 x37 x38 x39 x40 x41 x42 x43 x44 x45 x46 x47 x48 x49 x50 x51 x52 x53 x54 x55 x56 x57 x58 x59 x60 x61 x62 x63 x64 x65 x66 x67 x68 x69 x70 x71 x72 x73 x74 x75 x76 x77 x78 x79 x80 x81 x82 x83 x84 x85 x86 x87 x88 x89 x90 x91 x92 x93 x94 x95 x96 x97 x98 x99 x100 x101 x102 x103 : Value) (Y : List Int) (ua : Option Addr) (ucap jc : Nat) (ec : Int) (wr : World), Hid (decR (fun n => decide (0 < n)) b = afterCols (fun n => decide (0 < n)) b kd tb key t v fr to L (Y, jc, ec)) → Hid (∀ c ∈ Y, I64 c) → Y.length ≤ 1001 → Hid (RQ 117 28 w W3 g B C b #[.int .i64 kd, .string tb, (.slice ka key.length kc), .int .i64 t, .int .i64 v, .int .i64 fr, .int .i64 to, (.slice va L.length vcap), (.slice ua Y.length ucap), .int .i64 0, .bool false] jc ec wr) → Hid (OwN wr (C + 1) (.slice va L.length vcap) L) → Hid (OwnI wr (C + 1) (.slice ua Y.length ucap) Y) → jc ≤ b.size → K2 ⟨#[.string b, x1, .pointer (some ⟨w.heap.size, 0, none⟩), .int .i64 0, .pointer (some ⟨g, 0, none⟩), .pointer (some ⟨C, 0, none⟩), x6, x7, x8, x9, x10, x11, x12, x13, x14, x15, x16, x17, x18, x19, x20, x21, x22, x23, x24, x25, x26, x27, x28, x29, x30, x31, x32, x33, x34, x35, x36, x37, x38, x39, x40, x41, x42, x43, x44, x45, x46, x47, x48, x49, x50, x51, x52, x53, x54, x55, x56, x57, x58, x59, x60, x61, x62, x63, x64, x65, x66, x67, x68, x69, x70, x71, x72, x73, x74, x75, x76, x77, x78, x79, x80, x81, x82, x83, x84, x85, x86, x87, x88, x89, x90, x91, x92, x93, x94, x95, x96, x97, x98, x99, x100, x101, x102, x103], []⟩ wr := by
          intro x1 x6 x7 x8 x9 x10 x11 x12 x13 x14 x15 x16 x17 x18 x19 x20 x21 x22 x23 x24 x25 x26 x27 x28 x29 x30 x31 x32 x33 x34 x35 x36 x37 x38 x39 x40 x41 x42 x43 x44 x45 x46 x47 x48 x49 x50 x51 x52 x53 x54 x55 x56 x57 x58 x59 x60 x61 x62 x63 x64 x65 x66 x67 x68 x69 x70 x71 x72 x73 x74 x75 x76 x77 x78 x79 x80 x81 x82 x83 x84 x85 x86 x87 x88 x89 x90 x91 x92 x93 x94 x95 x96 x97 x98 x99 x100 x101 x102 x103 Y ua ucap jc ec W11 HDE HKC hYz HRc HOW HOI hjc
          obtain ⟨⟨lim, j12, e12⟩, hT12⟩ : ∃ t, Cd.top 0 (Cd.intR b.data.toList) jc ec = t := ⟨_, rfl⟩
          obtain ⟨⟨n13, j13, e13⟩, hT13⟩ : ∃ t, Cd.top 0 (Cd.uintR b.data.toList) j12 e12 = t := ⟨_, rfl⟩
          have m12 := hid (fun g W h hj => mInt g b jc ec W h hj hs9)
          rw [hT12] at m12
          have m13 := hid (fun g W h hj => mUint g b j12 e12 W h hj hs9)
          rw [hT13] at m13
          obtain ⟨z13, hz13⟩ : ∃ z : Int, (n13 : Int) = z := ⟨_, rfl⟩
          obtain ⟨dz, hdz⟩ : ∃ d : Bool, (fun n => decide (0 < n)) n13 = d := ⟨_, rfl⟩
          have hd1 : decide (0 < z13) = dz := by rw [← hz13, ← hdz]; simp
          have HDF : Hid (decR (fun n => decide (0 < n)) b = (⟨kd, tb, key, t, v, fr, to, L, Y, lim, dz⟩, e13)) := by
            show _ = _
            rw [HDE.out]
            unfold afterCols
            simp only [hT12, hT13, hdz]
          have HSM : Hid (Small ⟨kd, tb, key, t, v, fr, to, L, Y, lim, dz⟩) := by
            have h1 := HTB.out
            have h2 := HKY.out.2
            have h3 := HLz.out
            have h4 : Y.length ≤ 1001 := hYz
            exact ⟨⟨HKD.out, Nat.le_trans h1 (by decide), HKY.out.1, HIt.out, HIv.out, HIfr.out, HIto.out, HK.out, HKC.out, tint hT12, Nat.le_trans h2 (by decide), Nat.le_trans h3 (by decide), Nat.le_trans h4 (by decide)⟩, h1, h2, h3, h4⟩
          have HZZ := hid hz13
          clear hT12 hT13 hdz HDE hz13 HTB HKY HKD HIt HIv HIfr HIto HK HKC hYz
          have hgC : g < C + 1 := by have := HRc.out.gB; have := HRc.out.BC; omega
          refine hK2 _ _ ?_
          clear hK2 K2
          go_wp2_with fail
          refine (m12.out g _ HRc.out.rd hjc).mono ?_; rintro e W12 ⟨rfl, u, R, hj12⟩
          simp only at R hj12
          dsimp only
          have HR12 := hid (HRc.out.call u R)
          have HOW12 := hid (own_upd HOW.out u hgC)
          have HOI12 := hid (own_upd HOI.out u hgC)
          clear u R HRc HOW HOI m12
          have x9 : W12.cell? ⟨C, 9, none⟩ = some (.int .i64 0) := HR12.out.blk.cell 9
          have f9 : W12.frozen? ⟨C, 9, none⟩ = false := HR12.out.blk.free 9
          have HR13 := hid (HR12.out.set 9 (.int .i64 lim))
          have HOW13 := hid (own_setO (r := C) (o := 9) (u := .int .i64 lim) HOW12.out (Nat.lt_succ_self _))
          have HOI13 := hid (own_setO (r := C) (o := 9) (u := .int .i64 lim) HOI12.out (Nat.lt_succ_self _))
          clear HR12 HOW12 HOI12
          go_wp2_with fail
          clear x9 f9
          generalize W12.setCell ⟨C, 9, none⟩ (.int .i64 lim) = W13 at HR13 HOW13 HOI13 ⊢
          refine (m13.out g _ HR13.out.rd hj12).mono ?_; rintro e W14 ⟨rfl, u, R, hj13⟩
          simp only at R hj13
          dsimp only
          rw [HZZ.out]
          have HR14 := hid (HR13.out.call u R)
          have HOW14 := hid (own_upd HOW13.out u hgC)
          have HOI14 := hid (own_upd HOI13.out u hgC)
          clear u R HR13 HOW13 HOI13 m13 HZZ
          have x10 : W14.cell? ⟨C, 10, none⟩ = some (.bool false) := HR14.out.blk.cell 10
          have f10 : W14.frozen? ⟨C, 10, none⟩ = false := HR14.out.blk.free 10
          have HR15 := hid (HR14.out.set 10 (.bool dz))
          have HOW15 := hid (own_setO (r := C) (o := 10) (u := .bool dz) HOW14.out (Nat.lt_succ_self _))
          have HOI15 := hid (own_setO (r := C) (o := 10) (u := .bool dz) HOI14.out (Nat.lt_succ_self _))
          clear HR14 HOW14 HOI14
          have ce := hid (err_any g b j13 e13 (W14.setCell ⟨C, 10, none⟩ (.bool dz)) HR15.out.rd)
          go_wp2_with fail
          clear x10 f10
          generalize W14.setCell ⟨C, 10, none⟩ (.bool dz) = W15 at HR15 HOW15 HOI15 ce ⊢
          have x0 : W15.cell? ⟨C, 0, none⟩ = some (.int .i64 kd) := HR15.out.blk.cell 0
          have x1 : W15.cell? ⟨C, 1, none⟩ = some (.string tb) := HR15.out.blk.cell 1
          have x2 : W15.cell? ⟨C, 2, none⟩ = some (.slice ka key.length kc) := HR15.out.blk.cell 2
          have x3 : W15.cell? ⟨C, 3, none⟩ = some (.int .i64 t) := HR15.out.blk.cell 3
          have x4 : W15.cell? ⟨C, 4, none⟩ = some (.int .i64 v) := HR15.out.blk.cell 4
          have x5 : W15.cell? ⟨C, 5, none⟩ = some (.int .i64 fr) := HR15.out.blk.cell 5
          have x6 : W15.cell? ⟨C, 6, none⟩ = some (.int .i64 to) := HR15.out.blk.cell 6
          have x7 : W15.cell? ⟨C, 7, none⟩ = some (.slice va L.length vcap) := HR15.out.blk.cell 7
          have x8 : W15.cell? ⟨C, 8, none⟩ = some (.slice ua Y.length ucap) := HR15.out.blk.cell 8
          have x9 : W15.cell? ⟨C, 9, none⟩ = some (.int .i64 lim) := HR15.out.blk.cell 9
          have x10 : W15.cell? ⟨C, 10, none⟩ = some (.bool dz) := HR15.out.blk.cell 10
          by_cases hez : e13 = 0
          · subst hez
            refine ce.out.mono ?_; rintro e w5' ⟨rfl, rfl⟩
            have cb0 := qenc_any ⟨kd, tb, key, t, v, fr, to, L, Y, lim, dz⟩ (.slice ka key.length kc) (.slice va L.length vcap) (.slice ua Y.length ucap) W15 ⟨VsAt.own (HR15.out.key HCC.out HKO.out), NsAt.own HOW15.out, IsAt.own HOI15.out⟩ HSM.out.ok (Nat.le_trans HSM.out.key (by decide)) (Nat.le_trans HSM.out.wh (by decide)) (Nat.le_trans HSM.out.cols (by decide)) (Nat.le_trans HSM.out.tab (by decide))
            unfold qv at cb0
            have CB := hid cb0
            clear cb0
            go_wp2_with fail
            refine CB.out.mono ?_; rintro e w6 ⟨rfl, b6⟩
            have HR16 := hid (HR15.out.keep b6)
            have HOW16 : Hid (OwN w6 (C + 1) (.slice va L.length vcap) L) := own_below HOW15.out b6
            have HOI16 : Hid (OwnI w6 (C + 1) (.slice ua Y.length ucap) Y) := own_below HOI15.out b6
            clear b6 x0 x1 x2 x3 x4 x5 x6 x7 x8 x9 x10 HR15 HOW15 HOI15
            have x0 : w6.cell? ⟨C, 0, none⟩ = some (.int .i64 kd) := HR16.out.blk.cell 0
            have x1 : w6.cell? ⟨C, 1, none⟩ = some (.string tb) := HR16.out.blk.cell 1
            have x2 : w6.cell? ⟨C, 2, none⟩ = some (.slice ka key.length kc) := HR16.out.blk.cell 2
            have x3 : w6.cell? ⟨C, 3, none⟩ = some (.int .i64 t) := HR16.out.blk.cell 3
            have x4 : w6.cell? ⟨C, 4, none⟩ = some (.int .i64 v) := HR16.out.blk.cell 4
            have x5 : w6.cell? ⟨C, 5, none⟩ = some (.int .i64 fr) := HR16.out.blk.cell 5
            have x6 : w6.cell? ⟨C, 6, none⟩ = some (.int .i64 to) := HR16.out.blk.cell 6
            have x7 : w6.cell? ⟨C, 7, none⟩ = some (.slice va L.length vcap) := HR16.out.blk.cell 7
            have x8 : w6.cell? ⟨C, 8, none⟩ = some (.slice ua Y.length ucap) := HR16.out.blk.cell 8
            have x9 : w6.cell? ⟨C, 9, none⟩ = some (.int .i64 lim) := HR16.out.blk.cell 9
            have x10 : w6.cell? ⟨C, 10, none⟩ = some (.bool dz) := HR16.out.blk.cell 10
            by_cases heq : bstr (enc ⟨kd, tb, key, t, v, fr, to, L, Y, lim, dz⟩) = b
            · have hq : ((bstr (enc ⟨kd, tb, key, t, v, fr, to, L, Y, lim, dz⟩)).toList == b.toList) = true := by rw [bytes_beq]; exact decide_eq_true heq
              have HEQ := hid heq.symm
              have HEE := hid heq
              clear heq
              generalize hgE : bstr (enc ⟨kd, tb, key, t, v, fr, to, L, Y, lim, dz⟩) = E at hq CB
              clear hgE CB
              have z0 : w6.cell? ⟨w.heap.size, 0, none⟩ = some (.int .i64 0) := HR16.out.res.cell 0
              have z1 : w6.cell? ⟨w.heap.size, 1, none⟩ = some (.string ⟨#[]⟩) := HR16.out.res.cell 1
              have z2 : w6.cell? ⟨w.heap.size, 2, none⟩ = some (.slice none 0 0) := HR16.out.res.cell 2
              have z3 : w6.cell? ⟨w.heap.size, 3, none⟩ = some (.int .i64 0) := HR16.out.res.cell 3
              have z4 : w6.cell? ⟨w.heap.size, 4, none⟩ = some (.int .i64 0) := HR16.out.res.cell 4
              have z5 : w6.cell? ⟨w.heap.size, 5, none⟩ = some (.int .i64 0) := HR16.out.res.cell 5
              have z6 : w6.cell? ⟨w.heap.size, 6, none⟩ = some (.int .i64 0) := HR16.out.res.cell 6
              have z7 : w6.cell? ⟨w.heap.size, 7, none⟩ = some (.slice none 0 0) := HR16.out.res.cell 7
              have z8 : w6.cell? ⟨w.heap.size, 8, none⟩ = some (.slice none 0 0) := HR16.out.res.cell 8
              have z9 : w6.cell? ⟨w.heap.size, 9, none⟩ = some (.int .i64 0) := HR16.out.res.cell 9
              have z10 : w6.cell? ⟨w.heap.size, 10, none⟩ = some (.bool false) := HR16.out.res.cell 10
              have y0 : w6.frozen? ⟨w.heap.size, 0, none⟩ = false := HR16.out.res.free 0
              have y1 : w6.frozen? ⟨w.heap.size, 1, none⟩ = false := HR16.out.res.free 1
              have y2 : w6.frozen? ⟨w.heap.size, 2, none⟩ = false := HR16.out.res.free 2
              have y3 : w6.frozen? ⟨w.heap.size, 3, none⟩ = false := HR16.out.res.free 3
              have y4 : w6.frozen? ⟨w.heap.size, 4, none⟩ = false := HR16.out.res.free 4
              have y5 : w6.frozen? ⟨w.heap.size, 5, none⟩ = false := HR16.out.res.free 5
              have y6 : w6.frozen? ⟨w.heap.size, 6, none⟩ = false := HR16.out.res.free 6
              have y7 : w6.frozen? ⟨w.heap.size, 7, none⟩ = false := HR16.out.res.free 7
              have y8 : w6.frozen? ⟨w.heap.size, 8, none⟩ = false := HR16.out.res.free 8
              have y9 : w6.frozen? ⟨w.heap.size, 9, none⟩ = false := HR16.out.res.free 9
              have y10 : w6.frozen? ⟨w.heap.size, 10, none⟩ = false := HR16.out.res.free 10
              have hw0 : w.heap.size < C + 1 := by have := HR16.out.gl; have := HR16.out.gB; have := HR16.out.BC; omega
              have hw1 : w.heap.size < B := by have := HR16.out.gl; have := HR16.out.gB; omega
              have HBF := hid (((((((((((HR16.out.bel.setCell (p := ⟨w.heap.size, 0, none⟩) (Nat.le_refl _) (.int .i64 kd)).setCell (p := ⟨w.heap.size, 1, none⟩) (Nat.le_refl _) (.string tb)).setCell (p := ⟨w.heap.size, 2, none⟩) (Nat.le_refl _) (.slice ka key.length kc)).setCell (p := ⟨w.heap.size, 3, none⟩) (Nat.le_refl _) (.int .i64 t)).setCell (p := ⟨w.heap.size, 4, none⟩) (Nat.le_refl _) (.int .i64 v)).setCell (p := ⟨w.heap.size, 5, none⟩) (Nat.le_refl _) (.int .i64 fr)).setCell (p := ⟨w.heap.size, 6, none⟩) (Nat.le_refl _) (.int .i64 to)).setCell (p := ⟨w.heap.size, 7, none⟩) (Nat.le_refl _) (.slice va L.length vcap)).setCell (p := ⟨w.heap.size, 8, none⟩) (Nat.le_refl _) (.slice ua Y.length ucap)).setCell (p := ⟨w.heap.size, 9, none⟩) (Nat.le_refl _) (.int .i64 lim)).setCell (p := ⟨w.heap.size, 10, none⟩) (Nat.le_refl _) (.bool dz))
              have HKF := hid (own_setO (r := w.heap.size) (o := 10) (u := .bool dz) (own_setO (r := w.heap.size) (o := 9) (u := .int .i64 lim) (own_setO (r := w.heap.size) (o := 8) (u := .slice ua Y.length ucap) (own_setO (r := w.heap.size) (o := 7) (u := .slice va L.length vcap) (own_setO (r := w.heap.size) (o := 6) (u := .int .i64 to) (own_setO (r := w.heap.size) (o := 5) (u := .int .i64 fr) (own_setO (r := w.heap.size) (o := 4) (u := .int .i64 v) (own_setO (r := w.heap.size) (o := 3) (u := .int .i64 t) (own_setO (r := w.heap.size) (o := 2) (u := .slice ka key.length kc) (own_setO (r := w.heap.size) (o := 1) (u := .string tb) (own_setO (r := w.heap.size) (o := 0) (u := .int .i64 kd) (HR16.out.key HCC.out HKO.out) hw1) hw1) hw1) hw1) hw1) hw1) hw1) hw1) hw1) hw1) hw1)
              have HWF := hid (own_setO (r := w.heap.size) (o := 10) (u := .bool dz) (own_setO (r := w.heap.size) (o := 9) (u := .int .i64 lim) (own_setO (r := w.heap.size) (o := 8) (u := .slice ua Y.length ucap) (own_setO (r := w.heap.size) (o := 7) (u := .slice va L.length vcap) (own_setO (r := w.heap.size) (o := 6) (u := .int .i64 to) (own_setO (r := w.heap.size) (o := 5) (u := .int .i64 fr) (own_setO (r := w.heap.size) (o := 4) (u := .int .i64 v) (own_setO (r := w.heap.size) (o := 3) (u := .int .i64 t) (own_setO (r := w.heap.size) (o := 2) (u := .slice ka key.length kc) (own_setO (r := w.heap.size) (o := 1) (u := .string tb) (own_setO (r := w.heap.size) (o := 0) (u := .int .i64 kd) HOW16.out hw0) hw0) hw0) hw0) hw0) hw0) hw0) hw0) hw0) hw0) hw0)
              have HIF := hid (own_setO (r := w.heap.size) (o := 10) (u := .bool dz) (own_setO (r := w.heap.size) (o := 9) (u := .int .i64 lim) (own_setO (r := w.heap.size) (o := 8) (u := .slice ua Y.length ucap) (own_setO (r := w.heap.size) (o := 7) (u := .slice va L.length vcap) (own_setO (r := w.heap.size) (o := 6) (u := .int .i64 to) (own_setO (r := w.heap.size) (o := 5) (u := .int .i64 fr) (own_setO (r := w.heap.size) (o := 4) (u := .int .i64 v) (own_setO (r := w.heap.size) (o := 3) (u := .int .i64 t) (own_setO (r := w.heap.size) (o := 2) (u := .slice ka key.length kc) (own_setO (r := w.heap.size) (o := 1) (u := .string tb) (own_setO (r := w.heap.size) (o := 0) (u := .int .i64 kd) HOI16.out hw0) hw0) hw0) hw0) hw0) hw0) hw0) hw0) hw0) hw0) hw0)
              have HYS := hid (dec_some HDF.out rfl HEE.out)
              clear hw0 hw1
              go_wp2_with fail
              exact bodyPost_ret (v := .tuple #[.agg #[.int .i64 kd, .string tb, (.slice ka key.length kc), .int .i64 t, .int .i64 v, .int .i64 fr, .int .i64 to, (.slice va L.length vcap), (.slice ua Y.length ucap), .int .i64 lim, .bool dz], .int .i64 0]) (by simp [results, Try.results21, go_sem, z0, z1, z2, z3, z4, z5, z6, z7, z8, z9, z10]) rfl ⟨⟨kd, tb, key, t, v, fr, to, L, Y, lim, dz⟩, .slice ka key.length kc, .slice va L.length vcap, .slice ua Y.length ucap, 0, rfl, ⟨VsAt.own HKF.out, NsAt.own HWF.out, IsAt.own HIF.out⟩, HSM.out, HBF.out, .inl ⟨rfl, HYS.out, HEQ.out⟩⟩
            · have hq : ((bstr (enc ⟨kd, tb, key, t, v, fr, to, L, Y, lim, dz⟩)).toList == b.toList) = false := by rw [bytes_beq]; exact decide_eq_false heq
              have HEE := hid heq
              clear heq
              generalize hgE : bstr (enc ⟨kd, tb, key, t, v, fr, to, L, Y, lim, dz⟩) = E at hq CB
              clear hgE CB
              have z0 : w6.cell? ⟨w.heap.size, 0, none⟩ = some (.int .i64 0) := HR16.out.res.cell 0
              have z1 : w6.cell? ⟨w.heap.size, 1, none⟩ = some (.string ⟨#[]⟩) := HR16.out.res.cell 1
              have z2 : w6.cell? ⟨w.heap.size, 2, none⟩ = some (.slice none 0 0) := HR16.out.res.cell 2
              have z3 : w6.cell? ⟨w.heap.size, 3, none⟩ = some (.int .i64 0) := HR16.out.res.cell 3
              have z4 : w6.cell? ⟨w.heap.size, 4, none⟩ = some (.int .i64 0) := HR16.out.res.cell 4
              have z5 : w6.cell? ⟨w.heap.size, 5, none⟩ = some (.int .i64 0) := HR16.out.res.cell 5
              have z6 : w6.cell? ⟨w.heap.size, 6, none⟩ = some (.int .i64 0) := HR16.out.res.cell 6
              have z7 : w6.cell? ⟨w.heap.size, 7, none⟩ = some (.slice none 0 0) := HR16.out.res.cell 7
              have z8 : w6.cell? ⟨w.heap.size, 8, none⟩ = some (.slice none 0 0) := HR16.out.res.cell 8
              have z9 : w6.cell? ⟨w.heap.size, 9, none⟩ = some (.int .i64 0) := HR16.out.res.cell 9
              have z10 : w6.cell? ⟨w.heap.size, 10, none⟩ = some (.bool false) := HR16.out.res.cell 10
              have y0 : w6.frozen? ⟨w.heap.size, 0, none⟩ = false := HR16.out.res.free 0
              have y1 : w6.frozen? ⟨w.heap.size, 1, none⟩ = false := HR16.out.res.free 1
              have y2 : w6.frozen? ⟨w.heap.size, 2, none⟩ = false := HR16.out.res.free 2
              have y3 : w6.frozen? ⟨w.heap.size, 3, none⟩ = false := HR16.out.res.free 3
              have y4 : w6.frozen? ⟨w.heap.size, 4, none⟩ = false := HR16.out.res.free 4
              have y5 : w6.frozen? ⟨w.heap.size, 5, none⟩ = false := HR16.out.res.free 5
              have y6 : w6.frozen? ⟨w.heap.size, 6, none⟩ = false := HR16.out.res.free 6
              have y7 : w6.frozen? ⟨w.heap.size, 7, none⟩ = false := HR16.out.res.free 7
              have y8 : w6.frozen? ⟨w.heap.size, 8, none⟩ = false := HR16.out.res.free 8
              have y9 : w6.frozen? ⟨w.heap.size, 9, none⟩ = false := HR16.out.res.free 9
              have y10 : w6.frozen? ⟨w.heap.size, 10, none⟩ = false := HR16.out.res.free 10
              have HBF := hid (((((((((((HR16.out.bel.setCell (p := ⟨w.heap.size, 0, none⟩) (Nat.le_refl _) (.int .i64 0)).setCell (p := ⟨w.heap.size, 1, none⟩) (Nat.le_refl _) (.string ⟨#[]⟩)).setCell (p := ⟨w.heap.size, 2, none⟩) (Nat.le_refl _) (.slice none 0 0)).setCell (p := ⟨w.heap.size, 3, none⟩) (Nat.le_refl _) (.int .i64 0)).setCell (p := ⟨w.heap.size, 4, none⟩) (Nat.le_refl _) (.int .i64 0)).setCell (p := ⟨w.heap.size, 5, none⟩) (Nat.le_refl _) (.int .i64 0)).setCell (p := ⟨w.heap.size, 6, none⟩) (Nat.le_refl _) (.int .i64 0)).setCell (p := ⟨w.heap.size, 7, none⟩) (Nat.le_refl _) (.slice none 0 0)).setCell (p := ⟨w.heap.size, 8, none⟩) (Nat.le_refl _) (.slice none 0 0)).setCell (p := ⟨w.heap.size, 9, none⟩) (Nat.le_refl _) (.int .i64 0)).setCell (p := ⟨w.heap.size, 10, none⟩) (Nat.le_refl _) (.bool false))
              have HNO := hid (dec_none (D := (fun n => decide (0 < n))) rfl rfl HDF.out (.inr HEE.out))
              clear HOW16 HOI16 HDF HSM
              go_wp2_with fail
              exact bodyPost_ret (v := .tuple #[.agg #[.int .i64 0, .string ⟨#[]⟩, .slice none 0 0, .int .i64 0, .int .i64 0, .int .i64 0, .int .i64 0, .slice none 0 0, .slice none 0 0, .int .i64 0, .bool false], .int .i64 7]) (by simp [results, Try.results21, go_sem, z0, z1, z2, z3, z4, z5, z6, z7, z8, z9, z10]) rfl ⟨noQ, .slice none 0 0, .slice none 0 0, .slice none 0 0, 7, rfl, ⟨VsAt.own (World.ownsRow_nil _ 0 _ _), NsAt.own (OwN.nil _ 0), IsAt.nil _⟩, small_no, HBF.out, .inr ⟨rfl, rfl, HNO.out⟩⟩
          · have hez1 : (e13 == 0) = false := by rw [beq_eq_false_iff_ne]; exact hez
            have hez2 : (e13 != 0) = true := by rw [bne_iff_ne]; exact hez
            have HEZ := hid hez
            clear hez
            refine ce.out.mono ?_; rintro e w5' ⟨rfl, rfl⟩
            have z0 : W15.cell? ⟨w.heap.size, 0, none⟩ = some (.int .i64 0) := HR15.out.res.cell 0
            have z1 : W15.cell? ⟨w.heap.size, 1, none⟩ = some (.string ⟨#[]⟩) := HR15.out.res.cell 1
            have z2 : W15.cell? ⟨w.heap.size, 2, none⟩ = some (.slice none 0 0) := HR15.out.res.cell 2
            have z3 : W15.cell? ⟨w.heap.size, 3, none⟩ = some (.int .i64 0) := HR15.out.res.cell 3
            have z4 : W15.cell? ⟨w.heap.size, 4, none⟩ = some (.int .i64 0) := HR15.out.res.cell 4
            have z5 : W15.cell? ⟨w.heap.size, 5, none⟩ = some (.int .i64 0) := HR15.out.res.cell 5
            have z6 : W15.cell? ⟨w.heap.size, 6, none⟩ = some (.int .i64 0) := HR15.out.res.cell 6
            have z7 : W15.cell? ⟨w.heap.size, 7, none⟩ = some (.slice none 0 0) := HR15.out.res.cell 7
            have z8 : W15.cell? ⟨w.heap.size, 8, none⟩ = some (.slice none 0 0) := HR15.out.res.cell 8
            have z9 : W15.cell? ⟨w.heap.size, 9, none⟩ = some (.int .i64 0) := HR15.out.res.cell 9
            have z10 : W15.cell? ⟨w.heap.size, 10, none⟩ = some (.bool false) := HR15.out.res.cell 10
            have y0 : W15.frozen? ⟨w.heap.size, 0, none⟩ = false := HR15.out.res.free 0
            have y1 : W15.frozen? ⟨w.heap.size, 1, none⟩ = false := HR15.out.res.free 1
            have y2 : W15.frozen? ⟨w.heap.size, 2, none⟩ = false := HR15.out.res.free 2
            have y3 : W15.frozen? ⟨w.heap.size, 3, none⟩ = false := HR15.out.res.free 3
            have y4 : W15.frozen? ⟨w.heap.size, 4, none⟩ = false := HR15.out.res.free 4
            have y5 : W15.frozen? ⟨w.heap.size, 5, none⟩ = false := HR15.out.res.free 5
            have y6 : W15.frozen? ⟨w.heap.size, 6, none⟩ = false := HR15.out.res.free 6
            have y7 : W15.frozen? ⟨w.heap.size, 7, none⟩ = false := HR15.out.res.free 7
            have y8 : W15.frozen? ⟨w.heap.size, 8, none⟩ = false := HR15.out.res.free 8
            have y9 : W15.frozen? ⟨w.heap.size, 9, none⟩ = false := HR15.out.res.free 9
            have y10 : W15.frozen? ⟨w.heap.size, 10, none⟩ = false := HR15.out.res.free 10
            have HBF := hid (((((((((((HR15.out.bel.setCell (p := ⟨w.heap.size, 0, none⟩) (Nat.le_refl _) (.int .i64 0)).setCell (p := ⟨w.heap.size, 1, none⟩) (Nat.le_refl _) (.string ⟨#[]⟩)).setCell (p := ⟨w.heap.size, 2, none⟩) (Nat.le_refl _) (.slice none 0 0)).setCell (p := ⟨w.heap.size, 3, none⟩) (Nat.le_refl _) (.int .i64 0)).setCell (p := ⟨w.heap.size, 4, none⟩) (Nat.le_refl _) (.int .i64 0)).setCell (p := ⟨w.heap.size, 5, none⟩) (Nat.le_refl _) (.int .i64 0)).setCell (p := ⟨w.heap.size, 6, none⟩) (Nat.le_refl _) (.int .i64 0)).setCell (p := ⟨w.heap.size, 7, none⟩) (Nat.le_refl _) (.slice none 0 0)).setCell (p := ⟨w.heap.size, 8, none⟩) (Nat.le_refl _) (.slice none 0 0)).setCell (p := ⟨w.heap.size, 9, none⟩) (Nat.le_refl _) (.int .i64 0)).setCell (p := ⟨w.heap.size, 10, none⟩) (Nat.le_refl _) (.bool false))
            have HNO := hid (dec_none (D := (fun n => decide (0 < n))) rfl rfl HDF.out (.inl HEZ.out))
            clear HOW15 HOI15 HDF HSM
            go_wp2_with fail
            exact bodyPost_ret (v := .tuple #[.agg #[.int .i64 0, .string ⟨#[]⟩, .slice none 0 0, .int .i64 0, .int .i64 0, .int .i64 0, .int .i64 0, .slice none 0 0, .slice none 0 0, .int .i64 0, .bool false], .int .i64 7]) (by simp [results, Try.results21, go_sem, z0, z1, z2, z3, z4, z5, z6, z7, z8, z9, z10]) rfl ⟨noQ, .slice none 0 0, .slice none 0 0, .slice none 0 0, 7, rfl, ⟨VsAt.own (World.ownsRow_nil _ 0 _ _), NsAt.own (OwN.nil _ 0), IsAt.nil _⟩, small_no, HBF.out, .inr ⟨rfl, rfl, HNO.out⟩⟩
        clear hK2
        go_loopw [11] (fun q wr => ∃ (Y : List Int) (m jc : Nat) (ec : Int) (v3 : Value), q = .int .i64 (m : Int) ∧ Y.length + m ≤ 1001 ∧ Hid (decR (fun n => decide (0 < n)) b = afterCols (fun n => decide (0 < n)) b kd tb key t v fr to L (loopG (intN b) m Y jc ec)) ∧ Hid (∀ c ∈ Y, I64 c) ∧ Hid (RQ 117 28 w W3 g B C b #[.int .i64 kd, .string tb, (.slice ka key.length kc), .int .i64 t, .int .i64 v, .int .i64 fr, .int .i64 to, (.slice va L.length vcap), v3, .int .i64 0, .bool false] jc ec wr) ∧ Hid (OwN wr (C + 1) (.slice va L.length vcap) L) ∧ Hid (OwnI wr (C + 1) v3 Y) ∧ jc ≤ b.size) (fun q _ => (intOf q).toNat)
        case atStart => exact ⟨[], nc, j10, e10, _, rfl, by simp; omega, HDC, fun x hx => absurd hx List.not_mem_nil, HR10, HO10, OwnI.nil _ _, hj10⟩
        case round =>
          obtain ⟨Y, m, jc, ec, v3, rfl, hYm, HDc, HKC, HRc, HOW, HOI, hjc⟩ := hrel
          obtain ⟨w9, rfl⟩ : ∃ w9 : World, w9 = wr := ⟨_, rfl⟩
          clear HR10 HO10 HDC hj10
          have hm0 : (0 : Int) ≤ (m : Int) := by omega
          obtain ⟨ua, ucap, rfl⟩ := HOI.out.slc
          have x8 : w9.cell? ⟨C, 8, none⟩ = some (.slice ua Y.length ucap) := HRc.out.blk.cell 8
          have ce := hid (err_any g b jc ec w9 HRc.out.rd)
          cases m with
          | zero =>
            have HDE : Hid (decR (fun n => decide (0 < n)) b = afterCols (fun n => decide (0 < n)) b kd tb key t v fr to L (Y, jc, ec)) := by
              show _ = _
              rw [HDc.out, show loopG (intN b) 0 Y jc ec = (Y, jc, ec) from rfl]
            clear HDc
            have hyz : Y.length ≤ 1001 := by omega
            clear hYm
            go_wp2_with fail
            exact EXIT2 _ _ _ _ _ _ _ _ _ _ _ _ _ _ _ _ _ _ _ _ _ _ _ _ _ _ _ _ _ _ _ _ _ _ _ _ _ _ _ _ _ _ _ _ _ _ _ _ _ _ _ _ _ _ _ _ _ _ _ _ _ _ _ _ _ _ _ _ _ _ _ _ _ _ _ _ _ _ _ _ _ _ _ _ _ _ _ _ _ _ _ _ _ _ _ _ _ _ _ Y ua ucap jc ec _ HDE HKC hyz HRc HOW HOI hjc
          | succ m =>
            have hm1 : (0 : Int) < ((m + 1 : Nat) : Int) := by omega
            have hmm : IntKind.i64.wrap (((m + 1 : Nat) : Int) - 1) = (m : Int) := by rw [IntKind.wrap_i64]; omega
            obtain ⟨M, hM⟩ : ∃ M : Int, ((m + 1 : Nat) : Int) = M := ⟨_, rfl⟩
            rw [hM] at hm0 hm1 hmm ⊢
            have hM' := hid hM
            clear hM
            by_cases he0 : ec = 0
            · subst he0
              clear EXIT2
              obtain ⟨⟨cv, p1, q1⟩, hA1⟩ : ∃ t, Cd.top 0 (Cd.intR b.data.toList) jc 0 = t := ⟨_, rfl⟩
              have i1 := hid (fun g W h hj => mInt g b jc 0 W h hj hs9)
              rw [hA1] at i1
              have HDN : Hid (decR (fun n => decide (0 < n)) b = afterCols (fun n => decide (0 < n)) b kd tb key t v fr to L (loopG (intN b) m (Y ++ [cv]) p1 q1)) := by
                show _ = _
                rw [HDc.out, loopG_next]
                unfold intN
                simp only [hA1]
              have HKN : Hid (∀ c ∈ Y ++ [cv], I64 c) := fun c hc => by
                rcases List.mem_append.1 hc with hc | hc
                · exact HKC.out c hc
                · rw [List.mem_singleton.1 hc]; exact tint hA1
              clear HDc HKC hA1
              go_wp2_with fail
              refine ce.out.mono ?_; rintro e w9x ⟨rfl, rfl⟩
              go_wp2_with fail
              refine wp_region_held_drew (S := fun _ => True) (by kernel_rfl) trivial (fun hS => ?_)
              obtain ⟨w20, hw20⟩ : ∃ w20, w9.drew = w20 := ⟨_, rfl⟩
              have hd20 : Below w9.heap.size w9 w20 := hw20 ▸ (Below.refl _ _).drew
              rw [hw20]
              have RT20 := hid (HRc.out.keep hd20)
              have HOW20 := hid (own_below HOW.out hd20)
              have HOI20 := hid (own_below HOI.out hd20)
              clear hd20 hw20 HRc HOW HOI x8
              refine wT 0 hS ?_
              refine wT 2 hS ?_
              refine wpAnyH_ready (rs := [1, 3]) (by kernel_rfl) (by simp) ?_
              refine wC (fun K hK => ?_) (wC (fun K hK => ?_) AllReadyH.nil)
              · have x8 : w20.cell? ⟨C, 8, none⟩ = some (.slice ua Y.length ucap) := RT20.out.blk.cell 8
                go_simp
                refine hK.out _ _ trivial (fun _ => ?_)
                clear hK K
                (try simp only [Act.put, List.setIfInBounds_toArray, List.set_cons_zero, List.set_cons_succ])
                clear x8
                refine wpAnyH_ready (rs := [3]) (by kernel_rfl) (by simp) ?_
                refine wC (fun K hK => ?_) AllReadyH.nil
                go_simp
                refine (i1.out g _ RT20.out.rd hjc).mono ?_; rintro e w21 ⟨rfl, u21, R21, hj21⟩
                simp only at R21 hj21
                dsimp only
                have RT21 := hid (RT20.out.call u21 R21)
                have hg20 : g < C + 1 := by have := RT20.out.gB; have := RT20.out.BC; omega
                have HOW21 : Hid (OwN w21 (C + 1) (.slice va L.length vcap) L) := own_upd HOW20.out u21 hg20
                have HOI21 : Hid (OwnI w21 (C + 1) (.slice ua Y.length ucap) Y) := own_upd HOI20.out u21 hg20
                have HJ := hid hj21
                clear u21 R21 hj21 hg20 RT20 HOW20 HOI20
                go_wp2_with fail
                refine hK.out _ _ trivial (fun _ => ?_)
                clear hK K
                (try simp only [Act.put, List.setIfInBounds_toArray, List.set_cons_zero, List.set_cons_succ])
                refine wpAnyH_ready (rs := [4]) (by kernel_rfl) (by simp) ?_
                refine wC (fun K hK => ?_) AllReadyH.nil
                go_simp
                refine hK.out _ _ trivial (fun _ => ?_)
                clear hK K
                (try simp only [Act.put, List.setIfInBounds_toArray, List.set_cons_zero, List.set_cons_succ])
                refine wpAnyH_ready (rs := [5]) (by kernel_rfl) (by simp) ?_
                refine wC (fun K hK => ?_) AllReadyH.nil
                refine append_int_wp w21 _ _ rfl (C + 1) (.slice ua Y.length ucap) Y (by go_simp) HOI21.out cv w21.heap.size rfl (by go_simp) (by omega) RT21.out.lt ?_
                intro v7 w7 own2 gr2
                have HOI7 := hid own2
                have HOW7 := hid (OwN.other HOW21.out HOI21.out gr2)
                have RT7 := hid (RT21.out.grow gr2 (fun q e => by have := (World.ownsRow.lt HOI21.out q e).1; omega))
                obtain ⟨ua2, ucap2, hv7⟩ := own2.slc
                rw [List.length_append, List.length_singleton] at hv7
                subst hv7
                clear own2 gr2 RT21 HOW21 HOI21
                have x8 : w7.cell? ⟨C, 8, none⟩ = some (.slice ua Y.length ucap) := RT7.out.blk.cell 8
                have f8 : w7.frozen? ⟨C, 8, none⟩ = false := RT7.out.blk.free 8
                refine hK.out _ _ trivial (fun _ => ?_)
                clear hK K
                (try simp only [Act.put, List.setIfInBounds_toArray, List.set_cons_zero, List.set_cons_succ])
                refine wT 6 hS ?_
                refine wpAnyH_ready (rs := [7]) (by kernel_rfl) (by simp) ?_
                refine wC (fun K hK => ?_) AllReadyH.nil
                go_simp
                refine hK.out _ _ trivial (fun _ => ?_)
                clear hK K
                (try simp only [Act.put, List.setIfInBounds_toArray, List.set_cons_zero, List.set_cons_succ])
                refine wpAnyH_done (by kernel_rfl) ?_ _
                have RT8 : Hid (RQ 117 28 w W3 g B C b #[.int .i64 kd, .string tb, (.slice ka key.length kc), .int .i64 t, .int .i64 v, .int .i64 fr, .int .i64 to, (.slice va L.length vcap), (.slice ua2 (Y.length + 1) ucap2), .int .i64 0, .bool false] p1 q1 (w7.setCell ⟨C, 8, none⟩ (.slice ua2 (Y.length + 1) ucap2))) := RT7.out.set 8 _
                have HOW8 := hid (own_setO (r := C) (o := 8) (u := (.slice ua2 (Y.length + 1) ucap2)) HOW7.out (Nat.lt_succ_self _))
                have HOI8 := hid (own_setO (r := C) (o := 8) (u := (.slice ua2 (Y.length + 1) ucap2)) HOI7.out (Nat.lt_succ_self _))
                clear RT7 HOW7 HOI7
                go_wp2_with fail
                go_roundw
                case rel => exact ⟨Y ++ [cv], m, p1, q1, _, by first | rfl | go_num, by rw [List.length_append, List.length_singleton]; have := hM'.out; omega, HDN, HKN, RT8, HOW8, HOI8, HJ.out⟩
                case measure => (have := hM'.out; simp [intOf] <;> omega)
              · go_simp
                refine (i1.out g _ RT20.out.rd hjc).mono ?_; rintro e w21 ⟨rfl, u21, R21, hj21⟩
                simp only at R21 hj21
                dsimp only
                have RT21 := hid (RT20.out.call u21 R21)
                have hg20 : g < C + 1 := by have := RT20.out.gB; have := RT20.out.BC; omega
                have HOW21 : Hid (OwN w21 (C + 1) (.slice va L.length vcap) L) := own_upd HOW20.out u21 hg20
                have HOI21 : Hid (OwnI w21 (C + 1) (.slice ua Y.length ucap) Y) := own_upd HOI20.out u21 hg20
                have HJ := hid hj21
                clear u21 R21 hj21 hg20 RT20 HOW20 HOI20
                go_wp2_with fail
                refine hK.out _ _ trivial (fun _ => ?_)
                clear hK K
                (try simp only [Act.put, List.setIfInBounds_toArray, List.set_cons_zero, List.set_cons_succ])
                refine wpAnyH_ready (rs := [1, 4]) (by kernel_rfl) (by simp) ?_
                refine wC (fun K hK => ?_) (wC (fun K hK => ?_) AllReadyH.nil)
                · have x8 : w21.cell? ⟨C, 8, none⟩ = some (.slice ua Y.length ucap) := RT21.out.blk.cell 8
                  go_simp
                  refine hK.out _ _ trivial (fun _ => ?_)
                  clear hK K
                  (try simp only [Act.put, List.setIfInBounds_toArray, List.set_cons_zero, List.set_cons_succ])
                  clear x8
                  refine wpAnyH_ready (rs := [4]) (by kernel_rfl) (by simp) ?_
                  refine wC (fun K hK => ?_) AllReadyH.nil
                  go_simp
                  refine hK.out _ _ trivial (fun _ => ?_)
                  clear hK K
                  (try simp only [Act.put, List.setIfInBounds_toArray, List.set_cons_zero, List.set_cons_succ])
                  refine wpAnyH_ready (rs := [5]) (by kernel_rfl) (by simp) ?_
                  refine wC (fun K hK => ?_) AllReadyH.nil
                  refine append_int_wp w21 _ _ rfl (C + 1) (.slice ua Y.length ucap) Y (by go_simp) HOI21.out cv w21.heap.size rfl (by go_simp) (by omega) RT21.out.lt ?_
                  intro v7 w7 own2 gr2
                  have HOI7 := hid own2
                  have HOW7 := hid (OwN.other HOW21.out HOI21.out gr2)
                  have RT7 := hid (RT21.out.grow gr2 (fun q e => by have := (World.ownsRow.lt HOI21.out q e).1; omega))
                  obtain ⟨ua2, ucap2, hv7⟩ := own2.slc
                  rw [List.length_append, List.length_singleton] at hv7
                  subst hv7
                  clear own2 gr2 RT21 HOW21 HOI21
                  have x8 : w7.cell? ⟨C, 8, none⟩ = some (.slice ua Y.length ucap) := RT7.out.blk.cell 8
                  have f8 : w7.frozen? ⟨C, 8, none⟩ = false := RT7.out.blk.free 8
                  refine hK.out _ _ trivial (fun _ => ?_)
                  clear hK K
                  (try simp only [Act.put, List.setIfInBounds_toArray, List.set_cons_zero, List.set_cons_succ])
                  refine wT 6 hS ?_
                  refine wpAnyH_ready (rs := [7]) (by kernel_rfl) (by simp) ?_
                  refine wC (fun K hK => ?_) AllReadyH.nil
                  go_simp
                  refine hK.out _ _ trivial (fun _ => ?_)
                  clear hK K
                  (try simp only [Act.put, List.setIfInBounds_toArray, List.set_cons_zero, List.set_cons_succ])
                  refine wpAnyH_done (by kernel_rfl) ?_ _
                  have RT8 : Hid (RQ 117 28 w W3 g B C b #[.int .i64 kd, .string tb, (.slice ka key.length kc), .int .i64 t, .int .i64 v, .int .i64 fr, .int .i64 to, (.slice va L.length vcap), (.slice ua2 (Y.length + 1) ucap2), .int .i64 0, .bool false] p1 q1 (w7.setCell ⟨C, 8, none⟩ (.slice ua2 (Y.length + 1) ucap2))) := RT7.out.set 8 _
                  have HOW8 := hid (own_setO (r := C) (o := 8) (u := (.slice ua2 (Y.length + 1) ucap2)) HOW7.out (Nat.lt_succ_self _))
                  have HOI8 := hid (own_setO (r := C) (o := 8) (u := (.slice ua2 (Y.length + 1) ucap2)) HOI7.out (Nat.lt_succ_self _))
                  clear RT7 HOW7 HOI7
                  go_wp2_with fail
                  go_roundw
                  case rel => exact ⟨Y ++ [cv], m, p1, q1, _, by first | rfl | go_num, by rw [List.length_append, List.length_singleton]; have := hM'.out; omega, HDN, HKN, RT8, HOW8, HOI8, HJ.out⟩
                  case measure => (have := hM'.out; simp [intOf] <;> omega)
                · go_simp
                  refine hK.out _ _ trivial (fun _ => ?_)
                  clear hK K
                  (try simp only [Act.put, List.setIfInBounds_toArray, List.set_cons_zero, List.set_cons_succ])
                  refine wpAnyH_ready (rs := [1]) (by kernel_rfl) (by simp) ?_
                  refine wC (fun K hK => ?_) AllReadyH.nil
                  have x8 : (w21.alloc (.cells #[.int .i64 cv] 3)).cell? ⟨C, 8, none⟩ = some (.slice ua Y.length ucap) := hkeep (RT21.out.blk.cell 8) (hba w21 _)
                  go_simp
                  refine hK.out _ _ trivial (fun _ => ?_)
                  clear hK K
                  (try simp only [Act.put, List.setIfInBounds_toArray, List.set_cons_zero, List.set_cons_succ])
                  clear x8
                  refine wpAnyH_ready (rs := [5]) (by kernel_rfl) (by simp) ?_
                  refine wC (fun K hK => ?_) AllReadyH.nil
                  refine append_int_wp w21 _ _ rfl (C + 1) (.slice ua Y.length ucap) Y (by go_simp) HOI21.out cv w21.heap.size rfl (by go_simp) (by omega) RT21.out.lt ?_
                  intro v7 w7 own2 gr2
                  have HOI7 := hid own2
                  have HOW7 := hid (OwN.other HOW21.out HOI21.out gr2)
                  have RT7 := hid (RT21.out.grow gr2 (fun q e => by have := (World.ownsRow.lt HOI21.out q e).1; omega))
                  obtain ⟨ua2, ucap2, hv7⟩ := own2.slc
                  rw [List.length_append, List.length_singleton] at hv7
                  subst hv7
                  clear own2 gr2 RT21 HOW21 HOI21
                  have x8 : w7.cell? ⟨C, 8, none⟩ = some (.slice ua Y.length ucap) := RT7.out.blk.cell 8
                  have f8 : w7.frozen? ⟨C, 8, none⟩ = false := RT7.out.blk.free 8
                  refine hK.out _ _ trivial (fun _ => ?_)
                  clear hK K
                  (try simp only [Act.put, List.setIfInBounds_toArray, List.set_cons_zero, List.set_cons_succ])
                  refine wT 6 hS ?_
                  refine wpAnyH_ready (rs := [7]) (by kernel_rfl) (by simp) ?_
                  refine wC (fun K hK => ?_) AllReadyH.nil
                  go_simp
                  refine hK.out _ _ trivial (fun _ => ?_)
                  clear hK K
                  (try simp only [Act.put, List.setIfInBounds_toArray, List.set_cons_zero, List.set_cons_succ])
                  refine wpAnyH_done (by kernel_rfl) ?_ _
                  have RT8 : Hid (RQ 117 28 w W3 g B C b #[.int .i64 kd, .string tb, (.slice ka key.length kc), .int .i64 t, .int .i64 v, .int .i64 fr, .int .i64 to, (.slice va L.length vcap), (.slice ua2 (Y.length + 1) ucap2), .int .i64 0, .bool false] p1 q1 (w7.setCell ⟨C, 8, none⟩ (.slice ua2 (Y.length + 1) ucap2))) := RT7.out.set 8 _
                  have HOW8 := hid (own_setO (r := C) (o := 8) (u := (.slice ua2 (Y.length + 1) ucap2)) HOW7.out (Nat.lt_succ_self _))
                  have HOI8 := hid (own_setO (r := C) (o := 8) (u := (.slice ua2 (Y.length + 1) ucap2)) HOI7.out (Nat.lt_succ_self _))
                  clear RT7 HOW7 HOI7
                  go_wp2_with fail
                  go_roundw
                  case rel => exact ⟨Y ++ [cv], m, p1, q1, _, by first | rfl | go_num, by rw [List.length_append, List.length_singleton]; have := hM'.out; omega, HDN, HKN, RT8, HOW8, HOI8, HJ.out⟩
                  case measure => (have := hM'.out; simp [intOf] <;> omega)
            · have he1 : (ec == 0) = false := by rw [beq_eq_false_iff_ne]; exact he0
              have HDE : Hid (decR (fun n => decide (0 < n)) b = afterCols (fun n => decide (0 < n)) b kd tb key t v fr to L (Y, jc, ec)) := by
                show _ = _
                rw [HDc.out, loopG_stop he0]
              clear HDc
              clear hM' hmm hm0
              have hyz : Y.length ≤ 1001 := by omega
              clear hYm
              go_wp2_with fail
              refine ce.out.mono ?_; rintro e w5x ⟨rfl, rfl⟩
              go_wp2_with fail
              exact EXIT2 _ _ _ _ _ _ _ _ _ _ _ _ _ _ _ _ _ _ _ _ _ _ _ _ _ _ _ _ _ _ _ _ _ _ _ _ _ _ _ _ _ _ _ _ _ _ _ _ _ _ _ _ _ _ _ _ _ _ _ _ _ _ _ _ _ _ _ _ _ _ _ _ _ _ _ _ _ _ _ _ _ _ _ _ _ _ _ _ _ _ _ _ _ _ _ _ _ _ _ Y ua ucap jc ec _ HDE HKC hyz HRc HOW HOI hjc
      clear hK1
      go_loopw [8] (fun q wr => ∃ (L : List N) (m j : Nat) (e : Int) (v2 : Value), q = .int .i64 (m : Int) ∧ L.length + m ≤ 1001 ∧ Hid (decR (fun n => decide (0 < n)) b = afterWh (fun n => decide (0 < n)) b kd tb key t v fr to (loopG (nodeR b) m L j e)) ∧ Hid (∀ x ∈ L, Nok x) ∧ Hid (RQ 117 28 w W3 g B C b #[.int .i64 kd, .string tb, (.slice ka key.length kc), .int .i64 t, .int .i64 v, .int .i64 fr, .int .i64 to, v2, (.slice none 0 0), .int .i64 0, .bool false] j e wr) ∧ Hid (OwN wr (C + 1) v2 L) ∧ j ≤ b.size) (fun q _ => (intOf q).toNat)
      case atStart => exact ⟨[], nw, j8, e8, _, rfl, by simp; omega, HD0, fun x hx => absurd hx List.not_mem_nil, HR8, OwN.nil _ _, hj8⟩
      case round =>
        obtain ⟨L, m, j, e, v2, rfl, hLm, HD, HK, HR, HO, hj⟩ := hrel
        obtain ⟨w5, rfl⟩ : ∃ w5 : World, w5 = wr := ⟨_, rfl⟩
        clear HR8 HD0 hj8
        have hm0 : (0 : Int) ≤ (m : Int) := by omega
        obtain ⟨va, vcap, rfl⟩ := HO.out.slc
        have x7 : w5.cell? ⟨C, 7, none⟩ = some (.slice va L.length vcap) := HR.out.blk.cell 7
        have ce := hid (err_any g b j e w5 HR.out.rd)
        cases m with
        | zero =>
          have HDE : Hid (decR (fun n => decide (0 < n)) b = afterWh (fun n => decide (0 < n)) b kd tb key t v fr to (L, j, e)) := by
            show _ = _
            rw [HD.out, show loopG (nodeR b) 0 L j e = (L, j, e) from rfl]
          clear HD
          have hlz : L.length ≤ 1001 := by omega
          clear hLm
          go_wp2_with fail
          exact EXIT1 _ _ _ _ _ _ _ _ _ _ _ _ _ _ _ _ _ _ _ _ _ _ _ _ _ _ _ _ _ _ _ _ _ _ _ _ _ _ _ _ _ _ _ _ _ _ _ _ _ _ _ _ _ _ _ _ _ _ _ _ _ _ _ _ _ _ _ _ _ _ _ _ _ _ _ _ _ _ _ _ _ _ _ _ _ _ _ _ _ _ _ _ _ _ _ _ _ _ _ L va vcap j e _ HDE HK hlz HR HO hj
        | succ m =>
          have hm1 : (0 : Int) < ((m + 1 : Nat) : Int) := by omega
          have hmm : IntKind.i64.wrap (((m + 1 : Nat) : Int) - 1) = (m : Int) := by rw [IntKind.wrap_i64]; omega
          obtain ⟨M, hM⟩ : ∃ M : Int, ((m + 1 : Nat) : Int) = M := ⟨_, rfl⟩
          rw [hM] at hm0 hm1 hmm ⊢
          have hM' := hid hM
          clear hM
          by_cases he0 : e = 0
          · subst he0
            clear EXIT1
            obtain ⟨⟨op, p1, q1⟩, hA1⟩ : ∃ t, Cd.top 0 (Cd.intR b.data.toList) j 0 = t := ⟨_, rfl⟩
            obtain ⟨⟨col, p2, q2⟩, hA2⟩ : ∃ t, Cd.top 0 (Cd.intR b.data.toList) p1 q1 = t := ⟨_, rfl⟩
            obtain ⟨⟨l, p3, q3⟩, hA3⟩ : ∃ t, Cd.top [] (Cd.rowR b) p2 q2 = t := ⟨_, rfl⟩
            have i1 := hid (fun g W h hj => mInt g b j 0 W h hj hs9)
            rw [hA1] at i1
            have i2 := hid (fun g W h hj => mInt g b p1 q1 W h hj hs9)
            rw [hA2] at i2
            have i3 := hid (fun g W h hj => mRow g b p2 q2 W h hj hs9)
            rw [hA3] at i3
            have HD2 : Hid (decR (fun n => decide (0 < n)) b = afterWh (fun n => decide (0 < n)) b kd tb key t v fr to (loopG (nodeR b) m (L ++ [⟨op, col, l.headD nul⟩]) p3 q3)) := by
              show _ = _
              rw [HD.out, loopG_next]
              unfold nodeR
              simp only [hA1, hA2, hA3]
            have HK2 : Hid (∀ x ∈ L ++ [(⟨op, col, l.headD nul⟩ : N)], Nok x) := fun x hx => by
              rcases List.mem_append.1 hx with hx | hx
              · exact HK.out x hx
              · rw [List.mem_singleton.1 hx]
                refine ⟨tint hA1, tint hA2, ?_⟩
                cases l with
                | nil => exact nul_ok
                | cons y l => exact (trow hA3).1 y (List.mem_cons_self ..)
            have HRR : Hid (Var w5 g #[.string b, .int .i64 (j : Int), .int .i64 0] 117) := HR.out.rd
            have hgl := HR.out.lt
            have hgg : g < C := by have := HR.out.gB; have := HR.out.BC; omega
            clear HD HK hA1 hA2 hA3
            go_wp2_with fail
            refine ce.out.mono ?_; rintro e w5x ⟨rfl, rfl⟩
            go_wp2_with fail
            refine (i1.out g _ HRR.out hj).mono ?_; rintro e W5 ⟨rfl, u, R, hh1⟩
            simp only at R hh1
            dsimp only
            have RR1 := hid R
            have UU1 := hid (u)
            clear u R
            clear HRR i1
            go_wp2_with fail
            refine (i2.out g _ RR1.out hh1).mono ?_; rintro e W6 ⟨rfl, u, R, hh2⟩
            simp only at R hh2
            dsimp only
            have RR2 := hid R
            have UU2 := hid (UU1.out.trans u)
            clear u R
            clear RR1 UU1 i2
            have HX := hid (show Var (W6.alloc (.cells #[.int .i64 op, .int .i64 col, .int .i64 0, .int .i64 0, .int .u64 0, .string ⟨#[]⟩] 65)) W6.heap.size #[.int .i64 op, .int .i64 col, .int .i64 0, .int .i64 0, .int .u64 0, .string ⟨#[]⟩] 65 from heap_alloc_new W6 _)
            have hbx := hba W6 (.cells #[.int .i64 op, .int .i64 col, .int .i64 0, .int .i64 0, .int .u64 0, .string ⟨#[]⟩] 65)
            have RX : Hid (Var (W6.alloc (.cells #[.int .i64 op, .int .i64 col, .int .i64 0, .int .i64 0, .int .u64 0, .string ⟨#[]⟩] 65)) g #[.string b, .int .i64 (p2 : Int), .int .i64 q2] 117) := keepBlock RR2.out hbx
            have UX := hid (UU2.out.trans (Upd.of hbx))
            have hg6 : w5.heap.size ≤ W6.heap.size := UU2.out.size
            clear hbx UU2 RR2
            obtain ⟨X, hX⟩ : ∃ X, W6.heap.size = X := ⟨_, rfl⟩
            rw [hX] at HX hg6
            go_wp2_with fail
            (try rw [hX])
            generalize W6.alloc (.cells #[.int .i64 op, .int .i64 col, .int .i64 0, .int .i64 0, .int .u64 0, .string ⟨#[]⟩] 65) = W6x at HX RX UX ⊢
            clear hX
            refine (i3.out g _ RX.out hh2).mono ?_; rintro e W7 ⟨⟨v', rfl, ownr⟩, u, R, hh3⟩
            simp only at R hh3 ownr
            have RR3 := hid R
            have UU3 := hid (UX.out.trans u)
            have HX7 := hid (HX.out.upd u (by omega))
            obtain ⟨ra, rc, rfl⟩ := OwnV.slc ownr
            have HRW := hid (VsAt.own ownr)
            clear u R RX UX HX i3 ownr
            cases l with
            | nil =>
              clear HRW
              have HR9 := hid (HR.out.call UU3.out RR3.out)
              have HO9 := hid (own_upd (B := C + 1) HO.out UU3.out (by omega))
              clear HR HO RR3 UU3 x7
              have x7 : W7.cell? ⟨C, 7, none⟩ = some (.slice va L.length vcap) := HR9.out.blk.cell 7
              have f7 : W7.frozen? ⟨C, 7, none⟩ = false := HR9.out.blk.free 7
              obtain ⟨y0, y1, y2, y3, y4, y5⟩ : W7.cell? ⟨X, 0, none⟩ = some (.int .i64 op) ∧ W7.cell? ⟨X, 1, none⟩ = some (.int .i64 col) ∧ W7.cell? ⟨X, 2, none⟩ = some (.int .i64 0) ∧ W7.cell? ⟨X, 3, none⟩ = some (.int .i64 0) ∧ W7.cell? ⟨X, 4, none⟩ = some (.int .u64 0) ∧ W7.cell? ⟨X, 5, none⟩ = some (.string ⟨#[]⟩) := ⟨HX7.out.cell 0, HX7.out.cell 1, HX7.out.cell 2, HX7.out.cell 3, HX7.out.cell 4, HX7.out.cell 5⟩
              clear HX7
              go_wp2_with (at_builtin; go_loud (refine append_node_in W7 rfl _ _ rfl (C + 1) _ L rfl HO9.out ⟨op, col, nul⟩ _ rfl (by first | rfl | (refine (show Value.slice (some ⟨_, 0, none⟩) 1 1 = _ from ?_); simp)) (by omega) HR9.out.lt (by first | rfl | (simp; done)) ?_; intro v7 w7 own2 gr2; have HO7 := hid own2; have HR7 := hid (HR9.out.grow gr2 (fun q e => by have := (World.ownsRow.lt HO9.out q e).1; omega)); obtain ⟨vadr2, vcap2, e7⟩ := own2.slc; rw [List.length_append, List.length_singleton] at e7; subst e7; clear own2 gr2 x7 f7; have x7 : w7.cell? ⟨C, 7, none⟩ = some (.slice va L.length vcap) := HR7.out.blk.cell 7; have f7 : w7.frozen? ⟨C, 7, none⟩ = false := HR7.out.blk.free 7))
              have HR8 : Hid (RQ 117 28 w W3 g B C b #[.int .i64 kd, .string tb, (.slice ka key.length kc), .int .i64 t, .int .i64 v, .int .i64 fr, .int .i64 to, (.slice vadr2 (L.length + 1) vcap2), (.slice none 0 0), .int .i64 0, .bool false] p3 q3 (w7.setCell ⟨C, 7, none⟩ (.slice vadr2 (L.length + 1) vcap2))) := HR7.out.set 7 _
              have HO8 := hid (own_setO (r := C) (o := 7) (u := .slice vadr2 (L.length + 1) vcap2) HO7.out (Nat.lt_succ_self _))
              clear HR7 HO7 HR9 HO9 x7 f7 y0 y1 y2 y3 y4 y5
              go_wp2_with fail
              refine ⟨?_, ?measure⟩
              (repeat apply Exists.intro)
              refine ⟨?rel, rfl⟩
              case rel => exact ⟨L ++ [_], m, p3, q3, _, by first | rfl | go_num, by rw [List.length_append, List.length_singleton]; have := hM'.out; omega, HD2, HK2, HR8, HO8, hh3⟩
              case measure => (have := hM'.out; simp [intOf] <;> omega)
            | cons y ys =>
              obtain ⟨_, _, en, hnn⟩ := HRW.out
              cases en
              obtain ⟨gr, off, rfl, r0, r1, r2, r3⟩ := hnn 0 (by simp)
              clear HRW hnn
              simp only [Nat.zero_mul, Nat.add_zero, List.getElem_cons_zero] at r0 r1 r2 r3
              obtain ⟨nl, hnl⟩ : ∃ n : Nat, (y :: ys).length = n := ⟨_, rfl⟩
              have hn0 : 0 < nl := by rw [← hnl]; simp
              have hn1 : (0 : Int) < (nl : Int) := by omega
              rw [hnl] at *
              clear hnl
              obtain ⟨yk, yn, yb, ys'⟩ := y
              simp only at r0 r1 r2 r3
              have HXS := hid ((((HX7.out.set 2 (.int .i64 yk)).set 3 (.int .i64 yn)).set 4 (.int .u64 (yb : Int))).set 5 (.string ys'))
              have US := hid ((((UU3.out.setNew (r := X) (o := 2) (.int .i64 yk) hg6).setNew (r := X) (o := 3) (.int .i64 yn) hg6).setNew (r := X) (o := 4) (.int .u64 (yb : Int)) hg6).setNew (r := X) (o := 5) (.string ys') hg6)
              have RS : Hid (Var ((((W7.setCell ⟨X, 2, none⟩ (.int .i64 yk)).setCell ⟨X, 3, none⟩ (.int .i64 yn)).setCell ⟨X, 4, none⟩ (.int .u64 (yb : Int))).setCell ⟨X, 5, none⟩ (.string ys')) g #[.string b, .int .i64 (p3 : Int), .int .i64 q3] 117) := (((Var.setO RR3.out _ (by omega)).setO _ (by omega)).setO _ (by omega)).setO _ (by omega)
              have y2 : W7.cell? ⟨X, 2, none⟩ = some (.int .i64 0) := HX7.out.cell 2
              have y3 : W7.cell? ⟨X, 3, none⟩ = some (.int .i64 0) := HX7.out.cell 3
              have y4 : W7.cell? ⟨X, 4, none⟩ = some (.int .u64 0) := HX7.out.cell 4
              have y5 : W7.cell? ⟨X, 5, none⟩ = some (.string ⟨#[]⟩) := HX7.out.cell 5
              have g2 : W7.frozen? ⟨X, 2, none⟩ = false := HX7.out.free 2
              have g3 : W7.frozen? ⟨X, 3, none⟩ = false := HX7.out.free 3
              have g4 : W7.frozen? ⟨X, 4, none⟩ = false := HX7.out.free 4
              have g5 : W7.frozen? ⟨X, 5, none⟩ = false := HX7.out.free 5
              have hcx : C ≠ X := by omega
              have hxc : X ≠ C := by omega
              clear UU3 RR3 HX7
              have HR9 := hid (HR.out.call US.out RS.out)
              have HO9 := hid (own_upd (B := C + 1) HO.out US.out (by omega))
              clear HR HO RS US x7
              have x7 : ((((W7.setCell ⟨X, 2, none⟩ (.int .i64 yk)).setCell ⟨X, 3, none⟩ (.int .i64 yn)).setCell ⟨X, 4, none⟩ (.int .u64 (yb : Int))).setCell ⟨X, 5, none⟩ (.string ys')).cell? ⟨C, 7, none⟩ = some (.slice va L.length vcap) := HR9.out.blk.cell 7
              have f7 : ((((W7.setCell ⟨X, 2, none⟩ (.int .i64 yk)).setCell ⟨X, 3, none⟩ (.int .i64 yn)).setCell ⟨X, 4, none⟩ (.int .u64 (yb : Int))).setCell ⟨X, 5, none⟩ (.string ys')).frozen? ⟨C, 7, none⟩ = false := HR9.out.blk.free 7
              obtain ⟨z0, z1, z2, z3, z4, z5⟩ : ((((W7.setCell ⟨X, 2, none⟩ (.int .i64 yk)).setCell ⟨X, 3, none⟩ (.int .i64 yn)).setCell ⟨X, 4, none⟩ (.int .u64 (yb : Int))).setCell ⟨X, 5, none⟩ (.string ys')).cell? ⟨X, 0, none⟩ = some (.int .i64 op) ∧ ((((W7.setCell ⟨X, 2, none⟩ (.int .i64 yk)).setCell ⟨X, 3, none⟩ (.int .i64 yn)).setCell ⟨X, 4, none⟩ (.int .u64 (yb : Int))).setCell ⟨X, 5, none⟩ (.string ys')).cell? ⟨X, 1, none⟩ = some (.int .i64 col) ∧ ((((W7.setCell ⟨X, 2, none⟩ (.int .i64 yk)).setCell ⟨X, 3, none⟩ (.int .i64 yn)).setCell ⟨X, 4, none⟩ (.int .u64 (yb : Int))).setCell ⟨X, 5, none⟩ (.string ys')).cell? ⟨X, 2, none⟩ = some (.int .i64 yk) ∧ ((((W7.setCell ⟨X, 2, none⟩ (.int .i64 yk)).setCell ⟨X, 3, none⟩ (.int .i64 yn)).setCell ⟨X, 4, none⟩ (.int .u64 (yb : Int))).setCell ⟨X, 5, none⟩ (.string ys')).cell? ⟨X, 3, none⟩ = some (.int .i64 yn) ∧ ((((W7.setCell ⟨X, 2, none⟩ (.int .i64 yk)).setCell ⟨X, 3, none⟩ (.int .i64 yn)).setCell ⟨X, 4, none⟩ (.int .u64 (yb : Int))).setCell ⟨X, 5, none⟩ (.string ys')).cell? ⟨X, 4, none⟩ = some (.int .u64 (yb : Int)) ∧ ((((W7.setCell ⟨X, 2, none⟩ (.int .i64 yk)).setCell ⟨X, 3, none⟩ (.int .i64 yn)).setCell ⟨X, 4, none⟩ (.int .u64 (yb : Int))).setCell ⟨X, 5, none⟩ (.string ys')).cell? ⟨X, 5, none⟩ = some (.string ys') := ⟨HXS.out.cell 0, HXS.out.cell 1, HXS.out.cell 2, HXS.out.cell 3, HXS.out.cell 4, HXS.out.cell 5⟩
              clear HXS
              go_wp2_with (at_builtin; go_loud (refine append_node_in ((((W7.setCell ⟨X, 2, none⟩ (.int .i64 yk)).setCell ⟨X, 3, none⟩ (.int .i64 yn)).setCell ⟨X, 4, none⟩ (.int .u64 (yb : Int))).setCell ⟨X, 5, none⟩ (.string ys')) rfl _ _ rfl (C + 1) _ L rfl HO9.out ⟨op, col, ⟨yk, yn, yb, ys'⟩⟩ _ rfl (by first | rfl | (refine (show Value.slice (some ⟨_, 0, none⟩) 1 1 = _ from ?_); simp)) (by omega) HR9.out.lt (by first | rfl | (simp; done)) ?_; intro v7 w7 own2 gr2; have HO7 := hid own2; have HR7 := hid (HR9.out.grow gr2 (fun q e => by have := (World.ownsRow.lt HO9.out q e).1; omega)); obtain ⟨vadr2, vcap2, e7⟩ := own2.slc; rw [List.length_append, List.length_singleton] at e7; subst e7; clear own2 gr2 x7 f7; have x7 : w7.cell? ⟨C, 7, none⟩ = some (.slice va L.length vcap) := HR7.out.blk.cell 7; have f7 : w7.frozen? ⟨C, 7, none⟩ = false := HR7.out.blk.free 7))
              have HR8 : Hid (RQ 117 28 w W3 g B C b #[.int .i64 kd, .string tb, (.slice ka key.length kc), .int .i64 t, .int .i64 v, .int .i64 fr, .int .i64 to, (.slice vadr2 (L.length + 1) vcap2), (.slice none 0 0), .int .i64 0, .bool false] p3 q3 (w7.setCell ⟨C, 7, none⟩ (.slice vadr2 (L.length + 1) vcap2))) := HR7.out.set 7 _
              have HO8 := hid (own_setO (r := C) (o := 7) (u := .slice vadr2 (L.length + 1) vcap2) HO7.out (Nat.lt_succ_self _))
              clear z0 z1 z2 z3 z4 z5 g2 g3 g4 g5 hcx hxc r0 r1 r2 r3
              clear HR7 HO7 HR9 HO9 x7 f7 y2 y3 y4 y5
              go_wp2_with fail
              refine ⟨?_, ?measure⟩
              (repeat apply Exists.intro)
              refine ⟨?rel, rfl⟩
              case rel => exact ⟨L ++ [_], m, p3, q3, _, by first | rfl | go_num, by rw [List.length_append, List.length_singleton]; have := hM'.out; omega, HD2, HK2, HR8, HO8, hh3⟩
              case measure => (have := hM'.out; simp [intOf] <;> omega)
          · have he1 : (e == 0) = false := by rw [beq_eq_false_iff_ne]; exact he0
            have HDE : Hid (decR (fun n => decide (0 < n)) b = afterWh (fun n => decide (0 < n)) b kd tb key t v fr to (L, j, e)) := by
              show _ = _
              rw [HD.out, loopG_stop he0]
            clear HD
            clear hM' hmm hm0
            have hlz : L.length ≤ 1001 := by omega
            clear hLm
            go_wp2_with fail
            refine ce.out.mono ?_; rintro e w5x ⟨rfl, rfl⟩
            go_wp2_with fail
            exact EXIT1 _ _ _ _ _ _ _ _ _ _ _ _ _ _ _ _ _ _ _ _ _ _ _ _ _ _ _ _ _ _ _ _ _ _ _ _ _ _ _ _ _ _ _ _ _ _ _ _ _ _ _ _ _ _ _ _ _ _ _ _ _ _ _ _ _ _ _ _ _ _ _ _ _ _ _ _ _ _ _ _ _ _ _ _ _ _ _ _ _ _ _ _ _ _ _ _ _ _ _ L va vcap j e _ HDE HK hlz HR HO hj
end Go.Proofs.Ytmcneelapghfcaa
