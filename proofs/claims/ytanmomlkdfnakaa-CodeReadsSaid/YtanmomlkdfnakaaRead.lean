/-
  CodeReads answers true at any text and script. No condition.
-/
import Derived.Test.YtanmomlkdfnakaaRx9
import Derived.Test.YtanmomlkdfnakaaNums
namespace Go.Proofs.Ytanmomlkdfnakaa
open Go.RowKit

theorem u8_of {n : Int} (h : (Lit.int .u8 n).wf = true) : 0 ≤ n ∧ n ≤ 255 := by
  simpa [Lit.wf, IntKind.min, IntKind.max, IntKind.signed, IntKind.bits] using h
theorem left_q (g : Nat) (s : ByteArray) (i : Nat) (er : Int) (w : World) (hr : Rdr w g s i er) (hi : i ≤ s.size) (hs : s.size ≤ 1000000000) :
    Calls Try.prog 36 #[.pointer (some ⟨g, 0, none⟩)] w fun e w' => e = .returned (.int .i64 ((s.size - i : Nat) : Int)) ∧ ∃ m, w' = w.drewN m := by
  obtain ⟨c0, c1, c2, f1, f2, hg⟩ := hr.cells
  have hw1 : IntKind.i64.wrap ((s.size : Int) - (i : Int)) = ((s.size - i : Nat) : Int) := by rw [IntKind.wrap_i64]; omega
  generalize s.size - i = d at *
  go_enter Try.func36, Try.ntmps36
  go_wp2_with fail
  go_quiet (fail)
  go_wp2
  go_ret
  exact ⟨rfl, nq, rfl⟩
theorem leftX_q (g : Nat) (s : ByteArray) (i : Nat) (er : Int) (w : World) (hr : Rfx w g s i er) (hi : i ≤ s.size) (hs : s.size ≤ 1000000000) :
    Calls Try.prog 37 #[.pointer (some ⟨g, 0, none⟩)] w fun e w' => e = .returned (.int .i64 ((s.size - i : Nat) : Int)) ∧ ∃ m, w' = w.drewN m := by
  obtain ⟨c0, c1, c2, f1, f2, hg⟩ := hr.cells
  have hw1 : IntKind.i64.wrap ((s.size : Int) - (i : Int)) = ((s.size - i : Nat) : Int) := by rw [IntKind.wrap_i64]; omega
  generalize s.size - i = d at *
  go_enter Try.func37, Try.ntmps37
  go_wp2_with fail
  go_quiet (fail)
  go_wp2
  go_ret
  exact ⟨rfl, nq, rfl⟩
theorem toprow_len (s : ByteArray) (i : Nat) (er : Int) : (Cd.top [] (Cd.rowR s) i er).1.length ≤ 1000000 := by
  unfold Cd.top
  split
  · simp
  · split
    · simp
    · rename_i h
      obtain ⟨_, i2, _⟩ := Cd.row_inv h
      simp only
      omega
set_option maxRecDepth 100000 in
set_option maxHeartbeats 12800000 in
theorem codeReads_walk (s : ByteArray) (v : Value) (zs : List Int) (w : World) (hs : s.size ≤ maxLen) (hl0 : zs.length ≤ maxLen ∧ NsAt .u8 w v zs ∧ ∀ n ∈ zs, (Lit.int .u8 n).wf = true) :
    Calls Try.prog 4 #[.string s, v] w fun e w' => e = .returned (.bool true) ∧ Below w.heap.size w w' := by
  obtain ⟨hzl, ⟨adr, cap, rfl, hcell⟩, hwf⟩ := hl0
  have HC := hid hcell
  have HW := hid hwf
  clear hcell hwf
  unfold maxLen at hs hzl
  by_cases h : s.size ≤ 3000
  · have h2 : ¬ (3000 : Int) < s.size := by omega
    have hs9 : s.size ≤ 1000000000 := by omega
    go_enter Try.func4, Try.ntmps4
    go_wp2_with fail
    refine (new_any s _).mono ?_; rintro e w10 ⟨rfl, hw10⟩
    have R0 := new_rdr s w
    rw [← hw10] at R0
    have b10 := hba w (.cells #[.string s, .int .i64 0, .int .i64 0] 60)
    rw [← hw10] at b10
    have hg0 : w.heap.size ≤ w.heap.size := Nat.le_refl _
    clear hw10
    obtain ⟨g, hgg⟩ : ∃ g, w.heap.size = g := ⟨_, rfl⟩
    have HGG := hid hgg
    rw [hgg] at R0 ⊢
    clear hgg
    go_wp2_with fail
    refine (newX_any s _).mono ?_; rintro e w11 ⟨rfl, hw11⟩
    have X0 := newX_rfx s w10
    rw [← hw11] at X0
    have b11 := hba w10 (.cells #[.string s, .int .i64 0, .int .i64 0] 49)
    rw [← hw11] at b11
    have R1 := R0.keep b11
    have hB11 : Hid (Below w.heap.size w w11) := hnext b10 b11
    have hgx : g ≠ w10.heap.size := Nat.ne_of_lt R0.cells.2.2.2.2.2
    have hgy : w.heap.size ≤ w10.heap.size := b10.size
    clear hw11 b10 b11 R0
    obtain ⟨x, hxx⟩ : ∃ x, w10.heap.size = x := ⟨_, rfl⟩
    rw [hxx] at X0 hgx hgy ⊢
    clear hxx
    have HGX := hid hgx
    have HXG := hid hgx.symm
    have HGY := hid hgy
    clear hgx hgy
    go_wp2_with fail
    go_loopw [7] (fun q wr => ∃ (k j : Nat) (er : Int), q = .int .i64 (k : Int) ∧ k ≤ 60 ∧ k ≤ zs.length ∧ Rdr wr g s j er ∧ Rfx wr x s j er ∧ j ≤ s.size ∧ Hid (Below w.heap.size w wr)) (fun q _ => 60 - (intOf q).toNat)
    case atStart => exact ⟨0, 0, 0, rfl, by omega, by omega, R1, X0, by omega, hB11⟩
    case round =>
      obtain ⟨k, j, er, rfl, hk6, hkz, hr, hx, hj, hB⟩ := hrel
      clear R1 X0 hB11
      obtain ⟨w4, rfl⟩ : ∃ w4 : World, w4 = wr := ⟨_, rfl⟩
      by_cases hk : k < zs.length ∧ k < 60
      · obtain ⟨hk1, hk2⟩ := hk
        have hk1' : (k : Int) < (zs.length : Int) := by omega
        have hk2' : (k : Int) < 60 := by omega
        have hk0 : (0 : Int) ≤ (k : Int) := by omega
        obtain ⟨ga, off, rfl, q0⟩ := HC.out k hk1
        have hz := u8_of (HW.out _ (List.getElem_mem hk1))
        replace q0 := hkeep q0 hB.out
        generalize zs[k] = z at q0 hz
        obtain ⟨hz0, hz1⟩ := hz
        have hzm : Int.tmod z 5 = z % 5 := Int.tmod_eq_emod_of_nonneg hz0
        have hzc : z % 5 = 0 ∨ z % 5 = 1 ∨ z % 5 = 2 ∨ z % 5 = 3 ∨ z % 5 = 4 := by omega
        generalize hy : z % 5 = y at hzm hzc
        have HY := hid hy
        clear hy
        rcases hzc with rfl | rfl | rfl | rfl | rfl
        · have m1 := hid (mUint g s j er w4 hr hj hs9)
          have m2 := hid (fun W h => mUintX x s j er W h hj hs9)
          generalize Cd.top 0 (Cd.uintR s.data.toList) j er = T at *
          obtain ⟨n, j2, er2⟩ := T
          go_wp2_with fail
          refine (m1.out).mono ?_; rintro e w5 ⟨rfl, u5, r5, hj2⟩
          simp only at r5 hj2
          have x5 := hx.upd u5 HXG.out
          clear hr hx m1
          dsimp only
          go_wp2_with fail
          refine (m2.out _ x5).mono ?_; rintro e w6 ⟨rfl, u6, x6, -⟩
          simp only at x6
          have r6 := r5.upd u6 HGX.out
          clear x5 r5 m2
          dsimp only
          have B7 := hid (Upd.below (Upd.below hB.out u5 (Nat.le_of_eq HGG.out) hB.out.size) u6 HGY.out (Nat.le_trans hB.out.size u5.size))
          clear u5 u6 hB q0
          have hlq := hid (fun n => left_q g s j2 er2 (w6.drewN n) r6 hj2 hs9)
          have hlx := hid (fun n => leftX_q x s j2 er2 (w6.drewN n) x6 hj2 hs9)
          have heq := hid (fun n => err_any g s j2 er2 (w6.drewN n) r6)
          have cx := x6.cells.2.2.1
          generalize s.size - j2 = d at *
          go_wp2_with fail
          go_quiet ((first | (go_at_call 36; exact Calls.quiet_of (hlq.out _)) | (go_at_call 37; exact Calls.quiet_of (hlx.out _)) | (go_at_call 38; exact Calls.quiet_of_same ((heq.out _).mono fun _ _ h => ⟨h.1, h.2.symm⟩))))
          go_wp2_with fail
          go_roundw
          case rel => exact ⟨k + 1, j2, er2, by go_num, by omega, by omega, r6, x6, hj2, hdrewN B7.out _⟩
          case measure => simp [intOf]; omega
        · have m1 := hid (mInt g s j er w4 hr hj hs9)
          have m2 := hid (fun W h => mIntX x s j er W h hj hs9)
          generalize Cd.top 0 (Cd.intR s.data.toList) j er = T at *
          obtain ⟨n, j2, er2⟩ := T
          go_wp2_with fail
          refine (m1.out).mono ?_; rintro e w5 ⟨rfl, u5, r5, hj2⟩
          simp only at r5 hj2
          have x5 := hx.upd u5 HXG.out
          clear hr hx m1
          dsimp only
          go_wp2_with fail
          refine (m2.out _ x5).mono ?_; rintro e w6 ⟨rfl, u6, x6, -⟩
          simp only at x6
          have r6 := r5.upd u6 HGX.out
          clear x5 r5 m2
          dsimp only
          have B7 := hid (Upd.below (Upd.below hB.out u5 (Nat.le_of_eq HGG.out) hB.out.size) u6 HGY.out (Nat.le_trans hB.out.size u5.size))
          clear u5 u6 hB q0
          have hlq := hid (fun n => left_q g s j2 er2 (w6.drewN n) r6 hj2 hs9)
          have hlx := hid (fun n => leftX_q x s j2 er2 (w6.drewN n) x6 hj2 hs9)
          have heq := hid (fun n => err_any g s j2 er2 (w6.drewN n) r6)
          have cx := x6.cells.2.2.1
          generalize s.size - j2 = d at *
          go_wp2_with fail
          go_quiet ((first | (go_at_call 36; exact Calls.quiet_of (hlq.out _)) | (go_at_call 37; exact Calls.quiet_of (hlx.out _)) | (go_at_call 38; exact Calls.quiet_of_same ((heq.out _).mono fun _ _ h => ⟨h.1, h.2.symm⟩))))
          go_wp2_with fail
          go_roundw
          case rel => exact ⟨k + 1, j2, er2, by go_num, by omega, by omega, r6, x6, hj2, hdrewN B7.out _⟩
          case measure => simp [intOf]; omega
        · have m1 := hid (mText g s j er w4 hr hj hs9)
          have m2 := hid (fun W h => mTextX x s j er W h hj hs9)
          generalize Cd.top ⟨#[]⟩ (Cd.textR s 1000000) j er = T at *
          obtain ⟨n, j2, er2⟩ := T
          go_wp2_with fail
          refine (m1.out).mono ?_; rintro e w5 ⟨rfl, u5, r5, hj2⟩
          simp only at r5 hj2
          have x5 := hx.upd u5 HXG.out
          clear hr hx m1
          dsimp only
          go_wp2_with fail
          refine (m2.out _ x5).mono ?_; rintro e w6 ⟨rfl, u6, x6, -⟩
          simp only at x6
          have r6 := r5.upd u6 HGX.out
          clear x5 r5 m2
          dsimp only
          have B7 := hid (Upd.below (Upd.below hB.out u5 (Nat.le_of_eq HGG.out) hB.out.size) u6 HGY.out (Nat.le_trans hB.out.size u5.size))
          clear u5 u6 hB q0
          have hlq := hid (fun n => left_q g s j2 er2 (w6.drewN n) r6 hj2 hs9)
          have hlx := hid (fun n => leftX_q x s j2 er2 (w6.drewN n) x6 hj2 hs9)
          have heq := hid (fun n => err_any g s j2 er2 (w6.drewN n) r6)
          have cx := x6.cells.2.2.1
          generalize s.size - j2 = d at *
          go_wp2_with fail
          go_quiet ((first | (go_at_call 36; exact Calls.quiet_of (hlq.out _)) | (go_at_call 37; exact Calls.quiet_of (hlx.out _)) | (go_at_call 38; exact Calls.quiet_of_same ((heq.out _).mono fun _ _ h => ⟨h.1, h.2.symm⟩))))
          go_wp2_with fail
          go_roundw
          case rel => exact ⟨k + 1, j2, er2, by go_num, by omega, by omega, r6, x6, hj2, hdrewN B7.out _⟩
          case measure => simp [intOf]; omega
        · have m1 := hid (mValue g s j er w4 hr hj hs9)
          have m2 := hid (fun W h => mValueX x s j er W h hj hs9)
          generalize Cd.top ⟨0, 0, 0, ⟨#[]⟩⟩ (Cd.valueR s) j er = T at *
          obtain ⟨n, j2, er2⟩ := T
          have hq := va_neq n.k n.n n.b n.s n.k n.n n.b n.s true (by simp)
          unfold vv at hq
          go_wp2_with fail
          refine (m1.out).mono ?_; rintro e w5 ⟨rfl, u5, r5, hj2⟩
          simp only at r5 hj2
          have x5 := hx.upd u5 HXG.out
          clear hr hx m1
          dsimp only
          unfold vvV vv
          go_wp2_with fail
          refine (m2.out _ x5).mono ?_; rintro e w6 ⟨rfl, u6, x6, -⟩
          simp only at x6
          have r6 := r5.upd u6 HGX.out
          clear x5 r5 m2
          dsimp only
          unfold vvV vv
          have B7 := hid (Upd.below (Upd.below hB.out u5 (Nat.le_of_eq HGG.out) hB.out.size) u6 HGY.out (Nat.le_trans hB.out.size u5.size))
          clear u5 u6 hB q0
          have hlq := hid (fun n => left_q g s j2 er2 (w6.drewN n) r6 hj2 hs9)
          have hlx := hid (fun n => leftX_q x s j2 er2 (w6.drewN n) x6 hj2 hs9)
          have heq := hid (fun n => err_any g s j2 er2 (w6.drewN n) r6)
          have cx := x6.cells.2.2.1
          generalize s.size - j2 = d at *
          go_wp2_with fail
          go_quiet ((first | (go_at_call 36; exact Calls.quiet_of (hlq.out _)) | (go_at_call 37; exact Calls.quiet_of (hlx.out _)) | (go_at_call 38; exact Calls.quiet_of_same ((heq.out _).mono fun _ _ h => ⟨h.1, h.2.symm⟩))))
          go_wp2_with fail
          go_roundw
          case rel => exact ⟨k + 1, j2, er2, by go_num, by omega, by omega, r6, x6, hj2, hdrewN B7.out _⟩
          case measure => simp [intOf]; omega
        · have m1 := hid (mRow g s j er w4 hr hj hs9)
          have m2 := hid (fun W h => mRowX x s j er W h hj hs9)
          have hlen := toprow_len s j er
          generalize Cd.top [] (Cd.rowR s) j er = T at *
          obtain ⟨l, j2, er2⟩ := T
          simp only at hlen
          have hrr := hid (fun W v1 v2 h1 h2 => (rows_any v1 v2 l l W h1 h2 hlen hlen).mono fun e w' (h : e = .returned (.bool (decide (l = l))) ∧ Below W.heap.size W w') => (⟨h.1.trans (by rw [decide_eq_true rfl]), h.2⟩ : e = .returned (.bool true) ∧ Below W.heap.size W w'))
          have hgl := hr.cells.2.2.2.2.2
          go_wp2_with fail
          refine (m1.out).mono ?_; rintro e w5 ⟨⟨v1, rfl, own1⟩, u5, r5, hj2⟩
          simp only at own1 r5 hj2
          have x5 := hx.upd u5 HXG.out
          have hxl := x5.cells.2.2.2.2.2
          have O1 := hid own1
          have hxl4 := hid hx.cells.2.2.2.2.2
          clear own1 hr hx m1
          go_wp2_with fail
          refine (m2.out _ x5).mono ?_; rintro e w6 ⟨⟨v2, rfl, own2⟩, u6, x6, -⟩
          simp only at own2 x6
          have r6 := r5.upd u6 HGX.out
          have O2 := hid (VsAt.own own2)
          have O1b := hid (VsAt.own (own_upd O1.out u6 hxl4.out))
          clear own2 O1 x5 r5 m2 hxl hxl4
          go_wp2_with fail
          refine (hrr.out _ _ _ O1b.out O2.out).mono ?_; rintro e w7 ⟨rfl, b7⟩
          replace u6 := u6.trans (Upd.of b7)
          replace r6 := r6.keep b7
          replace x6 := x6.keep b7
          clear O1b O2 b7 hlen hrr hgl
          have B7 := hid (Upd.below (Upd.below hB.out u5 (Nat.le_of_eq HGG.out) hB.out.size) u6 HGY.out (Nat.le_trans hB.out.size u5.size))
          clear u5 u6 hB q0
          have hlq := hid (fun n => left_q g s j2 er2 (w7.drewN n) r6 hj2 hs9)
          have hlx := hid (fun n => leftX_q x s j2 er2 (w7.drewN n) x6 hj2 hs9)
          have heq := hid (fun n => err_any g s j2 er2 (w7.drewN n) r6)
          have cx := x6.cells.2.2.1
          generalize s.size - j2 = d at *
          go_wp2_with fail
          go_quiet ((first | (go_at_call 36; exact Calls.quiet_of (hlq.out _)) | (go_at_call 37; exact Calls.quiet_of (hlx.out _)) | (go_at_call 38; exact Calls.quiet_of_same ((heq.out _).mono fun _ _ h => ⟨h.1, h.2.symm⟩))))
          go_wp2_with fail
          go_roundw
          case rel => exact ⟨k + 1, j2, er2, by go_num, by omega, by omega, r6, x6, hj2, hdrewN B7.out _⟩
          case measure => simp [intOf]; omega
      · have HE : k = zs.length ∨ (k < zs.length ∧ k = 60) := by omega
        clear hk
        rcases HE with hk1 | ⟨hk1, hk2⟩
        · have hk1' : ¬ (k : Int) < (zs.length : Int) := by omega
          have hk1b : decide ((k : Int) < (zs.length : Int)) = false := decide_eq_false hk1'
          clear hk1
          go_wp2_with fail
          refine (known_any _).mono ?_; rintro e w17 ⟨rfl, b17⟩
          go_wp2
          go_ret
          exact ⟨rfl, hnext hB.out b17⟩
        · have hk1' : (k : Int) < (zs.length : Int) := by omega
          have hk2' : ¬ (k : Int) < 60 := by omega
          have hk1b : decide ((k : Int) < (zs.length : Int)) = true := decide_eq_true hk1'
          clear hk1 hk2
          go_wp2_with fail
          refine (known_any _).mono ?_; rintro e w17 ⟨rfl, b17⟩
          go_wp2
          go_ret
          exact ⟨rfl, hnext hB.out b17⟩
  · have h' : (3000 : Int) < s.size := by omega
    go_enter Try.func4, Try.ntmps4
    go_wp2_with fail
    refine (known_any _).mono ?_; rintro e w3 ⟨rfl, b3⟩
    go_wp2
    go_ret
    exact ⟨rfl, b3⟩
end Go.Proofs.Ytanmomlkdfnakaa
