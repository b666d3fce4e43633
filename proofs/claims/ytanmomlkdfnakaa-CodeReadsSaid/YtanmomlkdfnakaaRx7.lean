/-
  The reference's value of a reader: its contract. Condition: the text has at most 1000000000 bytes.
-/
import Derived.Test.YtanmomlkdfnakaaRx6
namespace Go.Proofs.Ytanmomlkdfnakaa
open Go.RowKit

/-- how far the bits are read: what is left comes to the same; or the text has ended -/
def BitSt (s : ByteArray) (i f b j : Nat) (er : Int) : Prop := (er = 0 ∧ Cd.bitsF s.data.toList f b j = Cd.bitsF s.data.toList 8 0 (i + 1)) ∨ (er = 8 ∧ Cd.bitsF s.data.toList 8 0 (i + 1) = .error 8)
theorem bits_round (g : Nat) (s : ByteArray) (i f b j : Nat) (er : Int) (hst : BitSt s i (f + 1) b j er) (hj : j ≤ s.size) (hs : s.size ≤ 1000000000) :
    ∃ (d j' : Nat) (er' : Int), d < 256 ∧ j' ≤ s.size ∧ Hid (∀ W, Rfx W g s j er → Calls Try.prog 66 #[.pointer (some ⟨g, 0, none⟩)] W fun e w' => e = .returned (.int .i64 (d : Int)) ∧ Upd g W w' ∧ Rfx w' g s j' er') ∧ Hid (BitSt s i f (256 * b + d) j' er') := by
  rcases hst with ⟨rfl, h⟩ | ⟨rfl, h⟩
  · by_cases hjs : j < s.size
    · refine ⟨s[j].toNat, j + 1, 0, s[j].toNat_lt, by omega, fun W hW => nextX_ok g s j W hW hjs (by omega), .inl ⟨rfl, ?_⟩⟩
      rw [← h, bitsF_next s f b j hjs _ rfl]
    · refine ⟨0, j, 8, by omega, hj, fun W hW => nextX_no g s j W hW (by omega), .inr ⟨rfl, ?_⟩⟩
      rw [← h, bitsF_no s f b j (by omega)]
  · refine ⟨0, j, 8, by omega, hj, fun W hW => (nextX_was g s j 8 W hW (by decide)).mono ?_, .inr ⟨rfl, h⟩⟩
    rintro e w' ⟨rfl, rfl⟩
    exact ⟨rfl, Upd.refl _ _, hW⟩
/-- what was wrong, behind a note of 7 -/
def noted (er : Int) : Int := if er = 0 then 7 else er
theorem fail7 (g : Nat) (s : ByteArray) (j : Nat) (er : Int) (W : World) (h : Rfx W g s j er) : Calls Try.prog 60 #[.pointer (some ⟨g, 0, none⟩), .int .i64 7] W fun e w' => (∃ v, e = .returned v) ∧ Upd g W w' ∧ Rfx w' g s j (noted er) := by
  unfold noted
  by_cases he : er = 0
  · subst he; rw [if_pos rfl]; exact failX_new g s j 7 W h
  · rw [if_neg he]
    refine (failX_was g s j er 7 W h he).mono ?_
    rintro e w' ⟨hv, rfl⟩
    exact ⟨hv, Upd.refl _ _, h⟩
/-- kind 3, behind its bits -/
theorem bits_end (g : Nat) (s : ByteArray) (i b j : Nat) (er : Int) (w : World) (hc : Cd.rawR s i = match Cd.bitsF s.data.toList 8 0 (i + 1) with | .error e => .error e | .ok (b, m) => .ok (⟨3, 0, b, ⟨#[]⟩⟩, m)) (hst : BitSt s i 0 b j er) (hj : j ≤ s.size) :
    (Va.canon b = b → ∀ e w', Upd g w w' → e = .returned (.agg #[.int .i64 3, .int .i64 0, .int .u64 (b : Int), .string ⟨#[]⟩]) → Rfx w' g s j er → ToldX (fun _ : Cd.V => True) vvV g s (Cd.valueR s i) w e w') ∧
    (Va.canon b ≠ b → ∀ e w', Upd g w w' → e = .returned (.agg #[.int .i64 3, .int .i64 0, .int .u64 (b : Int), .string ⟨#[]⟩]) → Rfx w' g s j (noted er) → ToldX (fun _ : Cd.V => True) vvV g s (Cd.valueR s i) w e w') := by
  rcases hst with ⟨rfl, h⟩ | ⟨rfl, h⟩
  · have HR : Cd.rawR s i = .ok (⟨3, 0, b, ⟨#[]⟩⟩, j) := by rw [hc, ← h]; rfl
    have HV : Cd.valueR s i = if Va.right 3 0 b ⟨#[]⟩ then .ok (⟨3, 0, b, ⟨#[]⟩⟩, j) else .error 7 := by unfold Cd.valueR; rw [HR]; rfl
    have HQ : Va.right 3 0 b ⟨#[]⟩ = decide (Va.canon b = b) := by
      unfold Va.right
      rw [if_neg (by decide), if_neg (by decide), if_neg (by decide), if_pos rfl]
      simp
      exact fun _ => rfl
    rw [HQ] at HV
    constructor
    · intro hb e w' hu he hR
      rw [decide_eq_true hb, if_pos rfl] at HV
      exact ToldX.mk_ok HV hu he hR hj
    · intro hb e w' hu he hR
      rw [decide_eq_false hb, if_neg (by decide)] at HV
      exact ToldX.mk_err ⟨3, 0, b, ⟨#[]⟩⟩ trivial HV hu he hR hj
  · have HV : Cd.valueR s i = .error 8 := by unfold Cd.valueR; rw [hc, h]
    exact ⟨fun _ e w' hu he hR => ToldX.mk_err ⟨3, 0, b, ⟨#[]⟩⟩ trivial HV hu he hR hj, fun _ e w' hu he hR => ToldX.mk_err ⟨3, 0, b, ⟨#[]⟩⟩ trivial HV hu he hR hj⟩
set_option maxRecDepth 100000 in
set_option maxHeartbeats 12800000 in
theorem valueX_3 (g : Nat) (s : ByteArray) (i : Nat) (w : World) (hr : Rfx w g s i 0) (_hi : i ≤ s.size) (hs : s.size ≤ 1000000000) (hi1 : i < s.size) (hc : s[i].toNat = 3) :
    Calls Try.prog 57 #[.pointer (some ⟨g, 0, none⟩)] w (ToldX (fun _ : Cd.V => True) vvV g s (Cd.valueR s i) w) := by
  have hraw : Hid (Cd.rawR s i = match Cd.bitsF s.data.toList 8 0 (i + 1) with | .error e => .error e | .ok (b, m) => .ok (⟨3, 0, b, ⟨#[]⟩⟩, m)) := by show _ = _; unfold Cd.rawR; rw [nextR_ok s i hi1 3 hc]; rfl
  have hn1 : Hid (∀ W, Rfx W g s i 0 → Calls Try.prog 66 #[.pointer (some ⟨g, 0, none⟩)] W fun e w' => e = .returned (.int .i64 3) ∧ Upd g W w' ∧ Rfx w' g s (i + 1) 0) := fun W h => by have := nextX_ok g s i W h hi1 (by omega); rwa [show (s[i].toNat : Int) = 3 by rw [hc]; rfl] at this
  clear hc
  go_enter Try.func57, Try.ntmps57
  go_wp2_with fail
  have hb0 := hba w (.cells #[.int .i64 0, .int .i64 0, .int .u64 0, .string ⟨#[]⟩] 28)
  have hr0 := hr.keep hb0
  have bz0 : BV (w.alloc (.cells #[.int .i64 0, .int .i64 0, .int .u64 0, .string ⟨#[]⟩] 28)) w.heap.size 0 0 0 ⟨#[]⟩ := BV.new w 0 0 0 ⟨#[]⟩
  have hg0 : w.heap.size ≠ g := by have := hr.cells.2.2.2.2.2; omega
  have hu0 : Upd g w _ := Upd.of hb0
  refine (hn1.out _ hr0).mono ?_; rintro e w1 ⟨rfl, hu1, hr1⟩
  have bz1 := bz0.upd hu1 hg0
  replace hu1 := hu0.trans hu1
  clear hb0 hr0 bz0 hu0
  go_wp2_with fail
  have bt1 : BV (w1.alloc (.cells #[.int .i64 3, .int .i64 0, .int .u64 0, .string ⟨#[]⟩] 28)) w1.heap.size 3 0 0 ⟨#[]⟩ := BV.new w1 3 0 0 ⟨#[]⟩
  have hba1 := hba w1 (.cells #[.int .i64 3, .int .i64 0, .int .u64 0, .string ⟨#[]⟩] 28)
  have bz2 := bz1.keep hba1
  have hr2 := hr1.keep hba1
  have hu2 := hu1.trans (Upd.of hba1)
  have hg1 : w1.heap.size ≠ g := by have := hr1.cells.2.2.2.2.2; omega
  have hg2 : w1.heap.size ≠ w.heap.size := by have := bz1.cells.2.2.2.2.2.2.2.2; omega
  have hg3 : w.heap.size ≤ w1.heap.size := hu1.size
  generalize hz1 : w1.heap.size = b3 at *
  generalize w1.alloc (.cells #[.int .i64 3, .int .i64 0, .int .u64 0, .string ⟨#[]⟩] 28) = w2 at *
  clear hba1 hr1 hu1 bz1 hz1 w1
  go_loopw [4] (fun q wr => ∃ (f kk b j : Nat) (er : Int), q = .int .i64 (kk : Int) ∧ kk + f = 8 ∧ Hid (b < 256 ^ kk) ∧ BV wr b3 3 0 b ⟨#[]⟩ ∧ BV wr w.heap.size 0 0 0 ⟨#[]⟩ ∧ Rfx wr g s j er ∧ j ≤ s.size ∧ Upd g w wr ∧ Hid (BitSt s i f b j er)) (fun q _ => 8 - (intOf q).toNat)
  case atStart => exact ⟨8, 0, 0, i + 1, 0, rfl, rfl, by show _ < _; decide, bt1, bz2, hr2, by omega, hu2, .inl ⟨rfl, rfl⟩⟩
  case round =>
    obtain ⟨f, kk, b, j, er, rfl, hkf, hb, bt3, bz3, hr3, hj, hu3, hst⟩ := hrel
    clear hr2 hu2 bz2 bt1
    obtain ⟨w4, rfl⟩ : ∃ w4 : World, w4 = wr := ⟨_, rfl⟩
    have hk0 : (0 : Int) ≤ (kk : Int) := by omega
    cases f with
    | zero =>
      obtain rfl : kk = 8 := by omega
      have hb64 : b < 18446744073709551616 := Nat.lt_of_lt_of_le hb.out (by decide)
      have HE := bits_end g s i b j er w hraw.out hst.out hj
      have hcan := hid (fun w => canonR_any b hb64 w)
      have hfail := hid (fun W h => fail7 g s j er W h)
      clear hst hraw hb hb64
      obtain ⟨t0, t1, t2, t3, tf0, tf1, tf2, tf3, tl⟩ := bt3.cells
      by_cases hcb : Va.canon b = b
      · have HF := hid (HE.1 hcb)
        clear HE hfail
        have hq : ((Va.canon b : Int) != (b : Int)) = false := by rw [bne_eq_false_iff_eq]; omega
        clear hcb
        go_wp2_with fail
        go_quiet ((go_at_call 61; exact Calls.quiet_of_same ((hcan.out _).mono fun _ _ h => ⟨h.1, h.2.symm⟩)))
        replace bt3 : BV (w4.drewN nq) b3 3 0 b ⟨#[]⟩ := bt3
        replace bz3 : BV (w4.drewN nq) w.heap.size 0 0 0 ⟨#[]⟩ := bz3
        replace hr3 : Rfx (w4.drewN nq) g s j er := hr3
        replace hu3 := hu3.trans (Upd.of (hdrewN (Below.refl _ _) nq))
        generalize w4.drewN nq = w4 at *
        clear t0 t1 t2 t3 tf0 tf1 tf2 tf3 tl
        obtain ⟨t0, t1, t2, t3, tf0, tf1, tf2, tf3, tl⟩ := bt3.cells
        obtain ⟨z0, z1, z2, z3, zf0, zf1, zf2, zf3, _⟩ := bz3.cells
        have hne1 : w.heap.size ≠ b3 := fun h => hg2 h.symm
        go_wp2_with fail
        have hrF := (((hr3.setO (o := 0) (.int .i64 3) hg0).setO (o := 1) (.int .i64 0) hg0).setO (o := 2) (.int .u64 (b : Int)) hg0).setO (o := 3) (.string ⟨#[]⟩) hg0
        have huF := (((hu3.setNew (o := 0) (.int .i64 3) (Nat.le_refl _)).setNew (o := 1) (.int .i64 0) (Nat.le_refl _)).setNew (o := 2) (.int .u64 (b : Int)) (Nat.le_refl _)).setNew (o := 3) (.string ⟨#[]⟩) (Nat.le_refl _)
        exact bodyPost_ret (v := .agg #[.int .i64 3, .int .i64 0, .int .u64 (b : Int), .string ⟨#[]⟩]) (by simp [results, Try.results57, go_sem, z0, z1, z2, z3]) rfl (HF.out _ _ huF rfl hrF)
      · have HF := hid (HE.2 hcb)
        clear HE
        have hq : ((Va.canon b : Int) != (b : Int)) = true := by rw [bne_iff_ne]; omega
        clear hcb
        go_wp2_with fail
        go_quiet ((go_at_call 61; exact Calls.quiet_of_same ((hcan.out _).mono fun _ _ h => ⟨h.1, h.2.symm⟩)))
        replace bt3 : BV (w4.drewN nq) b3 3 0 b ⟨#[]⟩ := bt3
        replace bz3 : BV (w4.drewN nq) w.heap.size 0 0 0 ⟨#[]⟩ := bz3
        replace hr3 : Rfx (w4.drewN nq) g s j er := hr3
        replace hu3 := hu3.trans (Upd.of (hdrewN (Below.refl _ _) nq))
        generalize w4.drewN nq = w4 at *
        clear t0 t1 t2 t3 tf0 tf1 tf2 tf3 tl
        obtain ⟨t0, t1, t2, t3, tf0, tf1, tf2, tf3, tl⟩ := bt3.cells
        go_wp2_with fail
        refine (hfail.out _ hr3).mono ?_; rintro e w5 ⟨⟨vf, rfl⟩, hu5, hr5⟩
        replace bt3 := bt3.upd hu5 hg1
        replace bz3 := bz3.upd hu5 hg0
        replace hu3 := hu3.trans hu5
        clear hr3 hu5 t0 t1 t2 t3 tf0 tf1 tf2 tf3 tl
        have hr3 := hr5
        clear hr5
        obtain ⟨t0, t1, t2, t3, tf0, tf1, tf2, tf3, tl⟩ := bt3.cells
        obtain ⟨z0, z1, z2, z3, zf0, zf1, zf2, zf3, _⟩ := bz3.cells
        have hne1 : w.heap.size ≠ b3 := fun h => hg2 h.symm
        go_wp2_with fail
        have hrF := (((hr3.setO (o := 0) (.int .i64 3) hg0).setO (o := 1) (.int .i64 0) hg0).setO (o := 2) (.int .u64 (b : Int)) hg0).setO (o := 3) (.string ⟨#[]⟩) hg0
        have huF := (((hu3.setNew (o := 0) (.int .i64 3) (Nat.le_refl _)).setNew (o := 1) (.int .i64 0) (Nat.le_refl _)).setNew (o := 2) (.int .u64 (b : Int)) (Nat.le_refl _)).setNew (o := 3) (.string ⟨#[]⟩) (Nat.le_refl _)
        exact bodyPost_ret (v := .agg #[.int .i64 3, .int .i64 0, .int .u64 (b : Int), .string ⟨#[]⟩]) (by simp [results, Try.results57, go_sem, z0, z1, z2, z3]) rfl (HF.out _ _ huF rfl hrF)
    | succ f =>
      obtain ⟨d, j2, er2, hdl, hj2, hn2, hst2⟩ := bits_round g s i f b j er hst.out hj hs
      have hk8 : (kk : Int) < 8 := by omega
      have hb7 : b < 72057594037927936 := Nat.lt_of_lt_of_le hb.out (Nat.le_trans (Nat.pow_le_pow_right (by decide) (show kk ≤ 7 by omega)) (by decide))
      have HB2 : Hid (256 * b + d < 256 ^ (kk + 1)) := by have := hb.out; show _ < _; rw [Nat.pow_succ]; omega
      have hsh : IntKind.u64.wrap (256 * (b : Int)) = ((256 * b : Nat) : Int) := by rw [IntKind.wrap_u64]; omega
      have hcv : IntKind.u64.wrap (d : Int) = (d : Int) := by rw [IntKind.wrap_u64]; omega
      have hor : IntKind.u64.wrap (((256 * b : Nat) : Int) + (d : Int)) = ((256 * b + d : Nat) : Int) := by rw [IntKind.wrap_u64]; omega
      obtain ⟨y, hy⟩ : ∃ y, 256 * b + d = y := ⟨_, rfl⟩
      rw [hy] at hor hst2 HB2
      have HY := hid hy
      clear hy
      generalize hX : (256 * b : Nat) = x at hsh hor
      have HX := hid hX
      clear hst hX hraw hn1
      obtain ⟨t0, t1, t2, t3, tf0, tf1, tf2, tf3, tl⟩ := bt3.cells
      go_wp2_with fail
      refine wp_region_held_drew (S := (fun _ => True)) (by kernel_rfl) trivial (fun hH => ?_)
      clear t0 t1 t2 t3 tf0 tf1 tf2 tf3 tl
      replace bt3 : BV w4.drew b3 3 0 b ⟨#[]⟩ := bt3
      replace bz3 : BV w4.drew w.heap.size 0 0 0 ⟨#[]⟩ := bz3
      replace hr3 : Rfx w4.drew g s j er := hr3
      replace hu3 := hu3.trans (Upd.of (Below.refl w4.heap.size w4).drew)
      generalize w4.drew = w4 at *
      obtain ⟨t0, t1, t2, t3, tf0, tf1, tf2, tf3, tl⟩ := bt3.cells
      refine wpAnyH_take (i := 0) (oi := ({ dst := some 36, op := Op.fieldAddr 28 (Operand.tmp 3) 2, type := 0, pos := "ref.go:171", after := #[], guard := none } : Oper)) (v := ?_) rfl (by kernel_rfl) (by kernel_rfl) (by kernel_rfl) (fun _ _ _ h => h) (Or.inl ⟨by rfl, ?_⟩) hH ?_
      rotate_left
      · intro w hSw; (try dsimp only at hSw); go_simp; (try with_reducible rfl)
      simp only [Act.put, List.setIfInBounds_toArray, List.set_cons_zero, List.set_cons_succ]
      refine wpAnyH_take (i := 3) (oi := ({ dst := some 39, op := Op.move (Operand.tmp 0), type := 38, pos := "ref.go:171", after := #[], guard := none } : Oper)) (v := ?_) rfl (by kernel_rfl) (by kernel_rfl) (by kernel_rfl) (fun _ _ _ h => h) (Or.inl ⟨by rfl, ?_⟩) hH ?_
      rotate_left
      · intro w hSw; (try dsimp only at hSw); go_simp; (try with_reducible rfl)
      simp only [Act.put, List.setIfInBounds_toArray, List.set_cons_zero, List.set_cons_succ]
      refine wpAnyH_ready (rs := [1, 4]) (by kernel_rfl) (by simp) ?_
      refine AllReadyH.cons (o := ({ dst := some 37, op := Op.load 22 (Operand.tmp 36), type := 22, pos := "ref.go:171", after := #[{ on := 0, ground := Ground.data }], guard := none } : Oper)) rfl (fun K hK => ?_) (AllReadyH.cons (o := ({ dst := some 40, op := Op.call { callee := Callee.value (Operand.func 66), args := #[Operand.tmp 39], argTypes := #[38] }, type := 3, pos := "ref.go:171", after := #[{ on := 3, ground := Ground.data }], guard := none } : Oper)) rfl (fun K hK => ?_) AllReadyH.nil)
      · go_simp
        refine hK.out _ _ trivial (fun hH => ?_)
        clear hK K
        (try simp only [Act.put, List.setIfInBounds_toArray, List.set_cons_zero, List.set_cons_succ])
        refine wpAnyH_take (i := 2) (oi := ({ dst := some 38, op := Op.binOp BinOp.mul 22 (Operand.const (Value.int IntKind.u64 256)) (Operand.tmp 37) 22, type := 22, pos := "ref.go:171", after := #[{ on := 1, ground := Ground.data }], guard := none } : Oper)) (v := ?_) rfl (by kernel_rfl) (by kernel_rfl) (by kernel_rfl) (fun _ _ _ h => h) (Or.inl ⟨by rfl, ?_⟩) hH ?_
        rotate_left
        · intro w hSw; (try dsimp only at hSw); go_simp; (try with_reducible rfl)
        simp only [Act.put, List.setIfInBounds_toArray, List.set_cons_zero, List.set_cons_succ]
        refine wpAnyH_ready (rs := [4]) (by kernel_rfl) (by simp) ?_
        refine AllReadyH.cons (o := ({ dst := some 40, op := Op.call { callee := Callee.value (Operand.func 66), args := #[Operand.tmp 39], argTypes := #[38] }, type := 3, pos := "ref.go:171", after := #[{ on := 3, ground := Ground.data }], guard := none } : Oper)) rfl (fun K hK => ?_) AllReadyH.nil
        go_simp
        refine (hn2.out _ hr3).mono ?_; rintro e w5 ⟨rfl, hu5, hr5⟩
        replace bt3 := bt3.upd hu5 hg1
        replace bz3 := bz3.upd hu5 hg0
        replace hu3 := hu3.trans hu5
        clear t0 t1 t2 t3 tf0 tf1 tf2 tf3 tl
        obtain ⟨t0, t1, t2, t3, tf0, tf1, tf2, tf3, tl⟩ := bt3.cells
        go_wp2_with fail
        refine hK.out _ _ trivial (fun hH => ?_)
        clear hK K hu5
        (try simp only [Act.put, List.setIfInBounds_toArray, List.set_cons_zero, List.set_cons_succ])
        refine wpAnyH_take (i := 5) (oi := ({ dst := some 41, op := Op.convert 3 22 (Operand.tmp 40), type := 22, pos := "ref.go:171", after := #[{ on := 4, ground := Ground.data }], guard := none } : Oper)) (v := ?_) rfl (by kernel_rfl) (by kernel_rfl) (by kernel_rfl) (fun _ _ _ h => h) (Or.inl ⟨by rfl, ?_⟩) hH ?_
        rotate_left
        · intro w hSw; (try dsimp only at hSw); go_simp; (try with_reducible rfl)
        simp only [Act.put, List.setIfInBounds_toArray, List.set_cons_zero, List.set_cons_succ]
        refine wpAnyH_take (i := 6) (oi := ({ dst := some 42, op := Op.binOp BinOp.add 22 (Operand.tmp 38) (Operand.tmp 41) 22, type := 22, pos := "ref.go:171", after := #[{ on := 2, ground := Ground.data }, { on := 5, ground := Ground.data }], guard := none } : Oper)) (v := ?_) rfl (by kernel_rfl) (by kernel_rfl) (by kernel_rfl) (fun _ _ _ h => h) (Or.inl ⟨by rfl, ?_⟩) hH ?_
        rotate_left
        · intro w hSw; (try dsimp only at hSw); go_simp; (try with_reducible rfl)
        simp only [Act.put, List.setIfInBounds_toArray, List.set_cons_zero, List.set_cons_succ]
        refine wpAnyH_take (i := 7) (oi := ({ dst := some 43, op := Op.fieldAddr 28 (Operand.tmp 3) 2, type := 0, pos := "ref.go:171", after := #[{ on := 0, ground := Ground.phase }, { on := 1, ground := Ground.phase }, { on := 2, ground := Ground.phase }, { on := 3, ground := Ground.phase }, { on := 4, ground := Ground.phase }, { on := 5, ground := Ground.phase }, { on := 6, ground := Ground.phase }], guard := none } : Oper)) (v := ?_) rfl (by kernel_rfl) (by kernel_rfl) (by kernel_rfl) (fun _ _ _ h => h) (Or.inl ⟨by rfl, ?_⟩) hH ?_
        rotate_left
        · intro w hSw; (try dsimp only at hSw); go_simp; (try with_reducible rfl)
        simp only [Act.put, List.setIfInBounds_toArray, List.set_cons_zero, List.set_cons_succ]
        refine wpAnyH_ready (rs := [8]) (by kernel_rfl) (by simp) ?_
        refine AllReadyH.cons (o := ({ dst := none, op := Op.store 22 (Operand.tmp 43) (Operand.tmp 42), type := 0, pos := "ref.go:171", after := #[{ on := 7, ground := Ground.data }, { on := 6, ground := Ground.data }, { on := 4, ground := Ground.chain }, { on := 0, ground := Ground.phase }, { on := 1, ground := Ground.phase }, { on := 2, ground := Ground.phase }, { on := 3, ground := Ground.phase }, { on := 4, ground := Ground.phase }, { on := 5, ground := Ground.phase }, { on := 6, ground := Ground.phase }], guard := none } : Oper)) rfl (fun K hK => ?_) AllReadyH.nil
        go_simp
        refine hK.out _ _ trivial (fun hH => ?_)
        clear hK K
        (try simp only [Act.put, List.setIfInBounds_toArray, List.set_cons_zero, List.set_cons_succ])
        refine wpAnyH_done (by kernel_rfl) ?_ _
        have bt4 := bt3.setB y
        have hr6 := hr5.setO (o := 2) (.int .u64 (y : Int)) hg1
        have bz4 := bz3.setO (o := 2) (.int .u64 (y : Int)) hg2
        have hu6 := hu3.setNew (o := 2) (.int .u64 (y : Int)) hg3
        go_wp2_with fail
        go_roundw
        case rel => exact ⟨f, kk + 1, y, j2, er2, by go_num, by omega, HB2, bt4, bz4, hr6, hj2, hu6, hst2⟩
        case measure => simp [intOf]; omega
      · go_simp
        refine (hn2.out _ hr3).mono ?_; rintro e w5 ⟨rfl, hu5, hr5⟩
        replace bt3 := bt3.upd hu5 hg1
        replace bz3 := bz3.upd hu5 hg0
        replace hu3 := hu3.trans hu5
        clear t0 t1 t2 t3 tf0 tf1 tf2 tf3 tl
        obtain ⟨t0, t1, t2, t3, tf0, tf1, tf2, tf3, tl⟩ := bt3.cells
        go_wp2_with fail
        refine hK.out _ _ trivial (fun hH => ?_)
        clear hK K hu5
        (try simp only [Act.put, List.setIfInBounds_toArray, List.set_cons_zero, List.set_cons_succ])
        refine wpAnyH_take (i := 5) (oi := ({ dst := some 41, op := Op.convert 3 22 (Operand.tmp 40), type := 22, pos := "ref.go:171", after := #[{ on := 4, ground := Ground.data }], guard := none } : Oper)) (v := ?_) rfl (by kernel_rfl) (by kernel_rfl) (by kernel_rfl) (fun _ _ _ h => h) (Or.inl ⟨by rfl, ?_⟩) hH ?_
        rotate_left
        · intro w hSw; (try dsimp only at hSw); go_simp; (try with_reducible rfl)
        simp only [Act.put, List.setIfInBounds_toArray, List.set_cons_zero, List.set_cons_succ]
        refine wpAnyH_ready (rs := [1]) (by kernel_rfl) (by simp) ?_
        refine AllReadyH.cons (o := ({ dst := some 37, op := Op.load 22 (Operand.tmp 36), type := 22, pos := "ref.go:171", after := #[{ on := 0, ground := Ground.data }], guard := none } : Oper)) rfl (fun K hK => ?_) AllReadyH.nil
        go_simp
        refine hK.out _ _ trivial (fun hH => ?_)
        clear hK K
        (try simp only [Act.put, List.setIfInBounds_toArray, List.set_cons_zero, List.set_cons_succ])
        refine wpAnyH_take (i := 2) (oi := ({ dst := some 38, op := Op.binOp BinOp.mul 22 (Operand.const (Value.int IntKind.u64 256)) (Operand.tmp 37) 22, type := 22, pos := "ref.go:171", after := #[{ on := 1, ground := Ground.data }], guard := none } : Oper)) (v := ?_) rfl (by kernel_rfl) (by kernel_rfl) (by kernel_rfl) (fun _ _ _ h => h) (Or.inl ⟨by rfl, ?_⟩) hH ?_
        rotate_left
        · intro w hSw; (try dsimp only at hSw); go_simp; (try with_reducible rfl)
        simp only [Act.put, List.setIfInBounds_toArray, List.set_cons_zero, List.set_cons_succ]
        refine wpAnyH_take (i := 6) (oi := ({ dst := some 42, op := Op.binOp BinOp.add 22 (Operand.tmp 38) (Operand.tmp 41) 22, type := 22, pos := "ref.go:171", after := #[{ on := 2, ground := Ground.data }, { on := 5, ground := Ground.data }], guard := none } : Oper)) (v := ?_) rfl (by kernel_rfl) (by kernel_rfl) (by kernel_rfl) (fun _ _ _ h => h) (Or.inl ⟨by rfl, ?_⟩) hH ?_
        rotate_left
        · intro w hSw; (try dsimp only at hSw); go_simp; (try with_reducible rfl)
        simp only [Act.put, List.setIfInBounds_toArray, List.set_cons_zero, List.set_cons_succ]
        refine wpAnyH_take (i := 7) (oi := ({ dst := some 43, op := Op.fieldAddr 28 (Operand.tmp 3) 2, type := 0, pos := "ref.go:171", after := #[{ on := 0, ground := Ground.phase }, { on := 1, ground := Ground.phase }, { on := 2, ground := Ground.phase }, { on := 3, ground := Ground.phase }, { on := 4, ground := Ground.phase }, { on := 5, ground := Ground.phase }, { on := 6, ground := Ground.phase }], guard := none } : Oper)) (v := ?_) rfl (by kernel_rfl) (by kernel_rfl) (by kernel_rfl) (fun _ _ _ h => h) (Or.inl ⟨by rfl, ?_⟩) hH ?_
        rotate_left
        · intro w hSw; (try dsimp only at hSw); go_simp; (try with_reducible rfl)
        simp only [Act.put, List.setIfInBounds_toArray, List.set_cons_zero, List.set_cons_succ]
        refine wpAnyH_ready (rs := [8]) (by kernel_rfl) (by simp) ?_
        refine AllReadyH.cons (o := ({ dst := none, op := Op.store 22 (Operand.tmp 43) (Operand.tmp 42), type := 0, pos := "ref.go:171", after := #[{ on := 7, ground := Ground.data }, { on := 6, ground := Ground.data }, { on := 4, ground := Ground.chain }, { on := 0, ground := Ground.phase }, { on := 1, ground := Ground.phase }, { on := 2, ground := Ground.phase }, { on := 3, ground := Ground.phase }, { on := 4, ground := Ground.phase }, { on := 5, ground := Ground.phase }, { on := 6, ground := Ground.phase }], guard := none } : Oper)) rfl (fun K hK => ?_) AllReadyH.nil
        go_simp
        refine hK.out _ _ trivial (fun hH => ?_)
        clear hK K
        (try simp only [Act.put, List.setIfInBounds_toArray, List.set_cons_zero, List.set_cons_succ])
        refine wpAnyH_done (by kernel_rfl) ?_ _
        have bt4 := bt3.setB y
        have hr6 := hr5.setO (o := 2) (.int .u64 (y : Int)) hg1
        have bz4 := bz3.setO (o := 2) (.int .u64 (y : Int)) hg2
        have hu6 := hu3.setNew (o := 2) (.int .u64 (y : Int)) hg3
        go_wp2_with fail
        go_roundw
        case rel => exact ⟨f, kk + 1, y, j2, er2, by go_num, by omega, HB2, bt4, bz4, hr6, hj2, hu6, hst2⟩
        case measure => simp [intOf]; omega
/-- the reference's value of a reader -/
theorem valueX_rd (g : Nat) (s : ByteArray) (i : Nat) (w : World) (hr : Rfx w g s i 0) (hi : i ≤ s.size) (hs : s.size ≤ 1000000000) :
    Calls Try.prog 57 #[.pointer (some ⟨g, 0, none⟩)] w (ToldX (fun _ : Cd.V => True) vvV g s (Cd.valueR s i) w) := by
  by_cases hi1 : i < s.size
  · by_cases h0 : s[i].toNat = 0
    · exact valueX_0 g s i w hr hi hs hi1 h0
    by_cases h1 : s[i].toNat = 1
    · exact valueX_1 g s i w hr hi hs hi1 h1
    by_cases h2 : s[i].toNat = 2
    · exact valueX_2 g s i w hr hi hs hi1 h2
    by_cases h3 : s[i].toNat = 3
    · exact valueX_3 g s i w hr hi hs hi1 h3
    by_cases h4 : s[i].toNat = 4
    · exact valueX_4 g s i w hr hi hs hi1 h4
    by_cases h5 : s[i].toNat = 5
    · exact valueX_5 g s i w hr hi hs hi1 h5
    exact valueX_more g s i w hr hi hs hi1 _ rfl (by omega)
  · exact valueX_no g s i w hr hi hs (by omega)
end Go.Proofs.Ytanmomlkdfnakaa
