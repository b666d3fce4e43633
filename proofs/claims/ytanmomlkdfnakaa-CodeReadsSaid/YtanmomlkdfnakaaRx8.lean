/-
  The reference's Value of a reader: its contract. Condition: the text has at most 1000000000 bytes.
-/
import Derived.Test.YtanmomlkdfnakaaRx7
namespace Go.Proofs.Ytanmomlkdfnakaa
open Go.RowKit

set_option maxRecDepth 100000 in
set_option maxHeartbeats 3200000 in
theorem valueX_was (g : Nat) (s : ByteArray) (i : Nat) (er : Int) (w : World) (hr : Rfx w g s i er) (he : er ≠ 0) :
    Calls Try.prog 57 #[.pointer (some ⟨g, 0, none⟩)] w fun e w' => e = .returned (vvV ⟨0, 0, 0, ⟨#[]⟩⟩) ∧ Upd g w w' ∧ Rfx w' g s i er := by
  have hn1 : Hid (∀ W, Rfx W g s i er → Calls Try.prog 66 #[.pointer (some ⟨g, 0, none⟩)] W fun e w' => e = .returned (.int .i64 0) ∧ Upd g W w' ∧ Rfx w' g s i er) := fun W h => (nextX_was g s i er W h he).mono fun _ _ ⟨h1, h2⟩ => ⟨h1, h2 ▸ Upd.refl _ _, h2 ▸ h⟩
  go_enter Try.func57, Try.ntmps57
  go_wp2_with fail
  have hb0 := hba w (.cells #[.int .i64 0, .int .i64 0, .int .u64 0, .string ⟨#[]⟩] 28)
  have hr0 := hr.keep hb0
  have bz0 : BV (w.alloc (.cells #[.int .i64 0, .int .i64 0, .int .u64 0, .string ⟨#[]⟩] 28)) w.heap.size 0 0 0 ⟨#[]⟩ := BV.new w 0 0 0 ⟨#[]⟩
  have hg0 : w.heap.size ≠ g := by have := hr.cells.2.2.2.2.2; omega
  have hu0 : Upd g w _ := Upd.of hb0
  refine (hn1.out _ hr0).mono ?_; rintro e w1 ⟨rfl, hu1, hr1⟩
  have bz1 := bz0.upd hu1 hg0
  replace hu1 := hu0.trans hu1
  clear hb0 hr0 bz0 hu0
  obtain ⟨z0, z1, z2, z3, zf0, zf1, zf2, zf3, zl⟩ := bz1.cells
  have hne1 : w.heap.size ≠ w1.heap.size := Nat.ne_of_lt zl
  have hne2 : w1.heap.size ≠ w.heap.size := fun h => hne1 h.symm
  go_wp2_with fail
  have hrF := ((((hr1.setO (o := 0) (.int .i64 0) hg0).setO (o := 1) (.int .i64 0) hg0).setO (o := 2) (.int .u64 0) hg0).setO (o := 3) (.string ⟨#[]⟩) hg0).keep (hba _ (.cells #[.int .i64 0, .int .i64 0, .int .u64 0, .string ⟨#[]⟩] 28))
  have huF := ((((hu1.setNew (o := 0) (.int .i64 0) (Nat.le_refl _)).setNew (o := 1) (.int .i64 0) (Nat.le_refl _)).setNew (o := 2) (.int .u64 0) (Nat.le_refl _)).setNew (o := 3) (.string ⟨#[]⟩) (Nat.le_refl _)).trans (Upd.of (hba _ (.cells #[.int .i64 0, .int .i64 0, .int .u64 0, .string ⟨#[]⟩] 28)))
  exact bodyPost_ret (v := .agg #[.int .i64 0, .int .i64 0, .int .u64 0, .string ⟨#[]⟩]) (by simp [results, Try.results57, go_sem, z0, z1, z2, z3, zl]) rfl ⟨rfl, huF, hrF⟩
/-- what a read of the reference's leaves, behind which 'end' is to come -/
def MidX {α : Type} (z : α) (P : α → Value) (g : Nat) (s : ByteArray) (i : Nat) (t : α × Nat × Int) (w : World) (e : Ending) (w' : World) : Prop :=
  ∃ x j er, e = .returned (P x) ∧ Upd g w w' ∧ Rfx w' g s j er ∧ j ≤ s.size ∧ ((er = 0 ∧ t = (x, j, 0)) ∨ (er ≠ 0 ∧ t = (z, i, er)))
theorem value_errs (s : ByteArray) (i : Nat) (x : Int) (h : Cd.valueR s i = .error x) : x ≠ 0 := by
  have hn : ∀ j y, Cd.nextR s.data.toList j = .error y → y ≠ 0 := by
    intro j y hy
    unfold Cd.nextR at hy
    split at hy
    · cases hy; decide
    · cases hy
  have hb : ∀ f b j y, Cd.bitsF s.data.toList f b j = .error y → y ≠ 0 := by
    intro f
    induction f with
    | zero => intro b j y hy; cases hy
    | succ f ih =>
      intro b j y hy
      unfold Cd.bitsF at hy
      split at hy
      · cases hy; decide
      · exact ih _ _ _ hy
  have hraw : ∀ y, Cd.rawR s i = .error y → y ≠ 0 := by
    intro y hy
    unfold Cd.rawR at hy
    split at hy
    · rename_i hq; cases hy; exact hn _ _ hq
    · split at hy
      · split at hy
        · rename_i hq; cases hy; exact hn _ _ hq
        · cases hy
      · split at hy
        · split at hy
          · rename_i hq; cases hy; have := Cd.int_errs s _ _ hq; omega
          · cases hy
        · split at hy
          · split at hy
            · rename_i hq; cases hy; exact hb _ _ _ _ hq
            · cases hy
          · split at hy
            · split at hy
              · rename_i hq; cases hy; have := Cd.text_errs 4096 s _ _ hq; omega
              · cases hy
            · cases hy
  unfold Cd.valueR at h
  split at h
  · rename_i hq; cases h; exact hraw _ hq
  · split at h
    · cases h
    · cases h; decide
theorem valueX_mid (g : Nat) (s : ByteArray) (i : Nat) (er : Int) (w : World) (hr : Rfx w g s i er) (hi : i ≤ s.size) (hs : s.size ≤ 1000000000) :
    Calls Try.prog 57 #[.pointer (some ⟨g, 0, none⟩)] w (MidX ⟨0, 0, 0, ⟨#[]⟩⟩ vvV g s i (Cd.top ⟨0, 0, 0, ⟨#[]⟩⟩ (Cd.valueR s) i er) w) := by
  by_cases he : er = 0
  · subst he
    refine (valueX_rd g s i w hr hi hs).mono ?_
    rintro e w' ⟨x, rfl, hu, hm⟩
    cases hres : Cd.valueR s i with
    | error y =>
      rw [hres] at hm
      obtain ⟨-, j, hR, hj⟩ := hm
      exact ⟨x, j, y, rfl, hu, hR, hj, .inr ⟨value_errs s i y hres, by unfold Cd.top; rw [if_neg (by simp), hres]⟩⟩
    | ok p =>
      obtain ⟨y, j⟩ := p
      rw [hres] at hm
      obtain ⟨rfl, hR, hj⟩ := hm
      exact ⟨x, j, 0, rfl, hu, hR, hj, .inl ⟨rfl, by unfold Cd.top; rw [if_neg (by simp), hres]⟩⟩
  · refine (valueX_was g s i er w hr he).mono ?_
    rintro e w' ⟨rfl, hu, hR⟩
    exact ⟨_, i, er, rfl, hu, hR, hi, .inr ⟨he, by unfold Cd.top; rw [if_pos he]⟩⟩
set_option maxRecDepth 100000 in
set_option maxHeartbeats 3200000 in
theorem mValueX (g : Nat) (s : ByteArray) (i : Nat) (er : Int) (w : World) (hr : Rfx w g s i er) (hi : i ≤ s.size) (hs : s.size ≤ 1000000000) :
    Calls Try.prog 32 #[.pointer (some ⟨g, 0, none⟩)] w (TopX vvV g s (Cd.top ⟨0, 0, 0, ⟨#[]⟩⟩ (Cd.valueR s) i er) w) := by
  have h := hid (fun W h => valueX_mid g s i er W h hi hs)
  have c1 := hr.cells.2.1
  have hb0 := hba w (.cells #[.int .i64 0, .int .i64 0, .int .u64 0, .string ⟨#[]⟩] 28)
  have hr0 := hr.keep hb0
  have bz0 : BV (w.alloc (.cells #[.int .i64 0, .int .i64 0, .int .u64 0, .string ⟨#[]⟩] 28)) w.heap.size 0 0 0 ⟨#[]⟩ := BV.new w 0 0 0 ⟨#[]⟩
  have hg0 : w.heap.size ≠ g := by have := hr.cells.2.2.2.2.2; omega
  have hu0 : Upd g w _ := Upd.of hb0
  have hgl : g < w.heap.size := hr.cells.2.2.2.2.2
  have hg00 : g ≠ w.heap.size := fun h => hg0 h.symm
  have HB0 := hid hb0
  have HU0 := hid hu0
  have HR0 := hid hr0
  have HZ0 := hid bz0
  clear hb0 hu0 hr0 bz0
  go_enter Try.func32, Try.ntmps32
  go_wp2_with fail
  refine (h.out _ HR0.out).mono ?_; rintro e w1 ⟨x, j, er1, rfl, hu1, hr1, hj, HT⟩
  have HT' := hid HT
  have bz1 := HZ0.out.upd hu1 hg0
  replace hu1 := HU0.out.trans hu1
  clear HT HB0 HU0 HR0 HZ0 h c1 hgl
  unfold vvV vv
  go_wp2_with fail
  have bt1 : BV (w1.alloc (.cells #[.int .i64 x.k, .int .i64 x.n, .int .u64 (x.b : Int), .string x.s] 28)) w1.heap.size x.k x.n x.b x.s := BV.new w1 x.k x.n x.b x.s
  have hba1 := hba w1 (.cells #[.int .i64 x.k, .int .i64 x.n, .int .u64 (x.b : Int), .string x.s] 28)
  have bz2 := bz1.keep hba1
  have hr2 := hr1.keep hba1
  have hu2 := hu1.trans (Upd.of hba1)
  have hg1 : w1.heap.size ≠ g := by have := hr1.cells.2.2.2.2.2; omega
  have hg2 : w1.heap.size ≠ w.heap.size := by have := bz1.cells.2.2.2.2.2.2.2.2; omega
  have hg3 : w.heap.size ≤ w1.heap.size := hu1.size
  generalize hz1 : w1.heap.size = b3 at *
  generalize w1.alloc (.cells #[.int .i64 x.k, .int .i64 x.n, .int .u64 (x.b : Int), .string x.s] 28) = w2 at *
  clear hba1 hr1 hu1 bz1 hz1 w1
  by_cases he1 : er1 = 0
  · subst he1
    have HT : Hid (Cd.top ⟨0, 0, 0, ⟨#[]⟩⟩ (Cd.valueR s) i er = (x, j, 0)) := by
      rcases HT'.out with ⟨-, hh⟩ | ⟨hh, -⟩
      · exact hh
      · exact absurd rfl hh
    clear HT'
    refine (endX_ok g s j i w2 hr2).mono ?_; rintro e w3 ⟨rfl, rfl⟩
    obtain ⟨t0, t1, t2, t3, tf0, tf1, tf2, tf3, tl⟩ := bt1.cells
    obtain ⟨z0, z1, z2, z3, zf0, zf1, zf2, zf3, zl⟩ := bz2.cells
    have hne1 : w.heap.size ≠ b3 := fun h => hg2 h.symm
    go_wp2_with fail
    have hrF := (((hr2.setO (o := 0) (.int .i64 x.k) hg0).setO (o := 1) (.int .i64 x.n) hg0).setO (o := 2) (.int .u64 (x.b : Int)) hg0).setO (o := 3) (.string x.s) hg0
    have huF := (((hu2.setNew (o := 0) (.int .i64 x.k) (Nat.le_refl _)).setNew (o := 1) (.int .i64 x.n) (Nat.le_refl _)).setNew (o := 2) (.int .u64 (x.b : Int)) (Nat.le_refl _)).setNew (o := 3) (.string x.s) (Nat.le_refl _)
    refine bodyPost_ret (v := .agg #[.int .i64 x.k, .int .i64 x.n, .int .u64 (x.b : Int), .string x.s]) (by simp [results, Try.results32, go_sem, z0, z1, z2, z3]) rfl ?_
    rw [HT.out]
    exact ⟨rfl, huF, hrF, hj⟩
  · have HT : Hid (Cd.top ⟨0, 0, 0, ⟨#[]⟩⟩ (Cd.valueR s) i er = (⟨0, 0, 0, ⟨#[]⟩⟩, i, er1)) := by
      rcases HT'.out with ⟨hh, -⟩ | ⟨-, hh⟩
      · exact absurd hh he1
      · exact hh
    clear HT'
    have hend := hid (endX_no g s j i er1 w2 hr2 he1)
    clear hr2
    refine (hend.out).mono ?_; rintro e w3 ⟨rfl, hu3, hr3⟩
    have bz3 := bz2.upd hu3 hg0
    replace hu3 := hu2.trans hu3
    clear hu2 bz2 bt1 hend he1
    obtain ⟨z0, z1, z2, z3, zf0, zf1, zf2, zf3, zl⟩ := bz3.cells
    go_wp2_with fail
    have hrF := (((hr3.setO (o := 0) (.int .i64 0) hg0).setO (o := 1) (.int .i64 0) hg0).setO (o := 2) (.int .u64 0) hg0).setO (o := 3) (.string ⟨#[]⟩) hg0
    have huF := (((hu3.setNew (o := 0) (.int .i64 0) (Nat.le_refl _)).setNew (o := 1) (.int .i64 0) (Nat.le_refl _)).setNew (o := 2) (.int .u64 0) (Nat.le_refl _)).setNew (o := 3) (.string ⟨#[]⟩) (Nat.le_refl _)
    refine bodyPost_ret (v := .agg #[.int .i64 0, .int .i64 0, .int .u64 0, .string ⟨#[]⟩]) (by simp [results, Try.results32, go_sem, z0, z1, z2, z3]) rfl ?_
    rw [HT.out]
    exact ⟨rfl, huF, hrF, hi⟩
end Go.Proofs.Ytanmomlkdfnakaa
