/-
  The reference's value of a reader: its contract. Condition: the text has at most 1000000000 bytes.
-/
import Derived.Test.YtanmomlkdfnakaaRx4
namespace Go.Proofs.Ytanmomlkdfnakaa
open Go.RowKit

theorem Rfx.setO {w : World} {g r o : Nat} {s : ByteArray} {i : Nat} {er : Int} (h : Rfx w g s i er) (v : Value) (hne : r ≠ g) : Rfx (w.setCell ⟨r, o, none⟩ v) g s i er :=
  (heap_setCell_other w ⟨r, o, none⟩ g v (by simpa [eq_comm] using hne)).trans h
set_option maxRecDepth 100000 in
set_option maxHeartbeats 3200000 in
theorem valueX_no (g : Nat) (s : ByteArray) (i : Nat) (w : World) (hr : Rfx w g s i 0) (hi : i ≤ s.size) (_hs : s.size ≤ 1000000000) (hi1 : s.size ≤ i) :
    Calls Try.prog 57 #[.pointer (some ⟨g, 0, none⟩)] w (ToldX (fun _ : Cd.V => True) vvV g s (Cd.valueR s i) w) := by
  have HE : Hid (Cd.valueR s i = .error 8) := by show _ = _; unfold Cd.valueR Cd.rawR; rw [nextR_no s i hi1]
  have hn1 : Hid (∀ W, Rfx W g s i 0 → Calls Try.prog 66 #[.pointer (some ⟨g, 0, none⟩)] W fun e w' => e = .returned (.int .i64 0) ∧ Upd g W w' ∧ Rfx w' g s i 8) := fun W h => nextX_no g s i W h hi1
  go_enter Try.func57, Try.ntmps57
  go_wp2_with fail
  have hb0 := hba w (.cells #[.int .i64 0, .int .i64 0, .int .u64 0, .string ⟨#[]⟩] 28)
  have hr0 := hr.keep hb0
  have bz0 : BV (w.alloc (.cells #[.int .i64 0, .int .i64 0, .int .u64 0, .string ⟨#[]⟩] 28)) w.heap.size 0 0 0 ⟨#[]⟩ := BV.new w 0 0 0 ⟨#[]⟩
  have hg0 : w.heap.size ≠ g := by have := hr.cells.2.2.2.2.2; omega
  have hu0 : Upd g w _ := Upd.of hb0
  refine (hn1.out _ hr0).mono ?_; rintro e w1 ⟨rfl, hu1, hr1⟩
  have bz1 := bz0.upd hu1 hg0
  replace hu1 := hu0.trans hu1
  clear hb0 hr0 bz0 hu0
  obtain ⟨z0, z1, z2, z3, zf0, zf1, zf2, zf3, zl⟩ := bz1.cells
  have hne1 : w.heap.size ≠ w1.heap.size := Nat.ne_of_lt zl
  have hne2 : w1.heap.size ≠ w.heap.size := fun h => hne1 h.symm
  go_wp2_with fail
  have hrF := ((((hr1.setO (o := 0) (.int .i64 0) hg0).setO (o := 1) (.int .i64 0) hg0).setO (o := 2) (.int .u64 0) hg0).setO (o := 3) (.string ⟨#[]⟩) hg0).keep (hba _ (.cells #[.int .i64 0, .int .i64 0, .int .u64 0, .string ⟨#[]⟩] 28))
  have huF := ((((hu1.setNew (o := 0) (.int .i64 0) (Nat.le_refl _)).setNew (o := 1) (.int .i64 0) (Nat.le_refl _)).setNew (o := 2) (.int .u64 0) (Nat.le_refl _)).setNew (o := 3) (.string ⟨#[]⟩) (Nat.le_refl _)).trans (Upd.of (hba _ (.cells #[.int .i64 0, .int .i64 0, .int .u64 0, .string ⟨#[]⟩] 28)))
  exact bodyPost_ret (v := .agg #[.int .i64 0, .int .i64 0, .int .u64 0, .string ⟨#[]⟩]) (by simp [results, Try.results57, go_sem, z0, z1, z2, z3, zl]) rfl (ToldX.mk_err ⟨0, 0, 0, ⟨#[]⟩⟩ trivial HE.out huF rfl hrF hi)
set_option maxRecDepth 100000 in
set_option maxHeartbeats 3200000 in
theorem valueX_0 (g : Nat) (s : ByteArray) (i : Nat) (w : World) (hr : Rfx w g s i 0) (_hi : i ≤ s.size) (hs : s.size ≤ 1000000000) (hi1 : i < s.size) (hc : s[i].toNat = 0) :
    Calls Try.prog 57 #[.pointer (some ⟨g, 0, none⟩)] w (ToldX (fun _ : Cd.V => True) vvV g s (Cd.valueR s i) w) := by
  have HE : Hid (Cd.valueR s i = .ok (⟨0, 0, 0, ⟨#[]⟩⟩, i + 1)) := by show _ = _; unfold Cd.valueR Cd.rawR; rw [nextR_ok s i hi1 0 hc]; rfl
  have hn1 : Hid (∀ W, Rfx W g s i 0 → Calls Try.prog 66 #[.pointer (some ⟨g, 0, none⟩)] W fun e w' => e = .returned (.int .i64 0) ∧ Upd g W w' ∧ Rfx w' g s (i + 1) 0) := fun W h => by have := nextX_ok g s i W h hi1 (by omega); rwa [show (s[i].toNat : Int) = 0 by rw [hc]; rfl] at this
  go_enter Try.func57, Try.ntmps57
  go_wp2_with fail
  have hb0 := hba w (.cells #[.int .i64 0, .int .i64 0, .int .u64 0, .string ⟨#[]⟩] 28)
  have hr0 := hr.keep hb0
  have bz0 : BV (w.alloc (.cells #[.int .i64 0, .int .i64 0, .int .u64 0, .string ⟨#[]⟩] 28)) w.heap.size 0 0 0 ⟨#[]⟩ := BV.new w 0 0 0 ⟨#[]⟩
  have hg0 : w.heap.size ≠ g := by have := hr.cells.2.2.2.2.2; omega
  have hu0 : Upd g w _ := Upd.of hb0
  refine (hn1.out _ hr0).mono ?_; rintro e w1 ⟨rfl, hu1, hr1⟩
  have bz1 := bz0.upd hu1 hg0
  replace hu1 := hu0.trans hu1
  clear hb0 hr0 bz0 hu0
  obtain ⟨z0, z1, z2, z3, zf0, zf1, zf2, zf3, zl⟩ := bz1.cells
  have hne1 : w.heap.size ≠ w1.heap.size := Nat.ne_of_lt zl
  have hne2 : w1.heap.size ≠ w.heap.size := fun h => hne1 h.symm
  go_wp2_with fail
  have hrF := ((((hr1.setO (o := 0) (.int .i64 0) hg0).setO (o := 1) (.int .i64 0) hg0).setO (o := 2) (.int .u64 0) hg0).setO (o := 3) (.string ⟨#[]⟩) hg0).keep (hba _ (.cells #[.int .i64 0, .int .i64 0, .int .u64 0, .string ⟨#[]⟩] 28))
  have huF := ((((hu1.setNew (o := 0) (.int .i64 0) (Nat.le_refl _)).setNew (o := 1) (.int .i64 0) (Nat.le_refl _)).setNew (o := 2) (.int .u64 0) (Nat.le_refl _)).setNew (o := 3) (.string ⟨#[]⟩) (Nat.le_refl _)).trans (Upd.of (hba _ (.cells #[.int .i64 0, .int .i64 0, .int .u64 0, .string ⟨#[]⟩] 28)))
  exact bodyPost_ret (v := .agg #[.int .i64 0, .int .i64 0, .int .u64 0, .string ⟨#[]⟩]) (by simp [results, Try.results57, go_sem, z0, z1, z2, z3, zl]) rfl (ToldX.mk_ok HE.out huF rfl hrF (by omega))
set_option maxRecDepth 100000 in
set_option maxHeartbeats 3200000 in
theorem valueX_more (g : Nat) (s : ByteArray) (i : Nat) (w : World) (hr : Rfx w g s i 0) (_hi : i ≤ s.size) (hs : s.size ≤ 1000000000) (hi1 : i < s.size) (c : Nat) (hc : s[i].toNat = c) (hc5 : 5 < c) :
    Calls Try.prog 57 #[.pointer (some ⟨g, 0, none⟩)] w (ToldX (fun _ : Cd.V => True) vvV g s (Cd.valueR s i) w) := by
  have hraw : Cd.rawR s i = .ok (⟨c, 0, 0, ⟨#[]⟩⟩, i + 1) := by unfold Cd.rawR; rw [nextR_ok s i hi1 c hc]; dsimp only; rw [if_neg (by omega), if_neg (by omega), if_neg (by omega), if_neg (by omega)]
  have hright : (⟨(c : Int), 0, 0, ⟨#[]⟩⟩ : Cd.V).right = false := by show Va.right (c : Int) 0 0 ⟨#[]⟩ = false; unfold Va.right; rw [if_neg (by omega), if_neg (by omega), if_neg (by omega), if_neg (by omega), if_neg (by omega)]
  have HE : Hid (Cd.valueR s i = .error 7) := by show _ = _; unfold Cd.valueR; rw [hraw]; simp only [hright]; rfl
  have e0 : (5 : Int) < (c : Int) := by omega
  have e1 : ((c : Int) == 1) = false := by rw [beq_eq_false_iff_ne]; omega
  have e2 : ((c : Int) == 2) = false := by rw [beq_eq_false_iff_ne]; omega
  have e3 : ((c : Int) == 3) = false := by rw [beq_eq_false_iff_ne]; omega
  have e4 : ((c : Int) == 4) = false := by rw [beq_eq_false_iff_ne]; omega
  have e5 : ((c : Int) == 5) = false := by rw [beq_eq_false_iff_ne]; omega
  have hfail := hid (fun W h => failX_new g s (i + 1) 7 W h)
  have hn1 : Hid (∀ W, Rfx W g s i 0 → Calls Try.prog 66 #[.pointer (some ⟨g, 0, none⟩)] W fun e w' => e = .returned (.int .i64 (c : Int)) ∧ Upd g W w' ∧ Rfx w' g s (i + 1) 0) := fun W h => by have := nextX_ok g s i W h hi1 (by omega); rwa [hc] at this
  clear hraw hright hc
  go_enter Try.func57, Try.ntmps57
  go_wp2_with fail
  have hb0 := hba w (.cells #[.int .i64 0, .int .i64 0, .int .u64 0, .string ⟨#[]⟩] 28)
  have hr0 := hr.keep hb0
  have bz0 : BV (w.alloc (.cells #[.int .i64 0, .int .i64 0, .int .u64 0, .string ⟨#[]⟩] 28)) w.heap.size 0 0 0 ⟨#[]⟩ := BV.new w 0 0 0 ⟨#[]⟩
  have hg0 : w.heap.size ≠ g := by have := hr.cells.2.2.2.2.2; omega
  have hu0 : Upd g w _ := Upd.of hb0
  refine (hn1.out _ hr0).mono ?_; rintro e w1 ⟨rfl, hu1, hr1⟩
  have bz1 := bz0.upd hu1 hg0
  replace hu1 := hu0.trans hu1
  clear hb0 hr0 bz0 hu0
  go_wp2_with fail
  have bt1 : BV (w1.alloc (.cells #[.int .i64 (c : Int), .int .i64 0, .int .u64 0, .string ⟨#[]⟩] 28)) w1.heap.size (c : Int) 0 0 ⟨#[]⟩ := BV.new w1 (c : Int) 0 0 ⟨#[]⟩
  have hba1 := hba w1 (.cells #[.int .i64 (c : Int), .int .i64 0, .int .u64 0, .string ⟨#[]⟩] 28)
  have bz2 := bz1.keep hba1
  have hr2 := hr1.keep hba1
  have hu2 := hu1.trans (Upd.of hba1)
  have hg1 : w1.heap.size ≠ g := by have := hr1.cells.2.2.2.2.2; omega
  have hg2 : w1.heap.size ≠ w.heap.size := by have := bz1.cells.2.2.2.2.2.2.2.2; omega
  have hg3 : w.heap.size ≤ w1.heap.size := hu1.size
  generalize hz1 : w1.heap.size = b3 at *
  generalize w1.alloc (.cells #[.int .i64 (c : Int), .int .i64 0, .int .u64 0, .string ⟨#[]⟩] 28) = w2 at *
  clear hba1 hr1 hu1 bz1 hz1 w1
  obtain ⟨t0, t1, t2, t3, tf0, tf1, tf2, tf3, tl⟩ := bt1.cells
  go_wp2_with fail
  refine (hfail.out _ hr2).mono ?_; rintro e w3 ⟨⟨vf, rfl⟩, hu3, hrW⟩
  have bzW := bz2.upd hu3 hg0
  have btW := bt1.upd hu3 hg1
  have huW := hu2.trans hu3
  clear hu2 hr2 bz2 bt1 hu3 t0 t1 t2 t3 tf0 tf1 tf2 tf3 tl
  obtain ⟨z0, z1, z2, z3, zf0, zf1, zf2, zf3, _⟩ := bzW.cells
  obtain ⟨t0, t1, t2, t3, tf0, tf1, tf2, tf3, tl⟩ := btW.cells
  go_wp2_with fail
  have hrF := (((hrW.setO (o := 0) (.int .i64 (c : Int)) hg0).setO (o := 1) (.int .i64 0) hg0).setO (o := 2) (.int .u64 0) hg0).setO (o := 3) (.string ⟨#[]⟩) hg0
  have huF := (((huW.setNew (o := 0) (.int .i64 (c : Int)) (Nat.le_refl _)).setNew (o := 1) (.int .i64 0) (Nat.le_refl _)).setNew (o := 2) (.int .u64 0) (Nat.le_refl _)).setNew (o := 3) (.string ⟨#[]⟩) (Nat.le_refl _)
  exact bodyPost_ret (v := .agg #[.int .i64 (c : Int), .int .i64 0, .int .u64 0, .string ⟨#[]⟩]) (by simp [results, Try.results57, go_sem, z0, z1, z2, z3]) rfl (ToldX.mk_err ⟨(c : Int), 0, 0, ⟨#[]⟩⟩ trivial HE.out huF rfl hrF (by omega))
end Go.Proofs.Ytanmomlkdfnakaa
