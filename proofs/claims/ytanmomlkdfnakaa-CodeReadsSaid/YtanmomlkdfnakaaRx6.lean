/-
  The reference's value of a reader, kinds 1, 2, 4, 5: its contract. Condition: the text has at most 1000000000 bytes.
-/
import Derived.Test.YtanmomlkdfnakaaRx5
namespace Go.Proofs.Ytanmomlkdfnakaa
open Go.RowKit

set_option maxRecDepth 100000 in
set_option maxHeartbeats 3200000 in
theorem valueX_1 (g : Nat) (s : ByteArray) (i : Nat) (w : World) (hr : Rfx w g s i 0) (_hi : i ≤ s.size) (hs : s.size ≤ 1000000000) (hi1 : i < s.size) (hc : s[i].toNat = 1) :
    Calls Try.prog 57 #[.pointer (some ⟨g, 0, none⟩)] w (ToldX (fun _ : Cd.V => True) vvV g s (Cd.valueR s i) w) := by
  have hraw : Hid (Cd.rawR s i = match Cd.nextR s.data.toList (i + 1) with | .error e => .error e | .ok (n, m) => .ok (⟨1, n, 0, ⟨#[]⟩⟩, m)) := by show _ = _; unfold Cd.rawR; rw [nextR_ok s i hi1 1 hc]; rfl
  have hn1 : Hid (∀ W, Rfx W g s i 0 → Calls Try.prog 66 #[.pointer (some ⟨g, 0, none⟩)] W fun e w' => e = .returned (.int .i64 1) ∧ Upd g W w' ∧ Rfx w' g s (i + 1) 0) := fun W h => by have := nextX_ok g s i W h hi1 (by omega); rwa [show (s[i].toNat : Int) = 1 by rw [hc]; rfl] at this
  by_cases hi2 : i + 1 < s.size
  · obtain ⟨d, hd⟩ : ∃ d : Nat, s[i + 1].toNat = d := ⟨_, rfl⟩
    have HE : Hid (Cd.rawR s i = .ok (⟨1, d, 0, ⟨#[]⟩⟩, i + 1 + 1)) := by show _ = _; rw [hraw.out, nextR_ok s (i + 1) hi2 d hd]
    have hn2 : Hid (∀ W, Rfx W g s (i + 1) 0 → Calls Try.prog 66 #[.pointer (some ⟨g, 0, none⟩)] W fun e w' => e = .returned (.int .i64 (d : Int)) ∧ Upd g W w' ∧ Rfx w' g s (i + 1 + 1) 0) := fun W h => by have := nextX_ok g s (i + 1) W h hi2 (by omega); rwa [hd] at this
    have HW : Hid (Cd.valueR s i = if Va.right 1 (d : Int) 0 ⟨#[]⟩ then .ok (⟨1, d, 0, ⟨#[]⟩⟩, i + 1 + 1) else .error 7) := by show _ = _; unfold Cd.valueR; rw [HE.out]; rfl
    have hdl : d < 256 := by rw [← hd]; exact s[i + 1].toNat_lt
    clear hraw hd hc HE
    by_cases h1 : 1 < d
    · have h1' : (1 : Int) < (d : Int) := by omega
      have HZ : Hid (Cd.valueR s i = .error 7) := by
        show _ = _
        rw [HW.out, if_neg]
        unfold Va.right
        rw [if_neg (by decide), if_pos rfl, decide_eq_false (show ¬ (d : Int) = 0 by omega), decide_eq_false (show ¬ (d : Int) = 1 by omega)]
        decide
      have hfail := hid (fun W h => failX_new g s (i + 1 + 1) 7 W h)
      clear HW
      go_enter Try.func57, Try.ntmps57
      go_wp2_with fail
      have hb0 := hba w (.cells #[.int .i64 0, .int .i64 0, .int .u64 0, .string ⟨#[]⟩] 28)
      have hr0 := hr.keep hb0
      have bz0 : BV (w.alloc (.cells #[.int .i64 0, .int .i64 0, .int .u64 0, .string ⟨#[]⟩] 28)) w.heap.size 0 0 0 ⟨#[]⟩ := BV.new w 0 0 0 ⟨#[]⟩
      have hg0 : w.heap.size ≠ g := by have := hr.cells.2.2.2.2.2; omega
      have hu0 : Upd g w _ := Upd.of hb0
      refine (hn1.out _ hr0).mono ?_; rintro e w1 ⟨rfl, hu1, hr1⟩
      have bz1 := bz0.upd hu1 hg0
      replace hu1 := hu0.trans hu1
      clear hb0 hr0 bz0 hu0
      go_wp2_with fail
      have bt1 : BV (w1.alloc (.cells #[.int .i64 1, .int .i64 0, .int .u64 0, .string ⟨#[]⟩] 28)) w1.heap.size 1 0 0 ⟨#[]⟩ := BV.new w1 1 0 0 ⟨#[]⟩
      have hba1 := hba w1 (.cells #[.int .i64 1, .int .i64 0, .int .u64 0, .string ⟨#[]⟩] 28)
      have bz2 := bz1.keep hba1
      have hr2 := hr1.keep hba1
      have hu2 := hu1.trans (Upd.of hba1)
      have hg1 : w1.heap.size ≠ g := by have := hr1.cells.2.2.2.2.2; omega
      have hg2 : w1.heap.size ≠ w.heap.size := by have := bz1.cells.2.2.2.2.2.2.2.2; omega
      have hg3 : w.heap.size ≤ w1.heap.size := hu1.size
      generalize hz1 : w1.heap.size = b3 at *
      generalize w1.alloc (.cells #[.int .i64 1, .int .i64 0, .int .u64 0, .string ⟨#[]⟩] 28) = w2 at *
      clear hba1 hr1 hu1 bz1 hz1 w1
      refine (hn2.out _ hr2).mono ?_; rintro e w3 ⟨rfl, hu3, hr3⟩
      have bz3 := bz2.upd hu3 hg0
      have bt3 := bt1.upd hu3 hg1
      replace hu3 := hu2.trans hu3
      clear hu2 hr2 bz2 bt1
      obtain ⟨t0, t1, t2, t3, tf0, tf1, tf2, tf3, tl⟩ := bt3.cells
      go_wp2_with fail
      clear t0 t1 t2 t3 tf0 tf1 tf2 tf3 tl
      have hrW := hr3.setO (o := 1) (.int .i64 (d : Int)) hg1
      have btW := bt3.setN (d : Int)
      have bzW := bz3.setO (o := 1) (.int .i64 (d : Int)) hg2
      have huW := hu3.setNew (o := 1) (.int .i64 (d : Int)) hg3
      generalize w3.setCell ⟨b3, 1, none⟩ (.int .i64 (d : Int)) = w4 at *
      clear hr3 bt3 bz3 hu3 w3
      refine (hfail.out _ hrW).mono ?_; rintro e w5 ⟨⟨vf, rfl⟩, hu5, hr5⟩
      replace hrW := hr5
      replace bzW := bzW.upd hu5 hg0
      replace btW := btW.upd hu5 hg1
      replace huW := huW.trans hu5
      clear hu5 hr5
      obtain ⟨z0, z1, z2, z3, zf0, zf1, zf2, zf3, _⟩ := bzW.cells
      obtain ⟨t0, t1, t2, t3, tf0, tf1, tf2, tf3, tl⟩ := btW.cells
      go_wp2_with fail
      have hrF := (((hrW.setO (o := 0) (.int .i64 1) hg0).setO (o := 1) (.int .i64 (d : Int)) hg0).setO (o := 2) (.int .u64 0) hg0).setO (o := 3) (.string ⟨#[]⟩) hg0
      have huF := (((huW.setNew (o := 0) (.int .i64 1) (Nat.le_refl _)).setNew (o := 1) (.int .i64 (d : Int)) (Nat.le_refl _)).setNew (o := 2) (.int .u64 0) (Nat.le_refl _)).setNew (o := 3) (.string ⟨#[]⟩) (Nat.le_refl _)
      exact bodyPost_ret (v := .agg #[.int .i64 1, .int .i64 (d : Int), .int .u64 0, .string ⟨#[]⟩]) (by simp [results, Try.results57, go_sem, z0, z1, z2, z3]) rfl (ToldX.mk_err ⟨1, (d : Int), 0, ⟨#[]⟩⟩ trivial HZ.out huF rfl hrF (by omega))
    · have h1' : ¬ (1 : Int) < (d : Int) := by omega
      have HZ : Hid (Cd.valueR s i = .ok (⟨1, d, 0, ⟨#[]⟩⟩, i + 1 + 1)) := by
        show _ = _
        rw [HW.out, if_pos]
        have : d = 0 ∨ d = 1 := by omega
        rcases this with rfl | rfl <;> decide
      clear HW
      go_enter Try.func57, Try.ntmps57
      go_wp2_with fail
      have hb0 := hba w (.cells #[.int .i64 0, .int .i64 0, .int .u64 0, .string ⟨#[]⟩] 28)
      have hr0 := hr.keep hb0
      have bz0 : BV (w.alloc (.cells #[.int .i64 0, .int .i64 0, .int .u64 0, .string ⟨#[]⟩] 28)) w.heap.size 0 0 0 ⟨#[]⟩ := BV.new w 0 0 0 ⟨#[]⟩
      have hg0 : w.heap.size ≠ g := by have := hr.cells.2.2.2.2.2; omega
      have hu0 : Upd g w _ := Upd.of hb0
      refine (hn1.out _ hr0).mono ?_; rintro e w1 ⟨rfl, hu1, hr1⟩
      have bz1 := bz0.upd hu1 hg0
      replace hu1 := hu0.trans hu1
      clear hb0 hr0 bz0 hu0
      go_wp2_with fail
      have bt1 : BV (w1.alloc (.cells #[.int .i64 1, .int .i64 0, .int .u64 0, .string ⟨#[]⟩] 28)) w1.heap.size 1 0 0 ⟨#[]⟩ := BV.new w1 1 0 0 ⟨#[]⟩
      have hba1 := hba w1 (.cells #[.int .i64 1, .int .i64 0, .int .u64 0, .string ⟨#[]⟩] 28)
      have bz2 := bz1.keep hba1
      have hr2 := hr1.keep hba1
      have hu2 := hu1.trans (Upd.of hba1)
      have hg1 : w1.heap.size ≠ g := by have := hr1.cells.2.2.2.2.2; omega
      have hg2 : w1.heap.size ≠ w.heap.size := by have := bz1.cells.2.2.2.2.2.2.2.2; omega
      have hg3 : w.heap.size ≤ w1.heap.size := hu1.size
      generalize hz1 : w1.heap.size = b3 at *
      generalize w1.alloc (.cells #[.int .i64 1, .int .i64 0, .int .u64 0, .string ⟨#[]⟩] 28) = w2 at *
      clear hba1 hr1 hu1 bz1 hz1 w1
      refine (hn2.out _ hr2).mono ?_; rintro e w3 ⟨rfl, hu3, hr3⟩
      have bz3 := bz2.upd hu3 hg0
      have bt3 := bt1.upd hu3 hg1
      replace hu3 := hu2.trans hu3
      clear hu2 hr2 bz2 bt1
      obtain ⟨t0, t1, t2, t3, tf0, tf1, tf2, tf3, tl⟩ := bt3.cells
      obtain ⟨z0, z1, z2, z3, zf0, zf1, zf2, zf3, _⟩ := bz3.cells
      have hne1 : w.heap.size ≠ b3 := fun h => hg2 h.symm
      go_wp2_with fail
      have hrW := hr3.setO (o := 1) (.int .i64 (d : Int)) hg1
      have btW := bt3.setN (d : Int)
      have bzW := bz3.setO (o := 1) (.int .i64 (d : Int)) hg2
      have huW := hu3.setNew (o := 1) (.int .i64 (d : Int)) hg3
      have hrF := (((hrW.setO (o := 0) (.int .i64 1) hg0).setO (o := 1) (.int .i64 (d : Int)) hg0).setO (o := 2) (.int .u64 0) hg0).setO (o := 3) (.string ⟨#[]⟩) hg0
      have huF := (((huW.setNew (o := 0) (.int .i64 1) (Nat.le_refl _)).setNew (o := 1) (.int .i64 (d : Int)) (Nat.le_refl _)).setNew (o := 2) (.int .u64 0) (Nat.le_refl _)).setNew (o := 3) (.string ⟨#[]⟩) (Nat.le_refl _)
      exact bodyPost_ret (v := .agg #[.int .i64 1, .int .i64 (d : Int), .int .u64 0, .string ⟨#[]⟩]) (by simp [results, Try.results57, go_sem, z0, z1, z2, z3]) rfl (ToldX.mk_ok HZ.out huF rfl hrF (by omega))
  · have HE : Hid (Cd.valueR s i = .error 8) := by show _ = _; unfold Cd.valueR; rw [hraw.out, nextR_no s (i + 1) (by omega)]
    have hn2 : Hid (∀ W, Rfx W g s (i + 1) 0 → Calls Try.prog 66 #[.pointer (some ⟨g, 0, none⟩)] W fun e w' => e = .returned (.int .i64 0) ∧ Upd g W w' ∧ Rfx w' g s (i + 1) 8) := fun W h => nextX_no g s (i + 1) W h (by omega)
    clear hraw hc
    go_enter Try.func57, Try.ntmps57
    go_wp2_with fail
    have hb0 := hba w (.cells #[.int .i64 0, .int .i64 0, .int .u64 0, .string ⟨#[]⟩] 28)
    have hr0 := hr.keep hb0
    have bz0 : BV (w.alloc (.cells #[.int .i64 0, .int .i64 0, .int .u64 0, .string ⟨#[]⟩] 28)) w.heap.size 0 0 0 ⟨#[]⟩ := BV.new w 0 0 0 ⟨#[]⟩
    have hg0 : w.heap.size ≠ g := by have := hr.cells.2.2.2.2.2; omega
    have hu0 : Upd g w _ := Upd.of hb0
    refine (hn1.out _ hr0).mono ?_; rintro e w1 ⟨rfl, hu1, hr1⟩
    have bz1 := bz0.upd hu1 hg0
    replace hu1 := hu0.trans hu1
    clear hb0 hr0 bz0 hu0
    go_wp2_with fail
    have bt1 : BV (w1.alloc (.cells #[.int .i64 1, .int .i64 0, .int .u64 0, .string ⟨#[]⟩] 28)) w1.heap.size 1 0 0 ⟨#[]⟩ := BV.new w1 1 0 0 ⟨#[]⟩
    have hba1 := hba w1 (.cells #[.int .i64 1, .int .i64 0, .int .u64 0, .string ⟨#[]⟩] 28)
    have bz2 := bz1.keep hba1
    have hr2 := hr1.keep hba1
    have hu2 := hu1.trans (Upd.of hba1)
    have hg1 : w1.heap.size ≠ g := by have := hr1.cells.2.2.2.2.2; omega
    have hg2 : w1.heap.size ≠ w.heap.size := by have := bz1.cells.2.2.2.2.2.2.2.2; omega
    have hg3 : w.heap.size ≤ w1.heap.size := hu1.size
    generalize hz1 : w1.heap.size = b3 at *
    generalize w1.alloc (.cells #[.int .i64 1, .int .i64 0, .int .u64 0, .string ⟨#[]⟩] 28) = w2 at *
    clear hba1 hr1 hu1 bz1 hz1 w1
    refine (hn2.out _ hr2).mono ?_; rintro e w3 ⟨rfl, hu3, hr3⟩
    have bz3 := bz2.upd hu3 hg0
    have bt3 := bt1.upd hu3 hg1
    replace hu3 := hu2.trans hu3
    clear hu2 hr2 bz2 bt1
    obtain ⟨t0, t1, t2, t3, tf0, tf1, tf2, tf3, tl⟩ := bt3.cells
    obtain ⟨z0, z1, z2, z3, zf0, zf1, zf2, zf3, _⟩ := bz3.cells
    have hne1 : w.heap.size ≠ b3 := fun h => hg2 h.symm
    go_wp2_with fail
    have hrW := hr3.setO (o := 1) (.int .i64 0) hg1
    have btW := bt3.setN 0
    have bzW := bz3.setO (o := 1) (.int .i64 0) hg2
    have huW := hu3.setNew (o := 1) (.int .i64 0) hg3
    have hrF := (((hrW.setO (o := 0) (.int .i64 1) hg0).setO (o := 1) (.int .i64 0) hg0).setO (o := 2) (.int .u64 0) hg0).setO (o := 3) (.string ⟨#[]⟩) hg0
    have huF := (((huW.setNew (o := 0) (.int .i64 1) (Nat.le_refl _)).setNew (o := 1) (.int .i64 0) (Nat.le_refl _)).setNew (o := 2) (.int .u64 0) (Nat.le_refl _)).setNew (o := 3) (.string ⟨#[]⟩) (Nat.le_refl _)
    exact bodyPost_ret (v := .agg #[.int .i64 1, .int .i64 0, .int .u64 0, .string ⟨#[]⟩]) (by simp [results, Try.results57, go_sem, z0, z1, z2, z3]) rfl (ToldX.mk_err ⟨1, 0, 0, ⟨#[]⟩⟩ trivial HE.out huF rfl hrF (by omega))
set_option maxRecDepth 100000 in
set_option maxHeartbeats 3200000 in
theorem valueX_2 (g : Nat) (s : ByteArray) (i : Nat) (w : World) (hr : Rfx w g s i 0) (_hi : i ≤ s.size) (hs : s.size ≤ 1000000000) (hi1 : i < s.size) (hc : s[i].toNat = 2) :
    Calls Try.prog 57 #[.pointer (some ⟨g, 0, none⟩)] w (ToldX (fun _ : Cd.V => True) vvV g s (Cd.valueR s i) w) := by
  have hraw : Hid (Cd.rawR s i = match Cd.intR s.data.toList (i + 1) with | .error e => .error e | .ok (x, m) => .ok (⟨2, x, 0, ⟨#[]⟩⟩, m)) := by show _ = _; unfold Cd.rawR; rw [nextR_ok s i hi1 2 hc]; rfl
  have hn1 : Hid (∀ W, Rfx W g s i 0 → Calls Try.prog 66 #[.pointer (some ⟨g, 0, none⟩)] W fun e w' => e = .returned (.int .i64 2) ∧ Upd g W w' ∧ Rfx w' g s (i + 1) 0) := fun W h => by have := nextX_ok g s i W h hi1 (by omega); rwa [show (s[i].toNat : Int) = 2 by rw [hc]; rfl] at this
  have hlem := hid (fun W h => wholeX_rd g s (i + 1) W h (by omega) hs)
  cases hres : Cd.intR s.data.toList (i + 1) with
  | error x =>
    have HE : Hid (Cd.valueR s i = .error x) := by show _ = _; unfold Cd.valueR; rw [hraw.out, hres]
    have hn2 : Hid (∀ W, Rfx W g s (i + 1) 0 → Calls Try.prog 50 #[.pointer (some ⟨g, 0, none⟩)] W fun e w' => e = .returned (.int .i64 0) ∧ Upd g W w' ∧ ∃ j, Rfx w' g s j x ∧ j ≤ s.size) := fun W h => by
      refine (hlem.out W h).mono ?_
      rintro e w' ⟨y, he, hu, hm⟩
      rw [hres] at hm
      obtain ⟨hz, j, hR, hj⟩ := hm
      exact ⟨by rw [he, hz], hu, j, hR, hj⟩
    clear hraw hc hres hlem
    go_enter Try.func57, Try.ntmps57
    go_wp2_with fail
    have hb0 := hba w (.cells #[.int .i64 0, .int .i64 0, .int .u64 0, .string ⟨#[]⟩] 28)
    have hr0 := hr.keep hb0
    have bz0 : BV (w.alloc (.cells #[.int .i64 0, .int .i64 0, .int .u64 0, .string ⟨#[]⟩] 28)) w.heap.size 0 0 0 ⟨#[]⟩ := BV.new w 0 0 0 ⟨#[]⟩
    have hg0 : w.heap.size ≠ g := by have := hr.cells.2.2.2.2.2; omega
    have hu0 : Upd g w _ := Upd.of hb0
    refine (hn1.out _ hr0).mono ?_; rintro e w1 ⟨rfl, hu1, hr1⟩
    have bz1 := bz0.upd hu1 hg0
    replace hu1 := hu0.trans hu1
    clear hb0 hr0 bz0 hu0
    go_wp2_with fail
    have bt1 : BV (w1.alloc (.cells #[.int .i64 2, .int .i64 0, .int .u64 0, .string ⟨#[]⟩] 28)) w1.heap.size 2 0 0 ⟨#[]⟩ := BV.new w1 2 0 0 ⟨#[]⟩
    have hba1 := hba w1 (.cells #[.int .i64 2, .int .i64 0, .int .u64 0, .string ⟨#[]⟩] 28)
    have bz2 := bz1.keep hba1
    have hr2 := hr1.keep hba1
    have hu2 := hu1.trans (Upd.of hba1)
    have hg1 : w1.heap.size ≠ g := by have := hr1.cells.2.2.2.2.2; omega
    have hg2 : w1.heap.size ≠ w.heap.size := by have := bz1.cells.2.2.2.2.2.2.2.2; omega
    have hg3 : w.heap.size ≤ w1.heap.size := hu1.size
    generalize hz1 : w1.heap.size = b3 at *
    generalize w1.alloc (.cells #[.int .i64 2, .int .i64 0, .int .u64 0, .string ⟨#[]⟩] 28) = w2 at *
    clear hba1 hr1 hu1 bz1 hz1 w1
    refine (hn2.out _ hr2).mono ?_; rintro e w3 ⟨rfl, hu3, j3, hr3, hj3⟩
    have bz3 := bz2.upd hu3 hg0
    have bt3 := bt1.upd hu3 hg1
    replace hu3 := hu2.trans hu3
    clear hu2 hr2 bz2 bt1
    obtain ⟨t0, t1, t2, t3, tf0, tf1, tf2, tf3, tl⟩ := bt3.cells
    obtain ⟨z0, z1, z2, z3, zf0, zf1, zf2, zf3, _⟩ := bz3.cells
    have hne1 : w.heap.size ≠ b3 := fun h => hg2 h.symm
    go_wp2_with fail
    have hrW := hr3.setO (o := 1) (.int .i64 0) hg1
    have btW := bt3.setN 0
    have bzW := bz3.setO (o := 1) (.int .i64 0) hg2
    have huW := hu3.setNew (o := 1) (.int .i64 0) hg3
    have hrF := (((hrW.setO (o := 0) (.int .i64 2) hg0).setO (o := 1) (.int .i64 0) hg0).setO (o := 2) (.int .u64 0) hg0).setO (o := 3) (.string ⟨#[]⟩) hg0
    have huF := (((huW.setNew (o := 0) (.int .i64 2) (Nat.le_refl _)).setNew (o := 1) (.int .i64 0) (Nat.le_refl _)).setNew (o := 2) (.int .u64 0) (Nat.le_refl _)).setNew (o := 3) (.string ⟨#[]⟩) (Nat.le_refl _)
    exact bodyPost_ret (v := .agg #[.int .i64 2, .int .i64 0, .int .u64 0, .string ⟨#[]⟩]) (by simp [results, Try.results57, go_sem, z0, z1, z2, z3]) rfl (ToldX.mk_err ⟨2, 0, 0, ⟨#[]⟩⟩ trivial HE.out huF rfl hrF hj3)
  | ok p =>
    obtain ⟨n, j⟩ := p
    have hr1 : Va.right 2 n 0 ⟨#[]⟩ = true := by unfold Va.right; rw [if_neg (by decide), if_neg (by decide), if_pos rfl]; decide
    have HE : Hid (Cd.valueR s i = .ok (⟨2, n, 0, ⟨#[]⟩⟩, j)) := by show _ = _; unfold Cd.valueR; rw [hraw.out, hres]; show (if Va.right 2 n 0 ⟨#[]⟩ = true then _ else _) = _; rw [if_pos hr1]
    have hn2 : Hid (∀ W, Rfx W g s (i + 1) 0 → Calls Try.prog 50 #[.pointer (some ⟨g, 0, none⟩)] W fun e w' => e = .returned (.int .i64 n) ∧ Upd g W w' ∧ Rfx w' g s j 0 ∧ j ≤ s.size) := fun W h => by
      refine (hlem.out W h).mono ?_
      rintro e w' ⟨y, he, hu, hm⟩
      rw [hres] at hm
      obtain ⟨hz, hR, hj⟩ := hm
      exact ⟨by rw [he, hz], hu, hR, hj⟩
    clear hraw hc hres hlem hr1
    go_enter Try.func57, Try.ntmps57
    go_wp2_with fail
    have hb0 := hba w (.cells #[.int .i64 0, .int .i64 0, .int .u64 0, .string ⟨#[]⟩] 28)
    have hr0 := hr.keep hb0
    have bz0 : BV (w.alloc (.cells #[.int .i64 0, .int .i64 0, .int .u64 0, .string ⟨#[]⟩] 28)) w.heap.size 0 0 0 ⟨#[]⟩ := BV.new w 0 0 0 ⟨#[]⟩
    have hg0 : w.heap.size ≠ g := by have := hr.cells.2.2.2.2.2; omega
    have hu0 : Upd g w _ := Upd.of hb0
    refine (hn1.out _ hr0).mono ?_; rintro e w1 ⟨rfl, hu1, hr1⟩
    have bz1 := bz0.upd hu1 hg0
    replace hu1 := hu0.trans hu1
    clear hb0 hr0 bz0 hu0
    go_wp2_with fail
    have bt1 : BV (w1.alloc (.cells #[.int .i64 2, .int .i64 0, .int .u64 0, .string ⟨#[]⟩] 28)) w1.heap.size 2 0 0 ⟨#[]⟩ := BV.new w1 2 0 0 ⟨#[]⟩
    have hba1 := hba w1 (.cells #[.int .i64 2, .int .i64 0, .int .u64 0, .string ⟨#[]⟩] 28)
    have bz2 := bz1.keep hba1
    have hr2 := hr1.keep hba1
    have hu2 := hu1.trans (Upd.of hba1)
    have hg1 : w1.heap.size ≠ g := by have := hr1.cells.2.2.2.2.2; omega
    have hg2 : w1.heap.size ≠ w.heap.size := by have := bz1.cells.2.2.2.2.2.2.2.2; omega
    have hg3 : w.heap.size ≤ w1.heap.size := hu1.size
    generalize hz1 : w1.heap.size = b3 at *
    generalize w1.alloc (.cells #[.int .i64 2, .int .i64 0, .int .u64 0, .string ⟨#[]⟩] 28) = w2 at *
    clear hba1 hr1 hu1 bz1 hz1 w1
    refine (hn2.out _ hr2).mono ?_; rintro e w3 ⟨rfl, hu3, hr3, hj3⟩
    have bz3 := bz2.upd hu3 hg0
    have bt3 := bt1.upd hu3 hg1
    replace hu3 := hu2.trans hu3
    clear hu2 hr2 bz2 bt1
    obtain ⟨t0, t1, t2, t3, tf0, tf1, tf2, tf3, tl⟩ := bt3.cells
    obtain ⟨z0, z1, z2, z3, zf0, zf1, zf2, zf3, _⟩ := bz3.cells
    have hne1 : w.heap.size ≠ b3 := fun h => hg2 h.symm
    go_wp2_with fail
    have hrW := hr3.setO (o := 1) (.int .i64 n) hg1
    have btW := bt3.setN n
    have bzW := bz3.setO (o := 1) (.int .i64 n) hg2
    have huW := hu3.setNew (o := 1) (.int .i64 n) hg3
    have hrF := (((hrW.setO (o := 0) (.int .i64 2) hg0).setO (o := 1) (.int .i64 n) hg0).setO (o := 2) (.int .u64 0) hg0).setO (o := 3) (.string ⟨#[]⟩) hg0
    have huF := (((huW.setNew (o := 0) (.int .i64 2) (Nat.le_refl _)).setNew (o := 1) (.int .i64 n) (Nat.le_refl _)).setNew (o := 2) (.int .u64 0) (Nat.le_refl _)).setNew (o := 3) (.string ⟨#[]⟩) (Nat.le_refl _)
    exact bodyPost_ret (v := .agg #[.int .i64 2, .int .i64 n, .int .u64 0, .string ⟨#[]⟩]) (by simp [results, Try.results57, go_sem, z0, z1, z2, z3]) rfl (ToldX.mk_ok HE.out huF rfl hrF hj3)
theorem textR_bound {s : ByteArray} {most i j : Nat} {t : ByteArray} (h : Cd.textR s most i = .ok (t, j)) : t.size ≤ most := by
  unfold Cd.textR at h
  split at h
  · cases h
  · split at h
    · cases h
    · split at h
      · cases h
      · have e : s.extract _ _ = t := congrArg (fun r : Cd.R ByteArray => match r with | .ok x => x.1 | .error _ => t) h
        rw [← e]; simp; omega
set_option maxRecDepth 100000 in
set_option maxHeartbeats 3200000 in
theorem valueX_4 (g : Nat) (s : ByteArray) (i : Nat) (w : World) (hr : Rfx w g s i 0) (_hi : i ≤ s.size) (hs : s.size ≤ 1000000000) (hi1 : i < s.size) (hc : s[i].toNat = 4) :
    Calls Try.prog 57 #[.pointer (some ⟨g, 0, none⟩)] w (ToldX (fun _ : Cd.V => True) vvV g s (Cd.valueR s i) w) := by
  have hraw : Hid (Cd.rawR s i = match Cd.textR s 4096 (i + 1) with | .error e => .error e | .ok (x, m) => .ok (⟨4, 0, 0, x⟩, m)) := by show _ = _; unfold Cd.rawR; rw [nextR_ok s i hi1 4 hc]; rfl
  have hn1 : Hid (∀ W, Rfx W g s i 0 → Calls Try.prog 66 #[.pointer (some ⟨g, 0, none⟩)] W fun e w' => e = .returned (.int .i64 4) ∧ Upd g W w' ∧ Rfx w' g s (i + 1) 0) := fun W h => by have := nextX_ok g s i W h hi1 (by omega); rwa [show (s[i].toNat : Int) = 4 by rw [hc]; rfl] at this
  have hlem := hid (fun W h => textX_rd 4096 (by omega) g s (i + 1) W h (by omega) hs)
  cases hres : Cd.textR s 4096 (i + 1) with
  | error x =>
    have HE : Hid (Cd.valueR s i = .error x) := by show _ = _; unfold Cd.valueR; rw [hraw.out, hres]
    have hn2 : Hid (∀ W, Rfx W g s (i + 1) 0 → Calls Try.prog 54 #[.pointer (some ⟨g, 0, none⟩), .int .u64 4096] W fun e w' => e = .returned (.string ⟨#[]⟩) ∧ Upd g W w' ∧ ∃ j, Rfx w' g s j x ∧ j ≤ s.size) := fun W h => by
      refine (hlem.out W h).mono ?_
      rintro e w' ⟨y, he, hu, hm⟩
      rw [hres] at hm
      obtain ⟨hz, j, hR, hj⟩ := hm
      exact ⟨by rw [he, hz], hu, j, hR, hj⟩
    clear hraw hc hres hlem
    go_enter Try.func57, Try.ntmps57
    go_wp2_with fail
    have hb0 := hba w (.cells #[.int .i64 0, .int .i64 0, .int .u64 0, .string ⟨#[]⟩] 28)
    have hr0 := hr.keep hb0
    have bz0 : BV (w.alloc (.cells #[.int .i64 0, .int .i64 0, .int .u64 0, .string ⟨#[]⟩] 28)) w.heap.size 0 0 0 ⟨#[]⟩ := BV.new w 0 0 0 ⟨#[]⟩
    have hg0 : w.heap.size ≠ g := by have := hr.cells.2.2.2.2.2; omega
    have hu0 : Upd g w _ := Upd.of hb0
    refine (hn1.out _ hr0).mono ?_; rintro e w1 ⟨rfl, hu1, hr1⟩
    have bz1 := bz0.upd hu1 hg0
    replace hu1 := hu0.trans hu1
    clear hb0 hr0 bz0 hu0
    go_wp2_with fail
    have bt1 : BV (w1.alloc (.cells #[.int .i64 4, .int .i64 0, .int .u64 0, .string ⟨#[]⟩] 28)) w1.heap.size 4 0 0 ⟨#[]⟩ := BV.new w1 4 0 0 ⟨#[]⟩
    have hba1 := hba w1 (.cells #[.int .i64 4, .int .i64 0, .int .u64 0, .string ⟨#[]⟩] 28)
    have bz2 := bz1.keep hba1
    have hr2 := hr1.keep hba1
    have hu2 := hu1.trans (Upd.of hba1)
    have hg1 : w1.heap.size ≠ g := by have := hr1.cells.2.2.2.2.2; omega
    have hg2 : w1.heap.size ≠ w.heap.size := by have := bz1.cells.2.2.2.2.2.2.2.2; omega
    have hg3 : w.heap.size ≤ w1.heap.size := hu1.size
    generalize hz1 : w1.heap.size = b3 at *
    generalize w1.alloc (.cells #[.int .i64 4, .int .i64 0, .int .u64 0, .string ⟨#[]⟩] 28) = w2 at *
    clear hba1 hr1 hu1 bz1 hz1 w1
    refine (hn2.out _ hr2).mono ?_; rintro e w3 ⟨rfl, hu3, j3, hr3, hj3⟩
    have bz3 := bz2.upd hu3 hg0
    have bt3 := bt1.upd hu3 hg1
    replace hu3 := hu2.trans hu3
    clear hu2 hr2 bz2 bt1
    obtain ⟨t0, t1, t2, t3, tf0, tf1, tf2, tf3, tl⟩ := bt3.cells
    obtain ⟨z0, z1, z2, z3, zf0, zf1, zf2, zf3, _⟩ := bz3.cells
    have hne1 : w.heap.size ≠ b3 := fun h => hg2 h.symm
    go_wp2_with fail
    have hrW := hr3.setO (o := 3) (.string ⟨#[]⟩) hg1
    have btW := bt3.setS ⟨#[]⟩
    have bzW := bz3.setO (o := 3) (.string ⟨#[]⟩) hg2
    have huW := hu3.setNew (o := 3) (.string ⟨#[]⟩) hg3
    have hrF := (((hrW.setO (o := 0) (.int .i64 4) hg0).setO (o := 1) (.int .i64 0) hg0).setO (o := 2) (.int .u64 0) hg0).setO (o := 3) (.string ⟨#[]⟩) hg0
    have huF := (((huW.setNew (o := 0) (.int .i64 4) (Nat.le_refl _)).setNew (o := 1) (.int .i64 0) (Nat.le_refl _)).setNew (o := 2) (.int .u64 0) (Nat.le_refl _)).setNew (o := 3) (.string ⟨#[]⟩) (Nat.le_refl _)
    exact bodyPost_ret (v := .agg #[.int .i64 4, .int .i64 0, .int .u64 0, .string ⟨#[]⟩]) (by simp [results, Try.results57, go_sem, z0, z1, z2, z3]) rfl (ToldX.mk_err ⟨4, 0, 0, ⟨#[]⟩⟩ trivial HE.out huF rfl hrF hj3)
  | ok p =>
    obtain ⟨t, j⟩ := p
    have hr1 : Va.right 4 0 0 t = true := by have hts := textR_bound hres; unfold Va.right; rw [if_neg (by decide), if_neg (by decide), if_neg (by decide), if_neg (by decide), if_pos (by decide), decide_eq_true hts]; decide
    have HE : Hid (Cd.valueR s i = .ok (⟨4, 0, 0, t⟩, j)) := by show _ = _; unfold Cd.valueR; rw [hraw.out, hres]; show (if Va.right 4 0 0 t = true then _ else _) = _; rw [if_pos hr1]
    have hn2 : Hid (∀ W, Rfx W g s (i + 1) 0 → Calls Try.prog 54 #[.pointer (some ⟨g, 0, none⟩), .int .u64 4096] W fun e w' => e = .returned (.string t) ∧ Upd g W w' ∧ Rfx w' g s j 0 ∧ j ≤ s.size) := fun W h => by
      refine (hlem.out W h).mono ?_
      rintro e w' ⟨y, he, hu, hm⟩
      rw [hres] at hm
      obtain ⟨hz, hR, hj⟩ := hm
      exact ⟨by rw [he, hz], hu, hR, hj⟩
    clear hraw hc hres hlem hr1
    go_enter Try.func57, Try.ntmps57
    go_wp2_with fail
    have hb0 := hba w (.cells #[.int .i64 0, .int .i64 0, .int .u64 0, .string ⟨#[]⟩] 28)
    have hr0 := hr.keep hb0
    have bz0 : BV (w.alloc (.cells #[.int .i64 0, .int .i64 0, .int .u64 0, .string ⟨#[]⟩] 28)) w.heap.size 0 0 0 ⟨#[]⟩ := BV.new w 0 0 0 ⟨#[]⟩
    have hg0 : w.heap.size ≠ g := by have := hr.cells.2.2.2.2.2; omega
    have hu0 : Upd g w _ := Upd.of hb0
    refine (hn1.out _ hr0).mono ?_; rintro e w1 ⟨rfl, hu1, hr1⟩
    have bz1 := bz0.upd hu1 hg0
    replace hu1 := hu0.trans hu1
    clear hb0 hr0 bz0 hu0
    go_wp2_with fail
    have bt1 : BV (w1.alloc (.cells #[.int .i64 4, .int .i64 0, .int .u64 0, .string ⟨#[]⟩] 28)) w1.heap.size 4 0 0 ⟨#[]⟩ := BV.new w1 4 0 0 ⟨#[]⟩
    have hba1 := hba w1 (.cells #[.int .i64 4, .int .i64 0, .int .u64 0, .string ⟨#[]⟩] 28)
    have bz2 := bz1.keep hba1
    have hr2 := hr1.keep hba1
    have hu2 := hu1.trans (Upd.of hba1)
    have hg1 : w1.heap.size ≠ g := by have := hr1.cells.2.2.2.2.2; omega
    have hg2 : w1.heap.size ≠ w.heap.size := by have := bz1.cells.2.2.2.2.2.2.2.2; omega
    have hg3 : w.heap.size ≤ w1.heap.size := hu1.size
    generalize hz1 : w1.heap.size = b3 at *
    generalize w1.alloc (.cells #[.int .i64 4, .int .i64 0, .int .u64 0, .string ⟨#[]⟩] 28) = w2 at *
    clear hba1 hr1 hu1 bz1 hz1 w1
    refine (hn2.out _ hr2).mono ?_; rintro e w3 ⟨rfl, hu3, hr3, hj3⟩
    have bz3 := bz2.upd hu3 hg0
    have bt3 := bt1.upd hu3 hg1
    replace hu3 := hu2.trans hu3
    clear hu2 hr2 bz2 bt1
    obtain ⟨t0, t1, t2, t3, tf0, tf1, tf2, tf3, tl⟩ := bt3.cells
    obtain ⟨z0, z1, z2, z3, zf0, zf1, zf2, zf3, _⟩ := bz3.cells
    have hne1 : w.heap.size ≠ b3 := fun h => hg2 h.symm
    go_wp2_with fail
    have hrW := hr3.setO (o := 3) (.string t) hg1
    have btW := bt3.setS t
    have bzW := bz3.setO (o := 3) (.string t) hg2
    have huW := hu3.setNew (o := 3) (.string t) hg3
    have hrF := (((hrW.setO (o := 0) (.int .i64 4) hg0).setO (o := 1) (.int .i64 0) hg0).setO (o := 2) (.int .u64 0) hg0).setO (o := 3) (.string t) hg0
    have huF := (((huW.setNew (o := 0) (.int .i64 4) (Nat.le_refl _)).setNew (o := 1) (.int .i64 0) (Nat.le_refl _)).setNew (o := 2) (.int .u64 0) (Nat.le_refl _)).setNew (o := 3) (.string t) (Nat.le_refl _)
    exact bodyPost_ret (v := .agg #[.int .i64 4, .int .i64 0, .int .u64 0, .string t]) (by simp [results, Try.results57, go_sem, z0, z1, z2, z3]) rfl (ToldX.mk_ok HE.out huF rfl hrF hj3)
set_option maxRecDepth 100000 in
set_option maxHeartbeats 3200000 in
theorem valueX_5 (g : Nat) (s : ByteArray) (i : Nat) (w : World) (hr : Rfx w g s i 0) (_hi : i ≤ s.size) (hs : s.size ≤ 1000000000) (hi1 : i < s.size) (hc : s[i].toNat = 5) :
    Calls Try.prog 57 #[.pointer (some ⟨g, 0, none⟩)] w (ToldX (fun _ : Cd.V => True) vvV g s (Cd.valueR s i) w) := by
  have hraw : Hid (Cd.rawR s i = match Cd.textR s 4096 (i + 1) with | .error e => .error e | .ok (x, m) => .ok (⟨5, 0, 0, x⟩, m)) := by show _ = _; unfold Cd.rawR; rw [nextR_ok s i hi1 5 hc]; rfl
  have hn1 : Hid (∀ W, Rfx W g s i 0 → Calls Try.prog 66 #[.pointer (some ⟨g, 0, none⟩)] W fun e w' => e = .returned (.int .i64 5) ∧ Upd g W w' ∧ Rfx w' g s (i + 1) 0) := fun W h => by have := nextX_ok g s i W h hi1 (by omega); rwa [show (s[i].toNat : Int) = 5 by rw [hc]; rfl] at this
  have hlem := hid (fun W h => textX_rd 4096 (by omega) g s (i + 1) W h (by omega) hs)
  cases hres : Cd.textR s 4096 (i + 1) with
  | error x =>
    have HE : Hid (Cd.valueR s i = .error x) := by show _ = _; unfold Cd.valueR; rw [hraw.out, hres]
    have hn2 : Hid (∀ W, Rfx W g s (i + 1) 0 → Calls Try.prog 54 #[.pointer (some ⟨g, 0, none⟩), .int .u64 4096] W fun e w' => e = .returned (.string ⟨#[]⟩) ∧ Upd g W w' ∧ ∃ j, Rfx w' g s j x ∧ j ≤ s.size) := fun W h => by
      refine (hlem.out W h).mono ?_
      rintro e w' ⟨y, he, hu, hm⟩
      rw [hres] at hm
      obtain ⟨hz, j, hR, hj⟩ := hm
      exact ⟨by rw [he, hz], hu, j, hR, hj⟩
    clear hraw hc hres hlem
    go_enter Try.func57, Try.ntmps57
    go_wp2_with fail
    have hb0 := hba w (.cells #[.int .i64 0, .int .i64 0, .int .u64 0, .string ⟨#[]⟩] 28)
    have hr0 := hr.keep hb0
    have bz0 : BV (w.alloc (.cells #[.int .i64 0, .int .i64 0, .int .u64 0, .string ⟨#[]⟩] 28)) w.heap.size 0 0 0 ⟨#[]⟩ := BV.new w 0 0 0 ⟨#[]⟩
    have hg0 : w.heap.size ≠ g := by have := hr.cells.2.2.2.2.2; omega
    have hu0 : Upd g w _ := Upd.of hb0
    refine (hn1.out _ hr0).mono ?_; rintro e w1 ⟨rfl, hu1, hr1⟩
    have bz1 := bz0.upd hu1 hg0
    replace hu1 := hu0.trans hu1
    clear hb0 hr0 bz0 hu0
    go_wp2_with fail
    have bt1 : BV (w1.alloc (.cells #[.int .i64 5, .int .i64 0, .int .u64 0, .string ⟨#[]⟩] 28)) w1.heap.size 5 0 0 ⟨#[]⟩ := BV.new w1 5 0 0 ⟨#[]⟩
    have hba1 := hba w1 (.cells #[.int .i64 5, .int .i64 0, .int .u64 0, .string ⟨#[]⟩] 28)
    have bz2 := bz1.keep hba1
    have hr2 := hr1.keep hba1
    have hu2 := hu1.trans (Upd.of hba1)
    have hg1 : w1.heap.size ≠ g := by have := hr1.cells.2.2.2.2.2; omega
    have hg2 : w1.heap.size ≠ w.heap.size := by have := bz1.cells.2.2.2.2.2.2.2.2; omega
    have hg3 : w.heap.size ≤ w1.heap.size := hu1.size
    generalize hz1 : w1.heap.size = b3 at *
    generalize w1.alloc (.cells #[.int .i64 5, .int .i64 0, .int .u64 0, .string ⟨#[]⟩] 28) = w2 at *
    clear hba1 hr1 hu1 bz1 hz1 w1
    refine (hn2.out _ hr2).mono ?_; rintro e w3 ⟨rfl, hu3, j3, hr3, hj3⟩
    have bz3 := bz2.upd hu3 hg0
    have bt3 := bt1.upd hu3 hg1
    replace hu3 := hu2.trans hu3
    clear hu2 hr2 bz2 bt1
    obtain ⟨t0, t1, t2, t3, tf0, tf1, tf2, tf3, tl⟩ := bt3.cells
    obtain ⟨z0, z1, z2, z3, zf0, zf1, zf2, zf3, _⟩ := bz3.cells
    have hne1 : w.heap.size ≠ b3 := fun h => hg2 h.symm
    go_wp2_with fail
    have hrW := hr3.setO (o := 3) (.string ⟨#[]⟩) hg1
    have btW := bt3.setS ⟨#[]⟩
    have bzW := bz3.setO (o := 3) (.string ⟨#[]⟩) hg2
    have huW := hu3.setNew (o := 3) (.string ⟨#[]⟩) hg3
    have hrF := (((hrW.setO (o := 0) (.int .i64 5) hg0).setO (o := 1) (.int .i64 0) hg0).setO (o := 2) (.int .u64 0) hg0).setO (o := 3) (.string ⟨#[]⟩) hg0
    have huF := (((huW.setNew (o := 0) (.int .i64 5) (Nat.le_refl _)).setNew (o := 1) (.int .i64 0) (Nat.le_refl _)).setNew (o := 2) (.int .u64 0) (Nat.le_refl _)).setNew (o := 3) (.string ⟨#[]⟩) (Nat.le_refl _)
    exact bodyPost_ret (v := .agg #[.int .i64 5, .int .i64 0, .int .u64 0, .string ⟨#[]⟩]) (by simp [results, Try.results57, go_sem, z0, z1, z2, z3]) rfl (ToldX.mk_err ⟨5, 0, 0, ⟨#[]⟩⟩ trivial HE.out huF rfl hrF hj3)
  | ok p =>
    obtain ⟨t, j⟩ := p
    have hr1 : Va.right 5 0 0 t = true := by have hts := textR_bound hres; unfold Va.right; rw [if_neg (by decide), if_neg (by decide), if_neg (by decide), if_neg (by decide), if_pos (by decide), decide_eq_true hts]; decide
    have HE : Hid (Cd.valueR s i = .ok (⟨5, 0, 0, t⟩, j)) := by show _ = _; unfold Cd.valueR; rw [hraw.out, hres]; show (if Va.right 5 0 0 t = true then _ else _) = _; rw [if_pos hr1]
    have hn2 : Hid (∀ W, Rfx W g s (i + 1) 0 → Calls Try.prog 54 #[.pointer (some ⟨g, 0, none⟩), .int .u64 4096] W fun e w' => e = .returned (.string t) ∧ Upd g W w' ∧ Rfx w' g s j 0 ∧ j ≤ s.size) := fun W h => by
      refine (hlem.out W h).mono ?_
      rintro e w' ⟨y, he, hu, hm⟩
      rw [hres] at hm
      obtain ⟨hz, hR, hj⟩ := hm
      exact ⟨by rw [he, hz], hu, hR, hj⟩
    clear hraw hc hres hlem hr1
    go_enter Try.func57, Try.ntmps57
    go_wp2_with fail
    have hb0 := hba w (.cells #[.int .i64 0, .int .i64 0, .int .u64 0, .string ⟨#[]⟩] 28)
    have hr0 := hr.keep hb0
    have bz0 : BV (w.alloc (.cells #[.int .i64 0, .int .i64 0, .int .u64 0, .string ⟨#[]⟩] 28)) w.heap.size 0 0 0 ⟨#[]⟩ := BV.new w 0 0 0 ⟨#[]⟩
    have hg0 : w.heap.size ≠ g := by have := hr.cells.2.2.2.2.2; omega
    have hu0 : Upd g w _ := Upd.of hb0
    refine (hn1.out _ hr0).mono ?_; rintro e w1 ⟨rfl, hu1, hr1⟩
    have bz1 := bz0.upd hu1 hg0
    replace hu1 := hu0.trans hu1
    clear hb0 hr0 bz0 hu0
    go_wp2_with fail
    have bt1 : BV (w1.alloc (.cells #[.int .i64 5, .int .i64 0, .int .u64 0, .string ⟨#[]⟩] 28)) w1.heap.size 5 0 0 ⟨#[]⟩ := BV.new w1 5 0 0 ⟨#[]⟩
    have hba1 := hba w1 (.cells #[.int .i64 5, .int .i64 0, .int .u64 0, .string ⟨#[]⟩] 28)
    have bz2 := bz1.keep hba1
    have hr2 := hr1.keep hba1
    have hu2 := hu1.trans (Upd.of hba1)
    have hg1 : w1.heap.size ≠ g := by have := hr1.cells.2.2.2.2.2; omega
    have hg2 : w1.heap.size ≠ w.heap.size := by have := bz1.cells.2.2.2.2.2.2.2.2; omega
    have hg3 : w.heap.size ≤ w1.heap.size := hu1.size
    generalize hz1 : w1.heap.size = b3 at *
    generalize w1.alloc (.cells #[.int .i64 5, .int .i64 0, .int .u64 0, .string ⟨#[]⟩] 28) = w2 at *
    clear hba1 hr1 hu1 bz1 hz1 w1
    refine (hn2.out _ hr2).mono ?_; rintro e w3 ⟨rfl, hu3, hr3, hj3⟩
    have bz3 := bz2.upd hu3 hg0
    have bt3 := bt1.upd hu3 hg1
    replace hu3 := hu2.trans hu3
    clear hu2 hr2 bz2 bt1
    obtain ⟨t0, t1, t2, t3, tf0, tf1, tf2, tf3, tl⟩ := bt3.cells
    obtain ⟨z0, z1, z2, z3, zf0, zf1, zf2, zf3, _⟩ := bz3.cells
    have hne1 : w.heap.size ≠ b3 := fun h => hg2 h.symm
    go_wp2_with fail
    have hrW := hr3.setO (o := 3) (.string t) hg1
    have btW := bt3.setS t
    have bzW := bz3.setO (o := 3) (.string t) hg2
    have huW := hu3.setNew (o := 3) (.string t) hg3
    have hrF := (((hrW.setO (o := 0) (.int .i64 5) hg0).setO (o := 1) (.int .i64 0) hg0).setO (o := 2) (.int .u64 0) hg0).setO (o := 3) (.string t) hg0
    have huF := (((huW.setNew (o := 0) (.int .i64 5) (Nat.le_refl _)).setNew (o := 1) (.int .i64 0) (Nat.le_refl _)).setNew (o := 2) (.int .u64 0) (Nat.le_refl _)).setNew (o := 3) (.string t) (Nat.le_refl _)
    exact bodyPost_ret (v := .agg #[.int .i64 5, .int .i64 0, .int .u64 0, .string t]) (by simp [results, Try.results57, go_sem, z0, z1, z2, z3]) rfl (ToldX.mk_ok HE.out huF rfl hrF hj3)
end Go.Proofs.Ytanmomlkdfnakaa
