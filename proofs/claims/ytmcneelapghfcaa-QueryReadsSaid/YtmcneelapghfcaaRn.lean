/-
  A node is read, of the reference: the contract. Condition: the text is not too long.
-/
import Derived.Test.YtmcneelapghfcaaRh
import Derived.Test.YtmcneelapghfcaaCd
namespace Go.Proofs.Ytmcneelapghfcaa
open Go.RowKit Pd Qu

set_option maxRecDepth 100000 in
set_option maxHeartbeats 12800000 in
theorem nodeX_any (g : Nat) (b : ByteArray) (i : Nat) (er : Int) (w : World) (hr : Rfx w g b i er) (hi : i ≤ b.size) (hs : b.size ≤ 1000000000) : Calls Try.prog 56 #[.pointer (some ⟨g, 0, none⟩)] w fun e w' => e = .returned (.agg #[.int .i64 (nodeR b i er).1.op, .int .i64 (nodeR b i er).1.col, .int .i64 (nodeR b i er).1.v.k, .int .i64 (nodeR b i er).1.v.n, .int .u64 ((nodeR b i er).1.v.b : Int), .string (nodeR b i er).1.v.s]) ∧ Upd g w w' ∧ Rfx w' g b (nodeR b i er).2.1 (nodeR b i er).2.2 ∧ (nodeR b i er).2.1 ≤ b.size := by
  obtain ⟨⟨op, p1, q1⟩, hA1⟩ : ∃ t, Cd.top 0 (Cd.intR b.data.toList) i er = t := ⟨_, rfl⟩
  obtain ⟨⟨col, p2, q2⟩, hA2⟩ : ∃ t, Cd.top 0 (Cd.intR b.data.toList) p1 q1 = t := ⟨_, rfl⟩
  obtain ⟨⟨l, p3, q3⟩, hA3⟩ : ∃ t, Cd.top [] (Cd.rowR b) p2 q2 = t := ⟨_, rfl⟩
  have i1 := hid (fun g W h hj => mIntX g b i er W h hj hs)
  rw [hA1] at i1
  have i2 := hid (fun g W h hj => mIntX g b p1 q1 W h hj hs)
  rw [hA2] at i2
  have i3 := hid (fun g W h hj => mRowX g b p2 q2 W h hj hs)
  rw [hA3] at i3
  have HV : Hid (nodeR b i er = (⟨op, col, l.headD nul⟩, p3, q3)) := by
    show _ = _
    unfold nodeR
    simp only [hA1, hA2, hA3]
  clear hA1 hA2 hA3
  have hg0 : g < w.heap.size := (Array.getElem?_eq_some_iff.1 hr).1
  have hb0 := hba w (.cells #[.int .i64 0, .int .i64 0, .int .i64 0, .int .i64 0, .int .u64 0, .string ⟨#[]⟩] 83)
  have RR0 := hid (hr.keep hb0)
  have UU0 := hid (Upd.of (g := g) hb0)
  have HZ0 : Hid (Var (w.alloc (.cells #[.int .i64 0, .int .i64 0, .int .i64 0, .int .i64 0, .int .u64 0, .string ⟨#[]⟩] 83)) w.heap.size #[.int .i64 0, .int .i64 0, .int .i64 0, .int .i64 0, .int .u64 0, .string ⟨#[]⟩] 83) := heap_alloc_new w _
  have HY0 : Hid (w.heap.size ≤ w.heap.size) := Nat.le_refl _
  clear hb0 hr
  go_enter Try.func56, Try.ntmps56
  go_wp2_with fail
  obtain ⟨Y, hY0⟩ : ∃ Y, w.heap.size = Y := ⟨_, rfl⟩
  have hY : Hid (w.heap.size ≤ Y) := by show _ ≤ _; omega
  have hYg : Hid (Y ≠ g) := by show _ ≠ _; omega
  rw [hY0] at HZ0
  (try rw [hY0])
  generalize w.alloc (.cells #[.int .i64 0, .int .i64 0, .int .i64 0, .int .i64 0, .int .u64 0, .string ⟨#[]⟩] 83) = w0 at *
  clear hY0 HY0
  refine (i1.out g _ RR0.out hi).mono ?_; rintro e W1 ⟨rfl, u, R, hh1⟩
  simp only at R hh1
  dsimp only
  have hYl : Y < w0.heap.size := HZ0.out.lt
  have hl1 := u.size
  have HZ1 := hid (HZ0.out.upd u hYg.out)
  have UU1 := hid (UU0.out.trans u)
  have RR1 := hid R
  clear u R UU0 RR0 HZ0 i1
  have hb1 := hba W1 (.cells #[.int .i64 op, .int .i64 0, .int .i64 0, .int .i64 0, .int .u64 0, .string ⟨#[]⟩] 83)
  have HX2 : Hid (Var (W1.alloc (.cells #[.int .i64 op, .int .i64 0, .int .i64 0, .int .i64 0, .int .u64 0, .string ⟨#[]⟩] 83)) W1.heap.size #[.int .i64 op, .int .i64 0, .int .i64 0, .int .i64 0, .int .u64 0, .string ⟨#[]⟩] 83) := heap_alloc_new W1 _
  have HZ2 := hid (HZ1.out.keep hb1)
  have UU2 := hid (UU1.out.trans (Upd.of hb1))
  have RR2 := hid (RR1.out.keep hb1)
  have hgw := UU1.out.size
  clear UU1 RR1 HZ1 hb1
  go_wp2_with fail
  obtain ⟨X, hX0⟩ : ∃ X, W1.heap.size = X := ⟨_, rfl⟩
  rw [hX0] at HX2
  (try rw [hX0])
  have hge : Hid (w.heap.size ≤ X) := by show _ ≤ _; omega
  have hXg : Hid (X ≠ g) := by show _ ≠ _; omega
  have hXY : X ≠ Y := by omega
  have hYX : Y ≠ X := by omega
  generalize W1.alloc (.cells #[.int .i64 op, .int .i64 0, .int .i64 0, .int .i64 0, .int .u64 0, .string ⟨#[]⟩] 83) = w2 at *
  clear hX0 hgw hYl hl1
  refine (i2.out g _ RR2.out hh1).mono ?_; rintro e W3 ⟨rfl, u, R, hh2⟩
  simp only at R hh2
  dsimp only
  have HX3 := hid (HX2.out.upd u hXg.out)
  have HZ3 := hid (HZ2.out.upd u hYg.out)
  have UU3 := hid (UU2.out.trans u)
  have RR3 : Hid (Var W3 g #[.string b, .int .i64 (p2 : Int), .int .i64 q2] 97) := R
  clear u R UU2 RR2 HZ2 HX2 i2
  have x1 : W3.cell? ⟨X, 1, none⟩ = some (.int .i64 0) := HX3.out.cell 1
  have f1 : W3.frozen? ⟨X, 1, none⟩ = false := frozen_of_row W3 X 1 _ _ HX3.out
  have HX4 := hid (HX3.out.set 1 (.int .i64 col))
  have HZ4 := hid (Var.setO (r := X) (o := 1) HZ3.out (.int .i64 col) hXY)
  have UU4 := hid (UU3.out.setNew (r := X) (o := 1) (.int .i64 col) hge.out)
  have RR4 : Hid (Rfx (W3.setCell ⟨X, 1, none⟩ (.int .i64 col)) g b p2 q2) := Var.setO (r := X) (o := 1) RR3.out (.int .i64 col) hXg.out
  clear UU3 RR3 HZ3 HX3
  go_wp2_with fail
  clear x1 f1
  generalize W3.setCell ⟨X, 1, none⟩ (.int .i64 col) = W4 at *
  refine (i3.out g _ RR4.out hh2).mono ?_; rintro e W5 ⟨⟨v', rfl, ownr⟩, u, R, hh3⟩
  simp only at R hh3 ownr
  have HX : Hid (Var W5 X #[.int .i64 op, .int .i64 col, .int .i64 0, .int .i64 0, .int .u64 0, .string ⟨#[]⟩] 83) := HX4.out.upd u hXg.out
  have HZ := hid (HZ4.out.upd u hYg.out)
  have UU := hid (UU4.out.trans u)
  have RR : Hid (Var W5 g #[.string b, .int .i64 (p3 : Int), .int .i64 q3] 97) := R
  obtain ⟨ra, rc, rfl⟩ := OwnV.slc ownr
  have HRW := hid (VsAt.own ownr)
  clear u R UU4 RR4 HZ4 HX4 i3 ownr hi hs hh1 hh2
  cases l with
  | nil =>
    clear HRW
    have x0 : W5.cell? ⟨X, 0, none⟩ = some (.int .i64 op) := HX.out.cell 0
    have x1 : W5.cell? ⟨X, 1, none⟩ = some (.int .i64 col) := HX.out.cell 1
    have x2 : W5.cell? ⟨X, 2, none⟩ = some (.int .i64 0) := HX.out.cell 2
    have x3 : W5.cell? ⟨X, 3, none⟩ = some (.int .i64 0) := HX.out.cell 3
    have x4 : W5.cell? ⟨X, 4, none⟩ = some (.int .u64 0) := HX.out.cell 4
    have x5 : W5.cell? ⟨X, 5, none⟩ = some (.string ⟨#[]⟩) := HX.out.cell 5
    have z0 : W5.cell? ⟨Y, 0, none⟩ = some (.int .i64 0) := HZ.out.cell 0
    have z1 : W5.cell? ⟨Y, 1, none⟩ = some (.int .i64 0) := HZ.out.cell 1
    have z2 : W5.cell? ⟨Y, 2, none⟩ = some (.int .i64 0) := HZ.out.cell 2
    have z3 : W5.cell? ⟨Y, 3, none⟩ = some (.int .i64 0) := HZ.out.cell 3
    have z4 : W5.cell? ⟨Y, 4, none⟩ = some (.int .u64 0) := HZ.out.cell 4
    have z5 : W5.cell? ⟨Y, 5, none⟩ = some (.string ⟨#[]⟩) := HZ.out.cell 5
    have y0 : W5.frozen? ⟨Y, 0, none⟩ = false := frozen_of_row W5 Y 0 _ _ HZ.out
    have y1 : W5.frozen? ⟨Y, 1, none⟩ = false := frozen_of_row W5 Y 1 _ _ HZ.out
    have y2 : W5.frozen? ⟨Y, 2, none⟩ = false := frozen_of_row W5 Y 2 _ _ HZ.out
    have y3 : W5.frozen? ⟨Y, 3, none⟩ = false := frozen_of_row W5 Y 3 _ _ HZ.out
    have y4 : W5.frozen? ⟨Y, 4, none⟩ = false := frozen_of_row W5 Y 4 _ _ HZ.out
    have y5 : W5.frozen? ⟨Y, 5, none⟩ = false := frozen_of_row W5 Y 5 _ _ HZ.out
    have UF := hid (((((((UU.out).setNew (r := Y) (o := 0) (.int .i64 op) hY.out).setNew (r := Y) (o := 1) (.int .i64 col) hY.out).setNew (r := Y) (o := 2) (.int .i64 0) hY.out).setNew (r := Y) (o := 3) (.int .i64 0) hY.out).setNew (r := Y) (o := 4) (.int .u64 0) hY.out).setNew (r := Y) (o := 5) (.string ⟨#[]⟩) hY.out)
    have RF := hid ((Var.setO (r := Y) (o := 5) (Var.setO (r := Y) (o := 4) (Var.setO (r := Y) (o := 3) (Var.setO (r := Y) (o := 2) (Var.setO (r := Y) (o := 1) (Var.setO (r := Y) (o := 0) RR.out (.int .i64 op) hYg.out) (.int .i64 col) hYg.out) (.int .i64 0) hYg.out) (.int .i64 0) hYg.out) (.int .u64 0) hYg.out) (.string ⟨#[]⟩) hYg.out))
    clear UU RR
    go_wp2_with fail
    exact bodyPost_ret (v := .agg #[.int .i64 op, .int .i64 col, .int .i64 0, .int .i64 0, .int .u64 0, .string ⟨#[]⟩]) (by simp [results, Try.results56, go_sem, z0, z1, z2, z3, z4, z5]) rfl ⟨by rw [HV.out]; rfl, UF.out, by rw [HV.out]; exact RF.out, by rw [HV.out]; exact hh3⟩
  | cons y ys =>
    obtain ⟨_, _, en, hnn⟩ := HRW.out
    cases en
    obtain ⟨gr, off, rfl, r0, r1, r2, r3⟩ := hnn 0 (by simp)
    clear HRW hnn
    simp only [Nat.zero_mul, Nat.add_zero, List.getElem_cons_zero] at r0 r1 r2 r3
    obtain ⟨nl, hnl⟩ : ∃ n : Nat, (y :: ys).length = n := ⟨_, rfl⟩
    have hn0 : 0 < nl := by rw [← hnl]; simp
    have hn1 : (0 : Int) < (nl : Int) := by omega
    rw [hnl] at *
    clear hnl
    obtain ⟨yk, yn, yb, ys'⟩ := y
    simp only at r0 r1 r2 r3
    have y2 : W5.cell? ⟨X, 2, none⟩ = some (.int .i64 0) := HX.out.cell 2
    have y3 : W5.cell? ⟨X, 3, none⟩ = some (.int .i64 0) := HX.out.cell 3
    have y4 : W5.cell? ⟨X, 4, none⟩ = some (.int .u64 0) := HX.out.cell 4
    have y5 : W5.cell? ⟨X, 5, none⟩ = some (.string ⟨#[]⟩) := HX.out.cell 5
    have g2 : W5.frozen? ⟨X, 2, none⟩ = false := frozen_of_row W5 X 2 _ _ HX.out
    have g3 : W5.frozen? ⟨X, 3, none⟩ = false := frozen_of_row W5 X 3 _ _ HX.out
    have g4 : W5.frozen? ⟨X, 4, none⟩ = false := frozen_of_row W5 X 4 _ _ HX.out
    have g5 : W5.frozen? ⟨X, 5, none⟩ = false := frozen_of_row W5 X 5 _ _ HX.out
    have HXS : Hid (Var ((((W5.setCell ⟨X, 2, none⟩ (.int .i64 yk)).setCell ⟨X, 3, none⟩ (.int .i64 yn)).setCell ⟨X, 4, none⟩ (.int .u64 (yb : Int))).setCell ⟨X, 5, none⟩ (.string ys')) X #[.int .i64 op, .int .i64 col, .int .i64 yk, .int .i64 yn, .int .u64 (yb : Int), .string ys'] 83) := (((HX.out.set 2 (.int .i64 yk)).set 3 (.int .i64 yn)).set 4 (.int .u64 (yb : Int))).set 5 (.string ys')
    have US : Hid (Upd g w ((((W5.setCell ⟨X, 2, none⟩ (.int .i64 yk)).setCell ⟨X, 3, none⟩ (.int .i64 yn)).setCell ⟨X, 4, none⟩ (.int .u64 (yb : Int))).setCell ⟨X, 5, none⟩ (.string ys'))) := ((((UU.out.setNew (r := X) (o := 2) (.int .i64 yk) hge.out).setNew (r := X) (o := 3) (.int .i64 yn) hge.out).setNew (r := X) (o := 4) (.int .u64 (yb : Int)) hge.out).setNew (r := X) (o := 5) (.string ys') hge.out)
    have RS : Hid (Var ((((W5.setCell ⟨X, 2, none⟩ (.int .i64 yk)).setCell ⟨X, 3, none⟩ (.int .i64 yn)).setCell ⟨X, 4, none⟩ (.int .u64 (yb : Int))).setCell ⟨X, 5, none⟩ (.string ys')) g #[.string b, .int .i64 (p3 : Int), .int .i64 q3] 97) := (((Var.setO RR.out _ hXg.out).setO _ hXg.out).setO _ hXg.out).setO _ hXg.out
    have ZS : Hid (Var ((((W5.setCell ⟨X, 2, none⟩ (.int .i64 yk)).setCell ⟨X, 3, none⟩ (.int .i64 yn)).setCell ⟨X, 4, none⟩ (.int .u64 (yb : Int))).setCell ⟨X, 5, none⟩ (.string ys')) Y #[.int .i64 0, .int .i64 0, .int .i64 0, .int .i64 0, .int .u64 0, .string ⟨#[]⟩] 83) := (((Var.setO HZ.out _ hXY).setO _ hXY).setO _ hXY).setO _ hXY
    have x0 := HX.out.cell 0
    have x1 := HX.out.cell 1
    have z0' := HZ.out.cell 0
    simp only [List.getElem?_toArray, List.getElem?_cons_zero, List.getElem?_cons_succ] at x0 x1
    clear z0'
    have z0 : W5.cell? ⟨Y, 0, none⟩ = some (.int .i64 0) := HZ.out.cell 0
    have z1 : W5.cell? ⟨Y, 1, none⟩ = some (.int .i64 0) := HZ.out.cell 1
    have z2 : W5.cell? ⟨Y, 2, none⟩ = some (.int .i64 0) := HZ.out.cell 2
    have z3 : W5.cell? ⟨Y, 3, none⟩ = some (.int .i64 0) := HZ.out.cell 3
    have z4 : W5.cell? ⟨Y, 4, none⟩ = some (.int .u64 0) := HZ.out.cell 4
    have z5 : W5.cell? ⟨Y, 5, none⟩ = some (.string ⟨#[]⟩) := HZ.out.cell 5
    have u0 : W5.frozen? ⟨Y, 0, none⟩ = false := frozen_of_row W5 Y 0 _ _ HZ.out
    have u1 : W5.frozen? ⟨Y, 1, none⟩ = false := frozen_of_row W5 Y 1 _ _ HZ.out
    have u2 : W5.frozen? ⟨Y, 2, none⟩ = false := frozen_of_row W5 Y 2 _ _ HZ.out
    have u3 : W5.frozen? ⟨Y, 3, none⟩ = false := frozen_of_row W5 Y 3 _ _ HZ.out
    have u4 : W5.frozen? ⟨Y, 4, none⟩ = false := frozen_of_row W5 Y 4 _ _ HZ.out
    have u5 : W5.frozen? ⟨Y, 5, none⟩ = false := frozen_of_row W5 Y 5 _ _ HZ.out
    clear UU RR HX HZ
    go_wp2_with fail
    exact bodyPost_ret (v := .agg #[.int .i64 op, .int .i64 col, .int .i64 yk, .int .i64 yn, .int .u64 (yb : Int), .string ys']) (by simp [results, Try.results56, go_sem, z0, z1, z2, z3, z4, z5]) rfl ⟨by rw [HV.out]; rfl, ((((((US.out).setNew (r := Y) (o := 0) (.int .i64 op) hY.out).setNew (r := Y) (o := 1) (.int .i64 col) hY.out).setNew (r := Y) (o := 2) (.int .i64 yk) hY.out).setNew (r := Y) (o := 3) (.int .i64 yn) hY.out).setNew (r := Y) (o := 4) (.int .u64 (yb : Int)) hY.out).setNew (r := Y) (o := 5) (.string ys') hY.out, by rw [HV.out]; exact (Var.setO (r := Y) (o := 5) (Var.setO (r := Y) (o := 4) (Var.setO (r := Y) (o := 3) (Var.setO (r := Y) (o := 2) (Var.setO (r := Y) (o := 1) (Var.setO (r := Y) (o := 0) RS.out (.int .i64 op) hYg.out) (.int .i64 col) hYg.out) (.int .i64 yk) hYg.out) (.int .i64 yn) hYg.out) (.int .u64 (yb : Int)) hYg.out) (.string ys') hYg.out), by rw [HV.out]; exact hh3⟩
end Go.Proofs.Ytmcneelapghfcaa
