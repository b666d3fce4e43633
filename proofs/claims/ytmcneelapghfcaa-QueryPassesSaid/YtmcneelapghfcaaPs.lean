/-
  Contracts and laws of the layers below, put together: Ps. Conditions: where they are named.
-/
import Derived.Test.YtmcneelapghfcaaBb

namespace Go.Proofs.Ytmcneelapghfcaa
open Go.RowKit Pd

theorem take_ne {l r : List N} {k : Nat} (h1 : k < l.length) (h2 : k < r.length) (h : l[k] ≠ r[k]) : l ≠ r := fun e => by subst e; exact h rfl
theorem take_eq {l r : List N} {k : Nat} (h1 : k < l.length) (h2 : k < r.length) (h0 : l.take k = r.take k) (h : l[k] = r[k]) : l.take (k + 1) = r.take (k + 1) := by
  rw [List.take_succ_eq_append_getElem h1, List.take_succ_eq_append_getElem h2, h0, h]
set_option maxRecDepth 100000 in
set_option maxHeartbeats 3200000 in
theorem psame_any (v u : Value) (l r : List N) (w : World) (hv : NsAt w v l) (hu : NsAt w u r) (hl : l.length ≤ 1000000) (_hr : r.length ≤ 1000000) : Calls Try.prog 59 #[v, u] w fun e w' => e = .returned (.bool (decide (l = r))) ∧ Below w.heap.size w w' := by
  obtain ⟨adr, cap, rfl, hc⟩ := hv
  obtain ⟨badr, bcap, rfl, hd⟩ := hu
  have HC := hid hc
  have HD := hid hd
  clear hc hd
  by_cases hlen : l.length = r.length
  · have e0 : ((l.length : Int) == (r.length : Int)) = true := by rw [beq_iff_eq]; omega
    have e0' : ((l.length : Int) != (r.length : Int)) = false := by simp [bne, e0]
    go_enter Try.func59, Try.ntmps59
    go_wp2_with fail
    go_loopw [13] (fun i wr => ∃ k : Nat, k ≤ l.length ∧ i = .int .i64 (k : Int) ∧ Hid (l.take k = r.take k) ∧ Below w.heap.size w wr) (fun i _ => l.length - (intOf i).toNat)
    case atStart => exact ⟨0, by omega, rfl, rfl, Below.refl _ _⟩
    case round =>
      obtain ⟨k, hk, rfl, hE, hbel⟩ := hrel
      obtain ⟨w4, rfl⟩ : ∃ w4 : World, w4 = wr := ⟨_, rfl⟩
      have hk0 : (0 : Int) ≤ (k : Int) := by omega
      by_cases hkl : k < l.length
      · have hkl2 : k < r.length := by omega
        have hkl' : (k : Int) < (l.length : Int) := by omega
        have hkr' : (k : Int) < (r.length : Int) := by omega
        obtain ⟨g, off, rfl, q0, q1, q2, q3, q4, q5⟩ := HC.out k hkl
        obtain ⟨g2, off2, rfl, p0, p1, p2, p3, p4, p5⟩ := HD.out k hkl2
        have HN := hid (take_ne hkl hkl2)
        have HQ := hid (take_eq hkl hkl2 hE.out)
        generalize l[k] = x at q0 q1 q2 q3 q4 q5 HN HQ
        generalize r[k] = y at p0 p1 p2 p3 p4 p5 HN HQ
        have qq : ∀ z, decide (x = y) = z → ∀ w, _ := fun z hz w => n_neq x y z hz w
        unfold nv at qq
        have LB := hid hbel
        clear hE
        replace q0 := hkeep q0 hbel
        replace p0 := hkeep p0 hbel
        replace q1 := hkeep q1 hbel
        replace p1 := hkeep p1 hbel
        replace q2 := hkeep q2 hbel
        replace p2 := hkeep p2 hbel
        replace q3 := hkeep q3 hbel
        replace p3 := hkeep p3 hbel
        replace q4 := hkeep q4 hbel
        replace p4 := hkeep p4 hbel
        replace q5 := hkeep q5 hbel
        replace p5 := hkeep p5 hbel
        clear hbel
        by_cases hxy : x = y
        · have hq := qq true (decide_eq_true hxy)
          have HQ2 := hid (HQ.out hxy)
          clear qq HN HQ hxy
          go_wp2_with fail
          obtain ⟨w20, hw20⟩ : ∃ w20, (w4).drew = w20 := ⟨_, rfl⟩
          have hd20 : Below (w4).heap.size (w4) w20 := hw20 ▸ (Below.refl _ _).drew
          have mk20 : ∀ W, Below w20.heap.size w20 W → Below w20.heap.size w20 W ∧ W.cell? ⟨g, off + k * 6, none⟩ = some (.int .i64 x.op) ∧ W.cell? ⟨g, off + k * 6 + 1, none⟩ = some (.int .i64 x.col) ∧ W.cell? ⟨g, off + k * 6 + 2, none⟩ = some (.int .i64 x.v.k) ∧ W.cell? ⟨g, off + k * 6 + 3, none⟩ = some (.int .i64 x.v.n) ∧ W.cell? ⟨g, off + k * 6 + 4, none⟩ = some (.int .u64 (x.v.b : Int)) ∧ W.cell? ⟨g, off + k * 6 + 5, none⟩ = some (.string x.v.s) ∧ W.cell? ⟨g2, off2 + k * 6, none⟩ = some (.int .i64 y.op) ∧ W.cell? ⟨g2, off2 + k * 6 + 1, none⟩ = some (.int .i64 y.col) ∧ W.cell? ⟨g2, off2 + k * 6 + 2, none⟩ = some (.int .i64 y.v.k) ∧ W.cell? ⟨g2, off2 + k * 6 + 3, none⟩ = some (.int .i64 y.v.n) ∧ W.cell? ⟨g2, off2 + k * 6 + 4, none⟩ = some (.int .u64 (y.v.b : Int)) ∧ W.cell? ⟨g2, off2 + k * 6 + 5, none⟩ = some (.string y.v.s) := fun W h => ⟨h, hkeep (hkeep q0 hd20) h, hkeep (hkeep q1 hd20) h, hkeep (hkeep q2 hd20) h, hkeep (hkeep q3 hd20) h, hkeep (hkeep q4 hd20) h, hkeep (hkeep q5 hd20) h, hkeep (hkeep p0 hd20) h, hkeep (hkeep p1 hd20) h, hkeep (hkeep p2 hd20) h, hkeep (hkeep p3 hd20) h, hkeep (hkeep p4 hd20) h, hkeep (hkeep p5 hd20) h⟩
          clear q0 q1 q2 q3 q4 q5 p0 p1 p2 p3 p4 p5
          refine wp_region_held_drew (S := (fun W => Below w20.heap.size w20 W ∧ W.cell? ⟨g, off + k * 6, none⟩ = some (.int .i64 x.op) ∧ W.cell? ⟨g, off + k * 6 + 1, none⟩ = some (.int .i64 x.col) ∧ W.cell? ⟨g, off + k * 6 + 2, none⟩ = some (.int .i64 x.v.k) ∧ W.cell? ⟨g, off + k * 6 + 3, none⟩ = some (.int .i64 x.v.n) ∧ W.cell? ⟨g, off + k * 6 + 4, none⟩ = some (.int .u64 (x.v.b : Int)) ∧ W.cell? ⟨g, off + k * 6 + 5, none⟩ = some (.string x.v.s) ∧ W.cell? ⟨g2, off2 + k * 6, none⟩ = some (.int .i64 y.op) ∧ W.cell? ⟨g2, off2 + k * 6 + 1, none⟩ = some (.int .i64 y.col) ∧ W.cell? ⟨g2, off2 + k * 6 + 2, none⟩ = some (.int .i64 y.v.k) ∧ W.cell? ⟨g2, off2 + k * 6 + 3, none⟩ = some (.int .i64 y.v.n) ∧ W.cell? ⟨g2, off2 + k * 6 + 4, none⟩ = some (.int .u64 (y.v.b : Int)) ∧ W.cell? ⟨g2, off2 + k * 6 + 5, none⟩ = some (.string y.v.s))) (by kernel_rfl) (by rw [hw20]; exact mk20 _ (Below.refl _ _)) (fun hS20 => ?_)
          rw [hw20] at hS20 ⊢
          clear hw20
          refine wT 0 hS20 ?_
          refine wT 1 hS20 ?_
          refine wT 2 hS20 ?_
          refine wT 3 hS20 ?_
          refine wT 4 hS20 ?_
          refine wT 5 hS20 ?_
          refine wT 6 hS20 ?_
          refine wT 7 hS20 ?_
          refine wT 8 hS20 ?_
          refine wpAnyH_done (by kernel_rfl) ?_ _
          have LZ := hid (hnext LB.out (hnext hd20 hS20.1))
          go_wp2_with fail
          go_roundw
          case rel => exact ⟨k + 1, by omega, by go_num, HQ2, LZ.out⟩
          case measure => simp [intOf]; omega
        · have hq := qq false (decide_eq_false hxy)
          have HN2 := hid (HN.out hxy)
          clear qq HN HQ hxy
          go_wp2_with fail
          obtain ⟨w20, hw20⟩ : ∃ w20, (w4).drew = w20 := ⟨_, rfl⟩
          have hd20 : Below (w4).heap.size (w4) w20 := hw20 ▸ (Below.refl _ _).drew
          have mk20 : ∀ W, Below w20.heap.size w20 W → Below w20.heap.size w20 W ∧ W.cell? ⟨g, off + k * 6, none⟩ = some (.int .i64 x.op) ∧ W.cell? ⟨g, off + k * 6 + 1, none⟩ = some (.int .i64 x.col) ∧ W.cell? ⟨g, off + k * 6 + 2, none⟩ = some (.int .i64 x.v.k) ∧ W.cell? ⟨g, off + k * 6 + 3, none⟩ = some (.int .i64 x.v.n) ∧ W.cell? ⟨g, off + k * 6 + 4, none⟩ = some (.int .u64 (x.v.b : Int)) ∧ W.cell? ⟨g, off + k * 6 + 5, none⟩ = some (.string x.v.s) ∧ W.cell? ⟨g2, off2 + k * 6, none⟩ = some (.int .i64 y.op) ∧ W.cell? ⟨g2, off2 + k * 6 + 1, none⟩ = some (.int .i64 y.col) ∧ W.cell? ⟨g2, off2 + k * 6 + 2, none⟩ = some (.int .i64 y.v.k) ∧ W.cell? ⟨g2, off2 + k * 6 + 3, none⟩ = some (.int .i64 y.v.n) ∧ W.cell? ⟨g2, off2 + k * 6 + 4, none⟩ = some (.int .u64 (y.v.b : Int)) ∧ W.cell? ⟨g2, off2 + k * 6 + 5, none⟩ = some (.string y.v.s) := fun W h => ⟨h, hkeep (hkeep q0 hd20) h, hkeep (hkeep q1 hd20) h, hkeep (hkeep q2 hd20) h, hkeep (hkeep q3 hd20) h, hkeep (hkeep q4 hd20) h, hkeep (hkeep q5 hd20) h, hkeep (hkeep p0 hd20) h, hkeep (hkeep p1 hd20) h, hkeep (hkeep p2 hd20) h, hkeep (hkeep p3 hd20) h, hkeep (hkeep p4 hd20) h, hkeep (hkeep p5 hd20) h⟩
          clear q0 q1 q2 q3 q4 q5 p0 p1 p2 p3 p4 p5
          refine wp_region_held_drew (S := (fun W => Below w20.heap.size w20 W ∧ W.cell? ⟨g, off + k * 6, none⟩ = some (.int .i64 x.op) ∧ W.cell? ⟨g, off + k * 6 + 1, none⟩ = some (.int .i64 x.col) ∧ W.cell? ⟨g, off + k * 6 + 2, none⟩ = some (.int .i64 x.v.k) ∧ W.cell? ⟨g, off + k * 6 + 3, none⟩ = some (.int .i64 x.v.n) ∧ W.cell? ⟨g, off + k * 6 + 4, none⟩ = some (.int .u64 (x.v.b : Int)) ∧ W.cell? ⟨g, off + k * 6 + 5, none⟩ = some (.string x.v.s) ∧ W.cell? ⟨g2, off2 + k * 6, none⟩ = some (.int .i64 y.op) ∧ W.cell? ⟨g2, off2 + k * 6 + 1, none⟩ = some (.int .i64 y.col) ∧ W.cell? ⟨g2, off2 + k * 6 + 2, none⟩ = some (.int .i64 y.v.k) ∧ W.cell? ⟨g2, off2 + k * 6 + 3, none⟩ = some (.int .i64 y.v.n) ∧ W.cell? ⟨g2, off2 + k * 6 + 4, none⟩ = some (.int .u64 (y.v.b : Int)) ∧ W.cell? ⟨g2, off2 + k * 6 + 5, none⟩ = some (.string y.v.s))) (by kernel_rfl) (by rw [hw20]; exact mk20 _ (Below.refl _ _)) (fun hS20 => ?_)
          rw [hw20] at hS20 ⊢
          clear hw20
          refine wT 0 hS20 ?_
          refine wT 1 hS20 ?_
          refine wT 2 hS20 ?_
          refine wT 3 hS20 ?_
          refine wT 4 hS20 ?_
          refine wT 5 hS20 ?_
          refine wT 6 hS20 ?_
          refine wT 7 hS20 ?_
          refine wT 8 hS20 ?_
          refine wpAnyH_done (by kernel_rfl) ?_ _
          have LZ := hid (hnext LB.out (hnext hd20 hS20.1))
          go_wp2_with fail
          go_ret
          rw [decide_eq_false HN2.out]
          exact ⟨rfl, LZ.out⟩
      · obtain rfl : k = l.length := by omega
        have HE : Hid (decide (l = r) = true) := by
          have h := hE.out
          rw [List.take_length, hlen, List.take_length] at h
          exact decide_eq_true h
        clear hE
        go_wp2_with fail
        go_ret
        rw [HE.out]
        exact ⟨rfl, hbel⟩
  · have e0 : ((l.length : Int) == (r.length : Int)) = false := by rw [beq_eq_false_iff_ne]; omega
    have e0' : ((l.length : Int) != (r.length : Int)) = true := by simp [bne, e0]
    have HE : Hid (decide (l = r) = false) := decide_eq_false (fun e => hlen (by rw [e]))
    clear hlen
    go_enter Try.func59, Try.ntmps59
    go_wp2_with fail
    go_ret
    rw [HE.out]
    exact ⟨rfl, Below.refl _ _⟩
set_option maxRecDepth 100000 in
set_option maxHeartbeats 3200000 in
theorem psameR_any (v u : Value) (l r : List N) (w : World) (hv : NsAt w v l) (hu : NsAt w u r) (hl : l.length ≤ 1000000) (_hr : r.length ≤ 1000000) : Calls Try.prog 57 #[v, u] w fun e w' => e = .returned (.bool (decide (l = r))) ∧ Below w.heap.size w w' := by
  obtain ⟨adr, cap, rfl, hc⟩ := hv
  obtain ⟨badr, bcap, rfl, hd⟩ := hu
  have HC := hid hc
  have HD := hid hd
  clear hc hd
  by_cases hlen : l.length = r.length
  · have e0 : ((l.length : Int) == (r.length : Int)) = true := by rw [beq_iff_eq]; omega
    have e0' : ((l.length : Int) != (r.length : Int)) = false := by simp [bne, e0]
    go_enter Try.func57, Try.ntmps57
    go_wp2_with fail
    go_loopw [5] (fun i wr => ∃ k : Nat, k ≤ l.length ∧ i = .int .i64 (k : Int) ∧ Hid (l.take k = r.take k) ∧ Below w.heap.size w wr) (fun i _ => l.length - (intOf i).toNat)
    case atStart => exact ⟨0, by omega, rfl, rfl, Below.refl _ _⟩
    case round =>
      obtain ⟨k, hk, rfl, hE, hbel⟩ := hrel
      obtain ⟨w4, rfl⟩ : ∃ w4 : World, w4 = wr := ⟨_, rfl⟩
      have hk0 : (0 : Int) ≤ (k : Int) := by omega
      by_cases hkl : k < l.length
      · have hkl2 : k < r.length := by omega
        have hkl' : (k : Int) < (l.length : Int) := by omega
        have hkr' : (k : Int) < (r.length : Int) := by omega
        obtain ⟨g, off, rfl, q0, q1, q2, q3, q4, q5⟩ := HC.out k hkl
        obtain ⟨g2, off2, rfl, p0, p1, p2, p3, p4, p5⟩ := HD.out k hkl2
        have HN := hid (take_ne hkl hkl2)
        have HQ := hid (take_eq hkl hkl2 hE.out)
        generalize l[k] = x at q0 q1 q2 q3 q4 q5 HN HQ
        generalize r[k] = y at p0 p1 p2 p3 p4 p5 HN HQ
        have qq : ∀ z, decide (x = y) = z → ∀ w, _ := fun z hz w => m_neq x y z hz w
        unfold nv at qq
        have LB := hid hbel
        clear hE
        replace q0 := hkeep q0 hbel
        replace p0 := hkeep p0 hbel
        replace q1 := hkeep q1 hbel
        replace p1 := hkeep p1 hbel
        replace q2 := hkeep q2 hbel
        replace p2 := hkeep p2 hbel
        replace q3 := hkeep q3 hbel
        replace p3 := hkeep p3 hbel
        replace q4 := hkeep q4 hbel
        replace p4 := hkeep p4 hbel
        replace q5 := hkeep q5 hbel
        replace p5 := hkeep p5 hbel
        clear hbel
        by_cases hxy : x = y
        · have hq := qq true (decide_eq_true hxy)
          have HQ2 := hid (HQ.out hxy)
          clear qq HN HQ hxy
          go_wp2_with fail
          obtain ⟨w20, hw20⟩ : ∃ w20, (w4).drew = w20 := ⟨_, rfl⟩
          have hd20 : Below (w4).heap.size (w4) w20 := hw20 ▸ (Below.refl _ _).drew
          have mk20 : ∀ W, Below w20.heap.size w20 W → Below w20.heap.size w20 W ∧ W.cell? ⟨g, off + k * 6, none⟩ = some (.int .i64 x.op) ∧ W.cell? ⟨g, off + k * 6 + 1, none⟩ = some (.int .i64 x.col) ∧ W.cell? ⟨g, off + k * 6 + 2, none⟩ = some (.int .i64 x.v.k) ∧ W.cell? ⟨g, off + k * 6 + 3, none⟩ = some (.int .i64 x.v.n) ∧ W.cell? ⟨g, off + k * 6 + 4, none⟩ = some (.int .u64 (x.v.b : Int)) ∧ W.cell? ⟨g, off + k * 6 + 5, none⟩ = some (.string x.v.s) ∧ W.cell? ⟨g2, off2 + k * 6, none⟩ = some (.int .i64 y.op) ∧ W.cell? ⟨g2, off2 + k * 6 + 1, none⟩ = some (.int .i64 y.col) ∧ W.cell? ⟨g2, off2 + k * 6 + 2, none⟩ = some (.int .i64 y.v.k) ∧ W.cell? ⟨g2, off2 + k * 6 + 3, none⟩ = some (.int .i64 y.v.n) ∧ W.cell? ⟨g2, off2 + k * 6 + 4, none⟩ = some (.int .u64 (y.v.b : Int)) ∧ W.cell? ⟨g2, off2 + k * 6 + 5, none⟩ = some (.string y.v.s) := fun W h => ⟨h, hkeep (hkeep q0 hd20) h, hkeep (hkeep q1 hd20) h, hkeep (hkeep q2 hd20) h, hkeep (hkeep q3 hd20) h, hkeep (hkeep q4 hd20) h, hkeep (hkeep q5 hd20) h, hkeep (hkeep p0 hd20) h, hkeep (hkeep p1 hd20) h, hkeep (hkeep p2 hd20) h, hkeep (hkeep p3 hd20) h, hkeep (hkeep p4 hd20) h, hkeep (hkeep p5 hd20) h⟩
          clear q0 q1 q2 q3 q4 q5 p0 p1 p2 p3 p4 p5
          refine wp_region_held_drew (S := (fun W => Below w20.heap.size w20 W ∧ W.cell? ⟨g, off + k * 6, none⟩ = some (.int .i64 x.op) ∧ W.cell? ⟨g, off + k * 6 + 1, none⟩ = some (.int .i64 x.col) ∧ W.cell? ⟨g, off + k * 6 + 2, none⟩ = some (.int .i64 x.v.k) ∧ W.cell? ⟨g, off + k * 6 + 3, none⟩ = some (.int .i64 x.v.n) ∧ W.cell? ⟨g, off + k * 6 + 4, none⟩ = some (.int .u64 (x.v.b : Int)) ∧ W.cell? ⟨g, off + k * 6 + 5, none⟩ = some (.string x.v.s) ∧ W.cell? ⟨g2, off2 + k * 6, none⟩ = some (.int .i64 y.op) ∧ W.cell? ⟨g2, off2 + k * 6 + 1, none⟩ = some (.int .i64 y.col) ∧ W.cell? ⟨g2, off2 + k * 6 + 2, none⟩ = some (.int .i64 y.v.k) ∧ W.cell? ⟨g2, off2 + k * 6 + 3, none⟩ = some (.int .i64 y.v.n) ∧ W.cell? ⟨g2, off2 + k * 6 + 4, none⟩ = some (.int .u64 (y.v.b : Int)) ∧ W.cell? ⟨g2, off2 + k * 6 + 5, none⟩ = some (.string y.v.s))) (by kernel_rfl) (by rw [hw20]; exact mk20 _ (Below.refl _ _)) (fun hS20 => ?_)
          rw [hw20] at hS20 ⊢
          clear hw20
          refine wT 0 hS20 ?_
          refine wT 1 hS20 ?_
          refine wT 2 hS20 ?_
          refine wT 3 hS20 ?_
          refine wT 4 hS20 ?_
          refine wT 5 hS20 ?_
          refine wT 6 hS20 ?_
          refine wT 7 hS20 ?_
          refine wT 8 hS20 ?_
          refine wpAnyH_done (by kernel_rfl) ?_ _
          have LZ := hid (hnext LB.out (hnext hd20 hS20.1))
          go_wp2_with fail
          go_roundw
          case rel => exact ⟨k + 1, by omega, by go_num, HQ2, LZ.out⟩
          case measure => simp [intOf]; omega
        · have hq := qq false (decide_eq_false hxy)
          have HN2 := hid (HN.out hxy)
          clear qq HN HQ hxy
          go_wp2_with fail
          obtain ⟨w20, hw20⟩ : ∃ w20, (w4).drew = w20 := ⟨_, rfl⟩
          have hd20 : Below (w4).heap.size (w4) w20 := hw20 ▸ (Below.refl _ _).drew
          have mk20 : ∀ W, Below w20.heap.size w20 W → Below w20.heap.size w20 W ∧ W.cell? ⟨g, off + k * 6, none⟩ = some (.int .i64 x.op) ∧ W.cell? ⟨g, off + k * 6 + 1, none⟩ = some (.int .i64 x.col) ∧ W.cell? ⟨g, off + k * 6 + 2, none⟩ = some (.int .i64 x.v.k) ∧ W.cell? ⟨g, off + k * 6 + 3, none⟩ = some (.int .i64 x.v.n) ∧ W.cell? ⟨g, off + k * 6 + 4, none⟩ = some (.int .u64 (x.v.b : Int)) ∧ W.cell? ⟨g, off + k * 6 + 5, none⟩ = some (.string x.v.s) ∧ W.cell? ⟨g2, off2 + k * 6, none⟩ = some (.int .i64 y.op) ∧ W.cell? ⟨g2, off2 + k * 6 + 1, none⟩ = some (.int .i64 y.col) ∧ W.cell? ⟨g2, off2 + k * 6 + 2, none⟩ = some (.int .i64 y.v.k) ∧ W.cell? ⟨g2, off2 + k * 6 + 3, none⟩ = some (.int .i64 y.v.n) ∧ W.cell? ⟨g2, off2 + k * 6 + 4, none⟩ = some (.int .u64 (y.v.b : Int)) ∧ W.cell? ⟨g2, off2 + k * 6 + 5, none⟩ = some (.string y.v.s) := fun W h => ⟨h, hkeep (hkeep q0 hd20) h, hkeep (hkeep q1 hd20) h, hkeep (hkeep q2 hd20) h, hkeep (hkeep q3 hd20) h, hkeep (hkeep q4 hd20) h, hkeep (hkeep q5 hd20) h, hkeep (hkeep p0 hd20) h, hkeep (hkeep p1 hd20) h, hkeep (hkeep p2 hd20) h, hkeep (hkeep p3 hd20) h, hkeep (hkeep p4 hd20) h, hkeep (hkeep p5 hd20) h⟩
          clear q0 q1 q2 q3 q4 q5 p0 p1 p2 p3 p4 p5
          refine wp_region_held_drew (S := (fun W => Below w20.heap.size w20 W ∧ W.cell? ⟨g, off + k * 6, none⟩ = some (.int .i64 x.op) ∧ W.cell? ⟨g, off + k * 6 + 1, none⟩ = some (.int .i64 x.col) ∧ W.cell? ⟨g, off + k * 6 + 2, none⟩ = some (.int .i64 x.v.k) ∧ W.cell? ⟨g, off + k * 6 + 3, none⟩ = some (.int .i64 x.v.n) ∧ W.cell? ⟨g, off + k * 6 + 4, none⟩ = some (.int .u64 (x.v.b : Int)) ∧ W.cell? ⟨g, off + k * 6 + 5, none⟩ = some (.string x.v.s) ∧ W.cell? ⟨g2, off2 + k * 6, none⟩ = some (.int .i64 y.op) ∧ W.cell? ⟨g2, off2 + k * 6 + 1, none⟩ = some (.int .i64 y.col) ∧ W.cell? ⟨g2, off2 + k * 6 + 2, none⟩ = some (.int .i64 y.v.k) ∧ W.cell? ⟨g2, off2 + k * 6 + 3, none⟩ = some (.int .i64 y.v.n) ∧ W.cell? ⟨g2, off2 + k * 6 + 4, none⟩ = some (.int .u64 (y.v.b : Int)) ∧ W.cell? ⟨g2, off2 + k * 6 + 5, none⟩ = some (.string y.v.s))) (by kernel_rfl) (by rw [hw20]; exact mk20 _ (Below.refl _ _)) (fun hS20 => ?_)
          rw [hw20] at hS20 ⊢
          clear hw20
          refine wT 0 hS20 ?_
          refine wT 1 hS20 ?_
          refine wT 2 hS20 ?_
          refine wT 3 hS20 ?_
          refine wT 4 hS20 ?_
          refine wT 5 hS20 ?_
          refine wT 6 hS20 ?_
          refine wT 7 hS20 ?_
          refine wT 8 hS20 ?_
          refine wpAnyH_done (by kernel_rfl) ?_ _
          have LZ := hid (hnext LB.out (hnext hd20 hS20.1))
          go_wp2_with fail
          go_ret
          rw [decide_eq_false HN2.out]
          exact ⟨rfl, LZ.out⟩
      · obtain rfl : k = l.length := by omega
        have HE : Hid (decide (l = r) = true) := by
          have h := hE.out
          rw [List.take_length, hlen, List.take_length] at h
          exact decide_eq_true h
        clear hE
        go_wp2_with fail
        go_ret
        rw [HE.out]
        exact ⟨rfl, hbel⟩
  · have e0 : ((l.length : Int) == (r.length : Int)) = false := by rw [beq_eq_false_iff_ne]; omega
    have e0' : ((l.length : Int) != (r.length : Int)) = true := by simp [bne, e0]
    have HE : Hid (decide (l = r) = false) := decide_eq_false (fun e => hlen (by rw [e]))
    clear hlen
    go_enter Try.func57, Try.ntmps57
    go_wp2_with fail
    go_ret
    rw [HE.out]
    exact ⟨rfl, Below.refl _ _⟩
end Go.Proofs.Ytmcneelapghfcaa
