/-
  Which spans are right, which values are a key, which rows a query passes: contracts, of the program and of the reference. Condition: sizes that can stand in memory.
-/
import Derived.Test.YtmcneelapghfcaaQa
import Derived.Test.YtmcneelapghfcaaPh
namespace Go.Proofs.Ytmcneelapghfcaa
open Go.RowKit Pd Qu

set_option maxRecDepth 100000 in
set_option maxHeartbeats 6400000 in
theorem sright_any (a b : Int) (w : World) : Calls Try.prog 65 #[.agg #[.int .i64 a, .int .i64 b]] w fun e w' => e = .returned (.bool (spanB a b)) ∧ Below w.heap.size w w' := by
  obtain ⟨p0, p1⟩ : (w.alloc (.cells #[.int .i64 a, .int .i64 b] 24)).cell? ⟨w.heap.size, 0, none⟩ = some (.int .i64 a) ∧ (w.alloc (.cells #[.int .i64 a, .int .i64 b] 24)).cell? ⟨w.heap.size, 1, none⟩ = some (.int .i64 b) := ⟨cell_of_row _ _ 0 _ _ _ (heap_alloc_new w (.cells #[.int .i64 a, .int .i64 b] 24)), cell_of_row _ _ 1 _ _ _ (heap_alloc_new w (.cells #[.int .i64 a, .int .i64 b] 24))⟩
  have L := hid (hba w (.cells #[.int .i64 a, .int .i64 b] 24))
  by_cases h1 : 0 ≤ a
  case neg =>
    have h1' : ¬ (0 : Int) ≤ a := by omega
    have HR : Hid (spanB a b = false) := by show _ = _; unfold spanB; exact decide_eq_false (fun h : 0 ≤ a ∧ a < b ∧ b ≤ 1099511627776 => by omega)
    go_enter Try.func65, Try.ntmps65
    go_wp2_with fail
    go_ret
    rw [HR.out]
    exact ⟨rfl, L.out⟩
  by_cases h2 : a < b
  case neg =>
    have h2' : ¬ a < b := by omega
    have HR : Hid (spanB a b = false) := by show _ = _; unfold spanB; exact decide_eq_false (fun h : 0 ≤ a ∧ a < b ∧ b ≤ 1099511627776 => by omega)
    go_enter Try.func65, Try.ntmps65
    go_wp2_with fail
    go_ret
    rw [HR.out]
    exact ⟨rfl, L.out⟩
  by_cases h3 : b ≤ 1099511627776
  case neg =>
    have h3' : ¬ b ≤ 1099511627776 := by omega
    have HR : Hid (spanB a b = false) := by show _ = _; unfold spanB; exact decide_eq_false (fun h : 0 ≤ a ∧ a < b ∧ b ≤ 1099511627776 => by omega)
    go_enter Try.func65, Try.ntmps65
    go_wp2_with fail
    go_ret
    rw [HR.out]
    exact ⟨rfl, L.out⟩
  have HR : Hid (spanB a b = true) := by show _ = _; unfold spanB; exact decide_eq_true (⟨by omega, by omega, by omega⟩ : 0 ≤ a ∧ a < b ∧ b ≤ 1099511627776)
  go_enter Try.func65, Try.ntmps65
  go_wp2_with fail
  go_ret
  rw [HR.out]
  exact ⟨rfl, L.out⟩
set_option maxRecDepth 100000 in
set_option maxHeartbeats 6400000 in
theorem srightR_any (a b : Int) (w : World) : Calls Try.prog 32 #[.agg #[.int .i64 a, .int .i64 b]] w fun e w' => e = .returned (.bool (spanB a b)) ∧ Below w.heap.size w w' := by
  obtain ⟨p0, p1⟩ : (w.alloc (.cells #[.int .i64 a, .int .i64 b] 24)).cell? ⟨w.heap.size, 0, none⟩ = some (.int .i64 a) ∧ (w.alloc (.cells #[.int .i64 a, .int .i64 b] 24)).cell? ⟨w.heap.size, 1, none⟩ = some (.int .i64 b) := ⟨cell_of_row _ _ 0 _ _ _ (heap_alloc_new w (.cells #[.int .i64 a, .int .i64 b] 24)), cell_of_row _ _ 1 _ _ _ (heap_alloc_new w (.cells #[.int .i64 a, .int .i64 b] 24))⟩
  have L := hid (hba w (.cells #[.int .i64 a, .int .i64 b] 24))
  by_cases h1 : 0 ≤ a
  case neg =>
    have h1' : ¬ (0 : Int) ≤ a := by omega
    have HR : Hid (spanB a b = false) := by show _ = _; unfold spanB; exact decide_eq_false (fun h : 0 ≤ a ∧ a < b ∧ b ≤ 1099511627776 => by omega)
    go_enter Try.func32, Try.ntmps32
    go_wp2_with fail
    go_ret
    rw [HR.out]
    exact ⟨rfl, L.out⟩
  by_cases h2 : a < b
  case neg =>
    have h2' : ¬ a < b := by omega
    have HR : Hid (spanB a b = false) := by show _ = _; unfold spanB; exact decide_eq_false (fun h : 0 ≤ a ∧ a < b ∧ b ≤ 1099511627776 => by omega)
    go_enter Try.func32, Try.ntmps32
    go_wp2_with fail
    go_ret
    rw [HR.out]
    exact ⟨rfl, L.out⟩
  by_cases h3 : b ≤ 1099511627776
  case neg =>
    have h3' : ¬ b ≤ 1099511627776 := by omega
    have HR : Hid (spanB a b = false) := by show _ = _; unfold spanB; exact decide_eq_false (fun h : 0 ≤ a ∧ a < b ∧ b ≤ 1099511627776 => by omega)
    go_enter Try.func32, Try.ntmps32
    go_wp2_with fail
    go_ret
    rw [HR.out]
    exact ⟨rfl, L.out⟩
  have HR : Hid (spanB a b = true) := by show _ = _; unfold spanB; exact decide_eq_true (⟨by omega, by omega, by omega⟩ : 0 ≤ a ∧ a < b ∧ b ≤ 1099511627776)
  go_enter Try.func32, Try.ntmps32
  go_wp2_with fail
  go_ret
  rw [HR.out]
  exact ⟨rfl, L.out⟩
set_option maxRecDepth 100000 in
set_option maxHeartbeats 6400000 in
theorem keyed_any (s : Sc.S) (u : Value) (l : List Cd.V) (v : Value) (w : World) (hu : CsAt w u s.cols) (hv : VsAt w v l) (hok : ∀ x ∈ l, Vok x) (hl : l.length ≤ maxLen) : Calls Try.prog 66 #[sv s u, v] w fun e w' => e = .returned (.bool (keyedB s l)) ∧ Below w.heap.size w w' := by
  obtain ⟨nm, cs, ky⟩ := s
  simp only at hu
  obtain ⟨uadr, ucap, rfl⟩ := hu.slc
  have BX := hid (BS3.new w ⟨nm, cs, ky⟩ (.slice uadr cs.length ucap))
  have LB := hid (hba w (.cells #[.string nm, .slice uadr cs.length ucap, .int .i64 ky] 31))
  obtain ⟨_, _, e1, _, _, huc⟩ := hu
  cases e1
  obtain ⟨adr, cap, rfl, hc⟩ := hv
  have HC := hid hc
  have HU := hid huc
  have HOK := hid hok
  unfold maxLen at hl
  clear hc huc hok
  unfold sv
  simp only
  obtain ⟨s0, s1, s2, sl⟩ := BX.out.cells
  simp only at s0 s1 s2
  by_cases h1 : (l.length : Int) = ky
  case neg =>
    have HR := hid (keyedB_len (s := ⟨nm, cs, ky⟩) (l := l) (fun h => h1 h.1))
    go_enter Try.func66, Try.ntmps66
    go_wp2_with fail
    go_ret
    rw [HR.out]
    exact ⟨rfl, LB.out⟩
  by_cases h2 : ky ≤ (cs.length : Int)
  case neg =>
    have h2' : (cs.length : Int) < ky := by omega
    have HR := hid (keyedB_len (s := ⟨nm, cs, ky⟩) (l := l) (fun h => h2 h.2))
    go_enter Try.func66, Try.ntmps66
    go_wp2_with fail
    go_ret
    rw [HR.out]
    exact ⟨rfl, LB.out⟩
  subst h1
  have h2' : ¬ (cs.length : Int) < (l.length : Int) := by omega
  have h12 : l.length ≤ cs.length := by omega
  go_enter Try.func66, Try.ntmps66
  go_wp2_with fail
  clear h2'
  go_loopw [22] (fun i wr => ∃ k : Nat, k ≤ l.length ∧ i = .int .i64 (k : Int) ∧ Hid (∀ j, j < k → keyAt cs l j = true) ∧ Below w.heap.size w wr ∧ BS3 wr w.heap.size ⟨nm, cs, (l.length : Int)⟩ (.slice uadr cs.length ucap)) (fun i _ => l.length - (intOf i).toNat)
  case atStart => exact ⟨0, by omega, rfl, fun j hj => absurd hj (Nat.not_lt_zero j), LB.out, BX.out⟩
  case round =>
    obtain ⟨k, hk, rfl, hall, hbel, hbx⟩ := hrel
    obtain ⟨w4, rfl⟩ : ∃ w4 : World, w4 = wr := ⟨_, rfl⟩
    have hk0 : (0 : Int) ≤ (k : Int) := by omega
    clear s0 s1 s2 sl LB BX
    by_cases hkl : k < l.length
    · have hkl' : (k : Int) < (l.length : Int) := by omega
      have hkc : k < cs.length := by omega
      have hkc' : (k : Int) < (cs.length : Int) := by omega
      obtain ⟨g, off, rfl, q0, q1, q2, q3⟩ := HC.out k hkl
      obtain ⟨g2, off2, rfl, _, c1, _⟩ := HU.out k hkc
      have HN := hid (keyedB_no (s := ⟨nm, cs, (l.length : Int)⟩) (l := l) hkl)
      have HA := hid (keyAt_of (cs := cs) hkl hkc)
      have hxs := HOK.out l[k] (List.getElem_mem hkl)
      generalize hx : l[k] = x at q0 q1 q2 q3 HA hxs
      generalize hy : cs[k].kind = yk at c1 HA
      clear hx hy
      obtain ⟨xk, xn, xb, xs⟩ := x
      simp only at q0 q1 q2 q3 HA
      have cr0 := fun W => right_any xk xn xb xs hxs.2.2 W
      (try unfold vv at cr0)
      replace q0 := hkeep q0 hbel
      replace q1 := hkeep q1 hbel
      replace q2 := hkeep q2 hbel
      replace q3 := hkeep q3 hbel
      replace c1 := hkeep c1 hbel
      have hb5 := hba w4 (.cells #[.int .i64 xk, .int .i64 xn, .int .u64 (xb : Int), .string xs] 36)
      have HB := hid (hnext hbel hb5)
      have BX := hid (hbx.keep hb5)
      have c1' := hid (hkeep c1 hb5)
      have XB := hid (heap_alloc_new w4 (.cells #[.int .i64 xk, .int .i64 xn, .int .u64 (xb : Int), .string xs] 36))
      clear hbel hbx hb5
      cases hr : Va.right xk xn xb xs with
      | false =>
        rw [hr] at cr0
        have cr := hid cr0
        have HR := hid (HN.out (by rw [HA.out, show Cd.V.right ⟨xk, xn, xb, xs⟩ = Va.right xk xn xb xs from rfl, hr]; rfl))
        clear cr0 hr HN HA
        go_wp2_with fail
        obtain ⟨gx, hgx⟩ : ∃ gx, w4.heap.size = gx := ⟨_, rfl⟩
        rw [hgx] at XB
        (try rw [hgx])
        generalize w4.alloc (.cells #[.int .i64 xk, .int .i64 xn, .int .u64 (xb : Int), .string xs] 36) = w5 at *
        clear hgx q0 q1 q2 q3 c1
        have x0 := cell_of_row w5 gx 0 _ _ _ XB.out
        have x1 := cell_of_row w5 gx 1 _ _ _ XB.out
        have x2 := cell_of_row w5 gx 2 _ _ _ XB.out
        have x3 := cell_of_row w5 gx 3 _ _ _ XB.out
        have c1 := c1'.out
        have s1 := BX.out.cells.2.1
        clear c1' XB
        obtain ⟨w20, hw20⟩ : ∃ w20, (w5).drew = w20 := ⟨_, rfl⟩
        have hd20 : Below (w5).heap.size (w5) w20 := hw20 ▸ (Below.refl _ _).drew
        have mk20 : ∀ W, Below w20.heap.size w20 W → Below w20.heap.size w20 W ∧ W.cell? ⟨gx, 0, none⟩ = some (.int .i64 xk) ∧ W.cell? ⟨gx, 1, none⟩ = some (.int .i64 xn) ∧ W.cell? ⟨gx, 2, none⟩ = some (.int .u64 (xb : Int)) ∧ W.cell? ⟨gx, 3, none⟩ = some (.string xs) ∧ W.cell? ⟨g2, off2 + k * 3 + 1, none⟩ = some (.int .i64 yk) ∧ W.cell? ⟨w.heap.size, 1, none⟩ = some (.slice (some ⟨g2, off2, none⟩) cs.length ucap) := fun W h => ⟨h, hkeep (hkeep x0 hd20) h, hkeep (hkeep x1 hd20) h, hkeep (hkeep x2 hd20) h, hkeep (hkeep x3 hd20) h, hkeep (hkeep c1 hd20) h, hkeep (hkeep s1 hd20) h⟩
        clear x0 x1 x2 x3 c1 s1
        refine wp_region_held_drew (S := (fun W => Below w20.heap.size w20 W ∧ W.cell? ⟨gx, 0, none⟩ = some (.int .i64 xk) ∧ W.cell? ⟨gx, 1, none⟩ = some (.int .i64 xn) ∧ W.cell? ⟨gx, 2, none⟩ = some (.int .u64 (xb : Int)) ∧ W.cell? ⟨gx, 3, none⟩ = some (.string xs) ∧ W.cell? ⟨g2, off2 + k * 3 + 1, none⟩ = some (.int .i64 yk) ∧ W.cell? ⟨w.heap.size, 1, none⟩ = some (.slice (some ⟨g2, off2, none⟩) cs.length ucap))) (by kernel_rfl) (by rw [hw20]; exact mk20 _ (Below.refl _ _)) (fun hS20 => ?_)
        rw [hw20] at hS20 ⊢
        clear hw20
        refine wT 0 hS20 ?_
        refine wpAnyH_ready (rs := [1]) (by kernel_rfl) (by simp) ?_
        refine wC (fun K hK => ?_) AllReadyH.nil
        go_simp
        refine (cr.out _).mono ?_; rintro e w21 ⟨rfl, hb21⟩
        go_wp2_with fail
        refine hK.out _ _ (mk20 _ (hnext hS20.1 hb21)) (fun hS21 => ?_)
        clear hK K
        (try simp only [Act.put, List.setIfInBounds_toArray, List.set_cons_zero, List.set_cons_succ])
        clear hb21 hS20
        refine wT 2 hS21 ?_
        refine wT 3 hS21 ?_
        refine wF 4 hS21 ?_
        refine wF 5 hS21 ?_
        refine wF 6 hS21 ?_
        refine wF 7 hS21 ?_
        refine wF 8 hS21 ?_
        refine wF 9 hS21 ?_
        refine wF 10 hS21 ?_
        refine wF 11 hS21 ?_
        refine wF 12 hS21 ?_
        refine wT 13 hS21 ?_
        refine wpAnyH_done (by kernel_rfl) ?_ _
        go_wp2_with fail
        go_ret
        rw [HR.out]
        exact ⟨rfl, hnext (hnext HB.out hd20) hS21.1⟩
      | true =>
        rw [hr] at cr0
        have cr := hid cr0
        by_cases he : xk = yk
        · have he' : (xk == yk) = true := by simpa using he
          have HK := hid (HA.out.trans (by rw [show Cd.V.right ⟨xk, xn, xb, xs⟩ = Va.right xk xn xb xs from rfl, hr, decide_eq_true he]))
          clear he
          clear cr0 hr HN HA
          go_wp2_with fail
          obtain ⟨gx, hgx⟩ : ∃ gx, w4.heap.size = gx := ⟨_, rfl⟩
          rw [hgx] at XB
          (try rw [hgx])
          generalize w4.alloc (.cells #[.int .i64 xk, .int .i64 xn, .int .u64 (xb : Int), .string xs] 36) = w5 at *
          clear hgx q0 q1 q2 q3 c1
          have x0 := cell_of_row w5 gx 0 _ _ _ XB.out
          have x1 := cell_of_row w5 gx 1 _ _ _ XB.out
          have x2 := cell_of_row w5 gx 2 _ _ _ XB.out
          have x3 := cell_of_row w5 gx 3 _ _ _ XB.out
          have c1 := c1'.out
          have s1 := BX.out.cells.2.1
          clear c1' XB
          obtain ⟨w20, hw20⟩ : ∃ w20, (w5).drew = w20 := ⟨_, rfl⟩
          have hd20 : Below (w5).heap.size (w5) w20 := hw20 ▸ (Below.refl _ _).drew
          have mk20 : ∀ W, Below w20.heap.size w20 W → Below w20.heap.size w20 W ∧ W.cell? ⟨gx, 0, none⟩ = some (.int .i64 xk) ∧ W.cell? ⟨gx, 1, none⟩ = some (.int .i64 xn) ∧ W.cell? ⟨gx, 2, none⟩ = some (.int .u64 (xb : Int)) ∧ W.cell? ⟨gx, 3, none⟩ = some (.string xs) ∧ W.cell? ⟨g2, off2 + k * 3 + 1, none⟩ = some (.int .i64 yk) ∧ W.cell? ⟨w.heap.size, 1, none⟩ = some (.slice (some ⟨g2, off2, none⟩) cs.length ucap) := fun W h => ⟨h, hkeep (hkeep x0 hd20) h, hkeep (hkeep x1 hd20) h, hkeep (hkeep x2 hd20) h, hkeep (hkeep x3 hd20) h, hkeep (hkeep c1 hd20) h, hkeep (hkeep s1 hd20) h⟩
          clear x0 x1 x2 x3 c1 s1
          refine wp_region_held_drew (S := (fun W => Below w20.heap.size w20 W ∧ W.cell? ⟨gx, 0, none⟩ = some (.int .i64 xk) ∧ W.cell? ⟨gx, 1, none⟩ = some (.int .i64 xn) ∧ W.cell? ⟨gx, 2, none⟩ = some (.int .u64 (xb : Int)) ∧ W.cell? ⟨gx, 3, none⟩ = some (.string xs) ∧ W.cell? ⟨g2, off2 + k * 3 + 1, none⟩ = some (.int .i64 yk) ∧ W.cell? ⟨w.heap.size, 1, none⟩ = some (.slice (some ⟨g2, off2, none⟩) cs.length ucap))) (by kernel_rfl) (by rw [hw20]; exact mk20 _ (Below.refl _ _)) (fun hS20 => ?_)
          rw [hw20] at hS20 ⊢
          clear hw20
          refine wT 0 hS20 ?_
          refine wpAnyH_ready (rs := [1]) (by kernel_rfl) (by simp) ?_
          refine wC (fun K hK => ?_) AllReadyH.nil
          go_simp
          refine (cr.out _).mono ?_; rintro e w21 ⟨rfl, hb21⟩
          go_wp2_with fail
          refine hK.out _ _ (mk20 _ (hnext hS20.1 hb21)) (fun hS21 => ?_)
          clear hK K
          (try simp only [Act.put, List.setIfInBounds_toArray, List.set_cons_zero, List.set_cons_succ])
          clear hb21 hS20
          refine wT 2 hS21 ?_
          refine wT 3 hS21 ?_
          refine wT 4 hS21 ?_
          refine wT 5 hS21 ?_
          refine wT 6 hS21 ?_
          refine wT 7 hS21 ?_
          refine wT 8 hS21 ?_
          refine wT 9 hS21 ?_
          refine wT 10 hS21 ?_
          refine wT 11 hS21 ?_
          refine wT 12 hS21 ?_
          refine wT 13 hS21 ?_
          refine wpAnyH_done (by kernel_rfl) ?_ _
          go_wp2_with fail
          have HB6 := hid (hnext (hnext HB.out hd20) hS21.1)
          have BX6 := hid ((BX.out.keep hd20).keep hS21.1)
          go_roundw
          case rel => exact ⟨k + 1, by omega, by first | rfl | go_num, fun j hj => (Nat.lt_succ_iff_lt_or_eq.1 hj).elim (fun h => hall.out j h) (fun h => h ▸ HK.out), HB6.out, BX6.out⟩
          case measure => simp [intOf]; omega
        · have he' : (xk == yk) = false := by simpa using he
          have HR := hid (HN.out (by rw [HA.out, decide_eq_false he, Bool.and_false]))
          clear he
          clear cr0 hr HN HA
          go_wp2_with fail
          obtain ⟨gx, hgx⟩ : ∃ gx, w4.heap.size = gx := ⟨_, rfl⟩
          rw [hgx] at XB
          (try rw [hgx])
          generalize w4.alloc (.cells #[.int .i64 xk, .int .i64 xn, .int .u64 (xb : Int), .string xs] 36) = w5 at *
          clear hgx q0 q1 q2 q3 c1
          have x0 := cell_of_row w5 gx 0 _ _ _ XB.out
          have x1 := cell_of_row w5 gx 1 _ _ _ XB.out
          have x2 := cell_of_row w5 gx 2 _ _ _ XB.out
          have x3 := cell_of_row w5 gx 3 _ _ _ XB.out
          have c1 := c1'.out
          have s1 := BX.out.cells.2.1
          clear c1' XB
          obtain ⟨w20, hw20⟩ : ∃ w20, (w5).drew = w20 := ⟨_, rfl⟩
          have hd20 : Below (w5).heap.size (w5) w20 := hw20 ▸ (Below.refl _ _).drew
          have mk20 : ∀ W, Below w20.heap.size w20 W → Below w20.heap.size w20 W ∧ W.cell? ⟨gx, 0, none⟩ = some (.int .i64 xk) ∧ W.cell? ⟨gx, 1, none⟩ = some (.int .i64 xn) ∧ W.cell? ⟨gx, 2, none⟩ = some (.int .u64 (xb : Int)) ∧ W.cell? ⟨gx, 3, none⟩ = some (.string xs) ∧ W.cell? ⟨g2, off2 + k * 3 + 1, none⟩ = some (.int .i64 yk) ∧ W.cell? ⟨w.heap.size, 1, none⟩ = some (.slice (some ⟨g2, off2, none⟩) cs.length ucap) := fun W h => ⟨h, hkeep (hkeep x0 hd20) h, hkeep (hkeep x1 hd20) h, hkeep (hkeep x2 hd20) h, hkeep (hkeep x3 hd20) h, hkeep (hkeep c1 hd20) h, hkeep (hkeep s1 hd20) h⟩
          clear x0 x1 x2 x3 c1 s1
          refine wp_region_held_drew (S := (fun W => Below w20.heap.size w20 W ∧ W.cell? ⟨gx, 0, none⟩ = some (.int .i64 xk) ∧ W.cell? ⟨gx, 1, none⟩ = some (.int .i64 xn) ∧ W.cell? ⟨gx, 2, none⟩ = some (.int .u64 (xb : Int)) ∧ W.cell? ⟨gx, 3, none⟩ = some (.string xs) ∧ W.cell? ⟨g2, off2 + k * 3 + 1, none⟩ = some (.int .i64 yk) ∧ W.cell? ⟨w.heap.size, 1, none⟩ = some (.slice (some ⟨g2, off2, none⟩) cs.length ucap))) (by kernel_rfl) (by rw [hw20]; exact mk20 _ (Below.refl _ _)) (fun hS20 => ?_)
          rw [hw20] at hS20 ⊢
          clear hw20
          refine wT 0 hS20 ?_
          refine wpAnyH_ready (rs := [1]) (by kernel_rfl) (by simp) ?_
          refine wC (fun K hK => ?_) AllReadyH.nil
          go_simp
          refine (cr.out _).mono ?_; rintro e w21 ⟨rfl, hb21⟩
          go_wp2_with fail
          refine hK.out _ _ (mk20 _ (hnext hS20.1 hb21)) (fun hS21 => ?_)
          clear hK K
          (try simp only [Act.put, List.setIfInBounds_toArray, List.set_cons_zero, List.set_cons_succ])
          clear hb21 hS20
          refine wT 2 hS21 ?_
          refine wT 3 hS21 ?_
          refine wT 4 hS21 ?_
          refine wT 5 hS21 ?_
          refine wT 6 hS21 ?_
          refine wT 7 hS21 ?_
          refine wT 8 hS21 ?_
          refine wT 9 hS21 ?_
          refine wT 10 hS21 ?_
          refine wT 11 hS21 ?_
          refine wT 12 hS21 ?_
          refine wT 13 hS21 ?_
          refine wpAnyH_done (by kernel_rfl) ?_ _
          go_wp2_with fail
          go_ret
          rw [HR.out]
          exact ⟨rfl, hnext (hnext HB.out hd20) hS21.1⟩
    · obtain rfl : k = l.length := by omega
      clear hkl
      have HR := hid (keyedB_yes (s := ⟨nm, cs, (l.length : Int)⟩) (l := l) rfl h2 hall.out)
      go_wp2_with fail
      go_ret
      rw [HR.out]
      exact ⟨rfl, hbel⟩
set_option maxRecDepth 100000 in
set_option maxHeartbeats 6400000 in
theorem keyedR_any (s : Sc.S) (u : Value) (l : List Cd.V) (v : Value) (w : World) (hu : CsAt w u s.cols) (hv : VsAt w v l) (hok : ∀ x ∈ l, Vok x) (hl : l.length ≤ maxLen) : Calls Try.prog 31 #[sv s u, v] w fun e w' => e = .returned (.bool (keyedB s l)) ∧ Below w.heap.size w w' := by
  obtain ⟨nm, cs, ky⟩ := s
  simp only at hu
  obtain ⟨uadr, ucap, rfl⟩ := hu.slc
  have BX := hid (BS3.new w ⟨nm, cs, ky⟩ (.slice uadr cs.length ucap))
  have LB := hid (hba w (.cells #[.string nm, .slice uadr cs.length ucap, .int .i64 ky] 31))
  obtain ⟨_, _, e1, _, _, huc⟩ := hu
  cases e1
  obtain ⟨adr, cap, rfl, hc⟩ := hv
  have HC := hid hc
  have HU := hid huc
  have HOK := hid hok
  unfold maxLen at hl
  clear hc huc hok
  unfold sv
  simp only
  obtain ⟨s0, s1, s2, sl⟩ := BX.out.cells
  simp only at s0 s1 s2
  by_cases h1 : (l.length : Int) = ky
  case neg =>
    have HR := hid (keyedB_len (s := ⟨nm, cs, ky⟩) (l := l) (fun h => h1 h.1))
    go_enter Try.func31, Try.ntmps31
    go_wp2_with fail
    go_ret
    rw [HR.out]
    exact ⟨rfl, LB.out⟩
  by_cases h2 : ky ≤ (cs.length : Int)
  case neg =>
    have h2' : (cs.length : Int) < ky := by omega
    have HR := hid (keyedB_len (s := ⟨nm, cs, ky⟩) (l := l) (fun h => h2 h.2))
    go_enter Try.func31, Try.ntmps31
    go_wp2_with fail
    go_ret
    rw [HR.out]
    exact ⟨rfl, LB.out⟩
  subst h1
  have h2' : ¬ (cs.length : Int) < (l.length : Int) := by omega
  have h12 : l.length ≤ cs.length := by omega
  go_enter Try.func31, Try.ntmps31
  go_wp2_with fail
  clear h2'
  go_loopw [5] (fun i wr => ∃ k : Nat, k ≤ l.length ∧ i = .int .i64 (k : Int) ∧ Hid (∀ j, j < k → keyAt cs l j = true) ∧ Below w.heap.size w wr ∧ BS3 wr w.heap.size ⟨nm, cs, (l.length : Int)⟩ (.slice uadr cs.length ucap)) (fun i _ => l.length - (intOf i).toNat)
  case atStart => exact ⟨0, by omega, rfl, fun j hj => absurd hj (Nat.not_lt_zero j), LB.out, BX.out⟩
  case round =>
    obtain ⟨k, hk, rfl, hall, hbel, hbx⟩ := hrel
    obtain ⟨w4, rfl⟩ : ∃ w4 : World, w4 = wr := ⟨_, rfl⟩
    have hk0 : (0 : Int) ≤ (k : Int) := by omega
    clear s0 s1 s2 sl LB BX
    by_cases hkl : k < l.length
    · have hkl' : (k : Int) < (l.length : Int) := by omega
      have hkc : k < cs.length := by omega
      have hkc' : (k : Int) < (cs.length : Int) := by omega
      obtain ⟨g, off, rfl, q0, q1, q2, q3⟩ := HC.out k hkl
      obtain ⟨g2, off2, rfl, _, c1, _⟩ := HU.out k hkc
      have HN := hid (keyedB_no (s := ⟨nm, cs, (l.length : Int)⟩) (l := l) hkl)
      have HA := hid (keyAt_of (cs := cs) hkl hkc)
      have hxs := HOK.out l[k] (List.getElem_mem hkl)
      generalize hx : l[k] = x at q0 q1 q2 q3 HA hxs
      generalize hy : cs[k].kind = yk at c1 HA
      clear hx hy
      obtain ⟨xk, xn, xb, xs⟩ := x
      simp only at q0 q1 q2 q3 HA
      have cr0 := fun W => rightR_any xk xn xb xs hxs.2.2 hxs.2.1 W
      (try unfold vv at cr0)
      replace q0 := hkeep q0 hbel
      replace q1 := hkeep q1 hbel
      replace q2 := hkeep q2 hbel
      replace q3 := hkeep q3 hbel
      replace c1 := hkeep c1 hbel
      have HB := hid hbel
      have BX := hid hbx
      clear hbel hbx
      cases hr : Va.right xk xn xb xs with
      | false =>
        rw [hr] at cr0
        have cr := hid cr0
        have HR := hid (HN.out (by rw [HA.out, show Cd.V.right ⟨xk, xn, xb, xs⟩ = Va.right xk xn xb xs from rfl, hr]; rfl))
        clear cr0 hr HN HA
        go_wp2_with fail
        have s1 := BX.out.cells.2.1
        obtain ⟨w20, hw20⟩ : ∃ w20, (w4).drew = w20 := ⟨_, rfl⟩
        have hd20 : Below (w4).heap.size (w4) w20 := hw20 ▸ (Below.refl _ _).drew
        have mk20 : ∀ W, Below w20.heap.size w20 W → Below w20.heap.size w20 W ∧ W.cell? ⟨g, off + k * 4, none⟩ = some (.int .i64 xk) ∧ W.cell? ⟨g, off + k * 4 + 1, none⟩ = some (.int .i64 xn) ∧ W.cell? ⟨g, off + k * 4 + 2, none⟩ = some (.int .u64 (xb : Int)) ∧ W.cell? ⟨g, off + k * 4 + 3, none⟩ = some (.string xs) ∧ W.cell? ⟨g2, off2 + k * 3 + 1, none⟩ = some (.int .i64 yk) ∧ W.cell? ⟨w.heap.size, 1, none⟩ = some (.slice (some ⟨g2, off2, none⟩) cs.length ucap) := fun W h => ⟨h, hkeep (hkeep q0 hd20) h, hkeep (hkeep q1 hd20) h, hkeep (hkeep q2 hd20) h, hkeep (hkeep q3 hd20) h, hkeep (hkeep c1 hd20) h, hkeep (hkeep s1 hd20) h⟩
        clear q0 q1 q2 q3 c1 s1
        refine wp_region_held_drew (S := (fun W => Below w20.heap.size w20 W ∧ W.cell? ⟨g, off + k * 4, none⟩ = some (.int .i64 xk) ∧ W.cell? ⟨g, off + k * 4 + 1, none⟩ = some (.int .i64 xn) ∧ W.cell? ⟨g, off + k * 4 + 2, none⟩ = some (.int .u64 (xb : Int)) ∧ W.cell? ⟨g, off + k * 4 + 3, none⟩ = some (.string xs) ∧ W.cell? ⟨g2, off2 + k * 3 + 1, none⟩ = some (.int .i64 yk) ∧ W.cell? ⟨w.heap.size, 1, none⟩ = some (.slice (some ⟨g2, off2, none⟩) cs.length ucap))) (by kernel_rfl) (by rw [hw20]; exact mk20 _ (Below.refl _ _)) (fun hS20 => ?_)
        rw [hw20] at hS20 ⊢
        clear hw20
        refine wT 0 hS20 ?_
        refine wT 1 hS20 ?_
        refine wT 2 hS20 ?_
        refine wT 3 hS20 ?_
        refine wpAnyH_ready (rs := [4]) (by kernel_rfl) (by simp) ?_
        refine wC (fun K hK => ?_) AllReadyH.nil
        go_simp
        refine (cr.out _).mono ?_; rintro e w21 ⟨rfl, hb21⟩
        go_wp2_with fail
        refine hK.out _ _ (mk20 _ (hnext hS20.1 hb21)) (fun hS21 => ?_)
        clear hK K
        (try simp only [Act.put, List.setIfInBounds_toArray, List.set_cons_zero, List.set_cons_succ])
        clear hb21 hS20
        refine wT 5 hS21 ?_
        refine wT 6 hS21 ?_
        refine wF 7 hS21 ?_
        refine wF 8 hS21 ?_
        refine wF 9 hS21 ?_
        refine wF 10 hS21 ?_
        refine wF 11 hS21 ?_
        refine wF 12 hS21 ?_
        refine wF 13 hS21 ?_
        refine wF 14 hS21 ?_
        refine wF 15 hS21 ?_
        refine wF 16 hS21 ?_
        refine wF 17 hS21 ?_
        refine wF 18 hS21 ?_
        refine wT 19 hS21 ?_
        refine wpAnyH_done (by kernel_rfl) ?_ _
        go_wp2_with fail
        go_ret
        rw [HR.out]
        exact ⟨rfl, hnext (hnext HB.out hd20) hS21.1⟩
      | true =>
        rw [hr] at cr0
        have cr := hid cr0
        by_cases he : xk = yk
        · have he' : (xk == yk) = true := by simpa using he
          have HK := hid (HA.out.trans (by rw [show Cd.V.right ⟨xk, xn, xb, xs⟩ = Va.right xk xn xb xs from rfl, hr, decide_eq_true he]))
          clear he
          clear cr0 hr HN HA
          go_wp2_with fail
          have s1 := BX.out.cells.2.1
          obtain ⟨w20, hw20⟩ : ∃ w20, (w4).drew = w20 := ⟨_, rfl⟩
          have hd20 : Below (w4).heap.size (w4) w20 := hw20 ▸ (Below.refl _ _).drew
          have mk20 : ∀ W, Below w20.heap.size w20 W → Below w20.heap.size w20 W ∧ W.cell? ⟨g, off + k * 4, none⟩ = some (.int .i64 xk) ∧ W.cell? ⟨g, off + k * 4 + 1, none⟩ = some (.int .i64 xn) ∧ W.cell? ⟨g, off + k * 4 + 2, none⟩ = some (.int .u64 (xb : Int)) ∧ W.cell? ⟨g, off + k * 4 + 3, none⟩ = some (.string xs) ∧ W.cell? ⟨g2, off2 + k * 3 + 1, none⟩ = some (.int .i64 yk) ∧ W.cell? ⟨w.heap.size, 1, none⟩ = some (.slice (some ⟨g2, off2, none⟩) cs.length ucap) := fun W h => ⟨h, hkeep (hkeep q0 hd20) h, hkeep (hkeep q1 hd20) h, hkeep (hkeep q2 hd20) h, hkeep (hkeep q3 hd20) h, hkeep (hkeep c1 hd20) h, hkeep (hkeep s1 hd20) h⟩
          clear q0 q1 q2 q3 c1 s1
          refine wp_region_held_drew (S := (fun W => Below w20.heap.size w20 W ∧ W.cell? ⟨g, off + k * 4, none⟩ = some (.int .i64 xk) ∧ W.cell? ⟨g, off + k * 4 + 1, none⟩ = some (.int .i64 xn) ∧ W.cell? ⟨g, off + k * 4 + 2, none⟩ = some (.int .u64 (xb : Int)) ∧ W.cell? ⟨g, off + k * 4 + 3, none⟩ = some (.string xs) ∧ W.cell? ⟨g2, off2 + k * 3 + 1, none⟩ = some (.int .i64 yk) ∧ W.cell? ⟨w.heap.size, 1, none⟩ = some (.slice (some ⟨g2, off2, none⟩) cs.length ucap))) (by kernel_rfl) (by rw [hw20]; exact mk20 _ (Below.refl _ _)) (fun hS20 => ?_)
          rw [hw20] at hS20 ⊢
          clear hw20
          refine wT 0 hS20 ?_
          refine wT 1 hS20 ?_
          refine wT 2 hS20 ?_
          refine wT 3 hS20 ?_
          refine wpAnyH_ready (rs := [4]) (by kernel_rfl) (by simp) ?_
          refine wC (fun K hK => ?_) AllReadyH.nil
          go_simp
          refine (cr.out _).mono ?_; rintro e w21 ⟨rfl, hb21⟩
          go_wp2_with fail
          refine hK.out _ _ (mk20 _ (hnext hS20.1 hb21)) (fun hS21 => ?_)
          clear hK K
          (try simp only [Act.put, List.setIfInBounds_toArray, List.set_cons_zero, List.set_cons_succ])
          clear hb21 hS20
          refine wT 5 hS21 ?_
          refine wT 6 hS21 ?_
          refine wT 7 hS21 ?_
          refine wT 8 hS21 ?_
          refine wT 9 hS21 ?_
          refine wT 10 hS21 ?_
          refine wT 11 hS21 ?_
          refine wT 12 hS21 ?_
          refine wT 13 hS21 ?_
          refine wT 14 hS21 ?_
          refine wT 15 hS21 ?_
          refine wT 16 hS21 ?_
          refine wT 17 hS21 ?_
          refine wT 18 hS21 ?_
          refine wT 19 hS21 ?_
          refine wpAnyH_done (by kernel_rfl) ?_ _
          go_wp2_with fail
          have HB6 := hid (hnext (hnext HB.out hd20) hS21.1)
          have BX6 := hid ((BX.out.keep hd20).keep hS21.1)
          go_roundw
          case rel => exact ⟨k + 1, by omega, by first | rfl | go_num, fun j hj => (Nat.lt_succ_iff_lt_or_eq.1 hj).elim (fun h => hall.out j h) (fun h => h ▸ HK.out), HB6.out, BX6.out⟩
          case measure => simp [intOf]; omega
        · have he' : (xk == yk) = false := by simpa using he
          have HR := hid (HN.out (by rw [HA.out, decide_eq_false he, Bool.and_false]))
          clear he
          clear cr0 hr HN HA
          go_wp2_with fail
          have s1 := BX.out.cells.2.1
          obtain ⟨w20, hw20⟩ : ∃ w20, (w4).drew = w20 := ⟨_, rfl⟩
          have hd20 : Below (w4).heap.size (w4) w20 := hw20 ▸ (Below.refl _ _).drew
          have mk20 : ∀ W, Below w20.heap.size w20 W → Below w20.heap.size w20 W ∧ W.cell? ⟨g, off + k * 4, none⟩ = some (.int .i64 xk) ∧ W.cell? ⟨g, off + k * 4 + 1, none⟩ = some (.int .i64 xn) ∧ W.cell? ⟨g, off + k * 4 + 2, none⟩ = some (.int .u64 (xb : Int)) ∧ W.cell? ⟨g, off + k * 4 + 3, none⟩ = some (.string xs) ∧ W.cell? ⟨g2, off2 + k * 3 + 1, none⟩ = some (.int .i64 yk) ∧ W.cell? ⟨w.heap.size, 1, none⟩ = some (.slice (some ⟨g2, off2, none⟩) cs.length ucap) := fun W h => ⟨h, hkeep (hkeep q0 hd20) h, hkeep (hkeep q1 hd20) h, hkeep (hkeep q2 hd20) h, hkeep (hkeep q3 hd20) h, hkeep (hkeep c1 hd20) h, hkeep (hkeep s1 hd20) h⟩
          clear q0 q1 q2 q3 c1 s1
          refine wp_region_held_drew (S := (fun W => Below w20.heap.size w20 W ∧ W.cell? ⟨g, off + k * 4, none⟩ = some (.int .i64 xk) ∧ W.cell? ⟨g, off + k * 4 + 1, none⟩ = some (.int .i64 xn) ∧ W.cell? ⟨g, off + k * 4 + 2, none⟩ = some (.int .u64 (xb : Int)) ∧ W.cell? ⟨g, off + k * 4 + 3, none⟩ = some (.string xs) ∧ W.cell? ⟨g2, off2 + k * 3 + 1, none⟩ = some (.int .i64 yk) ∧ W.cell? ⟨w.heap.size, 1, none⟩ = some (.slice (some ⟨g2, off2, none⟩) cs.length ucap))) (by kernel_rfl) (by rw [hw20]; exact mk20 _ (Below.refl _ _)) (fun hS20 => ?_)
          rw [hw20] at hS20 ⊢
          clear hw20
          refine wT 0 hS20 ?_
          refine wT 1 hS20 ?_
          refine wT 2 hS20 ?_
          refine wT 3 hS20 ?_
          refine wpAnyH_ready (rs := [4]) (by kernel_rfl) (by simp) ?_
          refine wC (fun K hK => ?_) AllReadyH.nil
          go_simp
          refine (cr.out _).mono ?_; rintro e w21 ⟨rfl, hb21⟩
          go_wp2_with fail
          refine hK.out _ _ (mk20 _ (hnext hS20.1 hb21)) (fun hS21 => ?_)
          clear hK K
          (try simp only [Act.put, List.setIfInBounds_toArray, List.set_cons_zero, List.set_cons_succ])
          clear hb21 hS20
          refine wT 5 hS21 ?_
          refine wT 6 hS21 ?_
          refine wT 7 hS21 ?_
          refine wT 8 hS21 ?_
          refine wT 9 hS21 ?_
          refine wT 10 hS21 ?_
          refine wT 11 hS21 ?_
          refine wT 12 hS21 ?_
          refine wT 13 hS21 ?_
          refine wT 14 hS21 ?_
          refine wT 15 hS21 ?_
          refine wT 16 hS21 ?_
          refine wT 17 hS21 ?_
          refine wT 18 hS21 ?_
          refine wT 19 hS21 ?_
          refine wpAnyH_done (by kernel_rfl) ?_ _
          go_wp2_with fail
          go_ret
          rw [HR.out]
          exact ⟨rfl, hnext (hnext HB.out hd20) hS21.1⟩
    · obtain rfl : k = l.length := by omega
      clear hkl
      have HR := hid (keyedB_yes (s := ⟨nm, cs, (l.length : Int)⟩) (l := l) rfl h2 hall.out)
      go_wp2_with fail
      go_ret
      rw [HR.out]
      exact ⟨rfl, hbel⟩
end Go.Proofs.Ytmcneelapghfcaa
