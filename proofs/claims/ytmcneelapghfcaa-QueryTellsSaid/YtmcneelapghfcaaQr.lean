/-
  Contracts and laws of the layers below, put together: Qr. Conditions: where they are named.
-/
import Derived.Test.YtmcneelapghfcaaQe
import Derived.Test.YtmcneelapghfcaaPr

namespace Go.Proofs.Ytmcneelapghfcaa
open Go.RowKit Pd

namespace Pd
theorem okN_bad {cs : List Sc.C} {x : N} (h8 : x.op ≤ 8) (h : x.col < 0 ∨ (cs.length : Int) ≤ x.col) : okN cs x = false := by
  unfold okN
  by_cases h6 : x.op ≤ 6
  · rw [if_pos h6, decide_eq_false (by omega), Bool.false_and]
  · rw [if_neg h6, if_pos h8, decide_eq_false (by omega), Bool.false_and]
theorem okN_in {cs : List Sc.C} {op col xk xn : Int} {xb : Nat} {xs : ByteArray} (h8 : 8 < op) (h : col ≠ 0) : okN cs ⟨op, col, ⟨xk, xn, xb, xs⟩⟩ = false := by
  unfold okN
  rw [if_neg (show ¬ op ≤ 6 by omega), if_neg (show ¬ op ≤ 8 by omega), decide_eq_false_iff_not]
  intro e; cases e; exact h rfl
theorem okN_nul {cs : List Sc.C} {op col xk xn : Int} {xb : Nat} {xs : ByteArray} (h6 : ¬ op ≤ 6) (h : (op ≤ 8 → 0 ≤ col ∧ col < (cs.length : Int)) ∧ (8 < op → col = 0)) : okN cs ⟨op, col, ⟨xk, xn, xb, xs⟩⟩ = (xk == 0 && (xn == 0 && ((xb : Int) == 0 && decide (xs = ⟨#[]⟩)))) := by
  have hv : (xk == 0 && (xn == 0 && ((xb : Int) == ((0 : Nat) : Int) && decide (xs = ⟨#[]⟩)))) = decide ((⟨xk, xn, xb, xs⟩ : Cd.V) = nul) := v_beq ⟨xk, xn, xb, xs⟩ nul
  rw [show ((xb : Int) == 0) = ((xb : Int) == ((0 : Nat) : Int)) from rfl, hv]
  unfold okN
  rw [if_neg (show ¬ op ≤ 6 from h6)]
  by_cases h8 : op ≤ 8
  · rw [if_pos (show op ≤ 8 from h8), decide_eq_true (show (0 ≤ col ∧ col < (cs.length : Int)) from h.1 h8), Bool.true_and, decide_eq_decide]
    constructor
    · intro e; injection e
    · intro e; rw [e]
  · rw [if_neg (show ¬ op ≤ 8 from h8), decide_eq_decide]
    obtain rfl : col = 0 := h.2 (by omega)
    constructor
    · intro e; injection e
    · intro e; rw [e]
end Pd
set_option maxRecDepth 100000 in
set_option maxHeartbeats 6400000 in
theorem prightR_any (v : Value) (l : List N) (s : Sc.S) (u : Value) (w : World) (hv : NsAt w v l) (hu : CsAt w u s.cols) (hl : l.length ≤ 1000000) (hok : ∀ x ∈ l, x.v.s.size ≤ maxLen ∧ x.v.b < 18446744073709551616) : Calls Try.prog 30 #[v, sv s u] w fun e w' => e = .returned (.bool (rightL s.cols l)) ∧ Below w.heap.size w w' := by
  have SB := hid (hba w (.cells #[.string s.name, u, .int .i64 s.keys] 31))
  have cw0 := wholeR_any v l (w.alloc (.cells #[.string s.name, u, .int .i64 s.keys] 31)) (hv.below (hba _ _)) hl
  have sb := heap_alloc_new w (.cells #[.string s.name, u, .int .i64 s.keys] 31)
  obtain ⟨adr, cap, rfl, hc⟩ := hv
  obtain ⟨uadr, ucap, rfl, hul, hum, hu2⟩ := hu
  have HC := hid hc
  have HU := hid hu2
  have HOK := hid hok
  have SB1 := hid (cell_of_row _ _ 1 _ _ _ sb)
  have hsz : w.heap.size < (w.alloc (.cells #[.string s.name, .slice uadr s.cols.length ucap, .int .i64 s.keys] 31)).heap.size := by simp
  unfold sv
  clear hc hu2 hok sb
  cases hw : whole l with
  | false =>
    have HR : Hid (rightL s.cols l = false) := by show _ = _; unfold rightL; rw [hw, Bool.false_and]
    rw [hw] at cw0
    have cw := hid cw0
    clear cw0 hw
    go_enter Try.func30, Try.ntmps30
    go_wp2_with fail
    refine cw.out.mono ?_; rintro e w1 ⟨rfl, rfl⟩
    go_wp2_with fail
    go_ret
    rw [HR.out]
    exact ⟨rfl, SB.out⟩
  | true =>
    have HW := hid hw
    have HR0 : Hid (rightL s.cols l = l.all (okN s.cols)) := by show _ = _; unfold rightL; rw [hw, Bool.true_and]
    rw [hw] at cw0
    have cw := hid cw0
    clear cw0 hw
    go_enter Try.func30, Try.ntmps30
    go_wp2_with fail
    refine cw.out.mono ?_; rintro e w1 ⟨rfl, rfl⟩
    go_wp2_with fail
    go_loopw [5] (fun i wr => ∃ k : Nat, k ≤ l.length ∧ i = .int .i64 (k : Int) ∧ Hid ((l.take k).all (okN s.cols) = true) ∧ Below w.heap.size w wr ∧ wr.cell? ⟨w.heap.size, 1, none⟩ = some (.slice uadr s.cols.length ucap)) (fun i _ => l.length - (intOf i).toNat)
    case atStart => exact ⟨0, by omega, rfl, rfl, SB.out, SB1.out⟩
    case round =>
      obtain ⟨k, hk, rfl, hall, hbel, hsc⟩ := hrel
      obtain ⟨w4, rfl⟩ : ∃ w4 : World, w4 = wr := ⟨_, rfl⟩
      have hk0 : (0 : Int) ≤ (k : Int) := by omega
      by_cases hkl : k < l.length
      · have hkl' : (k : Int) < (l.length : Int) := by omega
        obtain ⟨g, off, rfl, q0, q1, q2, q3, q4, q5⟩ := HC.out k hkl
        have HN := hid (rightL_no (cs := s.cols) hkl)
        have HA := hid (all_node (cs := s.cols) hkl hall.out)
        have hop := whole_op HW.out hkl
        have hxs := (HOK.out l[k] (List.getElem_mem hkl)).1
        have hxb := (HOK.out l[k] (List.getElem_mem hkl)).2
        generalize hx : l[k] = x at q0 q1 q2 q3 q4 q5 HN HA hop hxs hxb
        clear hx
        obtain ⟨op, col, ⟨xk, xn, xb, xs⟩⟩ := x
        simp only at q0 q1 q2 q3 q4 q5 hop hxs hxb
        obtain ⟨o1, o2⟩ := hop
        replace q0 := hkeep q0 hbel
        replace q1 := hkeep q1 hbel
        replace q2 := hkeep q2 hbel
        replace q3 := hkeep q3 hbel
        replace q4 := hkeep q4 hbel
        replace q5 := hkeep q5 hbel
        have HB4 := hid hbel
        have hlt4 : w.heap.size < w4.heap.size := World.block_lt_of_cell? w4 _ hsc
        have HSC := hid hsc
        clear hbel hall
        by_cases h8 : op ≤ 8
        · by_cases c1 : col < 0
          · have HR : Hid (rightL s.cols l = false) := HN.out (okN_bad h8 (.inl c1))
            clear HN HA
            go_wp2_with fail
            go_ret
            rw [HR.out]
            exact ⟨rfl, hnext HB4.out (hba w4 _)⟩
          · by_cases c2 : (s.cols.length : Int) ≤ col
            · have HR : Hid (rightL s.cols l = false) := HN.out (okN_bad h8 (.inr c2))
              clear HN HA
              go_wp2_with fail
              go_ret
              rw [HR.out]
              exact ⟨rfl, hnext HB4.out (hba w4 _)⟩
            · have h8' : ¬ 8 < op := by omega
              by_cases h6 : op ≤ 6
              · obtain ⟨cn, rfl⟩ : ∃ cn : Nat, col = (cn : Int) := ⟨col.toNat, by omega⟩
                have hcn : cn < s.cols.length := by omega
                have hcn' : (cn : Int) < (s.cols.length : Int) := by omega
                have hcn0 : (0 : Int) ≤ (cn : Int) := by omega
                obtain ⟨cg, coff, rfl, _, ck1, _⟩ := HU.out cn hcn
                have HKA : Hid (kindAt s.cols (cn : Int) = s.cols[cn].kind) := by show _ = _; unfold kindAt; rw [Int.toNat_natCast, List.getElem?_eq_getElem hcn]
                generalize s.cols[cn].kind = ck at ck1 HKA
                replace ck1 := hkeep ck1 HB4.out
                have cr0 := fun W => rightR_any xk xn xb xs hxs hxb W
                unfold vv at cr0
                have HOKN : Hid (okN s.cols ⟨op, (cn : Int), ⟨xk, xn, xb, xs⟩⟩ = (Va.right xk xn xb xs && decide (xk = ck))) := by
                  show _ = _
                  unfold okN
                  rw [if_pos (show (⟨op, (cn : Int), ⟨xk, xn, xb, xs⟩⟩ : N).op ≤ 6 from h6), decide_eq_true (show (0 ≤ (cn : Int) ∧ (cn : Int) < (s.cols.length : Int)) from ⟨hcn0, hcn'⟩), Bool.true_and, HKA.out]; rfl
                have d6 : decide (op ≤ 6) = true := decide_eq_true h6
                have d6' : decide (6 < op) = false := decide_eq_false (by omega)
                cases hr : Va.right xk xn xb xs with
                | false =>
                  rw [hr] at cr0
                  have cr := hid cr0
                  have HR : Hid (rightL s.cols l = false) := HN.out (by rw [HOKN.out, hr, Bool.false_and])
                  clear cr0 hr HN HA
                  go_wp2_with fail
                  obtain ⟨w20, hw20⟩ : ∃ w20, (w4.alloc (.cells #[.int .i64 op, .int .i64 (cn : Int), .int .i64 xk, .int .i64 xn, .int .u64 (xb : Int), .string xs] 83)).drew = w20 := ⟨_, rfl⟩
                  have hd20 : Below (w4.alloc (.cells #[.int .i64 op, .int .i64 (cn : Int), .int .i64 xk, .int .i64 xn, .int .u64 (xb : Int), .string xs] 83)).heap.size (w4.alloc (.cells #[.int .i64 op, .int .i64 (cn : Int), .int .i64 xk, .int .i64 xn, .int .u64 (xb : Int), .string xs] 83)) w20 := hw20 ▸ (Below.refl _ _).drew
                  have hd1 := hnext (hba w4 (.cells #[.int .i64 op, .int .i64 (cn : Int), .int .i64 xk, .int .i64 xn, .int .u64 (xb : Int), .string xs] 83)) hd20
                  have bz20 := BN.keep (BN.new 83 w4 ⟨op, (cn : Int), ⟨xk, xn, xb, xs⟩⟩) (hw20 ▸ (Below.refl _ _).drew : Below (w4.alloc (.cells #[.int .i64 op, .int .i64 (cn : Int), .int .i64 xk, .int .i64 xn, .int .u64 (xb : Int), .string xs] 83)).heap.size (w4.alloc (.cells #[.int .i64 op, .int .i64 (cn : Int), .int .i64 xk, .int .i64 xn, .int .u64 (xb : Int), .string xs] 83)) w20)
                  obtain ⟨x0, x1, x2, x3, x4, x5, _, _, _, _, _, _, _⟩ := bz20.cells
                  simp only at x0 x1 x2 x3 x4 x5
                  have sc20 := hkeep HSC.out hd1
                  have ck20 := hkeep ck1 hd1
                  have mk20 : ∀ W, Below w20.heap.size w20 W → Below w20.heap.size w20 W ∧ W.cell? ⟨w4.heap.size, 0, none⟩ = some (.int .i64 op) ∧ W.cell? ⟨w4.heap.size, 1, none⟩ = some (.int .i64 (cn : Int)) ∧ W.cell? ⟨w4.heap.size, 2, none⟩ = some (.int .i64 xk) ∧ W.cell? ⟨w4.heap.size, 3, none⟩ = some (.int .i64 xn) ∧ W.cell? ⟨w4.heap.size, 4, none⟩ = some (.int .u64 (xb : Int)) ∧ W.cell? ⟨w4.heap.size, 5, none⟩ = some (.string xs) ∧ W.cell? ⟨w.heap.size, 1, none⟩ = some (.slice (some ⟨cg, coff, none⟩) s.cols.length ucap) ∧ W.cell? ⟨cg, coff + cn * 3 + 1, none⟩ = some (.int .i64 ck) := fun W h => ⟨h, hkeep x0 h, hkeep x1 h, hkeep x2 h, hkeep x3 h, hkeep x4 h, hkeep x5 h, hkeep sc20 h, hkeep ck20 h⟩
                  clear x0 x1 x2 x3 x4 x5 bz20 sc20 ck20 ck1
                  refine wp_region_held_drew (S := (fun W => Below w20.heap.size w20 W ∧ W.cell? ⟨w4.heap.size, 0, none⟩ = some (.int .i64 op) ∧ W.cell? ⟨w4.heap.size, 1, none⟩ = some (.int .i64 (cn : Int)) ∧ W.cell? ⟨w4.heap.size, 2, none⟩ = some (.int .i64 xk) ∧ W.cell? ⟨w4.heap.size, 3, none⟩ = some (.int .i64 xn) ∧ W.cell? ⟨w4.heap.size, 4, none⟩ = some (.int .u64 (xb : Int)) ∧ W.cell? ⟨w4.heap.size, 5, none⟩ = some (.string xs) ∧ W.cell? ⟨w.heap.size, 1, none⟩ = some (.slice (some ⟨cg, coff, none⟩) s.cols.length ucap) ∧ W.cell? ⟨cg, coff + cn * 3 + 1, none⟩ = some (.int .i64 ck))) (by kernel_rfl) (by rw [hw20]; exact mk20 _ (Below.refl _ _)) (fun hS20 => ?_)
                  rw [hw20] at hS20 ⊢
                  clear hw20
                  refine wT 0 hS20 ?_
                  refine wT 1 hS20 ?_
                  refine wT 2 hS20 ?_
                  refine wT 3 hS20 ?_
                  refine wT 4 hS20 ?_
                  refine wT 5 hS20 ?_
                  refine wpAnyH_ready (rs := [6]) (by kernel_rfl) (by simp) ?_
                  refine wC (fun K hK => ?_) AllReadyH.nil
                  go_simp
                  refine (cr.out _).mono ?_; rintro e w21 ⟨rfl, hb21⟩
                  go_wp2_with fail
                  refine hK.out _ _ (mk20 _ (hnext hS20.1 hb21)) (fun hS21 => ?_)
                  clear hK K
                  (try simp only [Act.put, List.setIfInBounds_toArray, List.set_cons_zero, List.set_cons_succ])
                  clear hb21 hS20
                  refine wT 7 hS21 ?_
                  refine wT 8 hS21 ?_
                  refine wF 9 hS21 ?_
                  refine wF 10 hS21 ?_
                  refine wF 11 hS21 ?_
                  refine wF 12 hS21 ?_
                  refine wF 13 hS21 ?_
                  refine wF 14 hS21 ?_
                  refine wF 15 hS21 ?_
                  refine wF 16 hS21 ?_
                  refine wF 17 hS21 ?_
                  refine wF 18 hS21 ?_
                  refine wF 19 hS21 ?_
                  refine wT 20 hS21 ?_
                  refine wT 21 hS21 ?_
                  refine wT 22 hS21 ?_
                  refine wF 23 hS21 ?_
                  refine wF 24 hS21 ?_
                  refine wF 25 hS21 ?_
                  refine wF 26 hS21 ?_
                  refine wF 27 hS21 ?_
                  refine wF 28 hS21 ?_
                  refine wF 29 hS21 ?_
                  refine wF 30 hS21 ?_
                  refine wF 31 hS21 ?_
                  refine wT 32 hS21 ?_
                  refine wpAnyH_done (by kernel_rfl) ?_ _
                  have hbz := hnext hd1 hS21.1
                  have LZ := hid (hnext HB4.out hbz)
                  have SZ := hid (hkeep HSC.out hbz)
                  clear hbz hS21
                  go_wp2_with fail
                  go_ret
                  rw [HR.out]
                  exact ⟨rfl, LZ.out⟩
                | true =>
                  rw [hr] at cr0
                  have cr := hid cr0
                  by_cases hkk : xk = ck
                  · have HA2 := hid (HA.out (by rw [HOKN.out, hr, hkk, decide_eq_true rfl]; rfl))
                    have ek : (xk != ck) = false := by rw [hkk]; simp
                    clear cr0 hr HN HA hkk
                    go_wp2_with fail
                    obtain ⟨w20, hw20⟩ : ∃ w20, (w4.alloc (.cells #[.int .i64 op, .int .i64 (cn : Int), .int .i64 xk, .int .i64 xn, .int .u64 (xb : Int), .string xs] 83)).drew = w20 := ⟨_, rfl⟩
                    have hd20 : Below (w4.alloc (.cells #[.int .i64 op, .int .i64 (cn : Int), .int .i64 xk, .int .i64 xn, .int .u64 (xb : Int), .string xs] 83)).heap.size (w4.alloc (.cells #[.int .i64 op, .int .i64 (cn : Int), .int .i64 xk, .int .i64 xn, .int .u64 (xb : Int), .string xs] 83)) w20 := hw20 ▸ (Below.refl _ _).drew
                    have hd1 := hnext (hba w4 (.cells #[.int .i64 op, .int .i64 (cn : Int), .int .i64 xk, .int .i64 xn, .int .u64 (xb : Int), .string xs] 83)) hd20
                    have bz20 := BN.keep (BN.new 83 w4 ⟨op, (cn : Int), ⟨xk, xn, xb, xs⟩⟩) (hw20 ▸ (Below.refl _ _).drew : Below (w4.alloc (.cells #[.int .i64 op, .int .i64 (cn : Int), .int .i64 xk, .int .i64 xn, .int .u64 (xb : Int), .string xs] 83)).heap.size (w4.alloc (.cells #[.int .i64 op, .int .i64 (cn : Int), .int .i64 xk, .int .i64 xn, .int .u64 (xb : Int), .string xs] 83)) w20)
                    obtain ⟨x0, x1, x2, x3, x4, x5, _, _, _, _, _, _, _⟩ := bz20.cells
                    simp only at x0 x1 x2 x3 x4 x5
                    have sc20 := hkeep HSC.out hd1
                    have ck20 := hkeep ck1 hd1
                    have mk20 : ∀ W, Below w20.heap.size w20 W → Below w20.heap.size w20 W ∧ W.cell? ⟨w4.heap.size, 0, none⟩ = some (.int .i64 op) ∧ W.cell? ⟨w4.heap.size, 1, none⟩ = some (.int .i64 (cn : Int)) ∧ W.cell? ⟨w4.heap.size, 2, none⟩ = some (.int .i64 xk) ∧ W.cell? ⟨w4.heap.size, 3, none⟩ = some (.int .i64 xn) ∧ W.cell? ⟨w4.heap.size, 4, none⟩ = some (.int .u64 (xb : Int)) ∧ W.cell? ⟨w4.heap.size, 5, none⟩ = some (.string xs) ∧ W.cell? ⟨w.heap.size, 1, none⟩ = some (.slice (some ⟨cg, coff, none⟩) s.cols.length ucap) ∧ W.cell? ⟨cg, coff + cn * 3 + 1, none⟩ = some (.int .i64 ck) := fun W h => ⟨h, hkeep x0 h, hkeep x1 h, hkeep x2 h, hkeep x3 h, hkeep x4 h, hkeep x5 h, hkeep sc20 h, hkeep ck20 h⟩
                    clear x0 x1 x2 x3 x4 x5 bz20 sc20 ck20 ck1
                    refine wp_region_held_drew (S := (fun W => Below w20.heap.size w20 W ∧ W.cell? ⟨w4.heap.size, 0, none⟩ = some (.int .i64 op) ∧ W.cell? ⟨w4.heap.size, 1, none⟩ = some (.int .i64 (cn : Int)) ∧ W.cell? ⟨w4.heap.size, 2, none⟩ = some (.int .i64 xk) ∧ W.cell? ⟨w4.heap.size, 3, none⟩ = some (.int .i64 xn) ∧ W.cell? ⟨w4.heap.size, 4, none⟩ = some (.int .u64 (xb : Int)) ∧ W.cell? ⟨w4.heap.size, 5, none⟩ = some (.string xs) ∧ W.cell? ⟨w.heap.size, 1, none⟩ = some (.slice (some ⟨cg, coff, none⟩) s.cols.length ucap) ∧ W.cell? ⟨cg, coff + cn * 3 + 1, none⟩ = some (.int .i64 ck))) (by kernel_rfl) (by rw [hw20]; exact mk20 _ (Below.refl _ _)) (fun hS20 => ?_)
                    rw [hw20] at hS20 ⊢
                    clear hw20
                    refine wT 0 hS20 ?_
                    refine wT 1 hS20 ?_
                    refine wT 2 hS20 ?_
                    refine wT 3 hS20 ?_
                    refine wT 4 hS20 ?_
                    refine wT 5 hS20 ?_
                    refine wpAnyH_ready (rs := [6]) (by kernel_rfl) (by simp) ?_
                    refine wC (fun K hK => ?_) AllReadyH.nil
                    go_simp
                    refine (cr.out _).mono ?_; rintro e w21 ⟨rfl, hb21⟩
                    go_wp2_with fail
                    refine hK.out _ _ (mk20 _ (hnext hS20.1 hb21)) (fun hS21 => ?_)
                    clear hK K
                    (try simp only [Act.put, List.setIfInBounds_toArray, List.set_cons_zero, List.set_cons_succ])
                    clear hb21 hS20
                    refine wT 7 hS21 ?_
                    refine wT 8 hS21 ?_
                    refine wT 9 hS21 ?_
                    refine wT 10 hS21 ?_
                    refine wT 11 hS21 ?_
                    refine wT 12 hS21 ?_
                    refine wT 13 hS21 ?_
                    refine wT 14 hS21 ?_
                    refine wT 15 hS21 ?_
                    refine wT 16 hS21 ?_
                    refine wT 17 hS21 ?_
                    refine wT 18 hS21 ?_
                    refine wT 19 hS21 ?_
                    refine wT 20 hS21 ?_
                    refine wT 21 hS21 ?_
                    refine wT 22 hS21 ?_
                    refine wT 23 hS21 ?_
                    refine wT 24 hS21 ?_
                    refine wT 25 hS21 ?_
                    refine wT 26 hS21 ?_
                    refine wF 27 hS21 ?_
                    refine wF 28 hS21 ?_
                    refine wF 29 hS21 ?_
                    refine wF 30 hS21 ?_
                    refine wT 31 hS21 ?_
                    refine wT 32 hS21 ?_
                    refine wpAnyH_done (by kernel_rfl) ?_ _
                    have hbz := hnext hd1 hS21.1
                    have LZ := hid (hnext HB4.out hbz)
                    have SZ := hid (hkeep HSC.out hbz)
                    clear hbz hS21
                    go_wp2_with fail
                    go_roundw
                    case rel => exact ⟨k + 1, by omega, by go_num, HA2, LZ.out, SZ.out⟩
                    case measure => simp [intOf]; omega
                  · have HR : Hid (rightL s.cols l = false) := HN.out (by rw [HOKN.out, decide_eq_false hkk, Bool.and_false])
                    have ek : (xk != ck) = true := by rw [bne_iff_ne]; exact hkk
                    clear cr0 hr HN HA hkk
                    go_wp2_with fail
                    obtain ⟨w20, hw20⟩ : ∃ w20, (w4.alloc (.cells #[.int .i64 op, .int .i64 (cn : Int), .int .i64 xk, .int .i64 xn, .int .u64 (xb : Int), .string xs] 83)).drew = w20 := ⟨_, rfl⟩
                    have hd20 : Below (w4.alloc (.cells #[.int .i64 op, .int .i64 (cn : Int), .int .i64 xk, .int .i64 xn, .int .u64 (xb : Int), .string xs] 83)).heap.size (w4.alloc (.cells #[.int .i64 op, .int .i64 (cn : Int), .int .i64 xk, .int .i64 xn, .int .u64 (xb : Int), .string xs] 83)) w20 := hw20 ▸ (Below.refl _ _).drew
                    have hd1 := hnext (hba w4 (.cells #[.int .i64 op, .int .i64 (cn : Int), .int .i64 xk, .int .i64 xn, .int .u64 (xb : Int), .string xs] 83)) hd20
                    have bz20 := BN.keep (BN.new 83 w4 ⟨op, (cn : Int), ⟨xk, xn, xb, xs⟩⟩) (hw20 ▸ (Below.refl _ _).drew : Below (w4.alloc (.cells #[.int .i64 op, .int .i64 (cn : Int), .int .i64 xk, .int .i64 xn, .int .u64 (xb : Int), .string xs] 83)).heap.size (w4.alloc (.cells #[.int .i64 op, .int .i64 (cn : Int), .int .i64 xk, .int .i64 xn, .int .u64 (xb : Int), .string xs] 83)) w20)
                    obtain ⟨x0, x1, x2, x3, x4, x5, _, _, _, _, _, _, _⟩ := bz20.cells
                    simp only at x0 x1 x2 x3 x4 x5
                    have sc20 := hkeep HSC.out hd1
                    have ck20 := hkeep ck1 hd1
                    have mk20 : ∀ W, Below w20.heap.size w20 W → Below w20.heap.size w20 W ∧ W.cell? ⟨w4.heap.size, 0, none⟩ = some (.int .i64 op) ∧ W.cell? ⟨w4.heap.size, 1, none⟩ = some (.int .i64 (cn : Int)) ∧ W.cell? ⟨w4.heap.size, 2, none⟩ = some (.int .i64 xk) ∧ W.cell? ⟨w4.heap.size, 3, none⟩ = some (.int .i64 xn) ∧ W.cell? ⟨w4.heap.size, 4, none⟩ = some (.int .u64 (xb : Int)) ∧ W.cell? ⟨w4.heap.size, 5, none⟩ = some (.string xs) ∧ W.cell? ⟨w.heap.size, 1, none⟩ = some (.slice (some ⟨cg, coff, none⟩) s.cols.length ucap) ∧ W.cell? ⟨cg, coff + cn * 3 + 1, none⟩ = some (.int .i64 ck) := fun W h => ⟨h, hkeep x0 h, hkeep x1 h, hkeep x2 h, hkeep x3 h, hkeep x4 h, hkeep x5 h, hkeep sc20 h, hkeep ck20 h⟩
                    clear x0 x1 x2 x3 x4 x5 bz20 sc20 ck20 ck1
                    refine wp_region_held_drew (S := (fun W => Below w20.heap.size w20 W ∧ W.cell? ⟨w4.heap.size, 0, none⟩ = some (.int .i64 op) ∧ W.cell? ⟨w4.heap.size, 1, none⟩ = some (.int .i64 (cn : Int)) ∧ W.cell? ⟨w4.heap.size, 2, none⟩ = some (.int .i64 xk) ∧ W.cell? ⟨w4.heap.size, 3, none⟩ = some (.int .i64 xn) ∧ W.cell? ⟨w4.heap.size, 4, none⟩ = some (.int .u64 (xb : Int)) ∧ W.cell? ⟨w4.heap.size, 5, none⟩ = some (.string xs) ∧ W.cell? ⟨w.heap.size, 1, none⟩ = some (.slice (some ⟨cg, coff, none⟩) s.cols.length ucap) ∧ W.cell? ⟨cg, coff + cn * 3 + 1, none⟩ = some (.int .i64 ck))) (by kernel_rfl) (by rw [hw20]; exact mk20 _ (Below.refl _ _)) (fun hS20 => ?_)
                    rw [hw20] at hS20 ⊢
                    clear hw20
                    refine wT 0 hS20 ?_
                    refine wT 1 hS20 ?_
                    refine wT 2 hS20 ?_
                    refine wT 3 hS20 ?_
                    refine wT 4 hS20 ?_
                    refine wT 5 hS20 ?_
                    refine wpAnyH_ready (rs := [6]) (by kernel_rfl) (by simp) ?_
                    refine wC (fun K hK => ?_) AllReadyH.nil
                    go_simp
                    refine (cr.out _).mono ?_; rintro e w21 ⟨rfl, hb21⟩
                    go_wp2_with fail
                    refine hK.out _ _ (mk20 _ (hnext hS20.1 hb21)) (fun hS21 => ?_)
                    clear hK K
                    (try simp only [Act.put, List.setIfInBounds_toArray, List.set_cons_zero, List.set_cons_succ])
                    clear hb21 hS20
                    refine wT 7 hS21 ?_
                    refine wT 8 hS21 ?_
                    refine wT 9 hS21 ?_
                    refine wT 10 hS21 ?_
                    refine wT 11 hS21 ?_
                    refine wT 12 hS21 ?_
                    refine wT 13 hS21 ?_
                    refine wT 14 hS21 ?_
                    refine wT 15 hS21 ?_
                    refine wT 16 hS21 ?_
                    refine wT 17 hS21 ?_
                    refine wT 18 hS21 ?_
                    refine wT 19 hS21 ?_
                    refine wT 20 hS21 ?_
                    refine wT 21 hS21 ?_
                    refine wT 22 hS21 ?_
                    refine wF 23 hS21 ?_
                    refine wF 24 hS21 ?_
                    refine wF 25 hS21 ?_
                    refine wF 26 hS21 ?_
                    refine wF 27 hS21 ?_
                    refine wF 28 hS21 ?_
                    refine wF 29 hS21 ?_
                    refine wF 30 hS21 ?_
                    refine wF 31 hS21 ?_
                    refine wT 32 hS21 ?_
                    refine wpAnyH_done (by kernel_rfl) ?_ _
                    have hbz := hnext hd1 hS21.1
                    have LZ := hid (hnext HB4.out hbz)
                    have SZ := hid (hkeep HSC.out hbz)
                    clear hbz hS21
                    go_wp2_with fail
                    go_ret
                    rw [HR.out]
                    exact ⟨rfl, LZ.out⟩
              · have HOKN := hid (okN_nul (cs := s.cols) (op := op) (col := col) (xk := xk) (xn := xn) (xb := xb) (xs := xs) h6 ⟨fun _ => ⟨by omega, by omega⟩, fun h => absurd h h8'⟩)
                have d6 : decide (op ≤ 6) = false := decide_eq_false h6
                have d6' : decide (6 < op) = true := decide_eq_true (by omega)
                have qq := fun z hz w => va_neq xk xn xb xs 0 0 0 ⟨#[]⟩ z hz w
                unfold vv at qq
                cases hz : (xk == 0 && (xn == 0 && ((xb : Int) == ((0 : Nat) : Int) && decide (xs = ⟨#[]⟩)))) with
                | false =>
                  have hq : ∀ w, (binOp .neq 36 (.agg #[.int .i64 xk, .int .i64 xn, .int .u64 (xb : Int), .string xs]) (.agg #[.int .i64 0, .int .i64 0, .int .u64 0, .string ⟨#[]⟩])).run Try.prog w = .ok (.bool (!false)) w := fun w => qq false hz w
                  clear qq
                  have HR : Hid (rightL s.cols l = false) := HN.out (HOKN.out.trans hz)
                  clear HN HA HOKN hz
                  go_wp2_with fail
                  obtain ⟨w20, hw20⟩ : ∃ w20, (w4.alloc (.cells #[.int .i64 op, .int .i64 col, .int .i64 xk, .int .i64 xn, .int .u64 (xb : Int), .string xs] 83)).drew = w20 := ⟨_, rfl⟩
                  have hd20 : Below (w4.alloc (.cells #[.int .i64 op, .int .i64 col, .int .i64 xk, .int .i64 xn, .int .u64 (xb : Int), .string xs] 83)).heap.size (w4.alloc (.cells #[.int .i64 op, .int .i64 col, .int .i64 xk, .int .i64 xn, .int .u64 (xb : Int), .string xs] 83)) w20 := hw20 ▸ (Below.refl _ _).drew
                  have hd1 := hnext (hba w4 (.cells #[.int .i64 op, .int .i64 col, .int .i64 xk, .int .i64 xn, .int .u64 (xb : Int), .string xs] 83)) hd20
                  have bz20 := BN.keep (BN.new 83 w4 ⟨op, col, ⟨xk, xn, xb, xs⟩⟩) (hw20 ▸ (Below.refl _ _).drew : Below (w4.alloc (.cells #[.int .i64 op, .int .i64 col, .int .i64 xk, .int .i64 xn, .int .u64 (xb : Int), .string xs] 83)).heap.size (w4.alloc (.cells #[.int .i64 op, .int .i64 col, .int .i64 xk, .int .i64 xn, .int .u64 (xb : Int), .string xs] 83)) w20)
                  obtain ⟨x0, x1, x2, x3, x4, x5, _, _, _, _, _, _, _⟩ := bz20.cells
                  simp only at x0 x1 x2 x3 x4 x5
                  have mk20 : ∀ W, Below w20.heap.size w20 W → Below w20.heap.size w20 W ∧ W.cell? ⟨w4.heap.size, 0, none⟩ = some (.int .i64 op) ∧ W.cell? ⟨w4.heap.size, 1, none⟩ = some (.int .i64 col) ∧ W.cell? ⟨w4.heap.size, 2, none⟩ = some (.int .i64 xk) ∧ W.cell? ⟨w4.heap.size, 3, none⟩ = some (.int .i64 xn) ∧ W.cell? ⟨w4.heap.size, 4, none⟩ = some (.int .u64 (xb : Int)) ∧ W.cell? ⟨w4.heap.size, 5, none⟩ = some (.string xs) := fun W h => ⟨h, hkeep x0 h, hkeep x1 h, hkeep x2 h, hkeep x3 h, hkeep x4 h, hkeep x5 h⟩
                  clear x0 x1 x2 x3 x4 x5 bz20
                  refine wp_region_held_drew (S := (fun W => Below w20.heap.size w20 W ∧ W.cell? ⟨w4.heap.size, 0, none⟩ = some (.int .i64 op) ∧ W.cell? ⟨w4.heap.size, 1, none⟩ = some (.int .i64 col) ∧ W.cell? ⟨w4.heap.size, 2, none⟩ = some (.int .i64 xk) ∧ W.cell? ⟨w4.heap.size, 3, none⟩ = some (.int .i64 xn) ∧ W.cell? ⟨w4.heap.size, 4, none⟩ = some (.int .u64 (xb : Int)) ∧ W.cell? ⟨w4.heap.size, 5, none⟩ = some (.string xs))) (by kernel_rfl) (by rw [hw20]; exact mk20 _ (Below.refl _ _)) (fun hS20 => ?_)
                  rw [hw20] at hS20 ⊢
                  clear hw20
                  refine wT 0 hS20 ?_
                  refine wT 1 hS20 ?_
                  refine wT 2 hS20 ?_
                  refine wT 3 hS20 ?_
                  refine wF 4 hS20 ?_
                  refine wF 5 hS20 ?_
                  refine wF 6 hS20 ?_
                  refine wF 7 hS20 ?_
                  refine wF 8 hS20 ?_
                  refine wF 9 hS20 ?_
                  refine wF 10 hS20 ?_
                  refine wF 11 hS20 ?_
                  refine wF 12 hS20 ?_
                  refine wF 13 hS20 ?_
                  refine wF 14 hS20 ?_
                  refine wF 15 hS20 ?_
                  refine wF 16 hS20 ?_
                  refine wF 17 hS20 ?_
                  refine wF 18 hS20 ?_
                  refine wF 19 hS20 ?_
                  refine wF 20 hS20 ?_
                  refine wT 21 hS20 ?_
                  refine wT 22 hS20 ?_
                  refine wT 23 hS20 ?_
                  refine wT 24 hS20 ?_
                  refine wT 25 hS20 ?_
                  refine wT 26 hS20 ?_
                  refine wT 27 hS20 ?_
                  refine wT 28 hS20 ?_
                  refine wT 29 hS20 ?_
                  refine wT 30 hS20 ?_
                  refine wT 31 hS20 ?_
                  refine wT 32 hS20 ?_
                  refine wpAnyH_done (by kernel_rfl) ?_ _
                  have hbz := hnext hd1 hS20.1
                  have LZ := hid (hnext HB4.out hbz)
                  have SZ := hid (hkeep HSC.out hbz)
                  clear hbz hS20
                  go_wp2_with fail
                  go_ret
                  rw [HR.out]
                  exact ⟨rfl, LZ.out⟩
                | true =>
                  have hq : ∀ w, (binOp .neq 36 (.agg #[.int .i64 xk, .int .i64 xn, .int .u64 (xb : Int), .string xs]) (.agg #[.int .i64 0, .int .i64 0, .int .u64 0, .string ⟨#[]⟩])).run Try.prog w = .ok (.bool (!true)) w := fun w => qq true hz w
                  clear qq
                  have HA2 := hid (HA.out (HOKN.out.trans hz))
                  clear HN HA HOKN hz
                  go_wp2_with fail
                  obtain ⟨w20, hw20⟩ : ∃ w20, (w4.alloc (.cells #[.int .i64 op, .int .i64 col, .int .i64 xk, .int .i64 xn, .int .u64 (xb : Int), .string xs] 83)).drew = w20 := ⟨_, rfl⟩
                  have hd20 : Below (w4.alloc (.cells #[.int .i64 op, .int .i64 col, .int .i64 xk, .int .i64 xn, .int .u64 (xb : Int), .string xs] 83)).heap.size (w4.alloc (.cells #[.int .i64 op, .int .i64 col, .int .i64 xk, .int .i64 xn, .int .u64 (xb : Int), .string xs] 83)) w20 := hw20 ▸ (Below.refl _ _).drew
                  have hd1 := hnext (hba w4 (.cells #[.int .i64 op, .int .i64 col, .int .i64 xk, .int .i64 xn, .int .u64 (xb : Int), .string xs] 83)) hd20
                  have bz20 := BN.keep (BN.new 83 w4 ⟨op, col, ⟨xk, xn, xb, xs⟩⟩) (hw20 ▸ (Below.refl _ _).drew : Below (w4.alloc (.cells #[.int .i64 op, .int .i64 col, .int .i64 xk, .int .i64 xn, .int .u64 (xb : Int), .string xs] 83)).heap.size (w4.alloc (.cells #[.int .i64 op, .int .i64 col, .int .i64 xk, .int .i64 xn, .int .u64 (xb : Int), .string xs] 83)) w20)
                  obtain ⟨x0, x1, x2, x3, x4, x5, _, _, _, _, _, _, _⟩ := bz20.cells
                  simp only at x0 x1 x2 x3 x4 x5
                  have mk20 : ∀ W, Below w20.heap.size w20 W → Below w20.heap.size w20 W ∧ W.cell? ⟨w4.heap.size, 0, none⟩ = some (.int .i64 op) ∧ W.cell? ⟨w4.heap.size, 1, none⟩ = some (.int .i64 col) ∧ W.cell? ⟨w4.heap.size, 2, none⟩ = some (.int .i64 xk) ∧ W.cell? ⟨w4.heap.size, 3, none⟩ = some (.int .i64 xn) ∧ W.cell? ⟨w4.heap.size, 4, none⟩ = some (.int .u64 (xb : Int)) ∧ W.cell? ⟨w4.heap.size, 5, none⟩ = some (.string xs) := fun W h => ⟨h, hkeep x0 h, hkeep x1 h, hkeep x2 h, hkeep x3 h, hkeep x4 h, hkeep x5 h⟩
                  clear x0 x1 x2 x3 x4 x5 bz20
                  refine wp_region_held_drew (S := (fun W => Below w20.heap.size w20 W ∧ W.cell? ⟨w4.heap.size, 0, none⟩ = some (.int .i64 op) ∧ W.cell? ⟨w4.heap.size, 1, none⟩ = some (.int .i64 col) ∧ W.cell? ⟨w4.heap.size, 2, none⟩ = some (.int .i64 xk) ∧ W.cell? ⟨w4.heap.size, 3, none⟩ = some (.int .i64 xn) ∧ W.cell? ⟨w4.heap.size, 4, none⟩ = some (.int .u64 (xb : Int)) ∧ W.cell? ⟨w4.heap.size, 5, none⟩ = some (.string xs))) (by kernel_rfl) (by rw [hw20]; exact mk20 _ (Below.refl _ _)) (fun hS20 => ?_)
                  rw [hw20] at hS20 ⊢
                  clear hw20
                  refine wT 0 hS20 ?_
                  refine wT 1 hS20 ?_
                  refine wT 2 hS20 ?_
                  refine wT 3 hS20 ?_
                  refine wF 4 hS20 ?_
                  refine wF 5 hS20 ?_
                  refine wF 6 hS20 ?_
                  refine wF 7 hS20 ?_
                  refine wF 8 hS20 ?_
                  refine wF 9 hS20 ?_
                  refine wF 10 hS20 ?_
                  refine wF 11 hS20 ?_
                  refine wF 12 hS20 ?_
                  refine wF 13 hS20 ?_
                  refine wF 14 hS20 ?_
                  refine wF 15 hS20 ?_
                  refine wF 16 hS20 ?_
                  refine wF 17 hS20 ?_
                  refine wF 18 hS20 ?_
                  refine wF 19 hS20 ?_
                  refine wF 20 hS20 ?_
                  refine wT 21 hS20 ?_
                  refine wT 22 hS20 ?_
                  refine wT 23 hS20 ?_
                  refine wT 24 hS20 ?_
                  refine wT 25 hS20 ?_
                  refine wT 26 hS20 ?_
                  refine wT 27 hS20 ?_
                  refine wT 28 hS20 ?_
                  refine wT 29 hS20 ?_
                  refine wT 30 hS20 ?_
                  refine wT 31 hS20 ?_
                  refine wT 32 hS20 ?_
                  refine wpAnyH_done (by kernel_rfl) ?_ _
                  have hbz := hnext hd1 hS20.1
                  have LZ := hid (hnext HB4.out hbz)
                  have SZ := hid (hkeep HSC.out hbz)
                  clear hbz hS20
                  go_wp2_with fail
                  go_roundw
                  case rel => exact ⟨k + 1, by omega, by go_num, HA2, LZ.out, SZ.out⟩
                  case measure => simp [intOf]; omega
        · have h8' : 8 < op := by omega
          by_cases c0 : col = 0
          · subst c0
            have h6 : ¬ op ≤ 6 := by omega
            have HOKN := hid (okN_nul (cs := s.cols) (op := op) (col := 0) (xk := xk) (xn := xn) (xb := xb) (xs := xs) h6 ⟨fun h => absurd h h8, fun _ => rfl⟩)
            have d6 : decide (op ≤ 6) = false := decide_eq_false h6
            have d6' : decide (6 < op) = true := decide_eq_true (by omega)
            have qq := fun z hz w => va_neq xk xn xb xs 0 0 0 ⟨#[]⟩ z hz w
            unfold vv at qq
            cases hz : (xk == 0 && (xn == 0 && ((xb : Int) == ((0 : Nat) : Int) && decide (xs = ⟨#[]⟩)))) with
            | false =>
              have hq : ∀ w, (binOp .neq 36 (.agg #[.int .i64 xk, .int .i64 xn, .int .u64 (xb : Int), .string xs]) (.agg #[.int .i64 0, .int .i64 0, .int .u64 0, .string ⟨#[]⟩])).run Try.prog w = .ok (.bool (!false)) w := fun w => qq false hz w
              clear qq
              have HR : Hid (rightL s.cols l = false) := HN.out (HOKN.out.trans hz)
              clear HN HA HOKN hz
              go_wp2_with fail
              obtain ⟨w20, hw20⟩ : ∃ w20, (w4.alloc (.cells #[.int .i64 op, .int .i64 0, .int .i64 xk, .int .i64 xn, .int .u64 (xb : Int), .string xs] 83)).drew = w20 := ⟨_, rfl⟩
              have hd20 : Below (w4.alloc (.cells #[.int .i64 op, .int .i64 0, .int .i64 xk, .int .i64 xn, .int .u64 (xb : Int), .string xs] 83)).heap.size (w4.alloc (.cells #[.int .i64 op, .int .i64 0, .int .i64 xk, .int .i64 xn, .int .u64 (xb : Int), .string xs] 83)) w20 := hw20 ▸ (Below.refl _ _).drew
              have hd1 := hnext (hba w4 (.cells #[.int .i64 op, .int .i64 0, .int .i64 xk, .int .i64 xn, .int .u64 (xb : Int), .string xs] 83)) hd20
              have bz20 := BN.keep (BN.new 83 w4 ⟨op, 0, ⟨xk, xn, xb, xs⟩⟩) (hw20 ▸ (Below.refl _ _).drew : Below (w4.alloc (.cells #[.int .i64 op, .int .i64 0, .int .i64 xk, .int .i64 xn, .int .u64 (xb : Int), .string xs] 83)).heap.size (w4.alloc (.cells #[.int .i64 op, .int .i64 0, .int .i64 xk, .int .i64 xn, .int .u64 (xb : Int), .string xs] 83)) w20)
              obtain ⟨x0, x1, x2, x3, x4, x5, _, _, _, _, _, _, _⟩ := bz20.cells
              simp only at x0 x1 x2 x3 x4 x5
              have mk20 : ∀ W, Below w20.heap.size w20 W → Below w20.heap.size w20 W ∧ W.cell? ⟨w4.heap.size, 0, none⟩ = some (.int .i64 op) ∧ W.cell? ⟨w4.heap.size, 1, none⟩ = some (.int .i64 0) ∧ W.cell? ⟨w4.heap.size, 2, none⟩ = some (.int .i64 xk) ∧ W.cell? ⟨w4.heap.size, 3, none⟩ = some (.int .i64 xn) ∧ W.cell? ⟨w4.heap.size, 4, none⟩ = some (.int .u64 (xb : Int)) ∧ W.cell? ⟨w4.heap.size, 5, none⟩ = some (.string xs) := fun W h => ⟨h, hkeep x0 h, hkeep x1 h, hkeep x2 h, hkeep x3 h, hkeep x4 h, hkeep x5 h⟩
              clear x0 x1 x2 x3 x4 x5 bz20
              refine wp_region_held_drew (S := (fun W => Below w20.heap.size w20 W ∧ W.cell? ⟨w4.heap.size, 0, none⟩ = some (.int .i64 op) ∧ W.cell? ⟨w4.heap.size, 1, none⟩ = some (.int .i64 0) ∧ W.cell? ⟨w4.heap.size, 2, none⟩ = some (.int .i64 xk) ∧ W.cell? ⟨w4.heap.size, 3, none⟩ = some (.int .i64 xn) ∧ W.cell? ⟨w4.heap.size, 4, none⟩ = some (.int .u64 (xb : Int)) ∧ W.cell? ⟨w4.heap.size, 5, none⟩ = some (.string xs))) (by kernel_rfl) (by rw [hw20]; exact mk20 _ (Below.refl _ _)) (fun hS20 => ?_)
              rw [hw20] at hS20 ⊢
              clear hw20
              refine wT 0 hS20 ?_
              refine wT 1 hS20 ?_
              refine wT 2 hS20 ?_
              refine wT 3 hS20 ?_
              refine wF 4 hS20 ?_
              refine wF 5 hS20 ?_
              refine wF 6 hS20 ?_
              refine wF 7 hS20 ?_
              refine wF 8 hS20 ?_
              refine wF 9 hS20 ?_
              refine wF 10 hS20 ?_
              refine wF 11 hS20 ?_
              refine wF 12 hS20 ?_
              refine wF 13 hS20 ?_
              refine wF 14 hS20 ?_
              refine wF 15 hS20 ?_
              refine wF 16 hS20 ?_
              refine wF 17 hS20 ?_
              refine wF 18 hS20 ?_
              refine wF 19 hS20 ?_
              refine wF 20 hS20 ?_
              refine wT 21 hS20 ?_
              refine wT 22 hS20 ?_
              refine wT 23 hS20 ?_
              refine wT 24 hS20 ?_
              refine wT 25 hS20 ?_
              refine wT 26 hS20 ?_
              refine wT 27 hS20 ?_
              refine wT 28 hS20 ?_
              refine wT 29 hS20 ?_
              refine wT 30 hS20 ?_
              refine wT 31 hS20 ?_
              refine wT 32 hS20 ?_
              refine wpAnyH_done (by kernel_rfl) ?_ _
              have hbz := hnext hd1 hS20.1
              have LZ := hid (hnext HB4.out hbz)
              have SZ := hid (hkeep HSC.out hbz)
              clear hbz hS20
              go_wp2_with fail
              go_ret
              rw [HR.out]
              exact ⟨rfl, LZ.out⟩
            | true =>
              have hq : ∀ w, (binOp .neq 36 (.agg #[.int .i64 xk, .int .i64 xn, .int .u64 (xb : Int), .string xs]) (.agg #[.int .i64 0, .int .i64 0, .int .u64 0, .string ⟨#[]⟩])).run Try.prog w = .ok (.bool (!true)) w := fun w => qq true hz w
              clear qq
              have HA2 := hid (HA.out (HOKN.out.trans hz))
              clear HN HA HOKN hz
              go_wp2_with fail
              obtain ⟨w20, hw20⟩ : ∃ w20, (w4.alloc (.cells #[.int .i64 op, .int .i64 0, .int .i64 xk, .int .i64 xn, .int .u64 (xb : Int), .string xs] 83)).drew = w20 := ⟨_, rfl⟩
              have hd20 : Below (w4.alloc (.cells #[.int .i64 op, .int .i64 0, .int .i64 xk, .int .i64 xn, .int .u64 (xb : Int), .string xs] 83)).heap.size (w4.alloc (.cells #[.int .i64 op, .int .i64 0, .int .i64 xk, .int .i64 xn, .int .u64 (xb : Int), .string xs] 83)) w20 := hw20 ▸ (Below.refl _ _).drew
              have hd1 := hnext (hba w4 (.cells #[.int .i64 op, .int .i64 0, .int .i64 xk, .int .i64 xn, .int .u64 (xb : Int), .string xs] 83)) hd20
              have bz20 := BN.keep (BN.new 83 w4 ⟨op, 0, ⟨xk, xn, xb, xs⟩⟩) (hw20 ▸ (Below.refl _ _).drew : Below (w4.alloc (.cells #[.int .i64 op, .int .i64 0, .int .i64 xk, .int .i64 xn, .int .u64 (xb : Int), .string xs] 83)).heap.size (w4.alloc (.cells #[.int .i64 op, .int .i64 0, .int .i64 xk, .int .i64 xn, .int .u64 (xb : Int), .string xs] 83)) w20)
              obtain ⟨x0, x1, x2, x3, x4, x5, _, _, _, _, _, _, _⟩ := bz20.cells
              simp only at x0 x1 x2 x3 x4 x5
              have mk20 : ∀ W, Below w20.heap.size w20 W → Below w20.heap.size w20 W ∧ W.cell? ⟨w4.heap.size, 0, none⟩ = some (.int .i64 op) ∧ W.cell? ⟨w4.heap.size, 1, none⟩ = some (.int .i64 0) ∧ W.cell? ⟨w4.heap.size, 2, none⟩ = some (.int .i64 xk) ∧ W.cell? ⟨w4.heap.size, 3, none⟩ = some (.int .i64 xn) ∧ W.cell? ⟨w4.heap.size, 4, none⟩ = some (.int .u64 (xb : Int)) ∧ W.cell? ⟨w4.heap.size, 5, none⟩ = some (.string xs) := fun W h => ⟨h, hkeep x0 h, hkeep x1 h, hkeep x2 h, hkeep x3 h, hkeep x4 h, hkeep x5 h⟩
              clear x0 x1 x2 x3 x4 x5 bz20
              refine wp_region_held_drew (S := (fun W => Below w20.heap.size w20 W ∧ W.cell? ⟨w4.heap.size, 0, none⟩ = some (.int .i64 op) ∧ W.cell? ⟨w4.heap.size, 1, none⟩ = some (.int .i64 0) ∧ W.cell? ⟨w4.heap.size, 2, none⟩ = some (.int .i64 xk) ∧ W.cell? ⟨w4.heap.size, 3, none⟩ = some (.int .i64 xn) ∧ W.cell? ⟨w4.heap.size, 4, none⟩ = some (.int .u64 (xb : Int)) ∧ W.cell? ⟨w4.heap.size, 5, none⟩ = some (.string xs))) (by kernel_rfl) (by rw [hw20]; exact mk20 _ (Below.refl _ _)) (fun hS20 => ?_)
              rw [hw20] at hS20 ⊢
              clear hw20
              refine wT 0 hS20 ?_
              refine wT 1 hS20 ?_
              refine wT 2 hS20 ?_
              refine wT 3 hS20 ?_
              refine wF 4 hS20 ?_
              refine wF 5 hS20 ?_
              refine wF 6 hS20 ?_
              refine wF 7 hS20 ?_
              refine wF 8 hS20 ?_
              refine wF 9 hS20 ?_
              refine wF 10 hS20 ?_
              refine wF 11 hS20 ?_
              refine wF 12 hS20 ?_
              refine wF 13 hS20 ?_
              refine wF 14 hS20 ?_
              refine wF 15 hS20 ?_
              refine wF 16 hS20 ?_
              refine wF 17 hS20 ?_
              refine wF 18 hS20 ?_
              refine wF 19 hS20 ?_
              refine wF 20 hS20 ?_
              refine wT 21 hS20 ?_
              refine wT 22 hS20 ?_
              refine wT 23 hS20 ?_
              refine wT 24 hS20 ?_
              refine wT 25 hS20 ?_
              refine wT 26 hS20 ?_
              refine wT 27 hS20 ?_
              refine wT 28 hS20 ?_
              refine wT 29 hS20 ?_
              refine wT 30 hS20 ?_
              refine wT 31 hS20 ?_
              refine wT 32 hS20 ?_
              refine wpAnyH_done (by kernel_rfl) ?_ _
              have hbz := hnext hd1 hS20.1
              have LZ := hid (hnext HB4.out hbz)
              have SZ := hid (hkeep HSC.out hbz)
              clear hbz hS20
              go_wp2_with fail
              go_roundw
              case rel => exact ⟨k + 1, by omega, by go_num, HA2, LZ.out, SZ.out⟩
              case measure => simp [intOf]; omega
          · have c0' : (col != 0) = true := by rw [bne_iff_ne]; exact c0
            have c0'' : (col == 0) = false := by rw [beq_eq_false_iff_ne]; exact c0
            have HR : Hid (rightL s.cols l = false) := HN.out (okN_in h8' c0)
            clear HN HA
            go_wp2_with fail
            go_ret
            rw [HR.out]
            exact ⟨rfl, hnext HB4.out (hba w4 _)⟩
      · obtain rfl : k = l.length := by omega
        have HR : Hid (rightL s.cols l = true) := by
          have h := hall.out
          rw [List.take_length] at h
          show _ = _
          rw [HR0.out, h]
        clear hall
        go_wp2_with fail
        go_ret
        rw [HR.out]
        exact ⟨rfl, hbel⟩
end Go.Proofs.Ytmcneelapghfcaa
