/-
  Contracts and laws of the layers below, put together: Pr. Conditions: where they are named.
-/
import Derived.Test.YtmcneelapghfcaaBb

namespace Go.Proofs.Ytmcneelapghfcaa
open Go.RowKit Pd

namespace Pd
def kindAt (cs : List Sc.C) (c : Int) : Int := match cs[c.toNat]? with | some x => x.kind | none => 0
def okN (cs : List Sc.C) (x : N) : Bool :=
  if x.op ≤ 6 then decide (0 ≤ x.col ∧ x.col < (cs.length : Int)) && (x.v.right && decide (x.v.k = kindAt cs x.col))
  else if x.op ≤ 8 then decide (0 ≤ x.col ∧ x.col < (cs.length : Int)) && decide (x = ⟨x.op, x.col, nul⟩)
  else decide (x = ⟨x.op, 0, nul⟩)
def rightL (cs : List Sc.C) (l : List N) : Bool := whole l && l.all (okN cs)
theorem rightL_no {cs : List Sc.C} {l : List N} {k : Nat} (hk : k < l.length) (h : okN cs l[k] = false) : rightL cs l = false := by
  unfold rightL
  have : l.all (okN cs) = false := by
    rw [List.all_eq_false]
    exact ⟨l[k], List.getElem_mem hk, by rw [h]; decide⟩
  rw [this, Bool.and_false]
theorem all_node {cs : List Sc.C} {l : List N} {k : Nat} (hk : k < l.length) (h0 : (l.take k).all (okN cs) = true) (h : okN cs l[k] = true) : (l.take (k + 1)).all (okN cs) = true := by
  rw [List.take_succ_eq_append_getElem hk, List.all_append, h0]
  simp [h]
theorem whole_op {l : List N} (h : whole l = true) {k : Nat} (hk : k < l.length) : 1 ≤ l[k].op ∧ l[k].op ≤ 11 := by
  rcases at_node [] h hk with h | ⟨h, _⟩ | ⟨h, _⟩
  · omega
  · omega
  · rcases h with h | h <;> omega
end Pd
set_option maxRecDepth 100000 in
set_option maxHeartbeats 6400000 in
theorem pright_any (v : Value) (l : List N) (s : Sc.S) (u : Value) (w : World) (hv : NsAt w v l) (hu : CsAt w u s.cols) (hl : l.length ≤ 1000000) (hok : ∀ x ∈ l, x.v.s.size ≤ maxLen) : Calls Try.prog 29 #[v, sv s u] w fun e w' => e = .returned (.bool (rightL s.cols l)) ∧ Below w.heap.size w w' := by
  have SB := hid (hba w (.cells #[.string s.name, u, .int .i64 s.keys] 31))
  have cw0 := whole_any v l (w.alloc (.cells #[.string s.name, u, .int .i64 s.keys] 31)) (hv.below (hba _ _)) hl
  have sb := heap_alloc_new w (.cells #[.string s.name, u, .int .i64 s.keys] 31)
  obtain ⟨adr, cap, rfl, hc⟩ := hv
  obtain ⟨uadr, ucap, rfl, hul, hum, hu2⟩ := hu
  have HC := hid hc
  have HU := hid hu2
  have HOK := hid hok
  have SB1 := hid (cell_of_row _ _ 1 _ _ _ sb)
  have hsz : w.heap.size < (w.alloc (.cells #[.string s.name, .slice uadr s.cols.length ucap, .int .i64 s.keys] 31)).heap.size := by simp
  unfold sv
  clear hc hu2 hok sb
  cases hw : whole l with
  | false =>
    have HR : Hid (rightL s.cols l = false) := by show _ = _; unfold rightL; rw [hw, Bool.false_and]
    rw [hw] at cw0
    have cw := hid cw0
    clear cw0 hw
    go_enter Try.func29, Try.ntmps29
    go_wp2_with fail
    refine cw.out.mono ?_; rintro e w1 ⟨rfl, rfl⟩
    go_wp2_with fail
    go_ret
    rw [HR.out]
    exact ⟨rfl, SB.out⟩
  | true =>
    have HW := hid hw
    have HR0 : Hid (rightL s.cols l = l.all (okN s.cols)) := by show _ = _; unfold rightL; rw [hw, Bool.true_and]
    rw [hw] at cw0
    have cw := hid cw0
    clear cw0 hw
    go_enter Try.func29, Try.ntmps29
    go_wp2_with fail
    refine cw.out.mono ?_; rintro e w1 ⟨rfl, rfl⟩
    go_wp2_with fail
    go_loopw [13] (fun i wr => ∃ k : Nat, k ≤ l.length ∧ i = .int .i64 (k : Int) ∧ Hid ((l.take k).all (okN s.cols) = true) ∧ Below w.heap.size w wr ∧ wr.cell? ⟨w.heap.size, 1, none⟩ = some (.slice uadr s.cols.length ucap)) (fun i _ => l.length - (intOf i).toNat)
    case atStart => exact ⟨0, by omega, rfl, rfl, SB.out, SB1.out⟩
    case round =>
      obtain ⟨k, hk, rfl, hall, hbel, hsc⟩ := hrel
      obtain ⟨w4, rfl⟩ : ∃ w4 : World, w4 = wr := ⟨_, rfl⟩
      have hk0 : (0 : Int) ≤ (k : Int) := by omega
      by_cases hkl : k < l.length
      · have hkl' : (k : Int) < (l.length : Int) := by omega
        obtain ⟨g, off, rfl, q0, q1, q2, q3, q4, q5⟩ := HC.out k hkl
        have HN := hid (rightL_no (cs := s.cols) hkl)
        have HA := hid (all_node (cs := s.cols) hkl hall.out)
        have hop := whole_op HW.out hkl
        have hxs := HOK.out l[k] (List.getElem_mem hkl)
        generalize hx : l[k] = x at q0 q1 q2 q3 q4 q5 HN HA hop hxs
        clear hx
        obtain ⟨op, col, ⟨xk, xn, xb, xs⟩⟩ := x
        simp only at q0 q1 q2 q3 q4 q5 hop hxs
        obtain ⟨o1, o2⟩ := hop
        replace q0 := hkeep q0 hbel
        replace q1 := hkeep q1 hbel
        replace q2 := hkeep q2 hbel
        replace q3 := hkeep q3 hbel
        replace q4 := hkeep q4 hbel
        replace q5 := hkeep q5 hbel
        have HB4 := hid hbel
        have hlt4 : w.heap.size < w4.heap.size := World.block_lt_of_cell? w4 _ hsc
        have HSC := hid hsc
        clear hbel hall
        by_cases h8 : op ≤ 8
        · by_cases c1 : col < 0
          · have HR : Hid (rightL s.cols l = false) := by
              refine HN.out ?_
              unfold okN
              by_cases h6 : op ≤ 6
              · rw [if_pos (show (⟨op, col, ⟨xk, xn, xb, xs⟩⟩ : N).op ≤ 6 from h6), decide_eq_false (by show ¬ (0 ≤ col ∧ col < (s.cols.length : Int)); omega), Bool.false_and]
              · rw [if_neg (show ¬ (⟨op, col, ⟨xk, xn, xb, xs⟩⟩ : N).op ≤ 6 from h6), if_pos (show (⟨op, col, ⟨xk, xn, xb, xs⟩⟩ : N).op ≤ 8 from h8), decide_eq_false (by show ¬ (0 ≤ col ∧ col < (s.cols.length : Int)); omega), Bool.false_and]
            clear HN HA
            go_wp2_with fail
            go_ret
            rw [HR.out]
            exact ⟨rfl, hnext HB4.out (hnext (hba w4 _) (hba _ _))⟩
          · by_cases c2 : (s.cols.length : Int) ≤ col
            · have HR : Hid (rightL s.cols l = false) := by
                refine HN.out ?_
                unfold okN
                by_cases h6 : op ≤ 6
                · rw [if_pos (show (⟨op, col, ⟨xk, xn, xb, xs⟩⟩ : N).op ≤ 6 from h6), decide_eq_false (by show ¬ (0 ≤ col ∧ col < (s.cols.length : Int)); omega), Bool.false_and]
                · rw [if_neg (show ¬ (⟨op, col, ⟨xk, xn, xb, xs⟩⟩ : N).op ≤ 6 from h6), if_pos (show (⟨op, col, ⟨xk, xn, xb, xs⟩⟩ : N).op ≤ 8 from h8), decide_eq_false (by show ¬ (0 ≤ col ∧ col < (s.cols.length : Int)); omega), Bool.false_and]
              clear HN HA
              go_wp2_with fail
              go_ret
              rw [HR.out]
              exact ⟨rfl, hnext HB4.out (hnext (hba w4 _) (hba _ _))⟩
            · have c3 : (0 : Int) ≤ col := by omega
              by_cases h6 : op ≤ 6
              · obtain ⟨cn, rfl⟩ : ∃ cn : Nat, col = (cn : Int) := ⟨col.toNat, by omega⟩
                have hcn : cn < s.cols.length := by omega
                have hcn' : (cn : Int) < (s.cols.length : Int) := by omega
                have hcn0 : (0 : Int) ≤ (cn : Int) := by omega
                obtain ⟨cg, coff, rfl, _, ck1, _⟩ := HU.out cn hcn
                have HKA : Hid (kindAt s.cols (cn : Int) = s.cols[cn].kind) := by show _ = _; unfold kindAt; rw [Int.toNat_natCast, List.getElem?_eq_getElem hcn]
                generalize s.cols[cn].kind = ck at ck1 HKA
                replace ck1 := hkeep ck1 HB4.out
                have cr0 := fun W => right_any xk xn xb xs hxs W
                unfold vv at cr0
                have BX := hid (BN.keep (BN.new 65 w4 ⟨op, (cn : Int), ⟨xk, xn, xb, xs⟩⟩) (hba _ (.cells #[.int .i64 op, .int .i64 (cn : Int), .int .i64 0, .int .i64 0, .int .u64 0, .string ⟨#[]⟩] 65)))
                have BY := hid (BN.new 65 (w4.alloc (.cells #[.int .i64 op, .int .i64 (cn : Int), .int .i64 xk, .int .i64 xn, .int .u64 (xb : Int), .string xs] 65)) ⟨op, (cn : Int), nul⟩)
                have HOKN : Hid (okN s.cols ⟨op, (cn : Int), ⟨xk, xn, xb, xs⟩⟩ = (Va.right xk xn xb xs && decide (xk = ck))) := by
                  show _ = _
                  unfold okN
                  rw [if_pos (show (⟨op, (cn : Int), ⟨xk, xn, xb, xs⟩⟩ : N).op ≤ 6 from h6), decide_eq_true (show (0 ≤ (cn : Int) ∧ (cn : Int) < (s.cols.length : Int)) from ⟨hcn0, hcn'⟩), Bool.true_and, HKA.out]; rfl
                have qq : ∀ w, _ := fun w => n_neq ⟨op, (cn : Int), ⟨xk, xn, xb, xs⟩⟩ ⟨op, (cn : Int), ⟨xk, xn, xb, xs⟩⟩ true (decide_eq_true rfl) w
                unfold nv at qq
                cases hr : Va.right xk xn xb xs with
                | false =>
                  rw [hr] at cr0
                  have cr := hid cr0
                  have HR : Hid (rightL s.cols l = false) := HN.out (by rw [HOKN.out, hr, Bool.false_and])
                  clear cr0 hr HN HA
                  go_wp2_with fail
                  obtain ⟨w20, hw20⟩ : ∃ w20, (((w4.alloc (.cells #[.int .i64 op, .int .i64 (cn : Int), .int .i64 xk, .int .i64 xn, .int .u64 (xb : Int), .string xs] 65)).alloc (.cells #[.int .i64 op, .int .i64 (cn : Int), .int .i64 0, .int .i64 0, .int .u64 0, .string ⟨#[]⟩] 65))).drew = w20 := ⟨_, rfl⟩
                  have hd20 : Below (((w4.alloc (.cells #[.int .i64 op, .int .i64 (cn : Int), .int .i64 xk, .int .i64 xn, .int .u64 (xb : Int), .string xs] 65)).alloc (.cells #[.int .i64 op, .int .i64 (cn : Int), .int .i64 0, .int .i64 0, .int .u64 0, .string ⟨#[]⟩] 65))).heap.size (((w4.alloc (.cells #[.int .i64 op, .int .i64 (cn : Int), .int .i64 xk, .int .i64 xn, .int .u64 (xb : Int), .string xs] 65)).alloc (.cells #[.int .i64 op, .int .i64 (cn : Int), .int .i64 0, .int .i64 0, .int .u64 0, .string ⟨#[]⟩] 65))) w20 := hw20 ▸ (Below.refl _ _).drew
                  have bz20 := BX.out.keep hd20
                  obtain ⟨x0, x1, x2, x3, x4, x5, _, _, _, _, _, _, _⟩ := bz20.cells
                  simp only at x0 x1 x2 x3 x4 x5
                  have sc20 := hkeep (hkeep (hkeep HSC.out (hba w4 _)) (hba _ _)) hd20
                  have ck20 := hkeep (hkeep (hkeep ck1 (hba w4 _)) (hba _ _)) hd20
                  have mk20 : ∀ W, Below w20.heap.size w20 W → Below w20.heap.size w20 W ∧ W.cell? ⟨w4.heap.size, 0, none⟩ = some (.int .i64 op) ∧ W.cell? ⟨w4.heap.size, 1, none⟩ = some (.int .i64 (cn : Int)) ∧ W.cell? ⟨w4.heap.size, 2, none⟩ = some (.int .i64 xk) ∧ W.cell? ⟨w4.heap.size, 3, none⟩ = some (.int .i64 xn) ∧ W.cell? ⟨w4.heap.size, 4, none⟩ = some (.int .u64 (xb : Int)) ∧ W.cell? ⟨w4.heap.size, 5, none⟩ = some (.string xs) ∧ W.cell? ⟨w.heap.size, 1, none⟩ = some (.slice (some ⟨cg, coff, none⟩) s.cols.length ucap) ∧ W.cell? ⟨cg, coff + cn * 3 + 1, none⟩ = some (.int .i64 ck) := fun W h => ⟨h, hkeep x0 h, hkeep x1 h, hkeep x2 h, hkeep x3 h, hkeep x4 h, hkeep x5 h, hkeep sc20 h, hkeep ck20 h⟩
                  clear x0 x1 x2 x3 x4 x5 bz20 sc20 ck20 ck1
                  refine wp_region_held_drew (S := (fun W => Below w20.heap.size w20 W ∧ W.cell? ⟨w4.heap.size, 0, none⟩ = some (.int .i64 op) ∧ W.cell? ⟨w4.heap.size, 1, none⟩ = some (.int .i64 (cn : Int)) ∧ W.cell? ⟨w4.heap.size, 2, none⟩ = some (.int .i64 xk) ∧ W.cell? ⟨w4.heap.size, 3, none⟩ = some (.int .i64 xn) ∧ W.cell? ⟨w4.heap.size, 4, none⟩ = some (.int .u64 (xb : Int)) ∧ W.cell? ⟨w4.heap.size, 5, none⟩ = some (.string xs) ∧ W.cell? ⟨w.heap.size, 1, none⟩ = some (.slice (some ⟨cg, coff, none⟩) s.cols.length ucap) ∧ W.cell? ⟨cg, coff + cn * 3 + 1, none⟩ = some (.int .i64 ck))) (by kernel_rfl) (by rw [hw20]; exact mk20 _ (Below.refl _ _)) (fun hS20 => ?_)
                  rw [hw20] at hS20 ⊢
                  clear hw20
                  refine wT 0 hS20 ?_
                  refine wT 1 hS20 ?_
                  refine wpAnyH_ready (rs := [2]) (by kernel_rfl) (by simp) ?_
                  refine wC (fun K hK => ?_) AllReadyH.nil
                  go_simp
                  refine (cr.out _).mono ?_; rintro e w21 ⟨rfl, hb21⟩
                  go_wp2_with fail
                  refine hK.out _ _ (mk20 _ (hnext hS20.1 hb21)) (fun hS21 => ?_)
                  clear hK K
                  (try simp only [Act.put, List.setIfInBounds_toArray, List.set_cons_zero, List.set_cons_succ])
                  clear hb21 hS20
                  refine wT 3 hS21 ?_
                  refine wT 4 hS21 ?_
                  refine wF 5 hS21 ?_
                  refine wF 6 hS21 ?_
                  refine wF 7 hS21 ?_
                  refine wF 8 hS21 ?_
                  refine wF 9 hS21 ?_
                  refine wF 10 hS21 ?_
                  refine wF 11 hS21 ?_
                  refine wF 12 hS21 ?_
                  refine wF 13 hS21 ?_
                  refine wF 14 hS21 ?_
                  refine wF 15 hS21 ?_
                  refine wT 16 hS21 ?_
                  refine wpAnyH_done (by kernel_rfl) ?_ _
                  have hbz := hnext hd20 hS21.1
                  have LZ := hid (hnext (hnext HB4.out (hnext (hba w4 _) (hba _ _))) hbz)
                  obtain ⟨x0, x1, x2, x3, x4, x5, xf0, xf1, xf2, xf3, xf4, xf5, xl⟩ := (BX.out.keep hbz).cells
                  have by2 := BY.out.keep hbz
                  rw [show (w4.alloc (.cells #[.int .i64 op, .int .i64 (cn : Int), .int .i64 xk, .int .i64 xn, .int .u64 (xb : Int), .string xs] 65)).heap.size = w4.heap.size + 1 by simp] at by2
                  obtain ⟨y0, y1, y2, y3, y4, y5, yf0, yf1, yf2, yf3, yf4, yf5, yl⟩ := by2.cells
                  simp only [nul] at x0 x1 x2 x3 x4 x5 y0 y1 y2 y3 y4 y5
                  have SZ := hid (hkeep (hkeep (hkeep HSC.out (hba w4 _)) (hba _ _)) hbz)
                  clear hbz hS21 by2
                  go_wp2_with fail
                  go_ret
                  rw [HR.out]
                  exact ⟨rfl, LZ.out⟩
                | true =>
                  rw [hr] at cr0
                  have cr := hid cr0
                  by_cases hkk : xk = ck
                  · have HA2 := hid (HA.out (by rw [HOKN.out, hr, hkk, decide_eq_true rfl]; rfl))
                    have ek : (xk != ck) = false := by rw [hkk]; simp
                    clear cr0 hr HN HA hkk
                    go_wp2_with fail
                    obtain ⟨w20, hw20⟩ : ∃ w20, (((w4.alloc (.cells #[.int .i64 op, .int .i64 (cn : Int), .int .i64 xk, .int .i64 xn, .int .u64 (xb : Int), .string xs] 65)).alloc (.cells #[.int .i64 op, .int .i64 (cn : Int), .int .i64 0, .int .i64 0, .int .u64 0, .string ⟨#[]⟩] 65))).drew = w20 := ⟨_, rfl⟩
                    have hd20 : Below (((w4.alloc (.cells #[.int .i64 op, .int .i64 (cn : Int), .int .i64 xk, .int .i64 xn, .int .u64 (xb : Int), .string xs] 65)).alloc (.cells #[.int .i64 op, .int .i64 (cn : Int), .int .i64 0, .int .i64 0, .int .u64 0, .string ⟨#[]⟩] 65))).heap.size (((w4.alloc (.cells #[.int .i64 op, .int .i64 (cn : Int), .int .i64 xk, .int .i64 xn, .int .u64 (xb : Int), .string xs] 65)).alloc (.cells #[.int .i64 op, .int .i64 (cn : Int), .int .i64 0, .int .i64 0, .int .u64 0, .string ⟨#[]⟩] 65))) w20 := hw20 ▸ (Below.refl _ _).drew
                    have bz20 := BX.out.keep hd20
                    obtain ⟨x0, x1, x2, x3, x4, x5, _, _, _, _, _, _, _⟩ := bz20.cells
                    simp only at x0 x1 x2 x3 x4 x5
                    have sc20 := hkeep (hkeep (hkeep HSC.out (hba w4 _)) (hba _ _)) hd20
                    have ck20 := hkeep (hkeep (hkeep ck1 (hba w4 _)) (hba _ _)) hd20
                    have mk20 : ∀ W, Below w20.heap.size w20 W → Below w20.heap.size w20 W ∧ W.cell? ⟨w4.heap.size, 0, none⟩ = some (.int .i64 op) ∧ W.cell? ⟨w4.heap.size, 1, none⟩ = some (.int .i64 (cn : Int)) ∧ W.cell? ⟨w4.heap.size, 2, none⟩ = some (.int .i64 xk) ∧ W.cell? ⟨w4.heap.size, 3, none⟩ = some (.int .i64 xn) ∧ W.cell? ⟨w4.heap.size, 4, none⟩ = some (.int .u64 (xb : Int)) ∧ W.cell? ⟨w4.heap.size, 5, none⟩ = some (.string xs) ∧ W.cell? ⟨w.heap.size, 1, none⟩ = some (.slice (some ⟨cg, coff, none⟩) s.cols.length ucap) ∧ W.cell? ⟨cg, coff + cn * 3 + 1, none⟩ = some (.int .i64 ck) := fun W h => ⟨h, hkeep x0 h, hkeep x1 h, hkeep x2 h, hkeep x3 h, hkeep x4 h, hkeep x5 h, hkeep sc20 h, hkeep ck20 h⟩
                    clear x0 x1 x2 x3 x4 x5 bz20 sc20 ck20 ck1
                    refine wp_region_held_drew (S := (fun W => Below w20.heap.size w20 W ∧ W.cell? ⟨w4.heap.size, 0, none⟩ = some (.int .i64 op) ∧ W.cell? ⟨w4.heap.size, 1, none⟩ = some (.int .i64 (cn : Int)) ∧ W.cell? ⟨w4.heap.size, 2, none⟩ = some (.int .i64 xk) ∧ W.cell? ⟨w4.heap.size, 3, none⟩ = some (.int .i64 xn) ∧ W.cell? ⟨w4.heap.size, 4, none⟩ = some (.int .u64 (xb : Int)) ∧ W.cell? ⟨w4.heap.size, 5, none⟩ = some (.string xs) ∧ W.cell? ⟨w.heap.size, 1, none⟩ = some (.slice (some ⟨cg, coff, none⟩) s.cols.length ucap) ∧ W.cell? ⟨cg, coff + cn * 3 + 1, none⟩ = some (.int .i64 ck))) (by kernel_rfl) (by rw [hw20]; exact mk20 _ (Below.refl _ _)) (fun hS20 => ?_)
                    rw [hw20] at hS20 ⊢
                    clear hw20
                    refine wT 0 hS20 ?_
                    refine wT 1 hS20 ?_
                    refine wpAnyH_ready (rs := [2]) (by kernel_rfl) (by simp) ?_
                    refine wC (fun K hK => ?_) AllReadyH.nil
                    go_simp
                    refine (cr.out _).mono ?_; rintro e w21 ⟨rfl, hb21⟩
                    go_wp2_with fail
                    refine hK.out _ _ (mk20 _ (hnext hS20.1 hb21)) (fun hS21 => ?_)
                    clear hK K
                    (try simp only [Act.put, List.setIfInBounds_toArray, List.set_cons_zero, List.set_cons_succ])
                    clear hb21 hS20
                    refine wT 3 hS21 ?_
                    refine wT 4 hS21 ?_
                    refine wT 5 hS21 ?_
                    refine wT 6 hS21 ?_
                    refine wT 7 hS21 ?_
                    refine wT 8 hS21 ?_
                    refine wT 9 hS21 ?_
                    refine wT 10 hS21 ?_
                    refine wT 11 hS21 ?_
                    refine wT 12 hS21 ?_
                    refine wT 13 hS21 ?_
                    refine wT 14 hS21 ?_
                    refine wT 15 hS21 ?_
                    refine wT 16 hS21 ?_
                    refine wpAnyH_done (by kernel_rfl) ?_ _
                    have hbz := hnext hd20 hS21.1
                    have LZ := hid (hnext (hnext HB4.out (hnext (hba w4 _) (hba _ _))) hbz)
                    obtain ⟨x0, x1, x2, x3, x4, x5, xf0, xf1, xf2, xf3, xf4, xf5, xl⟩ := (BX.out.keep hbz).cells
                    have by2 := BY.out.keep hbz
                    rw [show (w4.alloc (.cells #[.int .i64 op, .int .i64 (cn : Int), .int .i64 xk, .int .i64 xn, .int .u64 (xb : Int), .string xs] 65)).heap.size = w4.heap.size + 1 by simp] at by2
                    obtain ⟨y0, y1, y2, y3, y4, y5, yf0, yf1, yf2, yf3, yf4, yf5, yl⟩ := by2.cells
                    simp only [nul] at x0 x1 x2 x3 x4 x5 y0 y1 y2 y3 y4 y5
                    have SZ := hid (hkeep (hkeep (hkeep HSC.out (hba w4 _)) (hba _ _)) hbz)
                    clear hbz hS21 by2
                    have hwb : w.heap.size ≤ w4.heap.size + 1 := by omega
                    have hneq : w.heap.size ≠ w4.heap.size + 1 := by omega
                    go_wp2_with fail
                    go_roundw
                    case rel => exact ⟨k + 1, by omega, by go_num, HA2, (((LZ.out.setCell (p := ⟨w4.heap.size + 1, 2, none⟩) hwb _).setCell (p := ⟨w4.heap.size + 1, 3, none⟩) hwb _).setCell (p := ⟨w4.heap.size + 1, 4, none⟩) hwb _).setCell (p := ⟨w4.heap.size + 1, 5, none⟩) hwb _, by rw [World.cell?_setCell_far _ _ _ _ (by simpa using hneq.symm), World.cell?_setCell_far _ _ _ _ (by simpa using hneq.symm), World.cell?_setCell_far _ _ _ _ (by simpa using hneq.symm), World.cell?_setCell_far _ _ _ _ (by simpa using hneq.symm)]; exact SZ.out⟩
                    case measure => simp [intOf]; omega
                  · have HR : Hid (rightL s.cols l = false) := HN.out (by rw [HOKN.out, decide_eq_false hkk, Bool.and_false])
                    have ek : (xk != ck) = true := by rw [bne_iff_ne]; exact hkk
                    clear cr0 hr HN HA hkk
                    go_wp2_with fail
                    obtain ⟨w20, hw20⟩ : ∃ w20, (((w4.alloc (.cells #[.int .i64 op, .int .i64 (cn : Int), .int .i64 xk, .int .i64 xn, .int .u64 (xb : Int), .string xs] 65)).alloc (.cells #[.int .i64 op, .int .i64 (cn : Int), .int .i64 0, .int .i64 0, .int .u64 0, .string ⟨#[]⟩] 65))).drew = w20 := ⟨_, rfl⟩
                    have hd20 : Below (((w4.alloc (.cells #[.int .i64 op, .int .i64 (cn : Int), .int .i64 xk, .int .i64 xn, .int .u64 (xb : Int), .string xs] 65)).alloc (.cells #[.int .i64 op, .int .i64 (cn : Int), .int .i64 0, .int .i64 0, .int .u64 0, .string ⟨#[]⟩] 65))).heap.size (((w4.alloc (.cells #[.int .i64 op, .int .i64 (cn : Int), .int .i64 xk, .int .i64 xn, .int .u64 (xb : Int), .string xs] 65)).alloc (.cells #[.int .i64 op, .int .i64 (cn : Int), .int .i64 0, .int .i64 0, .int .u64 0, .string ⟨#[]⟩] 65))) w20 := hw20 ▸ (Below.refl _ _).drew
                    have bz20 := BX.out.keep hd20
                    obtain ⟨x0, x1, x2, x3, x4, x5, _, _, _, _, _, _, _⟩ := bz20.cells
                    simp only at x0 x1 x2 x3 x4 x5
                    have sc20 := hkeep (hkeep (hkeep HSC.out (hba w4 _)) (hba _ _)) hd20
                    have ck20 := hkeep (hkeep (hkeep ck1 (hba w4 _)) (hba _ _)) hd20
                    have mk20 : ∀ W, Below w20.heap.size w20 W → Below w20.heap.size w20 W ∧ W.cell? ⟨w4.heap.size, 0, none⟩ = some (.int .i64 op) ∧ W.cell? ⟨w4.heap.size, 1, none⟩ = some (.int .i64 (cn : Int)) ∧ W.cell? ⟨w4.heap.size, 2, none⟩ = some (.int .i64 xk) ∧ W.cell? ⟨w4.heap.size, 3, none⟩ = some (.int .i64 xn) ∧ W.cell? ⟨w4.heap.size, 4, none⟩ = some (.int .u64 (xb : Int)) ∧ W.cell? ⟨w4.heap.size, 5, none⟩ = some (.string xs) ∧ W.cell? ⟨w.heap.size, 1, none⟩ = some (.slice (some ⟨cg, coff, none⟩) s.cols.length ucap) ∧ W.cell? ⟨cg, coff + cn * 3 + 1, none⟩ = some (.int .i64 ck) := fun W h => ⟨h, hkeep x0 h, hkeep x1 h, hkeep x2 h, hkeep x3 h, hkeep x4 h, hkeep x5 h, hkeep sc20 h, hkeep ck20 h⟩
                    clear x0 x1 x2 x3 x4 x5 bz20 sc20 ck20 ck1
                    refine wp_region_held_drew (S := (fun W => Below w20.heap.size w20 W ∧ W.cell? ⟨w4.heap.size, 0, none⟩ = some (.int .i64 op) ∧ W.cell? ⟨w4.heap.size, 1, none⟩ = some (.int .i64 (cn : Int)) ∧ W.cell? ⟨w4.heap.size, 2, none⟩ = some (.int .i64 xk) ∧ W.cell? ⟨w4.heap.size, 3, none⟩ = some (.int .i64 xn) ∧ W.cell? ⟨w4.heap.size, 4, none⟩ = some (.int .u64 (xb : Int)) ∧ W.cell? ⟨w4.heap.size, 5, none⟩ = some (.string xs) ∧ W.cell? ⟨w.heap.size, 1, none⟩ = some (.slice (some ⟨cg, coff, none⟩) s.cols.length ucap) ∧ W.cell? ⟨cg, coff + cn * 3 + 1, none⟩ = some (.int .i64 ck))) (by kernel_rfl) (by rw [hw20]; exact mk20 _ (Below.refl _ _)) (fun hS20 => ?_)
                    rw [hw20] at hS20 ⊢
                    clear hw20
                    refine wT 0 hS20 ?_
                    refine wT 1 hS20 ?_
                    refine wpAnyH_ready (rs := [2]) (by kernel_rfl) (by simp) ?_
                    refine wC (fun K hK => ?_) AllReadyH.nil
                    go_simp
                    refine (cr.out _).mono ?_; rintro e w21 ⟨rfl, hb21⟩
                    go_wp2_with fail
                    refine hK.out _ _ (mk20 _ (hnext hS20.1 hb21)) (fun hS21 => ?_)
                    clear hK K
                    (try simp only [Act.put, List.setIfInBounds_toArray, List.set_cons_zero, List.set_cons_succ])
                    clear hb21 hS20
                    refine wT 3 hS21 ?_
                    refine wT 4 hS21 ?_
                    refine wT 5 hS21 ?_
                    refine wT 6 hS21 ?_
                    refine wT 7 hS21 ?_
                    refine wT 8 hS21 ?_
                    refine wT 9 hS21 ?_
                    refine wT 10 hS21 ?_
                    refine wT 11 hS21 ?_
                    refine wT 12 hS21 ?_
                    refine wT 13 hS21 ?_
                    refine wT 14 hS21 ?_
                    refine wT 15 hS21 ?_
                    refine wT 16 hS21 ?_
                    refine wpAnyH_done (by kernel_rfl) ?_ _
                    have hbz := hnext hd20 hS21.1
                    have LZ := hid (hnext (hnext HB4.out (hnext (hba w4 _) (hba _ _))) hbz)
                    obtain ⟨x0, x1, x2, x3, x4, x5, xf0, xf1, xf2, xf3, xf4, xf5, xl⟩ := (BX.out.keep hbz).cells
                    have by2 := BY.out.keep hbz
                    rw [show (w4.alloc (.cells #[.int .i64 op, .int .i64 (cn : Int), .int .i64 xk, .int .i64 xn, .int .u64 (xb : Int), .string xs] 65)).heap.size = w4.heap.size + 1 by simp] at by2
                    obtain ⟨y0, y1, y2, y3, y4, y5, yf0, yf1, yf2, yf3, yf4, yf5, yl⟩ := by2.cells
                    simp only [nul] at x0 x1 x2 x3 x4 x5 y0 y1 y2 y3 y4 y5
                    have SZ := hid (hkeep (hkeep (hkeep HSC.out (hba w4 _)) (hba _ _)) hbz)
                    clear hbz hS21 by2
                    go_wp2_with fail
                    go_ret
                    rw [HR.out]
                    exact ⟨rfl, LZ.out⟩
              · have n6 : ¬ op ≤ 6 := h6
                have HLB := hid (hnext HB4.out (hnext (hba w4 (.cells #[.int .i64 op, .int .i64 col, .int .i64 xk, .int .i64 xn, .int .u64 (xb : Int), .string xs] 65)) (hba _ (.cells #[.int .i64 op, .int .i64 col, .int .i64 0, .int .i64 0, .int .u64 0, .string ⟨#[]⟩] 65))))
                have qq : ∀ z, decide ((⟨op, col, ⟨xk, xn, xb, xs⟩⟩ : N) = ⟨op, col, nul⟩) = z → ∀ w, (binOp .neq 65 (.agg #[.int .i64 op, .int .i64 col, .int .i64 xk, .int .i64 xn, .int .u64 (xb : Int), .string xs]) (.agg #[.int .i64 op, .int .i64 col, .int .i64 0, .int .i64 0, .int .u64 0, .string ⟨#[]⟩])).run Try.prog w = .ok (.bool (!z)) w := fun z hz w => n_neq ⟨op, col, ⟨xk, xn, xb, xs⟩⟩ ⟨op, col, nul⟩ z hz w
                by_cases hxb : (⟨op, col, ⟨xk, xn, xb, xs⟩⟩ : N) = ⟨op, col, nul⟩
                · have hq := qq true (decide_eq_true hxb)
                  have HA2 := hid (HA.out (by unfold okN; rw [if_neg (by show ¬ op ≤ 6; omega), if_pos (by show op ≤ 8; omega), decide_eq_true (show (0 ≤ col ∧ col < (s.cols.length : Int)) from ⟨by omega, by omega⟩), Bool.true_and]; exact decide_eq_true hxb))
                  clear qq HN HA hxb
                  go_wp2_with fail
                  go_roundw
                  case rel => exact ⟨k + 1, by omega, by go_num, HA2, HLB.out, hkeep (hkeep HSC.out (hba w4 _)) (hba _ _)⟩
                  case measure => simp [intOf]; omega
                · have hq := qq false (decide_eq_false hxb)
                  have HR : Hid (rightL s.cols l = false) := HN.out (by unfold okN; rw [if_neg (by show ¬ op ≤ 6; omega), if_pos (by show op ≤ 8; omega), decide_eq_true (show (0 ≤ col ∧ col < (s.cols.length : Int)) from ⟨by omega, by omega⟩), Bool.true_and]; exact decide_eq_false hxb)
                  clear qq HN HA hxb
                  go_wp2_with fail
                  go_ret
                  rw [HR.out]
                  exact ⟨rfl, HLB.out⟩
        · have n8 : ¬ op ≤ 8 := by omega
          have n6 : ¬ op ≤ 6 := by omega
          have HLB := hid (hnext HB4.out (hnext (hba w4 (.cells #[.int .i64 op, .int .i64 col, .int .i64 xk, .int .i64 xn, .int .u64 (xb : Int), .string xs] 65)) (hba _ (.cells #[.int .i64 op, .int .i64 0, .int .i64 0, .int .i64 0, .int .u64 0, .string ⟨#[]⟩] 65))))
          have qq : ∀ z, decide ((⟨op, col, ⟨xk, xn, xb, xs⟩⟩ : N) = ⟨op, 0, nul⟩) = z → ∀ w, (binOp .neq 65 (.agg #[.int .i64 op, .int .i64 col, .int .i64 xk, .int .i64 xn, .int .u64 (xb : Int), .string xs]) (.agg #[.int .i64 op, .int .i64 0, .int .i64 0, .int .i64 0, .int .u64 0, .string ⟨#[]⟩])).run Try.prog w = .ok (.bool (!z)) w := fun z hz w => n_neq ⟨op, col, ⟨xk, xn, xb, xs⟩⟩ ⟨op, 0, nul⟩ z hz w
          by_cases hxb : (⟨op, col, ⟨xk, xn, xb, xs⟩⟩ : N) = ⟨op, 0, nul⟩
          · have hq := qq true (decide_eq_true hxb)
            have HA2 := hid (HA.out (by unfold okN; rw [if_neg (by show ¬ op ≤ 6; omega), if_neg (by show ¬ op ≤ 8; omega)]; exact decide_eq_true hxb))
            clear qq HN HA hxb
            go_wp2_with fail
            go_roundw
            case rel => exact ⟨k + 1, by omega, by go_num, HA2, HLB.out, hkeep (hkeep HSC.out (hba w4 _)) (hba _ _)⟩
            case measure => simp [intOf]; omega
          · have hq := qq false (decide_eq_false hxb)
            have HR : Hid (rightL s.cols l = false) := HN.out (by unfold okN; rw [if_neg (by show ¬ op ≤ 6; omega), if_neg (by show ¬ op ≤ 8; omega)]; exact decide_eq_false hxb)
            clear qq HN HA hxb
            go_wp2_with fail
            go_ret
            rw [HR.out]
            exact ⟨rfl, HLB.out⟩
      · obtain rfl : k = l.length := by omega
        have HR : Hid (rightL s.cols l = true) := by
          have h := hall.out
          rw [List.take_length] at h
          show _ = _
          rw [HR0.out, h]
        clear hall
        go_wp2_with fail
        go_ret
        rw [HR.out]
        exact ⟨rfl, hbel⟩
end Go.Proofs.Ytmcneelapghfcaa
