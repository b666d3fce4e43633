/-
  What a query asks of a row: contracts, of the program and of the reference. Condition: at most 1000000 columns and values.
-/
import Derived.Test.YtmcneelapghfcaaQa
import Derived.Test.YtmcneelapghfcaaCf
namespace Go.Proofs.Ytmcneelapghfcaa
open Go.RowKit Pd Qu

theorem vcells_set (L : List Cd.V) (k : Nat) (x : Cd.V) (hk : k < L.length) : vcells (L.set k x) = (((((vcells L).set (k * 4) (.int .i64 x.k)).set (k * 4 + 1) (.int .i64 x.n)).set (k * 4 + 2) (.int .u64 (x.b : Int))).set (k * 4 + 3) (.string x.s)) := by
  induction L generalizing k with
  | nil => cases hk
  | cons y L ih =>
    have e : ∀ y L, vcells (y :: L) = .int .i64 y.k :: .int .i64 y.n :: .int .u64 (y.b : Int) :: .string y.s :: vcells L := fun y L => rfl
    cases k with
    | zero => rfl
    | succ k =>
      have hk' : k < L.length := by simpa using hk
      rw [List.set_cons_succ, e, e, ih k hk']
      rw [show (k + 1) * 4 = (k * 4) + 1 + 1 + 1 + 1 by omega, show k * 4 + 1 + 1 + 1 + 1 + 1 = (k * 4 + 1) + 1 + 1 + 1 + 1 by omega, show k * 4 + 1 + 1 + 1 + 1 + 2 = (k * 4 + 2) + 1 + 1 + 1 + 1 by omega, show k * 4 + 1 + 1 + 1 + 1 + 3 = (k * 4 + 3) + 1 + 1 + 1 + 1 by omega]
      simp only [List.set_cons_succ]
def set4 (w : World) (g o : Nat) (x : Cd.V) : World := (((w.setCell ⟨g, o, none⟩ (.int .i64 x.k)).setCell ⟨g, o + 1, none⟩ (.int .i64 x.n)).setCell ⟨g, o + 2, none⟩ (.int .u64 (x.b : Int))).setCell ⟨g, o + 3, none⟩ (.string x.s)
theorem BR.set {w : World} {g : Nat} {L : List Cd.V} (h : BR w g L) (k : Nat) (hk : k < L.length) (x : Cd.V) : BR (set4 w g (k * 4) x) g (L.set k x) := by
  unfold set4 BR
  have h1 := heap_setCell_same w g (k * 4) _ _ (.int .i64 x.k) h
  have h2 := heap_setCell_same _ g (k * 4 + 1) _ _ (.int .i64 x.n) h1
  have h3 := heap_setCell_same _ g (k * 4 + 2) _ _ (.int .u64 (x.b : Int)) h2
  have h4 := heap_setCell_same _ g (k * 4 + 3) _ _ (.string x.s) h3
  rw [h4, vcells_set L k x hk]
  simp only [List.setIfInBounds_toArray]
theorem below_set4 {w0 w : World} {g : Nat} (h : Below w0.heap.size w0 w) (hg : w0.heap.size ≤ g) (o : Nat) (x : Cd.V) : Below w0.heap.size w0 (set4 w g o x) := by
  unfold set4
  exact (((h.setCell (p := ⟨g, o, none⟩) hg _).setCell (p := ⟨g, o + 1, none⟩) hg _).setCell (p := ⟨g, o + 2, none⟩) hg _).setCell (p := ⟨g, o + 3, none⟩) hg _
theorem BR.at {w : World} {g : Nat} {L : List Cd.V} (h : BR w g L) (k : Nat) (hk : k < L.length) : (∃ a, w.cell? ⟨g, k * 4, none⟩ = some a) ∧ (∃ a, w.cell? ⟨g, k * 4 + 1, none⟩ = some a) ∧ (∃ a, w.cell? ⟨g, k * 4 + 2, none⟩ = some a) ∧ (∃ a, w.cell? ⟨g, k * 4 + 3, none⟩ = some a) ∧
    (∀ o, w.frozen? ⟨g, o, none⟩ = false) := by
  have hl : (vcells L).length = L.length * 4 := vcells_length L
  have hc : ∀ o, o < L.length * 4 → ∃ a, w.cell? ⟨g, o, none⟩ = some a := by
    intro o ho
    refine ⟨(vcells L)[o]'(by omega), ?_⟩
    rw [cell_of_row w g o _ _ (0, 0) h]
    simp [List.getElem?_eq_getElem (show o < (vcells L).length by omega)]
  exact ⟨hc _ (by omega), hc _ (by omega), hc _ (by omega), hc _ (by omega), fun o => frozen_of_row w g o _ _ h⟩
theorem upd4 (w : World) (g o : Nat) (x : Cd.V) : Upd g w (set4 w g o x) := by
  unfold set4
  exact (((Upd.set g o _ _).trans (Upd.set g (o + 1) _ _)).trans (Upd.set g (o + 2) _ _)).trans (Upd.set g (o + 3) _ _)
theorem BQ.upd {w w' : World} {T : TypeId} {g b : Nat} {q : Q} {vk vw vc : Value} (h : BQ w T g q vk vw vc) (u : Upd b w w') (hne : g ≠ b) : BQ w' T g q vk vw vc := by
  have hlt : g < w.heap.size := (Array.getElem?_eq_some_iff.1 h).1
  unfold BQ
  rw [u.block g hlt (fun e => hne (Option.some.inj e))]
  exact h
theorem BQ.grown {w w' : World} {T : TypeId} {g : Nat} {q : Q} {vk vw vc : Value} {r : Option Nat} (h : BQ w T g q vk vw vc) (u : w.grownBy w' r) (hne : r ≠ some g) : BQ w' T g q vk vw vc := by
  have hlt : g < w.heap.size := (Array.getElem?_eq_some_iff.1 h).1
  unfold BQ
  rw [u.block g hlt (fun e => hne e.symm)]
  exact h
theorem own_keep {w w' : World} {B e size n : Nat} {v : Value} {xs : List Value} (h : w.ownsRow B e size v n xs) (hb : Below w.heap.size w w') : w'.ownsRow B e size v n xs :=
  h.kept (row := none) ⟨hb.os, hb.tape, hb.output, hb.size, fun i hi _ => hb.block i hi⟩ (Classical.em _)
theorem own_slc {w : World} {B e s n : Nat} {v : Value} {xs : List Value} (h : w.ownsRow B e s v n xs) : ∃ a c, v = .slice a n c := by
  rcases h.2 with ⟨rfl, hn⟩ | ⟨g, cap, cur, rfl, _⟩
  · exact ⟨none, 0, by rw [hn]⟩
  · exact ⟨_, _, rfl⟩
namespace Qu
/-- as far as the columns are told -/
def projTo (cols : List Int) (row : List Cd.V) (k : Nat) : List Cd.V := (cols.take k).map (colV row) ++ List.replicate (cols.length - k) nul
theorem projTo_len {cols : List Int} {row : List Cd.V} {k : Nat} (hk : k ≤ cols.length) : (projTo cols row k).length = cols.length := by unfold projTo; simp; omega
theorem projTo_zero (cols : List Int) (row : List Cd.V) : projTo cols row 0 = List.replicate cols.length nul := by unfold projTo; simp
theorem projTo_all (cols : List Int) (row : List Cd.V) : projTo cols row cols.length = cols.map (colV row) := by unfold projTo; simp
theorem projTo_next {cols : List Int} {row : List Cd.V} {k : Nat} (hk : k < cols.length) : projTo cols row (k + 1) = (projTo cols row k).set k (colV row cols[k]) := by
  unfold projTo
  rw [List.take_succ_eq_append_getElem hk, List.map_append, List.map_cons, List.map_nil, List.append_assoc]
  rw [show cols.length - k = (cols.length - (k + 1)) + 1 by omega, List.replicate_succ]
  rw [List.set_append_right _ _ (by simp; omega)]
  have : k - ((cols.take k).map (colV row)).length = 0 := by simp; omega
  rw [this, List.set_cons_zero]; rfl
theorem projTo_same {cols : List Int} {row : List Cd.V} {k : Nat} (hk : k < cols.length) (h : colV row cols[k] = nul) : projTo cols row (k + 1) = projTo cols row k := by
  unfold projTo
  rw [List.take_succ_eq_append_getElem hk, List.map_append, List.map_cons, List.map_nil, List.append_assoc, h]
  rw [show cols.length - k = (cols.length - (k + 1)) + 1 by omega, List.replicate_succ]; rfl
theorem colV_in {row : List Cd.V} {k : Nat} (h : k < row.length) : colV row (k : Int) = row[k] := by
  unfold colV
  rw [if_pos ⟨by omega, by omega⟩, Int.toNat_natCast, List.getD_eq_getElem?_getD, List.getElem?_eq_getElem h]; rfl
theorem colV_out {row : List Cd.V} {c : Int} (h : ¬ (0 ≤ c ∧ c < (row.length : Int))) : colV row c = nul := if_neg h
end Qu
set_option maxRecDepth 100000 in
set_option maxHeartbeats 6400000 in
theorem project_any (q : Q) (vk vw vc : Value) (row : List Cd.V) (u : Value) (w : World) (hq : QIn w q vk vw vc) (hr : RsAt w u row) (hl : q.cols.length ≤ 1000000) (hrl : row.length ≤ 1000000) : Calls Try.prog 17 #[qv q vk vw vc, u] w fun e w' => ∃ v', e = .returned v' ∧ VsAt w' v' (projL q row) ∧ Below w.heap.size w w' := by
  obtain ⟨ka, kc, rfl⟩ := vs_slc hq.1
  obtain ⟨wa, wc, rfl⟩ := hq.2.1.slc
  obtain ⟨ca, cc, rfl⟩ := hq.2.2.slc
  have BX := hid (BQ.new w 28 q (.slice ka q.key.length kc) (.slice wa q.wh.length wc) (.slice ca q.cols.length cc))
  have L := hid (hba w (.cells #[.int .i64 q.kind, .string q.table, .slice ka q.key.length kc, .int .i64 q.t, .int .i64 q.v, .int .i64 q.fr, .int .i64 q.to, .slice wa q.wh.length wc, .slice ca q.cols.length cc, .int .i64 q.limit, .bool q.desc] 28))
  have HR0 := hid (hr.below L.out)
  obtain ⟨ra, rc, rfl⟩ := vs_slc hr.1
  obtain ⟨c0, c1, c2, c3, c4, c5, c6, c7, c8, c9, c10, cl⟩ := BX.out.cells
  clear cl c0 c1 c2 c3 c4 c5 c6 c7 c9 c10
  unfold qv
  obtain ⟨_, _, ec, hcc⟩ := hq.2.2
  cases ec
  have HCC := hid hcc
  have HV := hid hr.1
  clear hcc
  obtain ⟨_, ra', rc', er, hn1, hn2, hn3⟩ := hr
  cases er
  have HP : Hid (projL q row = if q.cols.length = 0 then row else q.cols.map (colV row)) := rfl
  by_cases h0 : q.cols.length = 0
  case pos =>
    have h0' : ((q.cols.length : Int) == 0) = true := by rw [h0]; rfl
    have HE : Hid (projL q row = row) := HP.out.trans (if_pos h0)
    clear h0
    go_enter Try.func17, Try.ntmps17
    go_wp2_with (at_builtin; go_loud (refine append_row _ rfl _ _ rfl w.heap.size _ [] rfl (World.ownsRow_nil _ _ _ _) row _ rfl ra row.length rc rfl HR0.out.1 hn3 (by simp; omega) L.out.size ?_; intro v' w' hown hgr; have HO := hid hown; have LL := hid (Below.grown L.out hgr L.out.size (fun k hk => by have hk' : (none : Option Nat) = some k := hk; cases hk')); clear hown hgr))
    rw [List.nil_append] at HO
    go_ret
    refine ⟨_, rfl, ?_, LL.out⟩
    rw [HE.out]
    exact VsAt.own HO.out
  have h0' : ((q.cols.length : Int) == 0) = false := by rw [beq_eq_false_iff_ne]; omega
  have HE : Hid (projL q row = q.cols.map (colV row)) := HP.out.trans (if_neg h0)
  clear h0
  go_enter Try.func17, Try.ntmps17
  go_wp2_with (at_make; refine make_values _ rfl _ _ rfl q.cols.length rfl rfl hl ?_; intro hb5)
  have hsz : (w.alloc (.cells #[.int .i64 q.kind, .string q.table, .slice ka q.key.length kc, .int .i64 q.t, .int .i64 q.v, .int .i64 q.fr, .int .i64 q.to, .slice wa q.wh.length wc, .slice ca q.cols.length cc, .int .i64 q.limit, .bool q.desc] 28)).heap.size = w.heap.size + 1 := by simp
  obtain ⟨g, hg⟩ : ∃ g, w.heap.size + 1 = g := ⟨_, rfl⟩
  have hgw : w.heap.size ≤ g := by omega
  have b5 := hba (w.alloc (.cells #[.int .i64 q.kind, .string q.table, .slice ka q.key.length kc, .int .i64 q.t, .int .i64 q.v, .int .i64 q.fr, .int .i64 q.to, .slice wa q.wh.length wc, .slice ca q.cols.length cc, .int .i64 q.limit, .bool q.desc] 28)) (.cells (vcells (List.replicate q.cols.length nullV)).toArray 36)
  have L5 := hid (hnext L.out b5)
  have BX5 := hid (BX.out.keep b5)
  rw [hsz, hg] at hb5
  (try rw [hsz])
  (try rw [hg])
  have HB5 := hid hb5
  clear hsz hg b5 hb5 c8
  generalize (w.alloc (.cells #[.int .i64 q.kind, .string q.table, .slice ka q.key.length kc, .int .i64 q.t, .int .i64 q.v, .int .i64 q.fr, .int .i64 q.to, .slice wa q.wh.length wc, .slice ca q.cols.length cc, .int .i64 q.limit, .bool q.desc] 28)).alloc (.cells (vcells (List.replicate q.cols.length nullV)).toArray 36) = w5 at *
  obtain ⟨c0, c1, c2, c3, c4, c5, c6, c7, c8, c9, c10, cl⟩ := BX5.out.cells
  clear c0 c1 c2 c3 c4 c5 c6 c7 c9 c10 cl
  go_wp2_with fail
  go_loopw [21] (fun i wr => ∃ k : Nat, k ≤ q.cols.length ∧ i = .int .i64 (k : Int) ∧ BR wr g (projTo q.cols row k) ∧ Below w.heap.size w wr) (fun i _ => q.cols.length - (intOf i).toNat)
  case atStart => exact ⟨0, by omega, rfl, by rw [projTo_zero]; exact HB5.out, L5.out⟩
  case round =>
    obtain ⟨k, hk, rfl, hbr, hbel⟩ := hrel
    obtain ⟨w6, rfl⟩ : ∃ w6 : World, w6 = wr := ⟨_, rfl⟩
    have hk0 : (0 : Int) ≤ (k : Int) := by omega
    clear c8
    have LB := hid hbel
    have HB := hid hbr
    clear hbel hbr
    by_cases hkl : k < q.cols.length
    · have hkl' : (k : Int) < (q.cols.length : Int) := by omega
      obtain ⟨gc, oc, rfl, q0⟩ := HCC.out k hkl
      replace q0 := hkeep q0 LB.out
      have HNX := hid (projTo_next (row := row) hkl)
      have HSM := hid (projTo_same (row := row) hkl)
      generalize hx : q.cols[k] = c at q0 HNX HSM
      clear hx
      by_cases hc0 : 0 ≤ c
      · by_cases hc1 : c < (row.length : Int)
        · obtain ⟨j, rfl⟩ : ∃ j : Nat, c = (j : Int) := ⟨c.toNat, by omega⟩
          have hj : j < row.length := by omega
          obtain ⟨_, _, ev, hvc⟩ := HV.out
          cases ev
          obtain ⟨gv, ov, rfl, v0, v1, v2, v3⟩ := hvc j hj
          replace v0 := hkeep v0 LB.out
          replace v1 := hkeep v1 LB.out
          replace v2 := hkeep v2 LB.out
          replace v3 := hkeep v3 LB.out
          have HJ := hid (HNX.out.trans (by rw [colV_in hj]))
          generalize hx : row[j] = x at v0 v1 v2 v3 HJ
          clear hx
          obtain ⟨⟨a0, p0⟩, ⟨a1, p1⟩, ⟨a2, p2⟩, ⟨a3, p3⟩, hf⟩ := HB.out.at k (by rw [projTo_len (by omega)]; exact hkl)
          have f0 := hf (k * 4)
          have f1 := hf (k * 4 + 1)
          have f2 := hf (k * 4 + 2)
          have f3 := hf (k * 4 + 3)
          obtain ⟨xk, xn, xb, xs⟩ := x
          simp only at v0 v1 v2 v3
          have HW6 := hid (HB.out.set k (by rw [projTo_len (by omega)]; exact hkl) ⟨xk, xn, xb, xs⟩)
          have LW6 := hid (below_set4 LB.out hgw (k * 4) ⟨xk, xn, xb, xs⟩)
          clear hf hvc HNX HSM
          go_wp2_with fail
          go_roundw
          case rel => exact ⟨k + 1, by omega, by first | rfl | go_num, by rw [HJ.out]; exact HW6.out, LW6.out⟩
          case measure => simp [intOf]; omega
        · have hs := HSM.out (colV_out (fun h => hc1 h.2))
          have HS := hid hs
          clear hs HNX HSM
          go_wp2_with fail
          go_roundw
          case rel => exact ⟨k + 1, by omega, by first | rfl | go_num, by rw [HS.out]; exact HB.out, LB.out⟩
          case measure => simp [intOf]; omega
      · have hs := HSM.out (colV_out (fun h => hc0 h.1))
        have HS := hid hs
        clear hs HNX HSM
        go_wp2_with fail
        go_roundw
        case rel => exact ⟨k + 1, by omega, by first | rfl | go_num, by rw [HS.out]; exact HB.out, LB.out⟩
        case measure => simp [intOf]; omega
    · obtain rfl : k = q.cols.length := by omega
      clear hkl
      rw [projTo_all] at HB
      have HO := hid (VsAt.own (HB.out.own hgw (by rw [List.length_map]; unfold maxLen; omega)))
      rw [List.length_map] at HO
      go_wp2_with fail
      go_ret
      refine ⟨_, rfl, ?_, LB.out⟩
      rw [HE.out]
      exact HO.out
set_option maxRecDepth 100000 in
set_option maxHeartbeats 6400000 in
theorem projectR_any (q : Q) (vk vw vc : Value) (row : List Cd.V) (u : Value) (w : World) (hq : QIn w q vk vw vc) (hr : RsAt w u row) (hl : q.cols.length ≤ 1000000) (_hrl : row.length ≤ 1000000) : Calls Try.prog 18 #[qv q vk vw vc, u] w fun e w' => ∃ v', e = .returned v' ∧ VsAt w' v' (projL q row) ∧ Below w.heap.size w w' := by
  obtain ⟨ka, kc, rfl⟩ := vs_slc hq.1
  obtain ⟨wa, wc, rfl⟩ := hq.2.1.slc
  obtain ⟨ca, cc, rfl⟩ := hq.2.2.slc
  have BX := hid (BQ.new w 39 q (.slice ka q.key.length kc) (.slice wa q.wh.length wc) (.slice ca q.cols.length cc))
  have L := hid (hba w (.cells #[.int .i64 q.kind, .string q.table, .slice ka q.key.length kc, .int .i64 q.t, .int .i64 q.v, .int .i64 q.fr, .int .i64 q.to, .slice wa q.wh.length wc, .slice ca q.cols.length cc, .int .i64 q.limit, .bool q.desc] 39))
  have HR0 := hid (hr.below L.out)
  obtain ⟨ra, rc, rfl⟩ := vs_slc hr.1
  obtain ⟨c0, c1, c2, c3, c4, c5, c6, c7, c8, c9, c10, cl⟩ := BX.out.cells
  clear cl c0 c1 c2 c3 c4 c5 c6 c7 c9 c10
  unfold qv
  obtain ⟨_, _, ec, hcc⟩ := hq.2.2
  cases ec
  have HCC := hid hcc
  have HV := hid hr.1
  clear hcc
  have HP : Hid (projL q row = if q.cols.length = 0 then row else q.cols.map (colV row)) := rfl
  by_cases h0 : q.cols.length = 0
  case pos =>
    have h0' : ((q.cols.length : Int) == 0) = true := by rw [h0]; rfl
    have HE : Hid (projL q row = row) := HP.out.trans (if_pos h0)
    clear h0
    go_enter Try.func18, Try.ntmps18
    go_wp2_with fail
    go_ret
    refine ⟨_, rfl, ?_, L.out⟩
    rw [HE.out]
    exact HR0.out.1
  have h0' : ((q.cols.length : Int) == 0) = false := by rw [beq_eq_false_iff_ne]; omega
  have HE : Hid (projL q row = q.cols.map (colV row)) := HP.out.trans (if_neg h0)
  clear h0
  go_enter Try.func18, Try.ntmps18
  go_wp2_with fail
  go_loopw [6, 5] (fun i o wr => ∃ (k : Nat), k ≤ q.cols.length ∧ i = .int .i64 (k : Int) ∧ wr.ownsRow (w.heap.size + 1) 36 4 o k (vcells ((q.cols.take k).map (colV row))) ∧ Below w.heap.size w wr ∧ BQ wr 39 w.heap.size q (.slice ka q.key.length kc) (.slice wa q.wh.length wc) (.slice ca q.cols.length cc)) (fun i _ _ => q.cols.length - (intOf i).toNat)
  case atStart => exact ⟨0, by omega, rfl, World.ownsRow_nil _ _ _ _, L.out, BX.out⟩
  case round =>
    obtain ⟨k, hk, rfl, hown, hbel, hbx⟩ := hrel
    obtain ⟨w6, rfl⟩ : ∃ w6 : World, w6 = wr := ⟨_, rfl⟩
    have hk0 : (0 : Int) ≤ (k : Int) := by omega
    clear c8
    have LB := hid hbel
    have HO := hid hown
    have BX6 := hid hbx
    clear hbel hown hbx
    obtain ⟨va, vcap, hvs⟩ := own_slc HO.out
    subst hvs
    obtain ⟨_, _, _, _, _, _, _, _, c8, _, _, _⟩ := BX6.out.cells
    by_cases hkl : k < q.cols.length
    · have hkl' : (k : Int) < (q.cols.length : Int) := by omega
      obtain ⟨gc, oc, rfl, q0⟩ := HCC.out k hkl
      replace q0 := hkeep q0 LB.out
      have HNX : Hid ((q.cols.take (k + 1)).map (colV row) = (q.cols.take k).map (colV row) ++ [colV row q.cols[k]]) := by show _ = _; rw [List.take_succ_eq_append_getElem hkl, List.map_append]; rfl
      have hlt : ((q.cols.take k).map (colV row)).length = k := by rw [List.length_map, List.length_take]; omega
      have HLT := hid hlt
      generalize hx : q.cols[k] = c at q0 HNX
      generalize hM : (q.cols.take k).map (colV row) = M at HO HNX HLT
      clear hx hM hlt
      have b7 := hba w6 (.cells #[.int .i64 0, .int .i64 0, .int .u64 0, .string ⟨#[]⟩] 36)
      have L7 := hid (hnext LB.out b7)
      have c8' := hid (hkeep c8 b7)
      have q0' := hid (hkeep q0 b7)
      have BX7 := hid (BX6.out.keep b7)
      have HO7 := hid (own_keep HO.out b7)
      have N7 := hid (heap_alloc_new w6 (.cells #[.int .i64 0, .int .i64 0, .int .u64 0, .string ⟨#[]⟩] 36))
      clear b7
      obtain ⟨gx, hgx⟩ : ∃ gx, w6.heap.size = gx := ⟨_, rfl⟩
      have hgw : w.heap.size ≤ gx := hgx ▸ LB.out.size
      have hlx : w.heap.size < gx := hgx ▸ BX6.out.cells.2.2.2.2.2.2.2.2.2.2.2
      have hne : (Value.slice va k vcap).ownBlock ≠ some gx := fun e => by have := (World.ownsRow.lt HO.out _ e).2; omega
      rw [hgx] at N7
      by_cases hc : 0 ≤ c ∧ c < (row.length : Int)
      · obtain ⟨j, rfl⟩ : ∃ j : Nat, c = (j : Int) := ⟨c.toNat, by omega⟩
        have hj : j < row.length := by omega
        have hc1 : (0 : Int) ≤ (j : Int) := by omega
        have hc2 : (j : Int) < (row.length : Int) := by omega
        obtain ⟨_, _, ev, hvc⟩ := HV.out
        cases ev
        obtain ⟨gv, ov, rfl, v0, v1, v2, v3⟩ := hvc j hj
        replace v0 := hkeep (hkeep v0 LB.out) (hba w6 (.cells #[.int .i64 0, .int .i64 0, .int .u64 0, .string ⟨#[]⟩] 36))
        replace v1 := hkeep (hkeep v1 LB.out) (hba w6 (.cells #[.int .i64 0, .int .i64 0, .int .u64 0, .string ⟨#[]⟩] 36))
        replace v2 := hkeep (hkeep v2 LB.out) (hba w6 (.cells #[.int .i64 0, .int .i64 0, .int .u64 0, .string ⟨#[]⟩] 36))
        replace v3 := hkeep (hkeep v3 LB.out) (hba w6 (.cells #[.int .i64 0, .int .i64 0, .int .u64 0, .string ⟨#[]⟩] 36))
        rw [colV_in hj] at HNX
        generalize hx : row[j] = x at v0 v1 v2 v3 HNX
        clear hx hvc hc
        obtain ⟨xk, xn, xb, xs⟩ := x
        simp only at v0 v1 v2 v3
        have b8 := hba w6 (.cells #[.int .i64 xk, .int .i64 xn, .int .u64 (xb : Int), .string xs] 36)
        have O8 : Hid ((w6.alloc (.cells #[.int .i64 xk, .int .i64 xn, .int .u64 (xb : Int), .string xs] 36)).ownsRow (w.heap.size + 1) 36 4 (.slice va k vcap) M.length (vcells M)) := by
          show World.ownsRow _ _ _ _ _ _ _
          rw [HLT.out]
          exact own_keep HO.out b8
        have L8 := hid (hnext LB.out b8)
        have hB8 : Hid (w.heap.size + 1 ≤ (w6.alloc (.cells #[.int .i64 xk, .int .i64 xn, .int .u64 (xb : Int), .string xs] 36)).heap.size) := Nat.le_trans (Nat.succ_le_of_lt BX6.out.cells.2.2.2.2.2.2.2.2.2.2.2) b8.size
        have BX8 := hid (BX6.out.keep b8)
        have c8 := c8'.out
        have q0 := q0'.out
        have hM6 : M.length ≤ 1000000 := by have := HLT.out; omega
        clear b8
        go_wp2_with (at_builtin; go_loud (refine append_value _ rfl _ _ rfl (w.heap.size + 1) _ M rfl O8.out ⟨xk, xn, xb, xs⟩ _ (by first | (simp [hgx]; done) | (simp; omega) | rfl) rfl hM6 (by have := hB8.out; omega) ?_; intro v' w' hown hgr; have HO9 := hid hown; have L9 := hid (Below.grown L8.out hgr L8.out.size (fun q e => by have := (World.ownsRow.lt O8.out q e).1; omega)); have BX9 := hid (BX8.out.grown hgr (fun e => by have := (World.ownsRow.lt O8.out _ e).1; omega)); clear hown hgr))
        go_roundw
        case rel => exact ⟨k + 1, by omega, by first | rfl | go_num, by rw [HNX.out]; have := HO9.out; rw [List.length_append, HLT.out] at this; exact this, L9.out, BX9.out⟩
        case measure => simp [intOf]; omega
      · rw [colV_out hc] at HNX
        have b8 := hba w6 (.cells #[.int .i64 0, .int .i64 0, .int .u64 0, .string ⟨#[]⟩] 36)
        have O8 : Hid ((w6.alloc (.cells #[.int .i64 0, .int .i64 0, .int .u64 0, .string ⟨#[]⟩] 36)).ownsRow (w.heap.size + 1) 36 4 (.slice va k vcap) M.length (vcells M)) := by
          show World.ownsRow _ _ _ _ _ _ _
          rw [HLT.out]
          exact own_keep HO.out b8
        have L8 := hid (hnext LB.out b8)
        have hB8 : Hid (w.heap.size + 1 ≤ (w6.alloc (.cells #[.int .i64 0, .int .i64 0, .int .u64 0, .string ⟨#[]⟩] 36)).heap.size) := Nat.le_trans (Nat.succ_le_of_lt BX6.out.cells.2.2.2.2.2.2.2.2.2.2.2) b8.size
        have BX8 := hid (BX6.out.keep b8)
        have c8 := c8'.out
        have q0 := q0'.out
        have n0 := cell_of_row (w6.alloc (.cells #[.int .i64 0, .int .i64 0, .int .u64 0, .string ⟨#[]⟩] 36)) gx 0 _ _ _ N7.out
        have n1 := cell_of_row (w6.alloc (.cells #[.int .i64 0, .int .i64 0, .int .u64 0, .string ⟨#[]⟩] 36)) gx 1 _ _ _ N7.out
        have n2 := cell_of_row (w6.alloc (.cells #[.int .i64 0, .int .i64 0, .int .u64 0, .string ⟨#[]⟩] 36)) gx 2 _ _ _ N7.out
        have n3 := cell_of_row (w6.alloc (.cells #[.int .i64 0, .int .i64 0, .int .u64 0, .string ⟨#[]⟩] 36)) gx 3 _ _ _ N7.out
        have hM6 : M.length ≤ 1000000 := by have := HLT.out; omega
        clear b8
        by_cases hc0 : 0 ≤ c
        · have hc1 : (row.length : Int) ≤ c := by omega
          have hc2 : decide (c < (row.length : Int)) = false := decide_eq_false (by omega)
          clear hc
          go_wp2_with (at_builtin; go_loud (refine append_value _ rfl _ _ rfl (w.heap.size + 1) _ M rfl O8.out nul _ (by first | (simp [hgx]; done) | (simp; omega) | rfl) rfl hM6 (by have := hB8.out; omega) ?_; intro v' w' hown hgr; have HO9 := hid hown; have L9 := hid (Below.grown L8.out hgr L8.out.size (fun q e => by have := (World.ownsRow.lt O8.out q e).1; omega)); have BX9 := hid (BX8.out.grown hgr (fun e => by have := (World.ownsRow.lt O8.out _ e).1; omega)); clear hown hgr))
          go_roundw
          case rel => exact ⟨k + 1, by omega, by first | rfl | go_num, by rw [HNX.out]; have := HO9.out; rw [List.length_append, HLT.out] at this; exact this, L9.out, BX9.out⟩
          case measure => simp [intOf]; omega
        · have hc2 : decide (0 ≤ c) = false := decide_eq_false hc0
          clear hc
          go_wp2_with (at_builtin; go_loud (refine append_value _ rfl _ _ rfl (w.heap.size + 1) _ M rfl O8.out nul _ (by first | (simp [hgx]; done) | (simp; omega) | rfl) rfl hM6 (by have := hB8.out; omega) ?_; intro v' w' hown hgr; have HO9 := hid hown; have L9 := hid (Below.grown L8.out hgr L8.out.size (fun q e => by have := (World.ownsRow.lt O8.out q e).1; omega)); have BX9 := hid (BX8.out.grown hgr (fun e => by have := (World.ownsRow.lt O8.out _ e).1; omega)); clear hown hgr))
          go_roundw
          case rel => exact ⟨k + 1, by omega, by first | rfl | go_num, by rw [HNX.out]; have := HO9.out; rw [List.length_append, HLT.out] at this; exact this, L9.out, BX9.out⟩
          case measure => simp [intOf]; omega
    · obtain rfl : k = q.cols.length := by omega
      clear hkl
      rw [List.take_length] at HO
      go_wp2_with fail
      go_ret
      refine ⟨_, rfl, ?_, LB.out⟩
      rw [HE.out]
      have ho : w6.ownsRow (w.heap.size + 1) 36 4 (.slice va q.cols.length vcap) (q.cols.map (colV row)).length (vcells (q.cols.map (colV row))) := by rw [List.length_map]; exact HO.out
      exact VsAt.own ho
end Go.Proofs.Ytmcneelapghfcaa
