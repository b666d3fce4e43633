/-
  FrameTells answers true at any two transactions and any change. No condition.
-/
import Derived.Test.YtmmegicaeaifaaaGl
namespace Go.Proofs.Ytmmegicaeaifaaa
open Go.RowKit Fr

theorem ch_one (W : World) (c : Ch) (vr vc : Value) (h1 : VsAt W vr c.row) (h2 : CsAt W vc c.df.cols) : HsAt (W.alloc (.cells #[.int .i64 c.op, .string c.table, vr, .int .i64 c.fr, .int .i64 c.to, .string c.df.name, vc, .int .i64 c.df.keys] 32)) (.slice (some ⟨W.heap.size, 0, none⟩) 1 1) [c] := by
  have hb := heap_alloc_new W (.cells #[.int .i64 c.op, .string c.table, vr, .int .i64 c.fr, .int .i64 c.to, .string c.df.name, vc, .int .i64 c.df.keys] 32)
  refine ⟨_, 1, rfl, fun k hk => ⟨W.heap.size, 0, vr, vc, rfl, ?_⟩⟩
  have hk' : k = 0 := by have : k < 1 := hk; omega
  subst hk'
  exact ⟨cell_of_row _ _ 0 _ _ _ hb, cell_of_row _ _ 1 _ _ _ hb, cell_of_row _ _ 2 _ _ _ hb, cell_of_row _ _ 3 _ _ _ hb, cell_of_row _ _ 4 _ _ _ hb, cell_of_row _ _ 5 _ _ _ hb, cell_of_row _ _ 6 _ _ _ hb, cell_of_row _ _ 7 _ _ _ hb, h1.below (hba W _), h2.below (hba W _)⟩
set_option maxRecDepth 100000 in
set_option maxHeartbeats 12800000 in
theorem frameTells_walk (a : Tx) (va : Value) (b : Tx) (vb : Value) (c : Ch) (vr vc : Value) (w : World) (ha : TIn w a va) (hb : TIn w b vb) (hc : HIn w c vr vc) :
    Calls Try.prog 3 #[tv a va, tv b vb, cvv c vr vc] w fun e w' => e = .returned (.bool true) ∧ Below w.heap.size w w' := by
  obtain ⟨hva, hka⟩ := ha
  obtain ⟨hvb, hkb⟩ := hb
  obtain ⟨hvr, hvc, hck, hrl⟩ := hc
  obtain ⟨aq, at0, ac⟩ := a
  obtain ⟨bq, bt0, bc⟩ := b
  obtain ⟨op, tb, row, fr0, to0, ⟨nm, cols, ky⟩⟩ := c
  simp only at hva hka hvb hkb hvr hvc hrl
  obtain ⟨aadr, acap, rfl⟩ := hva.slc
  obtain ⟨badr, bcap, rfl⟩ := hvb.slc
  obtain ⟨radr, rcap, rfl⟩ := vs_slc hvr
  obtain ⟨cadr, ccap, rfl⟩ := hvc.slc
  have la := hid (fun W h => flight_any ⟨aq, at0, ac⟩ (.slice aadr ac.length acap) W h hka.1)
  have lb := hid (fun W h => flight_any ⟨bq, bt0, bc⟩ (.slice badr bc.length bcap) W h hkb.1)
  have lc := hid (fun W v h => flight_any ⟨0, 0, [⟨op, tb, row, fr0, to0, ⟨nm, cols, ky⟩⟩]⟩ v W h (show 1 ≤ 9223372036854775807 by decide))
  have c1 := fun W h => fright_any ⟨aq, at0, ac⟩ (.slice aadr ac.length acap) W h hka
  have c2 := fun W h => frightR_any ⟨aq, at0, ac⟩ (.slice aadr ac.length acap) W h hka
  have c3 := fun W h h' => fchange_any ⟨op, tb, row, fr0, to0, ⟨nm, cols, ky⟩⟩ (.slice radr row.length rcap) (.slice cadr cols.length ccap) W h h' hck hrl
  have c4 := fun W h h' => fchangeR_any ⟨op, tb, row, fr0, to0, ⟨nm, cols, ky⟩⟩ (.slice radr row.length rcap) (.slice cadr cols.length ccap) W h h' hck hrl
  have c5 := fun W h => fbody_any ⟨aq, at0, ac⟩ (.slice aadr ac.length acap) W h hka
  have c6 := fun W h => fbodyR_any ⟨aq, at0, ac⟩ (.slice aadr ac.length acap) W h hka
  have c7 := fun W h => fencode_any ⟨aq, at0, ac⟩ (.slice aadr ac.length acap) W h hka
  have c8 := fun W h => fencodeR_any ⟨aq, at0, ac⟩ (.slice aadr ac.length acap) W h hka
  have c9 := fun W h h' => fsame_any ⟨aq, at0, ac⟩ ⟨bq, bt0, bc⟩ (.slice aadr ac.length acap) (.slice badr bc.length bcap) W h h' hka hkb
  have c10 := fun W h h' => fsameR_any ⟨aq, at0, ac⟩ ⟨bq, bt0, bc⟩ (.slice aadr ac.length acap) (.slice badr bc.length bcap) W h h' hka hkb
  generalize txB ⟨aq, at0, ac⟩ = r1 at c1 c2
  generalize chB ⟨op, tb, row, fr0, to0, ⟨nm, cols, ky⟩⟩ = r2 at c3 c4
  generalize bstr (body ⟨aq, at0, ac⟩) = r3 at c5 c6
  generalize bstr (frame ⟨aq, at0, ac⟩) = r4 at c7 c8
  generalize decide ((⟨aq, at0, ac⟩ : Tx) = ⟨bq, bt0, bc⟩) = r5 at c9 c10
  unfold tv at la lb lc c1 c2 c5 c6 c7 c8 c9 c10
  unfold cvv at c3 c4
  simp only at la lb lc c1 c2 c3 c4 c5 c6 c7 c8 c9 c10
  replace c1 := hid c1
  replace c2 := hid c2
  replace c3 := hid c3
  replace c4 := hid c4
  replace c5 := hid c5
  replace c6 := hid c6
  replace c7 := hid c7
  replace c8 := hid c8
  replace c9 := hid c9
  replace c10 := hid c10
  unfold tv cvv
  (try simp only)
  obtain ⟨g, hg⟩ : ∃ g, w.heap.size = g := ⟨_, rfl⟩
  have b1 := hba w (.cells #[.int .i64 aq, .int .i64 at0, .slice aadr ac.length acap] 24)
  have b2 := hba (w.alloc (.cells #[.int .i64 aq, .int .i64 at0, .slice aadr ac.length acap] 24)) (.cells #[.int .i64 bq, .int .i64 bt0, .slice badr bc.length bcap] 24)
  have b3 := hba ((w.alloc (.cells #[.int .i64 aq, .int .i64 at0, .slice aadr ac.length acap] 24)).alloc (.cells #[.int .i64 bq, .int .i64 bt0, .slice badr bc.length bcap] 24)) (.cells #[.int .i64 op, .string tb, .slice radr row.length rcap, .int .i64 fr0, .int .i64 to0, .string nm, .slice cadr cols.length ccap, .int .i64 ky] 32)
  have L := hid (hnext (hnext b1 b2) b3)
  have BA := hid (keepBlock (keepBlock (heap_alloc_new w (.cells #[.int .i64 aq, .int .i64 at0, .slice aadr ac.length acap] 24)) b2) b3)
  have BZ := hid (keepBlock (heap_alloc_new (w.alloc (.cells #[.int .i64 aq, .int .i64 at0, .slice aadr ac.length acap] 24)) (.cells #[.int .i64 bq, .int .i64 bt0, .slice badr bc.length bcap] 24)) b3)
  have BC := hid (heap_alloc_new ((w.alloc (.cells #[.int .i64 aq, .int .i64 at0, .slice aadr ac.length acap] 24)).alloc (.cells #[.int .i64 bq, .int .i64 bt0, .slice badr bc.length bcap] 24)) (.cells #[.int .i64 op, .string tb, .slice radr row.length rcap, .int .i64 fr0, .int .i64 to0, .string nm, .slice cadr cols.length ccap, .int .i64 ky] 32))
  have HA := hid (hva.below L.out)
  have HB := hid (hvb.below L.out)
  have HR := hid (hvr.below L.out)
  have HC := hid (hvc.below L.out)
  have hsz : ∀ (W : World) (o : Obj), (W.alloc o).heap.size = W.heap.size + 1 := fun W o => by simp
  simp only [hsz, hg] at BA BZ BC
  clear hsz b1 b2 b3 hva hvb hvr hvc
  go_enter Try.func3, Try.ntmps3
  have x0 := cell_of_row (((w.alloc (.cells #[.int .i64 aq, .int .i64 at0, .slice aadr ac.length acap] 24)).alloc (.cells #[.int .i64 bq, .int .i64 bt0, .slice badr bc.length bcap] 24)).alloc (.cells #[.int .i64 op, .string tb, .slice radr row.length rcap, .int .i64 fr0, .int .i64 to0, .string nm, .slice cadr cols.length ccap, .int .i64 ky] 32)) (g) 0 _ _ _ BA.out
  have x1 := cell_of_row (((w.alloc (.cells #[.int .i64 aq, .int .i64 at0, .slice aadr ac.length acap] 24)).alloc (.cells #[.int .i64 bq, .int .i64 bt0, .slice badr bc.length bcap] 24)).alloc (.cells #[.int .i64 op, .string tb, .slice radr row.length rcap, .int .i64 fr0, .int .i64 to0, .string nm, .slice cadr cols.length ccap, .int .i64 ky] 32)) (g) 1 _ _ _ BA.out
  have x2 := cell_of_row (((w.alloc (.cells #[.int .i64 aq, .int .i64 at0, .slice aadr ac.length acap] 24)).alloc (.cells #[.int .i64 bq, .int .i64 bt0, .slice badr bc.length bcap] 24)).alloc (.cells #[.int .i64 op, .string tb, .slice radr row.length rcap, .int .i64 fr0, .int .i64 to0, .string nm, .slice cadr cols.length ccap, .int .i64 ky] 32)) (g) 2 _ _ _ BA.out
  simp only [List.getElem?_toArray, List.getElem?_cons_zero, List.getElem?_cons_succ] at x0 x1 x2
  rw [← hg] at x0 x1 x2
  go_wp2_with fail
  (try simp only [hg])
  clear x0 x1 x2
  generalize (((w.alloc (.cells #[.int .i64 aq, .int .i64 at0, .slice aadr ac.length acap] 24)).alloc (.cells #[.int .i64 bq, .int .i64 bt0, .slice badr bc.length bcap] 24)).alloc (.cells #[.int .i64 op, .string tb, .slice radr row.length rcap, .int .i64 fr0, .int .i64 to0, .string nm, .slice cadr cols.length ccap, .int .i64 ky] 32)) = w0 at *
  clear hg
  refine (la.out _ HA.out).mono ?_; rintro e w1 ⟨⟨z, rfl⟩, b⟩
  replace L := hid (hnext L.out b)
  replace BA := hid (keepBlock BA.out b)
  replace BZ := hid (keepBlock BZ.out b)
  replace BC := hid (keepBlock BC.out b)
  replace HA := hid (HA.out.below b)
  replace HB := hid (HB.out.below b)
  replace HR := hid (HR.out.below b)
  replace HC := hid (HC.out.below b)
  clear b
  cases z with
  | false =>
    go_wp2_with fail
    refine (known_any _).mono ?_; rintro e w2 ⟨rfl, b⟩
    go_wp2
    go_ret
    exact ⟨rfl, hnext L.out b⟩
  | true =>
    have x0 := cell_of_row w1 (g) 0 _ _ _ BA.out
    have x1 := cell_of_row w1 (g) 1 _ _ _ BA.out
    have x2 := cell_of_row w1 (g) 2 _ _ _ BA.out
    simp only [List.getElem?_toArray, List.getElem?_cons_zero, List.getElem?_cons_succ] at x0 x1 x2
    have y0 := cell_of_row w1 (g + 1) 0 _ _ _ BZ.out
    have y1 := cell_of_row w1 (g + 1) 1 _ _ _ BZ.out
    have y2 := cell_of_row w1 (g + 1) 2 _ _ _ BZ.out
    simp only [List.getElem?_toArray, List.getElem?_cons_zero, List.getElem?_cons_succ] at y0 y1 y2
    have z0 := cell_of_row w1 (g + 1 + 1) 0 _ _ _ BC.out
    have z1 := cell_of_row w1 (g + 1 + 1) 1 _ _ _ BC.out
    have z2 := cell_of_row w1 (g + 1 + 1) 2 _ _ _ BC.out
    have z3 := cell_of_row w1 (g + 1 + 1) 3 _ _ _ BC.out
    have z4 := cell_of_row w1 (g + 1 + 1) 4 _ _ _ BC.out
    have z5 := cell_of_row w1 (g + 1 + 1) 5 _ _ _ BC.out
    have z6 := cell_of_row w1 (g + 1 + 1) 6 _ _ _ BC.out
    have z7 := cell_of_row w1 (g + 1 + 1) 7 _ _ _ BC.out
    simp only [List.getElem?_toArray, List.getElem?_cons_zero, List.getElem?_cons_succ] at z0 z1 z2 z3 z4 z5 z6 z7
    go_wp2_with fail
    clear x0 x1 x2 y0 y1 y2 z0 z1 z2 z3 z4 z5 z6 z7
    refine (lb.out _ HB.out).mono ?_; rintro e w2 ⟨⟨z, rfl⟩, b⟩
    replace L := hid (hnext L.out b)
    replace BA := hid (keepBlock BA.out b)
    replace BZ := hid (keepBlock BZ.out b)
    replace BC := hid (keepBlock BC.out b)
    replace HA := hid (HA.out.below b)
    replace HB := hid (HB.out.below b)
    replace HR := hid (HR.out.below b)
    replace HC := hid (HC.out.below b)
    clear b
    cases z with
    | false =>
      go_wp2_with fail
      refine (known_any _).mono ?_; rintro e w3 ⟨rfl, b⟩
      go_wp2
      go_ret
      exact ⟨rfl, hnext L.out b⟩
    | true =>
      have x0 := cell_of_row w2 (g) 0 _ _ _ BA.out
      have x1 := cell_of_row w2 (g) 1 _ _ _ BA.out
      have x2 := cell_of_row w2 (g) 2 _ _ _ BA.out
      simp only [List.getElem?_toArray, List.getElem?_cons_zero, List.getElem?_cons_succ] at x0 x1 x2
      have y0 := cell_of_row w2 (g + 1) 0 _ _ _ BZ.out
      have y1 := cell_of_row w2 (g + 1) 1 _ _ _ BZ.out
      have y2 := cell_of_row w2 (g + 1) 2 _ _ _ BZ.out
      simp only [List.getElem?_toArray, List.getElem?_cons_zero, List.getElem?_cons_succ] at y0 y1 y2
      have z0 := cell_of_row w2 (g + 1 + 1) 0 _ _ _ BC.out
      have z1 := cell_of_row w2 (g + 1 + 1) 1 _ _ _ BC.out
      have z2 := cell_of_row w2 (g + 1 + 1) 2 _ _ _ BC.out
      have z3 := cell_of_row w2 (g + 1 + 1) 3 _ _ _ BC.out
      have z4 := cell_of_row w2 (g + 1 + 1) 4 _ _ _ BC.out
      have z5 := cell_of_row w2 (g + 1 + 1) 5 _ _ _ BC.out
      have z6 := cell_of_row w2 (g + 1 + 1) 6 _ _ _ BC.out
      have z7 := cell_of_row w2 (g + 1 + 1) 7 _ _ _ BC.out
      simp only [List.getElem?_toArray, List.getElem?_cons_zero, List.getElem?_cons_succ] at z0 z1 z2 z3 z4 z5 z6 z7
      have CN := hid (ch_one w2 ⟨op, tb, row, fr0, to0, ⟨nm, cols, ky⟩⟩ (.slice radr row.length rcap) (.slice cadr cols.length ccap) HR.out HC.out)
      go_wp2_with fail
      clear x0 x1 x2 y0 y1 y2 z0 z1 z2 z3 z4 z5 z6 z7
      have b := hba w2 (.cells #[.int .i64 op, .string tb, .slice radr row.length rcap, .int .i64 fr0, .int .i64 to0, .string nm, .slice cadr cols.length ccap, .int .i64 ky] 32)
      replace L := hid (hnext L.out b)
      replace BA := hid (keepBlock BA.out b)
      replace BZ := hid (keepBlock BZ.out b)
      replace BC := hid (keepBlock BC.out b)
      replace HA := hid (HA.out.below b)
      replace HB := hid (HB.out.below b)
      replace HR := hid (HR.out.below b)
      replace HC := hid (HC.out.below b)
      clear b
      obtain ⟨gn, hgn⟩ : ∃ g, w2.heap.size = g := ⟨_, rfl⟩
      rw [hgn] at CN
      (try rw [hgn])
      clear hgn
      (try simp only at CN)
      generalize w2.alloc (.cells #[.int .i64 op, .string tb, .slice radr row.length rcap, .int .i64 fr0, .int .i64 to0, .string nm, .slice cadr cols.length ccap, .int .i64 ky] 32) = wn at *
      refine (lc.out _ _ CN.out).mono ?_; rintro e w3 ⟨⟨z, rfl⟩, b⟩
      replace L := hid (hnext L.out b)
      replace BA := hid (keepBlock BA.out b)
      replace BZ := hid (keepBlock BZ.out b)
      replace BC := hid (keepBlock BC.out b)
      replace HA := hid (HA.out.below b)
      replace HB := hid (HB.out.below b)
      replace HR := hid (HR.out.below b)
      replace HC := hid (HC.out.below b)
      clear b
      cases z with
      | false =>
        go_wp2_with fail
        refine (known_any _).mono ?_; rintro e w4 ⟨rfl, b⟩
        go_wp2
        go_ret
        exact ⟨rfl, hnext L.out b⟩
      | true =>
        have x0 := cell_of_row w3 (g) 0 _ _ _ BA.out
        have x1 := cell_of_row w3 (g) 1 _ _ _ BA.out
        have x2 := cell_of_row w3 (g) 2 _ _ _ BA.out
        simp only [List.getElem?_toArray, List.getElem?_cons_zero, List.getElem?_cons_succ] at x0 x1 x2
        have y0 := cell_of_row w3 (g + 1) 0 _ _ _ BZ.out
        have y1 := cell_of_row w3 (g + 1) 1 _ _ _ BZ.out
        have y2 := cell_of_row w3 (g + 1) 2 _ _ _ BZ.out
        simp only [List.getElem?_toArray, List.getElem?_cons_zero, List.getElem?_cons_succ] at y0 y1 y2
        have z0 := cell_of_row w3 (g + 1 + 1) 0 _ _ _ BC.out
        have z1 := cell_of_row w3 (g + 1 + 1) 1 _ _ _ BC.out
        have z2 := cell_of_row w3 (g + 1 + 1) 2 _ _ _ BC.out
        have z3 := cell_of_row w3 (g + 1 + 1) 3 _ _ _ BC.out
        have z4 := cell_of_row w3 (g + 1 + 1) 4 _ _ _ BC.out
        have z5 := cell_of_row w3 (g + 1 + 1) 5 _ _ _ BC.out
        have z6 := cell_of_row w3 (g + 1 + 1) 6 _ _ _ BC.out
        have z7 := cell_of_row w3 (g + 1 + 1) 7 _ _ _ BC.out
        simp only [List.getElem?_toArray, List.getElem?_cons_zero, List.getElem?_cons_succ] at z0 z1 z2 z3 z4 z5 z6 z7
        go_wp2_with fail
        obtain ⟨w20, hw20⟩ : ∃ w20, (w3).drew = w20 := ⟨_, rfl⟩
        have hd20 : Below (w3).heap.size (w3) w20 := hw20 ▸ (Below.refl _ _).drew
        have mk20 : ∀ W, Below w20.heap.size w20 W → Below w20.heap.size w20 W ∧ W.cell? ⟨g, 0, none⟩ = some (.int .i64 aq) ∧ W.cell? ⟨g, 1, none⟩ = some (.int .i64 at0) ∧ W.cell? ⟨g, 2, none⟩ = some (.slice aadr ac.length acap) ∧ W.cell? ⟨g + 1, 0, none⟩ = some (.int .i64 bq) ∧ W.cell? ⟨g + 1, 1, none⟩ = some (.int .i64 bt0) ∧ W.cell? ⟨g + 1, 2, none⟩ = some (.slice badr bc.length bcap) ∧ W.cell? ⟨g + 1 + 1, 0, none⟩ = some (.int .i64 op) ∧ W.cell? ⟨g + 1 + 1, 1, none⟩ = some (.string tb) ∧ W.cell? ⟨g + 1 + 1, 2, none⟩ = some (.slice radr row.length rcap) ∧ W.cell? ⟨g + 1 + 1, 3, none⟩ = some (.int .i64 fr0) ∧ W.cell? ⟨g + 1 + 1, 4, none⟩ = some (.int .i64 to0) ∧ W.cell? ⟨g + 1 + 1, 5, none⟩ = some (.string nm) ∧ W.cell? ⟨g + 1 + 1, 6, none⟩ = some (.slice cadr cols.length ccap) ∧ W.cell? ⟨g + 1 + 1, 7, none⟩ = some (.int .i64 ky) := fun W h => ⟨h, hkeep (hkeep x0 hd20) h, hkeep (hkeep x1 hd20) h, hkeep (hkeep x2 hd20) h, hkeep (hkeep y0 hd20) h, hkeep (hkeep y1 hd20) h, hkeep (hkeep y2 hd20) h, hkeep (hkeep z0 hd20) h, hkeep (hkeep z1 hd20) h, hkeep (hkeep z2 hd20) h, hkeep (hkeep z3 hd20) h, hkeep (hkeep z4 hd20) h, hkeep (hkeep z5 hd20) h, hkeep (hkeep z6 hd20) h, hkeep (hkeep z7 hd20) h⟩
        clear x0 x1 x2 y0 y1 y2 z0 z1 z2 z3 z4 z5 z6 z7
        have L20 := hid (hnext L.out hd20)
        replace HA := hid (HA.out.below hd20)
        replace HB := hid (HB.out.below hd20)
        replace HR := hid (HR.out.below hd20)
        replace HC := hid (HC.out.below hd20)
        clear BA BZ BC L hd20
        refine wp_region_held_drew (S := (fun W => Below w20.heap.size w20 W ∧ W.cell? ⟨g, 0, none⟩ = some (.int .i64 aq) ∧ W.cell? ⟨g, 1, none⟩ = some (.int .i64 at0) ∧ W.cell? ⟨g, 2, none⟩ = some (.slice aadr ac.length acap) ∧ W.cell? ⟨g + 1, 0, none⟩ = some (.int .i64 bq) ∧ W.cell? ⟨g + 1, 1, none⟩ = some (.int .i64 bt0) ∧ W.cell? ⟨g + 1, 2, none⟩ = some (.slice badr bc.length bcap) ∧ W.cell? ⟨g + 1 + 1, 0, none⟩ = some (.int .i64 op) ∧ W.cell? ⟨g + 1 + 1, 1, none⟩ = some (.string tb) ∧ W.cell? ⟨g + 1 + 1, 2, none⟩ = some (.slice radr row.length rcap) ∧ W.cell? ⟨g + 1 + 1, 3, none⟩ = some (.int .i64 fr0) ∧ W.cell? ⟨g + 1 + 1, 4, none⟩ = some (.int .i64 to0) ∧ W.cell? ⟨g + 1 + 1, 5, none⟩ = some (.string nm) ∧ W.cell? ⟨g + 1 + 1, 6, none⟩ = some (.slice cadr cols.length ccap) ∧ W.cell? ⟨g + 1 + 1, 7, none⟩ = some (.int .i64 ky))) (by kernel_rfl) (by rw [hw20]; exact mk20 _ (Below.refl _ _)) (fun hS20 => ?_)
        rw [hw20] at hS20 ⊢
        clear hw20
        refine wpAnyH_take (i := 0) (oi := ({ dst := some 23, op := Op.load 24 (Operand.tmp 3), type := 24, pos := "law.go:52", after := #[], guard := none } : Oper)) (v := ?_) rfl (by kernel_rfl) (by kernel_rfl) (by kernel_rfl) (fun _ _ _ h => h) (Or.inl ⟨by rfl, ?_⟩) hS20 ?_
        rotate_left
        · intro w hSw; (try dsimp only at hSw); go_simp; (try with_reducible rfl)
        simp only [Act.put, List.setIfInBounds_toArray, List.set_cons_zero, List.set_cons_succ]
        refine wpAnyH_take (i := 2) (oi := ({ dst := some 25, op := Op.load 24 (Operand.tmp 3), type := 24, pos := "law.go:52", after := #[], guard := none } : Oper)) (v := ?_) rfl (by kernel_rfl) (by kernel_rfl) (by kernel_rfl) (fun _ _ _ h => h) (Or.inl ⟨by rfl, ?_⟩) hS20 ?_
        rotate_left
        · intro w hSw; (try dsimp only at hSw); go_simp; (try with_reducible rfl)
        simp only [Act.put, List.setIfInBounds_toArray, List.set_cons_zero, List.set_cons_succ]
        refine wpAnyH_ready (rs := [1]) (by kernel_rfl) (by simp) ?_
        refine AllReadyH.cons (o := ({ dst := some 24, op := Op.call { callee := Callee.value (Operand.func 11), args := #[Operand.tmp 23], argTypes := #[24] }, type := 4, pos := "law.go:52", after := #[{ on := 0, ground := Ground.data }], guard := none } : Oper)) rfl (fun K hK => ?_) AllReadyH.nil
        go_simp
        refine (c1.out _ (HA.out.below hS20.1)).mono ?_; rintro e w21 ⟨rfl, hb21⟩
        go_wp2_with fail
        refine hK.out _ _ (mk20 _ (hnext hS20.1 hb21)) (fun hS21 => ?_)
        clear hK K
        (try simp only [Act.put, List.setIfInBounds_toArray, List.set_cons_zero, List.set_cons_succ])
        clear hb21 hS20
        refine wpAnyH_ready (rs := [3]) (by kernel_rfl) (by simp) ?_
        refine AllReadyH.cons (o := ({ dst := some 26, op := Op.call { callee := Callee.value (Operand.func 12), args := #[Operand.tmp 25], argTypes := #[24] }, type := 4, pos := "law.go:52", after := #[{ on := 2, ground := Ground.data }, { on := 1, ground := Ground.chain }], guard := none } : Oper)) rfl (fun K hK => ?_) AllReadyH.nil
        go_simp
        refine (c2.out _ (HA.out.below hS21.1)).mono ?_; rintro e w22 ⟨rfl, hb22⟩
        go_wp2_with fail
        refine hK.out _ _ (mk20 _ (hnext hS21.1 hb22)) (fun hS22 => ?_)
        clear hK K
        (try simp only [Act.put, List.setIfInBounds_toArray, List.set_cons_zero, List.set_cons_succ])
        clear hb22 hS21
        refine wpAnyH_take (i := 4) (oi := ({ dst := some 27, op := Op.binOp BinOp.eql 4 (Operand.tmp 24) (Operand.tmp 26) 4, type := 4, pos := "law.go:52", after := #[{ on := 1, ground := Ground.data }, { on := 3, ground := Ground.data }], guard := none } : Oper)) (v := ?_) rfl (by kernel_rfl) (by kernel_rfl) (by kernel_rfl) (fun _ _ _ h => h) (Or.inl ⟨by rfl, ?_⟩) hS22 ?_
        rotate_left
        · intro w hSw; (try dsimp only at hSw); go_simp; (try with_reducible rfl)
        simp only [Act.put, List.setIfInBounds_toArray, List.set_cons_zero, List.set_cons_succ]
        refine wpAnyH_take (i := 5) (oi := ({ dst := some 28, op := Op.move (Operand.tmp 27), type := 4, pos := "law.go:52", after := #[{ on := 4, ground := Ground.data }, { on := 3, ground := Ground.chain }], guard := none } : Oper)) (v := ?_) rfl (by kernel_rfl) (by kernel_rfl) (by kernel_rfl) (fun _ _ _ h => h) (Or.inl ⟨by rfl, ?_⟩) hS22 ?_
        rotate_left
        · intro w hSw; (try dsimp only at hSw); go_simp; (try with_reducible rfl)
        simp only [Act.put, List.setIfInBounds_toArray, List.set_cons_zero, List.set_cons_succ]
        refine wpAnyH_take (i := 6) (oi := ({ dst := some 29, op := Op.load 32 (Operand.tmp 5), type := 32, pos := "law.go:52", after := #[{ on := 5, ground := Ground.guard }], guard := some (5, true) } : Oper)) (v := ?_) rfl (by kernel_rfl) (by kernel_rfl) (by kernel_rfl) (fun _ _ _ h => h) (Or.inl ⟨by rfl, ?_⟩) hS22 ?_
        rotate_left
        · intro w hSw; (try dsimp only at hSw); go_simp; (try with_reducible rfl)
        simp only [Act.put, List.setIfInBounds_toArray, List.set_cons_zero, List.set_cons_succ]
        refine wpAnyH_take (i := 8) (oi := ({ dst := some 31, op := Op.load 32 (Operand.tmp 5), type := 32, pos := "law.go:52", after := #[{ on := 5, ground := Ground.guard }], guard := some (5, true) } : Oper)) (v := ?_) rfl (by kernel_rfl) (by kernel_rfl) (by kernel_rfl) (fun _ _ _ h => h) (Or.inl ⟨by rfl, ?_⟩) hS22 ?_
        rotate_left
        · intro w hSw; (try dsimp only at hSw); go_simp; (try with_reducible rfl)
        simp only [Act.put, List.setIfInBounds_toArray, List.set_cons_zero, List.set_cons_succ]
        refine wpAnyH_ready (rs := [7]) (by kernel_rfl) (by simp) ?_
        refine AllReadyH.cons (o := ({ dst := some 30, op := Op.call { callee := Callee.value (Operand.func 13), args := #[Operand.tmp 29], argTypes := #[32] }, type := 4, pos := "law.go:52", after := #[{ on := 6, ground := Ground.data }, { on := 5, ground := Ground.chain }, { on := 5, ground := Ground.guard }], guard := some (5, true) } : Oper)) rfl (fun K hK => ?_) AllReadyH.nil
        go_simp
        refine (c3.out _ (HR.out.below hS22.1) (HC.out.below hS22.1)).mono ?_; rintro e w23 ⟨rfl, hb23⟩
        go_wp2_with fail
        refine hK.out _ _ (mk20 _ (hnext hS22.1 hb23)) (fun hS23 => ?_)
        clear hK K
        (try simp only [Act.put, List.setIfInBounds_toArray, List.set_cons_zero, List.set_cons_succ])
        clear hb23 hS22
        refine wpAnyH_ready (rs := [9]) (by kernel_rfl) (by simp) ?_
        refine AllReadyH.cons (o := ({ dst := some 32, op := Op.call { callee := Callee.value (Operand.func 14), args := #[Operand.tmp 31], argTypes := #[32] }, type := 4, pos := "law.go:52", after := #[{ on := 8, ground := Ground.data }, { on := 7, ground := Ground.chain }, { on := 5, ground := Ground.guard }], guard := some (5, true) } : Oper)) rfl (fun K hK => ?_) AllReadyH.nil
        go_simp
        refine (c4.out _ (HR.out.below hS23.1) (HC.out.below hS23.1)).mono ?_; rintro e w24 ⟨rfl, hb24⟩
        go_wp2_with fail
        refine hK.out _ _ (mk20 _ (hnext hS23.1 hb24)) (fun hS24 => ?_)
        clear hK K
        (try simp only [Act.put, List.setIfInBounds_toArray, List.set_cons_zero, List.set_cons_succ])
        clear hb24 hS23
        refine wpAnyH_take (i := 10) (oi := ({ dst := some 33, op := Op.binOp BinOp.eql 4 (Operand.tmp 30) (Operand.tmp 32) 4, type := 4, pos := "law.go:52", after := #[{ on := 7, ground := Ground.data }, { on := 9, ground := Ground.data }, { on := 5, ground := Ground.guard }], guard := some (5, true) } : Oper)) (v := ?_) rfl (by kernel_rfl) (by kernel_rfl) (by kernel_rfl) (fun _ _ _ h => h) (Or.inl ⟨by rfl, ?_⟩) hS24 ?_
        rotate_left
        · intro w hSw; (try dsimp only at hSw); go_simp; (try with_reducible rfl)
        simp only [Act.put, List.setIfInBounds_toArray, List.set_cons_zero, List.set_cons_succ]
        refine wpAnyH_take (i := 11) (oi := ({ dst := some 34, op := Op.pick (Operand.tmp 28) (Operand.tmp 33) (Operand.const (Value.bool false)), type := 4, pos := "law.go:52", after := #[{ on := 5, ground := Ground.data }, { on := 10, ground := Ground.data }], guard := none } : Oper)) (v := ?_) rfl (by kernel_rfl) (by kernel_rfl) (by kernel_rfl) (fun _ _ _ h => h) (Or.inl ⟨by rfl, ?_⟩) hS24 ?_
        rotate_left
        · intro w hSw; (try dsimp only at hSw); go_simp; (try with_reducible rfl)
        simp only [Act.put, List.setIfInBounds_toArray, List.set_cons_zero, List.set_cons_succ]
        refine wpAnyH_take (i := 12) (oi := ({ dst := some 35, op := Op.move (Operand.tmp 34), type := 4, pos := "law.go:52", after := #[{ on := 11, ground := Ground.data }, { on := 9, ground := Ground.chain }], guard := none } : Oper)) (v := ?_) rfl (by kernel_rfl) (by kernel_rfl) (by kernel_rfl) (fun _ _ _ h => h) (Or.inl ⟨by rfl, ?_⟩) hS24 ?_
        rotate_left
        · intro w hSw; (try dsimp only at hSw); go_simp; (try with_reducible rfl)
        simp only [Act.put, List.setIfInBounds_toArray, List.set_cons_zero, List.set_cons_succ]
        refine wpAnyH_take (i := 13) (oi := ({ dst := some 36, op := Op.load 24 (Operand.tmp 3), type := 24, pos := "law.go:52", after := #[{ on := 12, ground := Ground.guard }], guard := some (12, true) } : Oper)) (v := ?_) rfl (by kernel_rfl) (by kernel_rfl) (by kernel_rfl) (fun _ _ _ h => h) (Or.inl ⟨by rfl, ?_⟩) hS24 ?_
        rotate_left
        · intro w hSw; (try dsimp only at hSw); go_simp; (try with_reducible rfl)
        simp only [Act.put, List.setIfInBounds_toArray, List.set_cons_zero, List.set_cons_succ]
        refine wpAnyH_take (i := 15) (oi := ({ dst := some 38, op := Op.load 24 (Operand.tmp 3), type := 24, pos := "law.go:52", after := #[{ on := 12, ground := Ground.guard }], guard := some (12, true) } : Oper)) (v := ?_) rfl (by kernel_rfl) (by kernel_rfl) (by kernel_rfl) (fun _ _ _ h => h) (Or.inl ⟨by rfl, ?_⟩) hS24 ?_
        rotate_left
        · intro w hSw; (try dsimp only at hSw); go_simp; (try with_reducible rfl)
        simp only [Act.put, List.setIfInBounds_toArray, List.set_cons_zero, List.set_cons_succ]
        refine wpAnyH_ready (rs := [14]) (by kernel_rfl) (by simp) ?_
        refine AllReadyH.cons (o := ({ dst := some 37, op := Op.call { callee := Callee.value (Operand.func 15), args := #[Operand.tmp 36], argTypes := #[24] }, type := 9, pos := "law.go:52", after := #[{ on := 13, ground := Ground.data }, { on := 12, ground := Ground.chain }, { on := 12, ground := Ground.guard }], guard := some (12, true) } : Oper)) rfl (fun K hK => ?_) AllReadyH.nil
        go_simp
        refine (c5.out _ (HA.out.below hS24.1)).mono ?_; rintro e w25 ⟨rfl, hb25⟩
        go_wp2_with fail
        refine hK.out _ _ (mk20 _ (hnext hS24.1 hb25)) (fun hS25 => ?_)
        clear hK K
        (try simp only [Act.put, List.setIfInBounds_toArray, List.set_cons_zero, List.set_cons_succ])
        clear hb25 hS24
        refine wpAnyH_ready (rs := [16]) (by kernel_rfl) (by simp) ?_
        refine AllReadyH.cons (o := ({ dst := some 39, op := Op.call { callee := Callee.value (Operand.func 16), args := #[Operand.tmp 38], argTypes := #[24] }, type := 9, pos := "law.go:52", after := #[{ on := 15, ground := Ground.data }, { on := 14, ground := Ground.chain }, { on := 12, ground := Ground.guard }], guard := some (12, true) } : Oper)) rfl (fun K hK => ?_) AllReadyH.nil
        go_simp
        refine (c6.out _ (HA.out.below hS25.1)).mono ?_; rintro e w26 ⟨rfl, hb26⟩
        go_wp2_with fail
        refine hK.out _ _ (mk20 _ (hnext hS25.1 hb26)) (fun hS26 => ?_)
        clear hK K
        (try simp only [Act.put, List.setIfInBounds_toArray, List.set_cons_zero, List.set_cons_succ])
        clear hb26 hS25
        refine wpAnyH_take (i := 17) (oi := ({ dst := some 40, op := Op.binOp BinOp.eql 9 (Operand.tmp 37) (Operand.tmp 39) 9, type := 4, pos := "law.go:52", after := #[{ on := 14, ground := Ground.data }, { on := 16, ground := Ground.data }, { on := 12, ground := Ground.guard }], guard := some (12, true) } : Oper)) (v := ?_) rfl (by kernel_rfl) (by kernel_rfl) (by kernel_rfl) (fun _ _ _ h => h) (Or.inl ⟨by rfl, ?_⟩) hS26 ?_
        rotate_left
        · intro w hSw; (try dsimp only at hSw); go_simp; (try with_reducible rfl)
        simp only [Act.put, List.setIfInBounds_toArray, List.set_cons_zero, List.set_cons_succ]
        refine wpAnyH_take (i := 18) (oi := ({ dst := some 41, op := Op.pick (Operand.tmp 35) (Operand.tmp 40) (Operand.const (Value.bool false)), type := 4, pos := "law.go:52", after := #[{ on := 12, ground := Ground.data }, { on := 17, ground := Ground.data }], guard := none } : Oper)) (v := ?_) rfl (by kernel_rfl) (by kernel_rfl) (by kernel_rfl) (fun _ _ _ h => h) (Or.inl ⟨by rfl, ?_⟩) hS26 ?_
        rotate_left
        · intro w hSw; (try dsimp only at hSw); go_simp; (try with_reducible rfl)
        simp only [Act.put, List.setIfInBounds_toArray, List.set_cons_zero, List.set_cons_succ]
        refine wpAnyH_take (i := 19) (oi := ({ dst := some 42, op := Op.move (Operand.tmp 41), type := 4, pos := "law.go:52", after := #[{ on := 18, ground := Ground.data }, { on := 16, ground := Ground.chain }], guard := none } : Oper)) (v := ?_) rfl (by kernel_rfl) (by kernel_rfl) (by kernel_rfl) (fun _ _ _ h => h) (Or.inl ⟨by rfl, ?_⟩) hS26 ?_
        rotate_left
        · intro w hSw; (try dsimp only at hSw); go_simp; (try with_reducible rfl)
        simp only [Act.put, List.setIfInBounds_toArray, List.set_cons_zero, List.set_cons_succ]
        refine wpAnyH_take (i := 20) (oi := ({ dst := some 43, op := Op.load 24 (Operand.tmp 3), type := 24, pos := "law.go:52", after := #[{ on := 19, ground := Ground.guard }], guard := some (19, true) } : Oper)) (v := ?_) rfl (by kernel_rfl) (by kernel_rfl) (by kernel_rfl) (fun _ _ _ h => h) (Or.inl ⟨by rfl, ?_⟩) hS26 ?_
        rotate_left
        · intro w hSw; (try dsimp only at hSw); go_simp; (try with_reducible rfl)
        simp only [Act.put, List.setIfInBounds_toArray, List.set_cons_zero, List.set_cons_succ]
        refine wpAnyH_take (i := 22) (oi := ({ dst := some 45, op := Op.load 24 (Operand.tmp 3), type := 24, pos := "law.go:52", after := #[{ on := 19, ground := Ground.guard }], guard := some (19, true) } : Oper)) (v := ?_) rfl (by kernel_rfl) (by kernel_rfl) (by kernel_rfl) (fun _ _ _ h => h) (Or.inl ⟨by rfl, ?_⟩) hS26 ?_
        rotate_left
        · intro w hSw; (try dsimp only at hSw); go_simp; (try with_reducible rfl)
        simp only [Act.put, List.setIfInBounds_toArray, List.set_cons_zero, List.set_cons_succ]
        refine wpAnyH_ready (rs := [21]) (by kernel_rfl) (by simp) ?_
        refine AllReadyH.cons (o := ({ dst := some 44, op := Op.call { callee := Callee.value (Operand.func 17), args := #[Operand.tmp 43], argTypes := #[24] }, type := 9, pos := "law.go:52", after := #[{ on := 20, ground := Ground.data }, { on := 19, ground := Ground.chain }, { on := 19, ground := Ground.guard }], guard := some (19, true) } : Oper)) rfl (fun K hK => ?_) AllReadyH.nil
        go_simp
        refine (c7.out _ (HA.out.below hS26.1)).mono ?_; rintro e w27 ⟨rfl, hb27⟩
        go_wp2_with fail
        refine hK.out _ _ (mk20 _ (hnext hS26.1 hb27)) (fun hS27 => ?_)
        clear hK K
        (try simp only [Act.put, List.setIfInBounds_toArray, List.set_cons_zero, List.set_cons_succ])
        clear hb27 hS26
        refine wpAnyH_ready (rs := [23]) (by kernel_rfl) (by simp) ?_
        refine AllReadyH.cons (o := ({ dst := some 46, op := Op.call { callee := Callee.value (Operand.func 18), args := #[Operand.tmp 45], argTypes := #[24] }, type := 9, pos := "law.go:52", after := #[{ on := 22, ground := Ground.data }, { on := 21, ground := Ground.chain }, { on := 19, ground := Ground.guard }], guard := some (19, true) } : Oper)) rfl (fun K hK => ?_) AllReadyH.nil
        go_simp
        refine (c8.out _ (HA.out.below hS27.1)).mono ?_; rintro e w28 ⟨rfl, hb28⟩
        go_wp2_with fail
        refine hK.out _ _ (mk20 _ (hnext hS27.1 hb28)) (fun hS28 => ?_)
        clear hK K
        (try simp only [Act.put, List.setIfInBounds_toArray, List.set_cons_zero, List.set_cons_succ])
        clear hb28 hS27
        refine wpAnyH_take (i := 24) (oi := ({ dst := some 47, op := Op.binOp BinOp.eql 9 (Operand.tmp 44) (Operand.tmp 46) 9, type := 4, pos := "law.go:52", after := #[{ on := 21, ground := Ground.data }, { on := 23, ground := Ground.data }, { on := 19, ground := Ground.guard }], guard := some (19, true) } : Oper)) (v := ?_) rfl (by kernel_rfl) (by kernel_rfl) (by kernel_rfl) (fun _ _ _ h => h) (Or.inl ⟨by rfl, ?_⟩) hS28 ?_
        rotate_left
        · intro w hSw; (try dsimp only at hSw); go_simp; (try with_reducible rfl)
        simp only [Act.put, List.setIfInBounds_toArray, List.set_cons_zero, List.set_cons_succ]
        refine wpAnyH_take (i := 25) (oi := ({ dst := some 48, op := Op.pick (Operand.tmp 42) (Operand.tmp 47) (Operand.const (Value.bool false)), type := 4, pos := "law.go:52", after := #[{ on := 19, ground := Ground.data }, { on := 24, ground := Ground.data }], guard := none } : Oper)) (v := ?_) rfl (by kernel_rfl) (by kernel_rfl) (by kernel_rfl) (fun _ _ _ h => h) (Or.inl ⟨by rfl, ?_⟩) hS28 ?_
        rotate_left
        · intro w hSw; (try dsimp only at hSw); go_simp; (try with_reducible rfl)
        simp only [Act.put, List.setIfInBounds_toArray, List.set_cons_zero, List.set_cons_succ]
        refine wpAnyH_take (i := 26) (oi := ({ dst := some 49, op := Op.move (Operand.tmp 48), type := 4, pos := "law.go:52", after := #[{ on := 25, ground := Ground.data }, { on := 23, ground := Ground.chain }], guard := none } : Oper)) (v := ?_) rfl (by kernel_rfl) (by kernel_rfl) (by kernel_rfl) (fun _ _ _ h => h) (Or.inl ⟨by rfl, ?_⟩) hS28 ?_
        rotate_left
        · intro w hSw; (try dsimp only at hSw); go_simp; (try with_reducible rfl)
        simp only [Act.put, List.setIfInBounds_toArray, List.set_cons_zero, List.set_cons_succ]
        refine wpAnyH_take (i := 27) (oi := ({ dst := some 50, op := Op.load 24 (Operand.tmp 3), type := 24, pos := "law.go:52", after := #[{ on := 26, ground := Ground.guard }], guard := some (26, true) } : Oper)) (v := ?_) rfl (by kernel_rfl) (by kernel_rfl) (by kernel_rfl) (fun _ _ _ h => h) (Or.inl ⟨by rfl, ?_⟩) hS28 ?_
        rotate_left
        · intro w hSw; (try dsimp only at hSw); go_simp; (try with_reducible rfl)
        simp only [Act.put, List.setIfInBounds_toArray, List.set_cons_zero, List.set_cons_succ]
        refine wpAnyH_take (i := 28) (oi := ({ dst := some 51, op := Op.load 24 (Operand.tmp 4), type := 24, pos := "law.go:52", after := #[{ on := 26, ground := Ground.guard }], guard := some (26, true) } : Oper)) (v := ?_) rfl (by kernel_rfl) (by kernel_rfl) (by kernel_rfl) (fun _ _ _ h => h) (Or.inl ⟨by rfl, ?_⟩) hS28 ?_
        rotate_left
        · intro w hSw; (try dsimp only at hSw); go_simp; (try with_reducible rfl)
        simp only [Act.put, List.setIfInBounds_toArray, List.set_cons_zero, List.set_cons_succ]
        refine wpAnyH_take (i := 30) (oi := ({ dst := some 53, op := Op.load 24 (Operand.tmp 3), type := 24, pos := "law.go:52", after := #[{ on := 26, ground := Ground.guard }], guard := some (26, true) } : Oper)) (v := ?_) rfl (by kernel_rfl) (by kernel_rfl) (by kernel_rfl) (fun _ _ _ h => h) (Or.inl ⟨by rfl, ?_⟩) hS28 ?_
        rotate_left
        · intro w hSw; (try dsimp only at hSw); go_simp; (try with_reducible rfl)
        simp only [Act.put, List.setIfInBounds_toArray, List.set_cons_zero, List.set_cons_succ]
        refine wpAnyH_take (i := 31) (oi := ({ dst := some 54, op := Op.load 24 (Operand.tmp 4), type := 24, pos := "law.go:52", after := #[{ on := 26, ground := Ground.guard }], guard := some (26, true) } : Oper)) (v := ?_) rfl (by kernel_rfl) (by kernel_rfl) (by kernel_rfl) (fun _ _ _ h => h) (Or.inl ⟨by rfl, ?_⟩) hS28 ?_
        rotate_left
        · intro w hSw; (try dsimp only at hSw); go_simp; (try with_reducible rfl)
        simp only [Act.put, List.setIfInBounds_toArray, List.set_cons_zero, List.set_cons_succ]
        refine wpAnyH_ready (rs := [29]) (by kernel_rfl) (by simp) ?_
        refine AllReadyH.cons (o := ({ dst := some 52, op := Op.call { callee := Callee.value (Operand.func 19), args := #[Operand.tmp 50, Operand.tmp 51], argTypes := #[24, 24] }, type := 4, pos := "law.go:52", after := #[{ on := 27, ground := Ground.data }, { on := 28, ground := Ground.data }, { on := 26, ground := Ground.chain }, { on := 26, ground := Ground.guard }], guard := some (26, true) } : Oper)) rfl (fun K hK => ?_) AllReadyH.nil
        go_simp
        refine (c9.out _ (HA.out.below hS28.1) (HB.out.below hS28.1)).mono ?_; rintro e w29 ⟨rfl, hb29⟩
        go_wp2_with fail
        refine hK.out _ _ (mk20 _ (hnext hS28.1 hb29)) (fun hS29 => ?_)
        clear hK K
        (try simp only [Act.put, List.setIfInBounds_toArray, List.set_cons_zero, List.set_cons_succ])
        clear hb29 hS28
        refine wpAnyH_ready (rs := [32]) (by kernel_rfl) (by simp) ?_
        refine AllReadyH.cons (o := ({ dst := some 55, op := Op.call { callee := Callee.value (Operand.func 20), args := #[Operand.tmp 53, Operand.tmp 54], argTypes := #[24, 24] }, type := 4, pos := "law.go:52", after := #[{ on := 30, ground := Ground.data }, { on := 31, ground := Ground.data }, { on := 29, ground := Ground.chain }, { on := 26, ground := Ground.guard }], guard := some (26, true) } : Oper)) rfl (fun K hK => ?_) AllReadyH.nil
        go_simp
        refine (c10.out _ (HA.out.below hS29.1) (HB.out.below hS29.1)).mono ?_; rintro e w30 ⟨rfl, hb30⟩
        go_wp2_with fail
        refine hK.out _ _ (mk20 _ (hnext hS29.1 hb30)) (fun hS30 => ?_)
        clear hK K
        (try simp only [Act.put, List.setIfInBounds_toArray, List.set_cons_zero, List.set_cons_succ])
        clear hb30 hS29
        refine wpAnyH_take (i := 33) (oi := ({ dst := some 56, op := Op.binOp BinOp.eql 4 (Operand.tmp 52) (Operand.tmp 55) 4, type := 4, pos := "law.go:52", after := #[{ on := 29, ground := Ground.data }, { on := 32, ground := Ground.data }, { on := 26, ground := Ground.guard }], guard := some (26, true) } : Oper)) (v := ?_) rfl (by kernel_rfl) (by kernel_rfl) (by kernel_rfl) (fun _ _ _ h => h) (Or.inl ⟨by rfl, ?_⟩) hS30 ?_
        rotate_left
        · intro w hSw; (try dsimp only at hSw); go_simp; (try with_reducible rfl)
        simp only [Act.put, List.setIfInBounds_toArray, List.set_cons_zero, List.set_cons_succ]
        refine wpAnyH_take (i := 34) (oi := ({ dst := some 57, op := Op.pick (Operand.tmp 49) (Operand.tmp 56) (Operand.const (Value.bool false)), type := 4, pos := "law.go:52", after := #[{ on := 26, ground := Ground.data }, { on := 33, ground := Ground.data }], guard := none } : Oper)) (v := ?_) rfl (by kernel_rfl) (by kernel_rfl) (by kernel_rfl) (fun _ _ _ h => h) (Or.inl ⟨by rfl, ?_⟩) hS30 ?_
        rotate_left
        · intro w hSw; (try dsimp only at hSw); go_simp; (try with_reducible rfl)
        simp only [Act.put, List.setIfInBounds_toArray, List.set_cons_zero, List.set_cons_succ]
        refine wpAnyH_take (i := 35) (oi := ({ dst := some 58, op := Op.move (Operand.tmp 57), type := 4, pos := "law.go:52", after := #[{ on := 34, ground := Ground.data }, { on := 32, ground := Ground.chain }], guard := none } : Oper)) (v := ?_) rfl (by kernel_rfl) (by kernel_rfl) (by kernel_rfl) (fun _ _ _ h => h) (Or.inl ⟨by rfl, ?_⟩) hS30 ?_
        rotate_left
        · intro w hSw; (try dsimp only at hSw); go_simp; (try with_reducible rfl)
        simp only [Act.put, List.setIfInBounds_toArray, List.set_cons_zero, List.set_cons_succ]
        refine wpAnyH_ready (rs := [36]) (by kernel_rfl) (by simp) ?_
        refine AllReadyH.cons (o := ({ dst := some 59, op := Op.call { callee := Callee.value (Operand.func 10), args := #[], argTypes := #[] }, type := 4, pos := "law.go:52", after := #[{ on := 35, ground := Ground.chain }, { on := 35, ground := Ground.guard }], guard := some (35, true) } : Oper)) rfl (fun K hK => ?_) AllReadyH.nil
        go_simp
        refine (known_any _).mono ?_; rintro e w31 ⟨rfl, hb31⟩
        go_wp2_with fail
        refine hK.out _ _ (mk20 _ (hnext hS30.1 hb31)) (fun hS31 => ?_)
        clear hK K
        (try simp only [Act.put, List.setIfInBounds_toArray, List.set_cons_zero, List.set_cons_succ])
        clear hb31 hS30
        refine wpAnyH_take (i := 37) (oi := ({ dst := some 60, op := Op.pick (Operand.tmp 58) (Operand.tmp 59) (Operand.const (Value.bool false)), type := 4, pos := "law.go:52", after := #[{ on := 35, ground := Ground.data }, { on := 36, ground := Ground.data }], guard := none } : Oper)) (v := ?_) rfl (by kernel_rfl) (by kernel_rfl) (by kernel_rfl) (fun _ _ _ h => h) (Or.inl ⟨by rfl, ?_⟩) hS31 ?_
        rotate_left
        · intro w hSw; (try dsimp only at hSw); go_simp; (try with_reducible rfl)
        simp only [Act.put, List.setIfInBounds_toArray, List.set_cons_zero, List.set_cons_succ]
        refine wpAnyH_take (i := 38) (oi := ({ dst := some 6, op := Op.assign (Operand.tmp 60), type := 4, pos := "law.go:52", after := #[{ on := 37, ground := Ground.data }, { on := 36, ground := Ground.chain }, { on := 0, ground := Ground.phase }, { on := 1, ground := Ground.phase }, { on := 2, ground := Ground.phase }, { on := 3, ground := Ground.phase }, { on := 4, ground := Ground.phase }, { on := 5, ground := Ground.phase }, { on := 6, ground := Ground.phase }, { on := 7, ground := Ground.phase }, { on := 8, ground := Ground.phase }, { on := 9, ground := Ground.phase }, { on := 10, ground := Ground.phase }, { on := 11, ground := Ground.phase }, { on := 12, ground := Ground.phase }, { on := 13, ground := Ground.phase }, { on := 14, ground := Ground.phase }, { on := 15, ground := Ground.phase }, { on := 16, ground := Ground.phase }, { on := 17, ground := Ground.phase }, { on := 18, ground := Ground.phase }, { on := 19, ground := Ground.phase }, { on := 20, ground := Ground.phase }, { on := 21, ground := Ground.phase }, { on := 22, ground := Ground.phase }, { on := 23, ground := Ground.phase }, { on := 24, ground := Ground.phase }, { on := 25, ground := Ground.phase }, { on := 26, ground := Ground.phase }, { on := 27, ground := Ground.phase }, { on := 28, ground := Ground.phase }, { on := 29, ground := Ground.phase }, { on := 30, ground := Ground.phase }, { on := 31, ground := Ground.phase }, { on := 32, ground := Ground.phase }, { on := 33, ground := Ground.phase }, { on := 34, ground := Ground.phase }, { on := 35, ground := Ground.phase }, { on := 36, ground := Ground.phase }, { on := 37, ground := Ground.phase }], guard := none } : Oper)) (v := ?_) rfl (by kernel_rfl) (by kernel_rfl) (by kernel_rfl) (fun _ _ _ h => h) (Or.inl ⟨by rfl, ?_⟩) hS31 ?_
        rotate_left
        · intro w hSw; (try dsimp only at hSw); go_simp; (try with_reducible rfl)
        simp only [Act.put, List.setIfInBounds_toArray, List.set_cons_zero, List.set_cons_succ]
        refine wpAnyH_done (by kernel_rfl) ?_ _
        go_wp2_with fail
        go_ret
        exact ⟨rfl, hnext L20.out hS31.1⟩
end Go.Proofs.Ytmmegicaeaifaaa
