/-
  Plain of a query: the contract. Condition: lengths.
-/
import Derived.Test.YtmcneelapghfcaaQp
import Derived.Test.YtmcneelapghfcaaRp
import Derived.Test.YtmcneelapghfcaaCb
namespace Go.Proofs.Ytmcneelapghfcaa
open Go.RowKit Pd Qu

theorem BQ.upd1 {w w' : World} {T : TypeId} {g b : Nat} {q : Q} {vk vw vc : Value} (h : BQ w T g q vk vw vc) (u : Upd b w w') (hne : g ≠ b) : BQ w' T g q vk vw vc := by
  have hlt : g < w.heap.size := (Array.getElem?_eq_some_iff.1 h).1
  unfold BQ
  rw [u.block g hlt (fun e => hne (Option.some.inj e))]
  exact h
theorem set11 {w : World} {b : Nat} {t : TypeId} (a0 a1 a2 a3 a4 a5 a6 a7 a8 a9 a10 v0 v1 v2 v3 v4 v5 v6 v7 v8 v9 v10 : Value) (h : Var w b #[a0, a1, a2, a3, a4, a5, a6, a7, a8, a9, a10] t) : Var (((((((((((w.setCell ⟨b, 0, none⟩ v0).setCell ⟨b, 1, none⟩ v1).setCell ⟨b, 2, none⟩ v2).setCell ⟨b, 3, none⟩ v3).setCell ⟨b, 4, none⟩ v4).setCell ⟨b, 5, none⟩ v5).setCell ⟨b, 6, none⟩ v6).setCell ⟨b, 7, none⟩ v7).setCell ⟨b, 8, none⟩ v8).setCell ⟨b, 9, none⟩ v9).setCell ⟨b, 10, none⟩ v10) b #[v0, v1, v2, v3, v4, v5, v6, v7, v8, v9, v10] t := by
  have h0 : Var (w.setCell ⟨b, 0, none⟩ v0) b #[v0, a1, a2, a3, a4, a5, a6, a7, a8, a9, a10] t := h.set 0 v0
  have h1 : Var ((w.setCell ⟨b, 0, none⟩ v0).setCell ⟨b, 1, none⟩ v1) b #[v0, v1, a2, a3, a4, a5, a6, a7, a8, a9, a10] t := h0.set 1 v1
  have h2 : Var (((w.setCell ⟨b, 0, none⟩ v0).setCell ⟨b, 1, none⟩ v1).setCell ⟨b, 2, none⟩ v2) b #[v0, v1, v2, a3, a4, a5, a6, a7, a8, a9, a10] t := h1.set 2 v2
  have h3 : Var ((((w.setCell ⟨b, 0, none⟩ v0).setCell ⟨b, 1, none⟩ v1).setCell ⟨b, 2, none⟩ v2).setCell ⟨b, 3, none⟩ v3) b #[v0, v1, v2, v3, a4, a5, a6, a7, a8, a9, a10] t := h2.set 3 v3
  have h4 : Var (((((w.setCell ⟨b, 0, none⟩ v0).setCell ⟨b, 1, none⟩ v1).setCell ⟨b, 2, none⟩ v2).setCell ⟨b, 3, none⟩ v3).setCell ⟨b, 4, none⟩ v4) b #[v0, v1, v2, v3, v4, a5, a6, a7, a8, a9, a10] t := h3.set 4 v4
  have h5 : Var ((((((w.setCell ⟨b, 0, none⟩ v0).setCell ⟨b, 1, none⟩ v1).setCell ⟨b, 2, none⟩ v2).setCell ⟨b, 3, none⟩ v3).setCell ⟨b, 4, none⟩ v4).setCell ⟨b, 5, none⟩ v5) b #[v0, v1, v2, v3, v4, v5, a6, a7, a8, a9, a10] t := h4.set 5 v5
  have h6 : Var (((((((w.setCell ⟨b, 0, none⟩ v0).setCell ⟨b, 1, none⟩ v1).setCell ⟨b, 2, none⟩ v2).setCell ⟨b, 3, none⟩ v3).setCell ⟨b, 4, none⟩ v4).setCell ⟨b, 5, none⟩ v5).setCell ⟨b, 6, none⟩ v6) b #[v0, v1, v2, v3, v4, v5, v6, a7, a8, a9, a10] t := h5.set 6 v6
  have h7 : Var ((((((((w.setCell ⟨b, 0, none⟩ v0).setCell ⟨b, 1, none⟩ v1).setCell ⟨b, 2, none⟩ v2).setCell ⟨b, 3, none⟩ v3).setCell ⟨b, 4, none⟩ v4).setCell ⟨b, 5, none⟩ v5).setCell ⟨b, 6, none⟩ v6).setCell ⟨b, 7, none⟩ v7) b #[v0, v1, v2, v3, v4, v5, v6, v7, a8, a9, a10] t := h6.set 7 v7
  have h8 : Var (((((((((w.setCell ⟨b, 0, none⟩ v0).setCell ⟨b, 1, none⟩ v1).setCell ⟨b, 2, none⟩ v2).setCell ⟨b, 3, none⟩ v3).setCell ⟨b, 4, none⟩ v4).setCell ⟨b, 5, none⟩ v5).setCell ⟨b, 6, none⟩ v6).setCell ⟨b, 7, none⟩ v7).setCell ⟨b, 8, none⟩ v8) b #[v0, v1, v2, v3, v4, v5, v6, v7, v8, a9, a10] t := h7.set 8 v8
  have h9 : Var ((((((((((w.setCell ⟨b, 0, none⟩ v0).setCell ⟨b, 1, none⟩ v1).setCell ⟨b, 2, none⟩ v2).setCell ⟨b, 3, none⟩ v3).setCell ⟨b, 4, none⟩ v4).setCell ⟨b, 5, none⟩ v5).setCell ⟨b, 6, none⟩ v6).setCell ⟨b, 7, none⟩ v7).setCell ⟨b, 8, none⟩ v8).setCell ⟨b, 9, none⟩ v9) b #[v0, v1, v2, v3, v4, v5, v6, v7, v8, v9, a10] t := h8.set 9 v9
  have h10 : Var (((((((((((w.setCell ⟨b, 0, none⟩ v0).setCell ⟨b, 1, none⟩ v1).setCell ⟨b, 2, none⟩ v2).setCell ⟨b, 3, none⟩ v3).setCell ⟨b, 4, none⟩ v4).setCell ⟨b, 5, none⟩ v5).setCell ⟨b, 6, none⟩ v6).setCell ⟨b, 7, none⟩ v7).setCell ⟨b, 8, none⟩ v8).setCell ⟨b, 9, none⟩ v9).setCell ⟨b, 10, none⟩ v10) b #[v0, v1, v2, v3, v4, v5, v6, v7, v8, v9, v10] t := h9.set 10 v10
  exact h10
theorem qplain16 (v : Value) (l : List N) (w : World) (hv : NsAt w v l) (hl : l.length ≤ 1000000) : Calls Try.prog 27 #[v] w fun e w' => ∃ v', e = .returned v' ∧ OwnR w' w.heap.size v' l ∧ Below w.heap.size w w' := plain_any v l w hv hl
set_option maxRecDepth 100000 in
set_option maxHeartbeats 12800000 in
theorem qplain_any (q : Q) (vk vw vc : Value) (w : World) (hq : QIn w q vk vw vc) (hl : q.wh.length ≤ 1000000) : Calls Try.prog 11 #[qv q vk vw vc] w fun e w' => ∃ vw', e = .returned (qv q vk vw' vc) ∧ NsAt w' vw' q.wh ∧ Below w.heap.size w w' := by
  obtain ⟨hvk, hvw, hvc⟩ := hq
  have HVW := hid hvw
  have HVK := hid hvk
  have HVC := hid hvc
  have HL := hid hl
  obtain ⟨ka, kc, rfl⟩ := vs_slc hvk
  obtain ⟨wa, wc, rfl⟩ := hvw.slc
  obtain ⟨ca, cc, rfl⟩ := hvc.slc
  clear hvk hvw hvc hl
  unfold qv
  go_enter Try.func11, Try.ntmps11
  go_wp2_with fail
  obtain ⟨g, hg⟩ : ∃ g, w.heap.size = g := ⟨_, rfl⟩
  have b1 := hba w (.cells #[.int .i64 q.kind, .string q.table, .slice ka q.key.length kc, .int .i64 q.t, .int .i64 q.v, .int .i64 q.fr, .int .i64 q.to, .slice wa q.wh.length wc, .slice ca q.cols.length cc, .int .i64 q.limit, .bool q.desc] 28)
  have b2 := hba (w.alloc (.cells #[.int .i64 q.kind, .string q.table, .slice ka q.key.length kc, .int .i64 q.t, .int .i64 q.v, .int .i64 q.fr, .int .i64 q.to, .slice wa q.wh.length wc, .slice ca q.cols.length cc, .int .i64 q.limit, .bool q.desc] 28)) (.cells #[.int .i64 0, .string ⟨#[]⟩, .slice none 0 0, .int .i64 0, .int .i64 0, .int .i64 0, .int .i64 0, .slice none 0 0, .slice none 0 0, .int .i64 0, .bool false] 39)
  have L := hid (hnext b1 b2)
  have BA := hid (show BQ _ _ _ _ _ _ _ from keepBlock (BQ.new w 28 q (.slice ka q.key.length kc) (.slice wa q.wh.length wc) (.slice ca q.cols.length cc)) b2)
  have BZ := hid (heap_alloc_new (w.alloc (.cells #[.int .i64 q.kind, .string q.table, .slice ka q.key.length kc, .int .i64 q.t, .int .i64 q.v, .int .i64 q.fr, .int .i64 q.to, .slice wa q.wh.length wc, .slice ca q.cols.length cc, .int .i64 q.limit, .bool q.desc] 28)) (.cells #[.int .i64 0, .string ⟨#[]⟩, .slice none 0 0, .int .i64 0, .int .i64 0, .int .i64 0, .int .i64 0, .slice none 0 0, .slice none 0 0, .int .i64 0, .bool false] 39))
  have HW := hid (HVW.out.below L.out)
  have hsz : ∀ (W : World) (o : Obj), (W.alloc o).heap.size = W.heap.size + 1 := fun W o => by simp
  simp only [hsz, hg] at BA BZ
  (try simp only [hg])
  clear hsz b1 b2 HVW
  generalize ((w.alloc (.cells #[.int .i64 q.kind, .string q.table, .slice ka q.key.length kc, .int .i64 q.t, .int .i64 q.v, .int .i64 q.fr, .int .i64 q.to, .slice wa q.wh.length wc, .slice ca q.cols.length cc, .int .i64 q.limit, .bool q.desc] 28)).alloc (.cells #[.int .i64 0, .string ⟨#[]⟩, .slice none 0 0, .int .i64 0, .int .i64 0, .int .i64 0, .int .i64 0, .slice none 0 0, .slice none 0 0, .int .i64 0, .bool false] 39)) = w0 at *
  obtain ⟨c0, c1, c2, c3, c4, c5, c6, c7, c8, c9, c10, cl⟩ := BA.out.cells
  obtain ⟨w20, hw20⟩ : ∃ w20, w0.drew = w20 := ⟨_, rfl⟩
  have hd20 : Below w0.heap.size w0 w20 := hw20 ▸ (Below.refl _ _).drew
  have L20 := hid (hnext L.out hd20)
  have BA20 := hid (show BQ _ _ _ _ _ _ _ from keepBlock BA.out hd20)
  have BZ20 := hid (show Var _ _ _ _ from keepBlock BZ.out hd20)
  have HW20 := hid (HW.out.below hd20)
  refine wp_region_held_drew (S := (fun W : World => W.cell? ⟨g, 0, none⟩ = some (.int .i64 q.kind) ∧ W.cell? ⟨g, 1, none⟩ = some (.string q.table) ∧ W.cell? ⟨g, 2, none⟩ = some (.slice ka q.key.length kc) ∧ W.cell? ⟨g, 3, none⟩ = some (.int .i64 q.t) ∧ W.cell? ⟨g, 4, none⟩ = some (.int .i64 q.v) ∧ W.cell? ⟨g, 5, none⟩ = some (.int .i64 q.fr) ∧ W.cell? ⟨g, 6, none⟩ = some (.int .i64 q.to) ∧ W.cell? ⟨g, 7, none⟩ = some (.slice wa q.wh.length wc) ∧ W.cell? ⟨g, 8, none⟩ = some (.slice ca q.cols.length cc) ∧ W.cell? ⟨g, 9, none⟩ = some (.int .i64 q.limit) ∧ W.cell? ⟨g, 10, none⟩ = some (.bool q.desc))) (by kernel_rfl) (by rw [hw20]; exact ⟨hkeep c0 hd20, hkeep c1 hd20, hkeep c2 hd20, hkeep c3 hd20, hkeep c4 hd20, hkeep c5 hd20, hkeep c6 hd20, hkeep c7 hd20, hkeep c8 hd20, hkeep c9 hd20, hkeep c10 hd20⟩) (fun hS20 => ?_)
  rw [hw20] at hS20 ⊢
  clear hw20 hd20 L BA BZ HW c0 c1 c2 c3 c4 c5 c6 c7 c8 c9 c10 cl
  refine wT 0 hS20 ?_
  refine wT 1 hS20 ?_
  refine wT 2 hS20 ?_
  refine wT 3 hS20 ?_
  refine wT 4 hS20 ?_
  refine wT 5 hS20 ?_
  refine wT 6 hS20 ?_
  refine wT 7 hS20 ?_
  refine wT 8 hS20 ?_
  refine wT 9 hS20 ?_
  refine wT 10 hS20 ?_
  refine wT 11 hS20 ?_
  refine wT 12 hS20 ?_
  refine wT 13 hS20 ?_
  refine wT 15 hS20 ?_
  refine wT 16 hS20 ?_
  refine wT 17 hS20 ?_
  refine wT 18 hS20 ?_
  refine wT 19 hS20 ?_
  refine wT 20 hS20 ?_
  refine wpAnyH_ready (rs := [14]) (by kernel_rfl) (by simp) ?_
  refine wC (fun K hK => ?_) AllReadyH.nil
  go_simp
  refine (qplain16 _ _ w20 HW20.out HL.out).mono ?_; rintro e w21 ⟨vw', rfl, own, b⟩
  have HO := hid own
  have hlt := hid (show g + 1 < w20.heap.size from BZ20.out.lt)
  obtain ⟨na, nc, rfl⟩ := own.at.slc
  have L21 := hid (hnext L20.out b)
  have BA21 := hid (show BQ _ _ _ _ _ _ _ from keepBlock BA20.out b)
  have BZ21 := hid (show Var _ _ _ _ from keepBlock BZ20.out b)
  go_wp2_with fail
  refine hK.out _ _ ⟨hkeep hS20.1 b, hkeep hS20.2.1 b, hkeep hS20.2.2.1 b, hkeep hS20.2.2.2.1 b, hkeep hS20.2.2.2.2.1 b, hkeep hS20.2.2.2.2.2.1 b, hkeep hS20.2.2.2.2.2.2.1 b, hkeep hS20.2.2.2.2.2.2.2.1 b, hkeep hS20.2.2.2.2.2.2.2.2.1 b, hkeep hS20.2.2.2.2.2.2.2.2.2.1 b, hkeep hS20.2.2.2.2.2.2.2.2.2.2 b⟩ (fun hS21 => ?_)
  clear hK K
  (try simp only [Act.put, List.setIfInBounds_toArray, List.set_cons_zero, List.set_cons_succ])
  clear own b L20 BA20 BZ20 HW20 hS20
  refine wT 21 hS21 ?_
  refine wpAnyH_ready (rs := [22]) (by kernel_rfl) (by simp) ?_
  refine wC (fun K hK => ?_) AllReadyH.nil
  have z0 : w21.cell? ⟨g + 1, 0, none⟩ = some (.int .i64 0) := BZ21.out.cell 0
  have z1 : w21.cell? ⟨g + 1, 1, none⟩ = some (.string ⟨#[]⟩) := BZ21.out.cell 1
  have z2 : w21.cell? ⟨g + 1, 2, none⟩ = some (.slice none 0 0) := BZ21.out.cell 2
  have z3 : w21.cell? ⟨g + 1, 3, none⟩ = some (.int .i64 0) := BZ21.out.cell 3
  have z4 : w21.cell? ⟨g + 1, 4, none⟩ = some (.int .i64 0) := BZ21.out.cell 4
  have z5 : w21.cell? ⟨g + 1, 5, none⟩ = some (.int .i64 0) := BZ21.out.cell 5
  have z6 : w21.cell? ⟨g + 1, 6, none⟩ = some (.int .i64 0) := BZ21.out.cell 6
  have z7 : w21.cell? ⟨g + 1, 7, none⟩ = some (.slice none 0 0) := BZ21.out.cell 7
  have z8 : w21.cell? ⟨g + 1, 8, none⟩ = some (.slice none 0 0) := BZ21.out.cell 8
  have z9 : w21.cell? ⟨g + 1, 9, none⟩ = some (.int .i64 0) := BZ21.out.cell 9
  have z10 : w21.cell? ⟨g + 1, 10, none⟩ = some (.bool false) := BZ21.out.cell 10
  have y0 : w21.frozen? ⟨g + 1, 0, none⟩ = false := frozen_of_row w21 (g + 1) 0 _ _ BZ21.out
  have y1 : w21.frozen? ⟨g + 1, 1, none⟩ = false := frozen_of_row w21 (g + 1) 1 _ _ BZ21.out
  have y2 : w21.frozen? ⟨g + 1, 2, none⟩ = false := frozen_of_row w21 (g + 1) 2 _ _ BZ21.out
  have y3 : w21.frozen? ⟨g + 1, 3, none⟩ = false := frozen_of_row w21 (g + 1) 3 _ _ BZ21.out
  have y4 : w21.frozen? ⟨g + 1, 4, none⟩ = false := frozen_of_row w21 (g + 1) 4 _ _ BZ21.out
  have y5 : w21.frozen? ⟨g + 1, 5, none⟩ = false := frozen_of_row w21 (g + 1) 5 _ _ BZ21.out
  have y6 : w21.frozen? ⟨g + 1, 6, none⟩ = false := frozen_of_row w21 (g + 1) 6 _ _ BZ21.out
  have y7 : w21.frozen? ⟨g + 1, 7, none⟩ = false := frozen_of_row w21 (g + 1) 7 _ _ BZ21.out
  have y8 : w21.frozen? ⟨g + 1, 8, none⟩ = false := frozen_of_row w21 (g + 1) 8 _ _ BZ21.out
  have y9 : w21.frozen? ⟨g + 1, 9, none⟩ = false := frozen_of_row w21 (g + 1) 9 _ _ BZ21.out
  have y10 : w21.frozen? ⟨g + 1, 10, none⟩ = false := frozen_of_row w21 (g + 1) 10 _ _ BZ21.out
  go_simp
  clear z0 y0 z1 y1 z2 y2 z3 y3 z4 y4 z5 y5 z6 y6 z7 y7 z8 y8 z9 y9 z10 y10
  have u : Upd (g + 1) w21 (((((((((((w21.setCell ⟨g + 1, 0, none⟩ (.int .i64 q.kind)).setCell ⟨g + 1, 1, none⟩ (.string q.table)).setCell ⟨g + 1, 2, none⟩ (.slice ka q.key.length kc)).setCell ⟨g + 1, 3, none⟩ (.int .i64 q.t)).setCell ⟨g + 1, 4, none⟩ (.int .i64 q.v)).setCell ⟨g + 1, 5, none⟩ (.int .i64 q.fr)).setCell ⟨g + 1, 6, none⟩ (.int .i64 q.to)).setCell ⟨g + 1, 7, none⟩ (.slice na q.wh.length nc)).setCell ⟨g + 1, 8, none⟩ (.slice ca q.cols.length cc)).setCell ⟨g + 1, 9, none⟩ (.int .i64 q.limit)).setCell ⟨g + 1, 10, none⟩ (.bool q.desc)) := ((((((((((Upd.set _ _ _ _).trans (Upd.set _ _ _ _)).trans (Upd.set _ _ _ _)).trans (Upd.set _ _ _ _)).trans (Upd.set _ _ _ _)).trans (Upd.set _ _ _ _)).trans (Upd.set _ _ _ _)).trans (Upd.set _ _ _ _)).trans (Upd.set _ _ _ _)).trans (Upd.set _ _ _ _)).trans (Upd.set _ _ _ _)
  have BA22 : Hid (BQ (((((((((((w21.setCell ⟨g + 1, 0, none⟩ (.int .i64 q.kind)).setCell ⟨g + 1, 1, none⟩ (.string q.table)).setCell ⟨g + 1, 2, none⟩ (.slice ka q.key.length kc)).setCell ⟨g + 1, 3, none⟩ (.int .i64 q.t)).setCell ⟨g + 1, 4, none⟩ (.int .i64 q.v)).setCell ⟨g + 1, 5, none⟩ (.int .i64 q.fr)).setCell ⟨g + 1, 6, none⟩ (.int .i64 q.to)).setCell ⟨g + 1, 7, none⟩ (.slice na q.wh.length nc)).setCell ⟨g + 1, 8, none⟩ (.slice ca q.cols.length cc)).setCell ⟨g + 1, 9, none⟩ (.int .i64 q.limit)).setCell ⟨g + 1, 10, none⟩ (.bool q.desc)) 28 g q (.slice ka q.key.length kc) (.slice wa q.wh.length wc) (.slice ca q.cols.length cc)) := BQ.upd1 BA21.out u (by omega)
  have BZ22 : Hid (Var (((((((((((w21.setCell ⟨g + 1, 0, none⟩ (.int .i64 q.kind)).setCell ⟨g + 1, 1, none⟩ (.string q.table)).setCell ⟨g + 1, 2, none⟩ (.slice ka q.key.length kc)).setCell ⟨g + 1, 3, none⟩ (.int .i64 q.t)).setCell ⟨g + 1, 4, none⟩ (.int .i64 q.v)).setCell ⟨g + 1, 5, none⟩ (.int .i64 q.fr)).setCell ⟨g + 1, 6, none⟩ (.int .i64 q.to)).setCell ⟨g + 1, 7, none⟩ (.slice na q.wh.length nc)).setCell ⟨g + 1, 8, none⟩ (.slice ca q.cols.length cc)).setCell ⟨g + 1, 9, none⟩ (.int .i64 q.limit)).setCell ⟨g + 1, 10, none⟩ (.bool q.desc)) (g + 1) #[.int .i64 q.kind, .string q.table, .slice ka q.key.length kc, .int .i64 q.t, .int .i64 q.v, .int .i64 q.fr, .int .i64 q.to, .slice na q.wh.length nc, .slice ca q.cols.length cc, .int .i64 q.limit, .bool q.desc] 39) := set11 _ _ _ _ _ _ _ _ _ _ _ _ _ _ _ _ _ _ _ _ _ _ BZ21.out
  have L22 : Hid (Below w.heap.size w (((((((((((w21.setCell ⟨g + 1, 0, none⟩ (.int .i64 q.kind)).setCell ⟨g + 1, 1, none⟩ (.string q.table)).setCell ⟨g + 1, 2, none⟩ (.slice ka q.key.length kc)).setCell ⟨g + 1, 3, none⟩ (.int .i64 q.t)).setCell ⟨g + 1, 4, none⟩ (.int .i64 q.v)).setCell ⟨g + 1, 5, none⟩ (.int .i64 q.fr)).setCell ⟨g + 1, 6, none⟩ (.int .i64 q.to)).setCell ⟨g + 1, 7, none⟩ (.slice na q.wh.length nc)).setCell ⟨g + 1, 8, none⟩ (.slice ca q.cols.length cc)).setCell ⟨g + 1, 9, none⟩ (.int .i64 q.limit)).setCell ⟨g + 1, 10, none⟩ (.bool q.desc))) := Upd.below L21.out u (by omega) L21.out.size
  have HN22 : Hid (NsAt (((((((((((w21.setCell ⟨g + 1, 0, none⟩ (.int .i64 q.kind)).setCell ⟨g + 1, 1, none⟩ (.string q.table)).setCell ⟨g + 1, 2, none⟩ (.slice ka q.key.length kc)).setCell ⟨g + 1, 3, none⟩ (.int .i64 q.t)).setCell ⟨g + 1, 4, none⟩ (.int .i64 q.v)).setCell ⟨g + 1, 5, none⟩ (.int .i64 q.fr)).setCell ⟨g + 1, 6, none⟩ (.int .i64 q.to)).setCell ⟨g + 1, 7, none⟩ (.slice na q.wh.length nc)).setCell ⟨g + 1, 8, none⟩ (.slice ca q.cols.length cc)).setCell ⟨g + 1, 9, none⟩ (.int .i64 q.limit)).setCell ⟨g + 1, 10, none⟩ (.bool q.desc)) (.slice na q.wh.length nc) q.wh) := NsAt.own (own_setO (r := g + 1) (o := 10) (u := .bool q.desc) (own_setO (r := g + 1) (o := 9) (u := .int .i64 q.limit) (own_setO (r := g + 1) (o := 8) (u := .slice ca q.cols.length cc) (own_setO (r := g + 1) (o := 7) (u := .slice na q.wh.length nc) (own_setO (r := g + 1) (o := 6) (u := .int .i64 q.to) (own_setO (r := g + 1) (o := 5) (u := .int .i64 q.fr) (own_setO (r := g + 1) (o := 4) (u := .int .i64 q.v) (own_setO (r := g + 1) (o := 3) (u := .int .i64 q.t) (own_setO (r := g + 1) (o := 2) (u := .slice ka q.key.length kc) (own_setO (r := g + 1) (o := 1) (u := .string q.table) (own_setO (r := g + 1) (o := 0) (u := .int .i64 q.kind) HO.out hlt.out) hlt.out) hlt.out) hlt.out) hlt.out) hlt.out) hlt.out) hlt.out) hlt.out) hlt.out) hlt.out)
  generalize (((((((((((w21.setCell ⟨g + 1, 0, none⟩ (.int .i64 q.kind)).setCell ⟨g + 1, 1, none⟩ (.string q.table)).setCell ⟨g + 1, 2, none⟩ (.slice ka q.key.length kc)).setCell ⟨g + 1, 3, none⟩ (.int .i64 q.t)).setCell ⟨g + 1, 4, none⟩ (.int .i64 q.v)).setCell ⟨g + 1, 5, none⟩ (.int .i64 q.fr)).setCell ⟨g + 1, 6, none⟩ (.int .i64 q.to)).setCell ⟨g + 1, 7, none⟩ (.slice na q.wh.length nc)).setCell ⟨g + 1, 8, none⟩ (.slice ca q.cols.length cc)).setCell ⟨g + 1, 9, none⟩ (.int .i64 q.limit)).setCell ⟨g + 1, 10, none⟩ (.bool q.desc)) = w22 at BA22 BZ22 L22 HN22 ⊢
  obtain ⟨c0, c1, c2, c3, c4, c5, c6, c7, c8, c9, c10, cl⟩ := BA22.out.cells
  refine hK.out _ _ ⟨c0, c1, c2, c3, c4, c5, c6, c7, c8, c9, c10⟩ (fun _ => ?_)
  clear hK K
  (try simp only [Act.put, List.setIfInBounds_toArray, List.set_cons_zero, List.set_cons_succ])
  refine wpAnyH_done (by kernel_rfl) ?_ _
  clear c0 c1 c2 c3 c4 c5 c6 c7 c8 c9 c10 cl
  have z0 : w22.cell? ⟨g + 1, 0, none⟩ = some (.int .i64 q.kind) := BZ22.out.cell 0
  have z1 : w22.cell? ⟨g + 1, 1, none⟩ = some (.string q.table) := BZ22.out.cell 1
  have z2 : w22.cell? ⟨g + 1, 2, none⟩ = some (.slice ka q.key.length kc) := BZ22.out.cell 2
  have z3 : w22.cell? ⟨g + 1, 3, none⟩ = some (.int .i64 q.t) := BZ22.out.cell 3
  have z4 : w22.cell? ⟨g + 1, 4, none⟩ = some (.int .i64 q.v) := BZ22.out.cell 4
  have z5 : w22.cell? ⟨g + 1, 5, none⟩ = some (.int .i64 q.fr) := BZ22.out.cell 5
  have z6 : w22.cell? ⟨g + 1, 6, none⟩ = some (.int .i64 q.to) := BZ22.out.cell 6
  have z7 : w22.cell? ⟨g + 1, 7, none⟩ = some (.slice na q.wh.length nc) := BZ22.out.cell 7
  have z8 : w22.cell? ⟨g + 1, 8, none⟩ = some (.slice ca q.cols.length cc) := BZ22.out.cell 8
  have z9 : w22.cell? ⟨g + 1, 9, none⟩ = some (.int .i64 q.limit) := BZ22.out.cell 9
  have z10 : w22.cell? ⟨g + 1, 10, none⟩ = some (.bool q.desc) := BZ22.out.cell 10
  go_wp2_with fail
  exact bodyPost_ret (v := .agg #[.int .i64 q.kind, .string q.table, .slice ka q.key.length kc, .int .i64 q.t, .int .i64 q.v, .int .i64 q.fr, .int .i64 q.to, .slice na q.wh.length nc, .slice ca q.cols.length cc, .int .i64 q.limit, .bool q.desc]) (by simp [results, Try.results11, go_sem, z0, z1, z2, z3, z4, z5, z6, z7, z8, z9, z10]) rfl ⟨.slice na q.wh.length nc, rfl, HN22.out, L22.out⟩
end Go.Proofs.Ytmcneelapghfcaa
