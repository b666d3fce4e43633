/-
  Which queries are right: contracts of the program. Condition: sizes that can stand in memory.
-/
import Derived.Test.YtmcneelapghfcaaRa
import Derived.Test.YtmcneelapghfcaaQb
import Derived.Test.YtmcneelapghfcaaPr
namespace Go.Proofs.Ytmcneelapghfcaa
open Go.RowKit Pd Qu

namespace Qu
theorem shape1 {s : Sc.S} {q : Q} (h : q.kind = 1) : shapeB s q = (decide (q.v = 0) && (decide (q.fr = 0 ∧ q.to = 0) && decide (q.key.length = 0))) := if_pos h
theorem shape2 {s : Sc.S} {q : Q} (h : q.kind = 2) : shapeB s q = (decide (0 ≤ q.v ∧ q.v < 1099511627776) && (decide (q.fr = 0 ∧ q.to = 0) && decide (q.key.length = 0))) := by unfold shapeB; rw [if_neg (by omega), if_pos h]
theorem shape3 {s : Sc.S} {q : Q} (h : q.kind = 3) : shapeB s q = (decide (q.t = 0) && (decide (q.v = 0) && (spanB q.fr q.to && keyedB s q.key))) := by unfold shapeB; rw [if_neg (by omega), if_neg (by omega), if_pos h]
theorem shape4 {s : Sc.S} {q : Q} (h : q.kind = 4) : shapeB s q = (decide (q.t = 0) && (decide (q.v = 0) && (decide (q.fr = 0 ∧ q.to = 0) && keyedB s q.key))) := by unfold shapeB; rw [if_neg (by omega), if_neg (by omega), if_neg (by omega), if_pos h]
theorem shape0 {s : Sc.S} {q : Q} (h1 : q.kind ≠ 1) (h2 : q.kind ≠ 2) (h3 : q.kind ≠ 3) (h4 : q.kind ≠ 4) : shapeB s q = false := by unfold shapeB; rw [if_neg h1, if_neg h2, if_neg h3, if_neg h4]
end Qu
set_option maxRecDepth 100000 in
set_option maxHeartbeats 6400000 in
theorem shaped_any (q : Q) (vk vw vc : Value) (s : Sc.S) (u : Value) (w : World) (hq : QIn w q vk vw vc) (hu : CsAt w u s.cols) (hok : ∀ x ∈ q.key, Vok x) (hkl : q.key.length ≤ maxLen) : Calls Try.prog 28 #[qv q vk vw vc, sv s u] w fun e w' => e = .returned (.bool (shapeB s q)) ∧ Below w.heap.size w w' := by
  obtain ⟨ka, kc, rfl⟩ := vs_slc hq.1
  obtain ⟨wa, wc, rfl⟩ := hq.2.1.slc
  obtain ⟨ca, cc, rfl⟩ := hq.2.2.slc
  obtain ⟨ua, uc, rfl⟩ := hu.slc
  obtain ⟨nm, cs, ky⟩ := s
  obtain ⟨kind, table, key, t, v, fr, to, wh, cols, limit, desc⟩ := q
  have b1 := hba w (.cells #[.int .i64 kind, .string table, .slice ka key.length kc, .int .i64 t, .int .i64 v, .int .i64 fr, .int .i64 to, .slice wa wh.length wc, .slice ca cols.length cc, .int .i64 limit, .bool desc] 28)
  have b2 := hba (w.alloc (.cells #[.int .i64 kind, .string table, .slice ka key.length kc, .int .i64 t, .int .i64 v, .int .i64 fr, .int .i64 to, .slice wa wh.length wc, .slice ca cols.length cc, .int .i64 limit, .bool desc] 28)) (.cells #[.string nm, .slice ua cs.length uc, .int .i64 ky] 31)
  have L := hid (hnext b1 b2)
  have BX := hid ((BQ.new w 28 ⟨kind, table, key, t, v, fr, to, wh, cols, limit, desc⟩ (.slice ka key.length kc) (.slice wa wh.length wc) (.slice ca cols.length cc)).keep b2)
  have BS0 := BS3.new (w.alloc (.cells #[.int .i64 kind, .string table, .slice ka key.length kc, .int .i64 t, .int .i64 v, .int .i64 fr, .int .i64 to, .slice wa wh.length wc, .slice ca cols.length cc, .int .i64 limit, .bool desc] 28)) ⟨nm, cs, ky⟩ (.slice ua cs.length uc)
  rw [show (w.alloc (.cells #[.int .i64 kind, .string table, .slice ka key.length kc, .int .i64 t, .int .i64 v, .int .i64 fr, .int .i64 to, .slice wa wh.length wc, .slice ca cols.length cc, .int .i64 limit, .bool desc] 28)).heap.size = w.heap.size + 1 by simp] at BS0
  have BS := hid BS0
  have HK := hid (hq.1.below L.out)
  have HW := hid (hq.2.1.below L.out)
  have HC := hid (hq.2.2.below L.out)
  have HU := hid (hu.below L.out)
  clear b1 b2 BS0 hq hu
  unfold qv sv
  simp only at HK HW HC HU ⊢
  obtain ⟨c0, c1, c2, c3, c4, c5, c6, c7, c8, c9, c10, cl⟩ := BX.out.cells
  obtain ⟨s0, s1, s2, sl⟩ := BS.out.cells
  simp only at c0 c1 c2 c3 c4 c5 c6 c7 c8 c9 c10 s0 s1 s2
  clear cl sl
  by_cases hk2 : kind = 2
  case pos =>
    subst hk2
    by_cases hv1 : 0 ≤ v
    case neg =>
      have hv1' : ¬ 0 ≤ v := hv1
      have hsp := sp_eql fr to 0 0 _ rfl
      have HR : Hid (shapeB ⟨nm, cs, ky⟩ ⟨2, table, key, t, v, fr, to, wh, cols, limit, desc⟩ = false) := by show _ = _; rw [shape2 rfl]; simp [hv1]
      (try clear hs)
      (try clear hv)
      (try clear ht)
      (try clear hk)
      (try clear hv1)
      (try clear hv2)
      (try clear hsr)
      go_enter Try.func28, Try.ntmps28
      go_wp2_with fail
      obtain ⟨w0, hw0⟩ : ∃ w0, ((w.alloc (.cells #[.int .i64 2, .string table, .slice ka key.length kc, .int .i64 t, .int .i64 v, .int .i64 fr, .int .i64 to, .slice wa wh.length wc, .slice ca cols.length cc, .int .i64 limit, .bool desc] 28)).alloc (.cells #[.string nm, .slice ua cs.length uc, .int .i64 ky] 31)) = w0 := ⟨_, rfl⟩
      rw [hw0] at c3 c4 c5 c6 BX BS HK HU L
      (try rw [hw0])
      obtain ⟨w20, hw20⟩ : ∃ w20, (w0).drew = w20 := ⟨_, rfl⟩
      have hd20 : Below (w0).heap.size (w0) w20 := hw20 ▸ (Below.refl _ _).drew
      have mk20 : ∀ W, Below w20.heap.size w20 W → Below w20.heap.size w20 W ∧ W.cell? ⟨w.heap.size, 3, none⟩ = some (.int .i64 t) ∧ W.cell? ⟨w.heap.size, 4, none⟩ = some (.int .i64 v) ∧ W.cell? ⟨w.heap.size, 5, none⟩ = some (.int .i64 fr) ∧ W.cell? ⟨w.heap.size, 6, none⟩ = some (.int .i64 to) := fun W h => ⟨h, hkeep (hkeep c3 hd20) h, hkeep (hkeep c4 hd20) h, hkeep (hkeep c5 hd20) h, hkeep (hkeep c6 hd20) h⟩
      clear c0 c1 c2 c3 c4 c5 c6 c7 c8 c9 c10 s0 s1 s2
      refine wp_region_held_drew (S := (fun W => Below w20.heap.size w20 W ∧ W.cell? ⟨w.heap.size, 3, none⟩ = some (.int .i64 t) ∧ W.cell? ⟨w.heap.size, 4, none⟩ = some (.int .i64 v) ∧ W.cell? ⟨w.heap.size, 5, none⟩ = some (.int .i64 fr) ∧ W.cell? ⟨w.heap.size, 6, none⟩ = some (.int .i64 to))) (by kernel_rfl) (by rw [hw20]; exact mk20 _ (Below.refl _ _)) (fun hS20 => ?_)
      rw [hw20] at hS20 ⊢
      clear hw20
      refine wT 0 hS20 ?_
      refine wT 1 hS20 ?_
      refine wT 2 hS20 ?_
      refine wT 3 hS20 ?_
      refine wT 4 hS20 ?_
      refine wT 5 hS20 ?_
      refine wT 6 hS20 ?_
      refine wT 7 hS20 ?_
      refine wT 8 hS20 ?_
      refine wT 9 hS20 ?_
      refine wT 10 hS20 ?_
      refine wT 11 hS20 ?_
      refine wT 12 hS20 ?_
      refine wpAnyH_done (by kernel_rfl) ?_ _
      replace BX := hid (BX.out.keep hd20)
      replace BS := hid (BS.out.keep hd20)
      replace HK := hid (HK.out.below hd20)
      replace HU := hid (HU.out.below hd20)
      replace L := hid (hnext L.out hd20)
      clear hd20 mk20 hS20
      obtain ⟨c0, c1, c2, c3, c4, c5, c6, c7, c8, c9, c10, cl⟩ := BX.out.cells
      obtain ⟨s0, s1, s2, sl⟩ := BS.out.cells
      simp only at c0 c1 c2 c3 c4 c5 c6 c7 c8 c9 c10 s0 s1 s2
      clear cl sl
      go_wp2_with fail
      go_ret
      rw [HR.out]
      exact ⟨rfl, L.out⟩
    have hv1' : 0 ≤ v := hv1
    by_cases hv2 : v < 1099511627776
    case neg =>
      have hv2' : ¬ v < 1099511627776 := hv2
      have hsp := sp_eql fr to 0 0 _ rfl
      have HR : Hid (shapeB ⟨nm, cs, ky⟩ ⟨2, table, key, t, v, fr, to, wh, cols, limit, desc⟩ = false) := by show _ = _; rw [shape2 rfl]; simp [hv1, hv2]
      (try clear hs)
      (try clear hv)
      (try clear ht)
      (try clear hk)
      (try clear hv1)
      (try clear hv2)
      (try clear hsr)
      go_enter Try.func28, Try.ntmps28
      go_wp2_with fail
      obtain ⟨w0, hw0⟩ : ∃ w0, ((w.alloc (.cells #[.int .i64 2, .string table, .slice ka key.length kc, .int .i64 t, .int .i64 v, .int .i64 fr, .int .i64 to, .slice wa wh.length wc, .slice ca cols.length cc, .int .i64 limit, .bool desc] 28)).alloc (.cells #[.string nm, .slice ua cs.length uc, .int .i64 ky] 31)) = w0 := ⟨_, rfl⟩
      rw [hw0] at c3 c4 c5 c6 BX BS HK HU L
      (try rw [hw0])
      obtain ⟨w20, hw20⟩ : ∃ w20, (w0).drew = w20 := ⟨_, rfl⟩
      have hd20 : Below (w0).heap.size (w0) w20 := hw20 ▸ (Below.refl _ _).drew
      have mk20 : ∀ W, Below w20.heap.size w20 W → Below w20.heap.size w20 W ∧ W.cell? ⟨w.heap.size, 3, none⟩ = some (.int .i64 t) ∧ W.cell? ⟨w.heap.size, 4, none⟩ = some (.int .i64 v) ∧ W.cell? ⟨w.heap.size, 5, none⟩ = some (.int .i64 fr) ∧ W.cell? ⟨w.heap.size, 6, none⟩ = some (.int .i64 to) := fun W h => ⟨h, hkeep (hkeep c3 hd20) h, hkeep (hkeep c4 hd20) h, hkeep (hkeep c5 hd20) h, hkeep (hkeep c6 hd20) h⟩
      clear c0 c1 c2 c3 c4 c5 c6 c7 c8 c9 c10 s0 s1 s2
      refine wp_region_held_drew (S := (fun W => Below w20.heap.size w20 W ∧ W.cell? ⟨w.heap.size, 3, none⟩ = some (.int .i64 t) ∧ W.cell? ⟨w.heap.size, 4, none⟩ = some (.int .i64 v) ∧ W.cell? ⟨w.heap.size, 5, none⟩ = some (.int .i64 fr) ∧ W.cell? ⟨w.heap.size, 6, none⟩ = some (.int .i64 to))) (by kernel_rfl) (by rw [hw20]; exact mk20 _ (Below.refl _ _)) (fun hS20 => ?_)
      rw [hw20] at hS20 ⊢
      clear hw20
      refine wT 0 hS20 ?_
      refine wT 1 hS20 ?_
      refine wT 2 hS20 ?_
      refine wT 3 hS20 ?_
      refine wT 4 hS20 ?_
      refine wT 5 hS20 ?_
      refine wT 6 hS20 ?_
      refine wT 7 hS20 ?_
      refine wT 8 hS20 ?_
      refine wT 9 hS20 ?_
      refine wT 10 hS20 ?_
      refine wT 11 hS20 ?_
      refine wT 12 hS20 ?_
      refine wpAnyH_done (by kernel_rfl) ?_ _
      replace BX := hid (BX.out.keep hd20)
      replace BS := hid (BS.out.keep hd20)
      replace HK := hid (HK.out.below hd20)
      replace HU := hid (HU.out.below hd20)
      replace L := hid (hnext L.out hd20)
      clear hd20 mk20 hS20
      obtain ⟨c0, c1, c2, c3, c4, c5, c6, c7, c8, c9, c10, cl⟩ := BX.out.cells
      obtain ⟨s0, s1, s2, sl⟩ := BS.out.cells
      simp only at c0 c1 c2 c3 c4 c5 c6 c7 c8 c9 c10 s0 s1 s2
      clear cl sl
      go_wp2_with fail
      go_ret
      rw [HR.out]
      exact ⟨rfl, L.out⟩
    have hv2' : v < 1099511627776 := hv2
    by_cases hs : fr = 0 ∧ to = 0
    case neg =>
      have hsp := sp_eql fr to 0 0 false (by rw [Bool.and_eq_false_iff]; by_cases hf : fr = 0; exact .inr (by rw [beq_eq_false_iff_ne]; exact fun h => hs ⟨hf, h⟩); exact .inl (by rw [beq_eq_false_iff_ne]; exact hf))
      have HR : Hid (shapeB ⟨nm, cs, ky⟩ ⟨2, table, key, t, v, fr, to, wh, cols, limit, desc⟩ = false) := by show _ = _; rw [shape2 rfl]; simp [hv1, hv2, hs]
      (try clear hs)
      (try clear hv)
      (try clear ht)
      (try clear hk)
      (try clear hv1)
      (try clear hv2)
      (try clear hsr)
      go_enter Try.func28, Try.ntmps28
      go_wp2_with fail
      obtain ⟨w0, hw0⟩ : ∃ w0, ((w.alloc (.cells #[.int .i64 2, .string table, .slice ka key.length kc, .int .i64 t, .int .i64 v, .int .i64 fr, .int .i64 to, .slice wa wh.length wc, .slice ca cols.length cc, .int .i64 limit, .bool desc] 28)).alloc (.cells #[.string nm, .slice ua cs.length uc, .int .i64 ky] 31)) = w0 := ⟨_, rfl⟩
      rw [hw0] at c3 c4 c5 c6 BX BS HK HU L
      (try rw [hw0])
      obtain ⟨w20, hw20⟩ : ∃ w20, (w0).drew = w20 := ⟨_, rfl⟩
      have hd20 : Below (w0).heap.size (w0) w20 := hw20 ▸ (Below.refl _ _).drew
      have mk20 : ∀ W, Below w20.heap.size w20 W → Below w20.heap.size w20 W ∧ W.cell? ⟨w.heap.size, 3, none⟩ = some (.int .i64 t) ∧ W.cell? ⟨w.heap.size, 4, none⟩ = some (.int .i64 v) ∧ W.cell? ⟨w.heap.size, 5, none⟩ = some (.int .i64 fr) ∧ W.cell? ⟨w.heap.size, 6, none⟩ = some (.int .i64 to) := fun W h => ⟨h, hkeep (hkeep c3 hd20) h, hkeep (hkeep c4 hd20) h, hkeep (hkeep c5 hd20) h, hkeep (hkeep c6 hd20) h⟩
      clear c0 c1 c2 c3 c4 c5 c6 c7 c8 c9 c10 s0 s1 s2
      refine wp_region_held_drew (S := (fun W => Below w20.heap.size w20 W ∧ W.cell? ⟨w.heap.size, 3, none⟩ = some (.int .i64 t) ∧ W.cell? ⟨w.heap.size, 4, none⟩ = some (.int .i64 v) ∧ W.cell? ⟨w.heap.size, 5, none⟩ = some (.int .i64 fr) ∧ W.cell? ⟨w.heap.size, 6, none⟩ = some (.int .i64 to))) (by kernel_rfl) (by rw [hw20]; exact mk20 _ (Below.refl _ _)) (fun hS20 => ?_)
      rw [hw20] at hS20 ⊢
      clear hw20
      refine wT 0 hS20 ?_
      refine wT 1 hS20 ?_
      refine wT 2 hS20 ?_
      refine wT 3 hS20 ?_
      refine wT 4 hS20 ?_
      refine wT 5 hS20 ?_
      refine wT 6 hS20 ?_
      refine wT 7 hS20 ?_
      refine wT 8 hS20 ?_
      refine wT 9 hS20 ?_
      refine wT 10 hS20 ?_
      refine wT 11 hS20 ?_
      refine wT 12 hS20 ?_
      refine wpAnyH_done (by kernel_rfl) ?_ _
      replace BX := hid (BX.out.keep hd20)
      replace BS := hid (BS.out.keep hd20)
      replace HK := hid (HK.out.below hd20)
      replace HU := hid (HU.out.below hd20)
      replace L := hid (hnext L.out hd20)
      clear hd20 mk20 hS20
      obtain ⟨c0, c1, c2, c3, c4, c5, c6, c7, c8, c9, c10, cl⟩ := BX.out.cells
      obtain ⟨s0, s1, s2, sl⟩ := BS.out.cells
      simp only at c0 c1 c2 c3 c4 c5 c6 c7 c8 c9 c10 s0 s1 s2
      clear cl sl
      go_wp2_with fail
      go_ret
      rw [HR.out]
      exact ⟨rfl, L.out⟩
    have hsp := sp_eql fr to 0 0 true (by rw [hs.1, hs.2]; rfl)
    by_cases hk : key.length = 0
    case neg =>
      have hk' : ((key.length : Int) == 0) = false := by rw [beq_eq_false_iff_ne]; omega
      have HR : Hid (shapeB ⟨nm, cs, ky⟩ ⟨2, table, key, t, v, fr, to, wh, cols, limit, desc⟩ = false) := by show _ = _; rw [shape2 rfl]; simp [hv1, hv2, hs, hk]
      (try clear hs)
      (try clear hv)
      (try clear ht)
      (try clear hk)
      (try clear hv1)
      (try clear hv2)
      (try clear hsr)
      go_enter Try.func28, Try.ntmps28
      go_wp2_with fail
      obtain ⟨w0, hw0⟩ : ∃ w0, ((w.alloc (.cells #[.int .i64 2, .string table, .slice ka key.length kc, .int .i64 t, .int .i64 v, .int .i64 fr, .int .i64 to, .slice wa wh.length wc, .slice ca cols.length cc, .int .i64 limit, .bool desc] 28)).alloc (.cells #[.string nm, .slice ua cs.length uc, .int .i64 ky] 31)) = w0 := ⟨_, rfl⟩
      rw [hw0] at c3 c4 c5 c6 BX BS HK HU L
      (try rw [hw0])
      obtain ⟨w20, hw20⟩ : ∃ w20, (w0).drew = w20 := ⟨_, rfl⟩
      have hd20 : Below (w0).heap.size (w0) w20 := hw20 ▸ (Below.refl _ _).drew
      have mk20 : ∀ W, Below w20.heap.size w20 W → Below w20.heap.size w20 W ∧ W.cell? ⟨w.heap.size, 3, none⟩ = some (.int .i64 t) ∧ W.cell? ⟨w.heap.size, 4, none⟩ = some (.int .i64 v) ∧ W.cell? ⟨w.heap.size, 5, none⟩ = some (.int .i64 fr) ∧ W.cell? ⟨w.heap.size, 6, none⟩ = some (.int .i64 to) := fun W h => ⟨h, hkeep (hkeep c3 hd20) h, hkeep (hkeep c4 hd20) h, hkeep (hkeep c5 hd20) h, hkeep (hkeep c6 hd20) h⟩
      clear c0 c1 c2 c3 c4 c5 c6 c7 c8 c9 c10 s0 s1 s2
      refine wp_region_held_drew (S := (fun W => Below w20.heap.size w20 W ∧ W.cell? ⟨w.heap.size, 3, none⟩ = some (.int .i64 t) ∧ W.cell? ⟨w.heap.size, 4, none⟩ = some (.int .i64 v) ∧ W.cell? ⟨w.heap.size, 5, none⟩ = some (.int .i64 fr) ∧ W.cell? ⟨w.heap.size, 6, none⟩ = some (.int .i64 to))) (by kernel_rfl) (by rw [hw20]; exact mk20 _ (Below.refl _ _)) (fun hS20 => ?_)
      rw [hw20] at hS20 ⊢
      clear hw20
      refine wT 0 hS20 ?_
      refine wT 1 hS20 ?_
      refine wT 2 hS20 ?_
      refine wT 3 hS20 ?_
      refine wT 4 hS20 ?_
      refine wT 5 hS20 ?_
      refine wT 6 hS20 ?_
      refine wT 7 hS20 ?_
      refine wT 8 hS20 ?_
      refine wT 9 hS20 ?_
      refine wT 10 hS20 ?_
      refine wT 11 hS20 ?_
      refine wT 12 hS20 ?_
      refine wpAnyH_done (by kernel_rfl) ?_ _
      replace BX := hid (BX.out.keep hd20)
      replace BS := hid (BS.out.keep hd20)
      replace HK := hid (HK.out.below hd20)
      replace HU := hid (HU.out.below hd20)
      replace L := hid (hnext L.out hd20)
      clear hd20 mk20 hS20
      obtain ⟨c0, c1, c2, c3, c4, c5, c6, c7, c8, c9, c10, cl⟩ := BX.out.cells
      obtain ⟨s0, s1, s2, sl⟩ := BS.out.cells
      simp only at c0 c1 c2 c3 c4 c5 c6 c7 c8 c9 c10 s0 s1 s2
      clear cl sl
      go_wp2_with fail
      go_ret
      rw [HR.out]
      exact ⟨rfl, L.out⟩
    have hk' : ((key.length : Int) == 0) = true := by rw [hk]; rfl
    have HR : Hid (shapeB ⟨nm, cs, ky⟩ ⟨2, table, key, t, v, fr, to, wh, cols, limit, desc⟩ = true) := by show _ = _; rw [shape2 rfl]; simp [hv1, hv2, hs, hk]
    (try clear hs)
    (try clear hv)
    (try clear ht)
    (try clear hk)
    (try clear hv1)
    (try clear hv2)
    (try clear hsr)
    go_enter Try.func28, Try.ntmps28
    go_wp2_with fail
    obtain ⟨w0, hw0⟩ : ∃ w0, ((w.alloc (.cells #[.int .i64 2, .string table, .slice ka key.length kc, .int .i64 t, .int .i64 v, .int .i64 fr, .int .i64 to, .slice wa wh.length wc, .slice ca cols.length cc, .int .i64 limit, .bool desc] 28)).alloc (.cells #[.string nm, .slice ua cs.length uc, .int .i64 ky] 31)) = w0 := ⟨_, rfl⟩
    rw [hw0] at c3 c4 c5 c6 BX BS HK HU L
    (try rw [hw0])
    obtain ⟨w20, hw20⟩ : ∃ w20, (w0).drew = w20 := ⟨_, rfl⟩
    have hd20 : Below (w0).heap.size (w0) w20 := hw20 ▸ (Below.refl _ _).drew
    have mk20 : ∀ W, Below w20.heap.size w20 W → Below w20.heap.size w20 W ∧ W.cell? ⟨w.heap.size, 3, none⟩ = some (.int .i64 t) ∧ W.cell? ⟨w.heap.size, 4, none⟩ = some (.int .i64 v) ∧ W.cell? ⟨w.heap.size, 5, none⟩ = some (.int .i64 fr) ∧ W.cell? ⟨w.heap.size, 6, none⟩ = some (.int .i64 to) := fun W h => ⟨h, hkeep (hkeep c3 hd20) h, hkeep (hkeep c4 hd20) h, hkeep (hkeep c5 hd20) h, hkeep (hkeep c6 hd20) h⟩
    clear c0 c1 c2 c3 c4 c5 c6 c7 c8 c9 c10 s0 s1 s2
    refine wp_region_held_drew (S := (fun W => Below w20.heap.size w20 W ∧ W.cell? ⟨w.heap.size, 3, none⟩ = some (.int .i64 t) ∧ W.cell? ⟨w.heap.size, 4, none⟩ = some (.int .i64 v) ∧ W.cell? ⟨w.heap.size, 5, none⟩ = some (.int .i64 fr) ∧ W.cell? ⟨w.heap.size, 6, none⟩ = some (.int .i64 to))) (by kernel_rfl) (by rw [hw20]; exact mk20 _ (Below.refl _ _)) (fun hS20 => ?_)
    rw [hw20] at hS20 ⊢
    clear hw20
    refine wT 0 hS20 ?_
    refine wT 1 hS20 ?_
    refine wT 2 hS20 ?_
    refine wT 3 hS20 ?_
    refine wT 4 hS20 ?_
    refine wT 5 hS20 ?_
    refine wT 6 hS20 ?_
    refine wT 7 hS20 ?_
    refine wT 8 hS20 ?_
    refine wT 9 hS20 ?_
    refine wT 10 hS20 ?_
    refine wT 11 hS20 ?_
    refine wT 12 hS20 ?_
    refine wpAnyH_done (by kernel_rfl) ?_ _
    replace BX := hid (BX.out.keep hd20)
    replace BS := hid (BS.out.keep hd20)
    replace HK := hid (HK.out.below hd20)
    replace HU := hid (HU.out.below hd20)
    replace L := hid (hnext L.out hd20)
    clear hd20 mk20 hS20
    obtain ⟨c0, c1, c2, c3, c4, c5, c6, c7, c8, c9, c10, cl⟩ := BX.out.cells
    obtain ⟨s0, s1, s2, sl⟩ := BS.out.cells
    simp only at c0 c1 c2 c3 c4 c5 c6 c7 c8 c9 c10 s0 s1 s2
    clear cl sl
    go_wp2_with fail
    go_ret
    rw [HR.out]
    exact ⟨rfl, L.out⟩
  have hk2' : (kind == 2) = false := by simpa using hk2
  by_cases hk1 : kind = 1
  case pos =>
    subst hk1
    by_cases hv : v = 0
    case neg =>
      have hv' : (v == 0) = false := by simpa using hv
      have hsp := sp_eql fr to 0 0 _ rfl
      have HR : Hid (shapeB ⟨nm, cs, ky⟩ ⟨1, table, key, t, v, fr, to, wh, cols, limit, desc⟩ = false) := by show _ = _; rw [shape1 rfl]; simp [hv]
      (try clear hs)
      (try clear hv)
      (try clear ht)
      (try clear hk)
      (try clear hv1)
      (try clear hv2)
      (try clear hsr)
      go_enter Try.func28, Try.ntmps28
      go_wp2_with fail
      obtain ⟨w0, hw0⟩ : ∃ w0, ((w.alloc (.cells #[.int .i64 1, .string table, .slice ka key.length kc, .int .i64 t, .int .i64 v, .int .i64 fr, .int .i64 to, .slice wa wh.length wc, .slice ca cols.length cc, .int .i64 limit, .bool desc] 28)).alloc (.cells #[.string nm, .slice ua cs.length uc, .int .i64 ky] 31)) = w0 := ⟨_, rfl⟩
      rw [hw0] at c3 c4 c5 c6 BX BS HK HU L
      (try rw [hw0])
      obtain ⟨w20, hw20⟩ : ∃ w20, (w0).drew = w20 := ⟨_, rfl⟩
      have hd20 : Below (w0).heap.size (w0) w20 := hw20 ▸ (Below.refl _ _).drew
      have mk20 : ∀ W, Below w20.heap.size w20 W → Below w20.heap.size w20 W ∧ W.cell? ⟨w.heap.size, 3, none⟩ = some (.int .i64 t) ∧ W.cell? ⟨w.heap.size, 4, none⟩ = some (.int .i64 v) ∧ W.cell? ⟨w.heap.size, 5, none⟩ = some (.int .i64 fr) ∧ W.cell? ⟨w.heap.size, 6, none⟩ = some (.int .i64 to) := fun W h => ⟨h, hkeep (hkeep c3 hd20) h, hkeep (hkeep c4 hd20) h, hkeep (hkeep c5 hd20) h, hkeep (hkeep c6 hd20) h⟩
      clear c0 c1 c2 c3 c4 c5 c6 c7 c8 c9 c10 s0 s1 s2
      refine wp_region_held_drew (S := (fun W => Below w20.heap.size w20 W ∧ W.cell? ⟨w.heap.size, 3, none⟩ = some (.int .i64 t) ∧ W.cell? ⟨w.heap.size, 4, none⟩ = some (.int .i64 v) ∧ W.cell? ⟨w.heap.size, 5, none⟩ = some (.int .i64 fr) ∧ W.cell? ⟨w.heap.size, 6, none⟩ = some (.int .i64 to))) (by kernel_rfl) (by rw [hw20]; exact mk20 _ (Below.refl _ _)) (fun hS20 => ?_)
      rw [hw20] at hS20 ⊢
      clear hw20
      refine wT 0 hS20 ?_
      refine wT 1 hS20 ?_
      refine wT 2 hS20 ?_
      refine wT 3 hS20 ?_
      refine wT 4 hS20 ?_
      refine wT 5 hS20 ?_
      refine wT 6 hS20 ?_
      refine wT 7 hS20 ?_
      refine wT 8 hS20 ?_
      refine wT 9 hS20 ?_
      refine wT 10 hS20 ?_
      refine wT 11 hS20 ?_
      refine wT 12 hS20 ?_
      refine wpAnyH_done (by kernel_rfl) ?_ _
      replace BX := hid (BX.out.keep hd20)
      replace BS := hid (BS.out.keep hd20)
      replace HK := hid (HK.out.below hd20)
      replace HU := hid (HU.out.below hd20)
      replace L := hid (hnext L.out hd20)
      clear hd20 mk20 hS20
      obtain ⟨c0, c1, c2, c3, c4, c5, c6, c7, c8, c9, c10, cl⟩ := BX.out.cells
      obtain ⟨s0, s1, s2, sl⟩ := BS.out.cells
      simp only at c0 c1 c2 c3 c4 c5 c6 c7 c8 c9 c10 s0 s1 s2
      clear cl sl
      go_wp2_with fail
      go_ret
      rw [HR.out]
      exact ⟨rfl, L.out⟩
    have hv' : (v == 0) = true := by simpa using hv
    by_cases hs : fr = 0 ∧ to = 0
    case neg =>
      have hsp := sp_eql fr to 0 0 false (by rw [Bool.and_eq_false_iff]; by_cases hf : fr = 0; exact .inr (by rw [beq_eq_false_iff_ne]; exact fun h => hs ⟨hf, h⟩); exact .inl (by rw [beq_eq_false_iff_ne]; exact hf))
      have HR : Hid (shapeB ⟨nm, cs, ky⟩ ⟨1, table, key, t, v, fr, to, wh, cols, limit, desc⟩ = false) := by show _ = _; rw [shape1 rfl]; simp [hv, hs]
      (try clear hs)
      (try clear hv)
      (try clear ht)
      (try clear hk)
      (try clear hv1)
      (try clear hv2)
      (try clear hsr)
      go_enter Try.func28, Try.ntmps28
      go_wp2_with fail
      obtain ⟨w0, hw0⟩ : ∃ w0, ((w.alloc (.cells #[.int .i64 1, .string table, .slice ka key.length kc, .int .i64 t, .int .i64 v, .int .i64 fr, .int .i64 to, .slice wa wh.length wc, .slice ca cols.length cc, .int .i64 limit, .bool desc] 28)).alloc (.cells #[.string nm, .slice ua cs.length uc, .int .i64 ky] 31)) = w0 := ⟨_, rfl⟩
      rw [hw0] at c3 c4 c5 c6 BX BS HK HU L
      (try rw [hw0])
      obtain ⟨w20, hw20⟩ : ∃ w20, (w0).drew = w20 := ⟨_, rfl⟩
      have hd20 : Below (w0).heap.size (w0) w20 := hw20 ▸ (Below.refl _ _).drew
      have mk20 : ∀ W, Below w20.heap.size w20 W → Below w20.heap.size w20 W ∧ W.cell? ⟨w.heap.size, 3, none⟩ = some (.int .i64 t) ∧ W.cell? ⟨w.heap.size, 4, none⟩ = some (.int .i64 v) ∧ W.cell? ⟨w.heap.size, 5, none⟩ = some (.int .i64 fr) ∧ W.cell? ⟨w.heap.size, 6, none⟩ = some (.int .i64 to) := fun W h => ⟨h, hkeep (hkeep c3 hd20) h, hkeep (hkeep c4 hd20) h, hkeep (hkeep c5 hd20) h, hkeep (hkeep c6 hd20) h⟩
      clear c0 c1 c2 c3 c4 c5 c6 c7 c8 c9 c10 s0 s1 s2
      refine wp_region_held_drew (S := (fun W => Below w20.heap.size w20 W ∧ W.cell? ⟨w.heap.size, 3, none⟩ = some (.int .i64 t) ∧ W.cell? ⟨w.heap.size, 4, none⟩ = some (.int .i64 v) ∧ W.cell? ⟨w.heap.size, 5, none⟩ = some (.int .i64 fr) ∧ W.cell? ⟨w.heap.size, 6, none⟩ = some (.int .i64 to))) (by kernel_rfl) (by rw [hw20]; exact mk20 _ (Below.refl _ _)) (fun hS20 => ?_)
      rw [hw20] at hS20 ⊢
      clear hw20
      refine wT 0 hS20 ?_
      refine wT 1 hS20 ?_
      refine wT 2 hS20 ?_
      refine wT 3 hS20 ?_
      refine wT 4 hS20 ?_
      refine wT 5 hS20 ?_
      refine wT 6 hS20 ?_
      refine wT 7 hS20 ?_
      refine wT 8 hS20 ?_
      refine wT 9 hS20 ?_
      refine wT 10 hS20 ?_
      refine wT 11 hS20 ?_
      refine wT 12 hS20 ?_
      refine wpAnyH_done (by kernel_rfl) ?_ _
      replace BX := hid (BX.out.keep hd20)
      replace BS := hid (BS.out.keep hd20)
      replace HK := hid (HK.out.below hd20)
      replace HU := hid (HU.out.below hd20)
      replace L := hid (hnext L.out hd20)
      clear hd20 mk20 hS20
      obtain ⟨c0, c1, c2, c3, c4, c5, c6, c7, c8, c9, c10, cl⟩ := BX.out.cells
      obtain ⟨s0, s1, s2, sl⟩ := BS.out.cells
      simp only at c0 c1 c2 c3 c4 c5 c6 c7 c8 c9 c10 s0 s1 s2
      clear cl sl
      go_wp2_with fail
      go_ret
      rw [HR.out]
      exact ⟨rfl, L.out⟩
    have hsp := sp_eql fr to 0 0 true (by rw [hs.1, hs.2]; rfl)
    by_cases hk : key.length = 0
    case neg =>
      have hk' : ((key.length : Int) == 0) = false := by rw [beq_eq_false_iff_ne]; omega
      have HR : Hid (shapeB ⟨nm, cs, ky⟩ ⟨1, table, key, t, v, fr, to, wh, cols, limit, desc⟩ = false) := by show _ = _; rw [shape1 rfl]; simp [hv, hs, hk]
      (try clear hs)
      (try clear hv)
      (try clear ht)
      (try clear hk)
      (try clear hv1)
      (try clear hv2)
      (try clear hsr)
      go_enter Try.func28, Try.ntmps28
      go_wp2_with fail
      obtain ⟨w0, hw0⟩ : ∃ w0, ((w.alloc (.cells #[.int .i64 1, .string table, .slice ka key.length kc, .int .i64 t, .int .i64 v, .int .i64 fr, .int .i64 to, .slice wa wh.length wc, .slice ca cols.length cc, .int .i64 limit, .bool desc] 28)).alloc (.cells #[.string nm, .slice ua cs.length uc, .int .i64 ky] 31)) = w0 := ⟨_, rfl⟩
      rw [hw0] at c3 c4 c5 c6 BX BS HK HU L
      (try rw [hw0])
      obtain ⟨w20, hw20⟩ : ∃ w20, (w0).drew = w20 := ⟨_, rfl⟩
      have hd20 : Below (w0).heap.size (w0) w20 := hw20 ▸ (Below.refl _ _).drew
      have mk20 : ∀ W, Below w20.heap.size w20 W → Below w20.heap.size w20 W ∧ W.cell? ⟨w.heap.size, 3, none⟩ = some (.int .i64 t) ∧ W.cell? ⟨w.heap.size, 4, none⟩ = some (.int .i64 v) ∧ W.cell? ⟨w.heap.size, 5, none⟩ = some (.int .i64 fr) ∧ W.cell? ⟨w.heap.size, 6, none⟩ = some (.int .i64 to) := fun W h => ⟨h, hkeep (hkeep c3 hd20) h, hkeep (hkeep c4 hd20) h, hkeep (hkeep c5 hd20) h, hkeep (hkeep c6 hd20) h⟩
      clear c0 c1 c2 c3 c4 c5 c6 c7 c8 c9 c10 s0 s1 s2
      refine wp_region_held_drew (S := (fun W => Below w20.heap.size w20 W ∧ W.cell? ⟨w.heap.size, 3, none⟩ = some (.int .i64 t) ∧ W.cell? ⟨w.heap.size, 4, none⟩ = some (.int .i64 v) ∧ W.cell? ⟨w.heap.size, 5, none⟩ = some (.int .i64 fr) ∧ W.cell? ⟨w.heap.size, 6, none⟩ = some (.int .i64 to))) (by kernel_rfl) (by rw [hw20]; exact mk20 _ (Below.refl _ _)) (fun hS20 => ?_)
      rw [hw20] at hS20 ⊢
      clear hw20
      refine wT 0 hS20 ?_
      refine wT 1 hS20 ?_
      refine wT 2 hS20 ?_
      refine wT 3 hS20 ?_
      refine wT 4 hS20 ?_
      refine wT 5 hS20 ?_
      refine wT 6 hS20 ?_
      refine wT 7 hS20 ?_
      refine wT 8 hS20 ?_
      refine wT 9 hS20 ?_
      refine wT 10 hS20 ?_
      refine wT 11 hS20 ?_
      refine wT 12 hS20 ?_
      refine wpAnyH_done (by kernel_rfl) ?_ _
      replace BX := hid (BX.out.keep hd20)
      replace BS := hid (BS.out.keep hd20)
      replace HK := hid (HK.out.below hd20)
      replace HU := hid (HU.out.below hd20)
      replace L := hid (hnext L.out hd20)
      clear hd20 mk20 hS20
      obtain ⟨c0, c1, c2, c3, c4, c5, c6, c7, c8, c9, c10, cl⟩ := BX.out.cells
      obtain ⟨s0, s1, s2, sl⟩ := BS.out.cells
      simp only at c0 c1 c2 c3 c4 c5 c6 c7 c8 c9 c10 s0 s1 s2
      clear cl sl
      go_wp2_with fail
      go_ret
      rw [HR.out]
      exact ⟨rfl, L.out⟩
    have hk' : ((key.length : Int) == 0) = true := by rw [hk]; rfl
    have HR : Hid (shapeB ⟨nm, cs, ky⟩ ⟨1, table, key, t, v, fr, to, wh, cols, limit, desc⟩ = true) := by show _ = _; rw [shape1 rfl]; simp [hv, hs, hk]
    (try clear hs)
    (try clear hv)
    (try clear ht)
    (try clear hk)
    (try clear hv1)
    (try clear hv2)
    (try clear hsr)
    go_enter Try.func28, Try.ntmps28
    go_wp2_with fail
    obtain ⟨w0, hw0⟩ : ∃ w0, ((w.alloc (.cells #[.int .i64 1, .string table, .slice ka key.length kc, .int .i64 t, .int .i64 v, .int .i64 fr, .int .i64 to, .slice wa wh.length wc, .slice ca cols.length cc, .int .i64 limit, .bool desc] 28)).alloc (.cells #[.string nm, .slice ua cs.length uc, .int .i64 ky] 31)) = w0 := ⟨_, rfl⟩
    rw [hw0] at c3 c4 c5 c6 BX BS HK HU L
    (try rw [hw0])
    obtain ⟨w20, hw20⟩ : ∃ w20, (w0).drew = w20 := ⟨_, rfl⟩
    have hd20 : Below (w0).heap.size (w0) w20 := hw20 ▸ (Below.refl _ _).drew
    have mk20 : ∀ W, Below w20.heap.size w20 W → Below w20.heap.size w20 W ∧ W.cell? ⟨w.heap.size, 3, none⟩ = some (.int .i64 t) ∧ W.cell? ⟨w.heap.size, 4, none⟩ = some (.int .i64 v) ∧ W.cell? ⟨w.heap.size, 5, none⟩ = some (.int .i64 fr) ∧ W.cell? ⟨w.heap.size, 6, none⟩ = some (.int .i64 to) := fun W h => ⟨h, hkeep (hkeep c3 hd20) h, hkeep (hkeep c4 hd20) h, hkeep (hkeep c5 hd20) h, hkeep (hkeep c6 hd20) h⟩
    clear c0 c1 c2 c3 c4 c5 c6 c7 c8 c9 c10 s0 s1 s2
    refine wp_region_held_drew (S := (fun W => Below w20.heap.size w20 W ∧ W.cell? ⟨w.heap.size, 3, none⟩ = some (.int .i64 t) ∧ W.cell? ⟨w.heap.size, 4, none⟩ = some (.int .i64 v) ∧ W.cell? ⟨w.heap.size, 5, none⟩ = some (.int .i64 fr) ∧ W.cell? ⟨w.heap.size, 6, none⟩ = some (.int .i64 to))) (by kernel_rfl) (by rw [hw20]; exact mk20 _ (Below.refl _ _)) (fun hS20 => ?_)
    rw [hw20] at hS20 ⊢
    clear hw20
    refine wT 0 hS20 ?_
    refine wT 1 hS20 ?_
    refine wT 2 hS20 ?_
    refine wT 3 hS20 ?_
    refine wT 4 hS20 ?_
    refine wT 5 hS20 ?_
    refine wT 6 hS20 ?_
    refine wT 7 hS20 ?_
    refine wT 8 hS20 ?_
    refine wT 9 hS20 ?_
    refine wT 10 hS20 ?_
    refine wT 11 hS20 ?_
    refine wT 12 hS20 ?_
    refine wpAnyH_done (by kernel_rfl) ?_ _
    replace BX := hid (BX.out.keep hd20)
    replace BS := hid (BS.out.keep hd20)
    replace HK := hid (HK.out.below hd20)
    replace HU := hid (HU.out.below hd20)
    replace L := hid (hnext L.out hd20)
    clear hd20 mk20 hS20
    obtain ⟨c0, c1, c2, c3, c4, c5, c6, c7, c8, c9, c10, cl⟩ := BX.out.cells
    obtain ⟨s0, s1, s2, sl⟩ := BS.out.cells
    simp only at c0 c1 c2 c3 c4 c5 c6 c7 c8 c9 c10 s0 s1 s2
    clear cl sl
    go_wp2_with fail
    go_ret
    rw [HR.out]
    exact ⟨rfl, L.out⟩
  have hk1' : (kind == 1) = false := by simpa using hk1
  by_cases hk3 : kind = 3
  case pos =>
    subst hk3
    by_cases ht : t = 0
    case neg =>
      have ht' : (t == 0) = false := by simpa using ht
      have hsp := sp_eql fr to 0 0 _ rfl
      have CSP := hid (fun W => sright_any fr to W)
      generalize spanB fr to = zz at CSP
      have HR : Hid (shapeB ⟨nm, cs, ky⟩ ⟨3, table, key, t, v, fr, to, wh, cols, limit, desc⟩ = false) := by show _ = _; rw [shape3 rfl]; simp [ht]
      (try clear hs)
      (try clear hv)
      (try clear ht)
      (try clear hk)
      (try clear hv1)
      (try clear hv2)
      (try clear hsr)
      go_enter Try.func28, Try.ntmps28
      go_wp2_with fail
      obtain ⟨w0, hw0⟩ : ∃ w0, ((w.alloc (.cells #[.int .i64 3, .string table, .slice ka key.length kc, .int .i64 t, .int .i64 v, .int .i64 fr, .int .i64 to, .slice wa wh.length wc, .slice ca cols.length cc, .int .i64 limit, .bool desc] 28)).alloc (.cells #[.string nm, .slice ua cs.length uc, .int .i64 ky] 31)) = w0 := ⟨_, rfl⟩
      rw [hw0] at c3 c4 c5 c6 BX BS HK HU L
      (try rw [hw0])
      obtain ⟨w20, hw20⟩ : ∃ w20, (w0).drew = w20 := ⟨_, rfl⟩
      have hd20 : Below (w0).heap.size (w0) w20 := hw20 ▸ (Below.refl _ _).drew
      have mk20 : ∀ W, Below w20.heap.size w20 W → Below w20.heap.size w20 W ∧ W.cell? ⟨w.heap.size, 3, none⟩ = some (.int .i64 t) ∧ W.cell? ⟨w.heap.size, 4, none⟩ = some (.int .i64 v) ∧ W.cell? ⟨w.heap.size, 5, none⟩ = some (.int .i64 fr) ∧ W.cell? ⟨w.heap.size, 6, none⟩ = some (.int .i64 to) := fun W h => ⟨h, hkeep (hkeep c3 hd20) h, hkeep (hkeep c4 hd20) h, hkeep (hkeep c5 hd20) h, hkeep (hkeep c6 hd20) h⟩
      clear c0 c1 c2 c3 c4 c5 c6 c7 c8 c9 c10 s0 s1 s2
      refine wp_region_held_drew (S := (fun W => Below w20.heap.size w20 W ∧ W.cell? ⟨w.heap.size, 3, none⟩ = some (.int .i64 t) ∧ W.cell? ⟨w.heap.size, 4, none⟩ = some (.int .i64 v) ∧ W.cell? ⟨w.heap.size, 5, none⟩ = some (.int .i64 fr) ∧ W.cell? ⟨w.heap.size, 6, none⟩ = some (.int .i64 to))) (by kernel_rfl) (by rw [hw20]; exact mk20 _ (Below.refl _ _)) (fun hS20 => ?_)
      rw [hw20] at hS20 ⊢
      clear hw20
      refine wT 0 hS20 ?_
      refine wT 1 hS20 ?_
      refine wT 2 hS20 ?_
      refine wT 3 hS20 ?_
      refine wT 4 hS20 ?_
      refine wT 5 hS20 ?_
      refine wT 6 hS20 ?_
      refine wT 7 hS20 ?_
      refine wT 8 hS20 ?_
      refine wT 9 hS20 ?_
      refine wT 10 hS20 ?_
      refine wT 11 hS20 ?_
      refine wT 12 hS20 ?_
      refine wpAnyH_done (by kernel_rfl) ?_ _
      replace BX := hid (BX.out.keep hd20)
      replace BS := hid (BS.out.keep hd20)
      replace HK := hid (HK.out.below hd20)
      replace HU := hid (HU.out.below hd20)
      replace L := hid (hnext L.out hd20)
      clear hd20 mk20 hS20
      obtain ⟨c0, c1, c2, c3, c4, c5, c6, c7, c8, c9, c10, cl⟩ := BX.out.cells
      obtain ⟨s0, s1, s2, sl⟩ := BS.out.cells
      simp only at c0 c1 c2 c3 c4 c5 c6 c7 c8 c9 c10 s0 s1 s2
      clear cl sl
      go_wp2_with fail
      refine (CSP.out _).mono ?_; rintro e w4 ⟨rfl, b4⟩
      replace BX := hid (BX.out.keep b4)
      replace BS := hid (BS.out.keep b4)
      replace HK := hid (HK.out.below b4)
      replace HU := hid (HU.out.below b4)
      replace L := hid (hnext L.out b4)
      clear b4 CSP
      clear c0 c1 c2 c3 c4 c5 c6 c7 c8 c9 c10 s0 s1 s2
      obtain ⟨c0, c1, c2, c3, c4, c5, c6, c7, c8, c9, c10, cl⟩ := BX.out.cells
      obtain ⟨s0, s1, s2, sl⟩ := BS.out.cells
      simp only at c0 c1 c2 c3 c4 c5 c6 c7 c8 c9 c10 s0 s1 s2
      clear cl sl
      go_wp2_with fail
      go_ret
      rw [HR.out]
      exact ⟨rfl, L.out⟩
    have ht' : (t == 0) = true := by simpa using ht
    by_cases hv : v = 0
    case neg =>
      have hv' : (v == 0) = false := by simpa using hv
      have hsp := sp_eql fr to 0 0 _ rfl
      have CSP := hid (fun W => sright_any fr to W)
      generalize spanB fr to = zz at CSP
      have HR : Hid (shapeB ⟨nm, cs, ky⟩ ⟨3, table, key, t, v, fr, to, wh, cols, limit, desc⟩ = false) := by show _ = _; rw [shape3 rfl]; simp [ht, hv]
      (try clear hs)
      (try clear hv)
      (try clear ht)
      (try clear hk)
      (try clear hv1)
      (try clear hv2)
      (try clear hsr)
      go_enter Try.func28, Try.ntmps28
      go_wp2_with fail
      obtain ⟨w0, hw0⟩ : ∃ w0, ((w.alloc (.cells #[.int .i64 3, .string table, .slice ka key.length kc, .int .i64 t, .int .i64 v, .int .i64 fr, .int .i64 to, .slice wa wh.length wc, .slice ca cols.length cc, .int .i64 limit, .bool desc] 28)).alloc (.cells #[.string nm, .slice ua cs.length uc, .int .i64 ky] 31)) = w0 := ⟨_, rfl⟩
      rw [hw0] at c3 c4 c5 c6 BX BS HK HU L
      (try rw [hw0])
      obtain ⟨w20, hw20⟩ : ∃ w20, (w0).drew = w20 := ⟨_, rfl⟩
      have hd20 : Below (w0).heap.size (w0) w20 := hw20 ▸ (Below.refl _ _).drew
      have mk20 : ∀ W, Below w20.heap.size w20 W → Below w20.heap.size w20 W ∧ W.cell? ⟨w.heap.size, 3, none⟩ = some (.int .i64 t) ∧ W.cell? ⟨w.heap.size, 4, none⟩ = some (.int .i64 v) ∧ W.cell? ⟨w.heap.size, 5, none⟩ = some (.int .i64 fr) ∧ W.cell? ⟨w.heap.size, 6, none⟩ = some (.int .i64 to) := fun W h => ⟨h, hkeep (hkeep c3 hd20) h, hkeep (hkeep c4 hd20) h, hkeep (hkeep c5 hd20) h, hkeep (hkeep c6 hd20) h⟩
      clear c0 c1 c2 c3 c4 c5 c6 c7 c8 c9 c10 s0 s1 s2
      refine wp_region_held_drew (S := (fun W => Below w20.heap.size w20 W ∧ W.cell? ⟨w.heap.size, 3, none⟩ = some (.int .i64 t) ∧ W.cell? ⟨w.heap.size, 4, none⟩ = some (.int .i64 v) ∧ W.cell? ⟨w.heap.size, 5, none⟩ = some (.int .i64 fr) ∧ W.cell? ⟨w.heap.size, 6, none⟩ = some (.int .i64 to))) (by kernel_rfl) (by rw [hw20]; exact mk20 _ (Below.refl _ _)) (fun hS20 => ?_)
      rw [hw20] at hS20 ⊢
      clear hw20
      refine wT 0 hS20 ?_
      refine wT 1 hS20 ?_
      refine wT 2 hS20 ?_
      refine wT 3 hS20 ?_
      refine wT 4 hS20 ?_
      refine wT 5 hS20 ?_
      refine wT 6 hS20 ?_
      refine wT 7 hS20 ?_
      refine wT 8 hS20 ?_
      refine wT 9 hS20 ?_
      refine wT 10 hS20 ?_
      refine wT 11 hS20 ?_
      refine wT 12 hS20 ?_
      refine wpAnyH_done (by kernel_rfl) ?_ _
      replace BX := hid (BX.out.keep hd20)
      replace BS := hid (BS.out.keep hd20)
      replace HK := hid (HK.out.below hd20)
      replace HU := hid (HU.out.below hd20)
      replace L := hid (hnext L.out hd20)
      clear hd20 mk20 hS20
      obtain ⟨c0, c1, c2, c3, c4, c5, c6, c7, c8, c9, c10, cl⟩ := BX.out.cells
      obtain ⟨s0, s1, s2, sl⟩ := BS.out.cells
      simp only at c0 c1 c2 c3 c4 c5 c6 c7 c8 c9 c10 s0 s1 s2
      clear cl sl
      go_wp2_with fail
      refine (CSP.out _).mono ?_; rintro e w4 ⟨rfl, b4⟩
      replace BX := hid (BX.out.keep b4)
      replace BS := hid (BS.out.keep b4)
      replace HK := hid (HK.out.below b4)
      replace HU := hid (HU.out.below b4)
      replace L := hid (hnext L.out b4)
      clear b4 CSP
      clear c0 c1 c2 c3 c4 c5 c6 c7 c8 c9 c10 s0 s1 s2
      obtain ⟨c0, c1, c2, c3, c4, c5, c6, c7, c8, c9, c10, cl⟩ := BX.out.cells
      obtain ⟨s0, s1, s2, sl⟩ := BS.out.cells
      simp only at c0 c1 c2 c3 c4 c5 c6 c7 c8 c9 c10 s0 s1 s2
      clear cl sl
      go_wp2_with fail
      go_ret
      rw [HR.out]
      exact ⟨rfl, L.out⟩
    have hv' : (v == 0) = true := by simpa using hv
    cases hsr : spanB fr to with
    | false =>
      have cs0 := fun W => sright_any fr to W
      rw [hsr] at cs0
      have CSP := hid cs0
      have hsp := sp_eql fr to 0 0 _ rfl
      have HR : Hid (shapeB ⟨nm, cs, ky⟩ ⟨3, table, key, t, v, fr, to, wh, cols, limit, desc⟩ = false) := by show _ = _; rw [shape3 rfl]; simp [ht, hv, hsr]
      (try clear hs)
      (try clear hv)
      (try clear ht)
      (try clear hk)
      (try clear hv1)
      (try clear hv2)
      (try clear hsr)
      go_enter Try.func28, Try.ntmps28
      go_wp2_with fail
      obtain ⟨w0, hw0⟩ : ∃ w0, ((w.alloc (.cells #[.int .i64 3, .string table, .slice ka key.length kc, .int .i64 t, .int .i64 v, .int .i64 fr, .int .i64 to, .slice wa wh.length wc, .slice ca cols.length cc, .int .i64 limit, .bool desc] 28)).alloc (.cells #[.string nm, .slice ua cs.length uc, .int .i64 ky] 31)) = w0 := ⟨_, rfl⟩
      rw [hw0] at c3 c4 c5 c6 BX BS HK HU L
      (try rw [hw0])
      obtain ⟨w20, hw20⟩ : ∃ w20, (w0).drew = w20 := ⟨_, rfl⟩
      have hd20 : Below (w0).heap.size (w0) w20 := hw20 ▸ (Below.refl _ _).drew
      have mk20 : ∀ W, Below w20.heap.size w20 W → Below w20.heap.size w20 W ∧ W.cell? ⟨w.heap.size, 3, none⟩ = some (.int .i64 t) ∧ W.cell? ⟨w.heap.size, 4, none⟩ = some (.int .i64 v) ∧ W.cell? ⟨w.heap.size, 5, none⟩ = some (.int .i64 fr) ∧ W.cell? ⟨w.heap.size, 6, none⟩ = some (.int .i64 to) := fun W h => ⟨h, hkeep (hkeep c3 hd20) h, hkeep (hkeep c4 hd20) h, hkeep (hkeep c5 hd20) h, hkeep (hkeep c6 hd20) h⟩
      clear c0 c1 c2 c3 c4 c5 c6 c7 c8 c9 c10 s0 s1 s2
      refine wp_region_held_drew (S := (fun W => Below w20.heap.size w20 W ∧ W.cell? ⟨w.heap.size, 3, none⟩ = some (.int .i64 t) ∧ W.cell? ⟨w.heap.size, 4, none⟩ = some (.int .i64 v) ∧ W.cell? ⟨w.heap.size, 5, none⟩ = some (.int .i64 fr) ∧ W.cell? ⟨w.heap.size, 6, none⟩ = some (.int .i64 to))) (by kernel_rfl) (by rw [hw20]; exact mk20 _ (Below.refl _ _)) (fun hS20 => ?_)
      rw [hw20] at hS20 ⊢
      clear hw20
      refine wT 0 hS20 ?_
      refine wT 1 hS20 ?_
      refine wT 2 hS20 ?_
      refine wT 3 hS20 ?_
      refine wT 4 hS20 ?_
      refine wT 5 hS20 ?_
      refine wT 6 hS20 ?_
      refine wT 7 hS20 ?_
      refine wT 8 hS20 ?_
      refine wT 9 hS20 ?_
      refine wT 10 hS20 ?_
      refine wT 11 hS20 ?_
      refine wT 12 hS20 ?_
      refine wpAnyH_done (by kernel_rfl) ?_ _
      replace BX := hid (BX.out.keep hd20)
      replace BS := hid (BS.out.keep hd20)
      replace HK := hid (HK.out.below hd20)
      replace HU := hid (HU.out.below hd20)
      replace L := hid (hnext L.out hd20)
      clear hd20 mk20 hS20
      obtain ⟨c0, c1, c2, c3, c4, c5, c6, c7, c8, c9, c10, cl⟩ := BX.out.cells
      obtain ⟨s0, s1, s2, sl⟩ := BS.out.cells
      simp only at c0 c1 c2 c3 c4 c5 c6 c7 c8 c9 c10 s0 s1 s2
      clear cl sl
      go_wp2_with fail
      refine (CSP.out _).mono ?_; rintro e w4 ⟨rfl, b4⟩
      replace BX := hid (BX.out.keep b4)
      replace BS := hid (BS.out.keep b4)
      replace HK := hid (HK.out.below b4)
      replace HU := hid (HU.out.below b4)
      replace L := hid (hnext L.out b4)
      clear b4 CSP
      clear c0 c1 c2 c3 c4 c5 c6 c7 c8 c9 c10 s0 s1 s2
      obtain ⟨c0, c1, c2, c3, c4, c5, c6, c7, c8, c9, c10, cl⟩ := BX.out.cells
      obtain ⟨s0, s1, s2, sl⟩ := BS.out.cells
      simp only at c0 c1 c2 c3 c4 c5 c6 c7 c8 c9 c10 s0 s1 s2
      clear cl sl
      go_wp2_with fail
      go_ret
      rw [HR.out]
      exact ⟨rfl, L.out⟩
    | true =>
      have cs0 := fun W => sright_any fr to W
      rw [hsr] at cs0
      have CSP := hid cs0
      have HS : Hid (shapeB ⟨nm, cs, ky⟩ ⟨3, table, key, t, v, fr, to, wh, cols, limit, desc⟩ = keyedB ⟨nm, cs, ky⟩ key) := by show _ = _; rw [shape3 rfl]; simp [ht, hv, hsr]
      have hsp := sp_eql fr to 0 0 _ rfl
      (try clear hs)
      (try clear hv)
      (try clear ht)
      (try clear hk)
      (try clear hv1)
      (try clear hv2)
      (try clear hsr)
      go_enter Try.func28, Try.ntmps28
      go_wp2_with fail
      obtain ⟨w0, hw0⟩ : ∃ w0, ((w.alloc (.cells #[.int .i64 3, .string table, .slice ka key.length kc, .int .i64 t, .int .i64 v, .int .i64 fr, .int .i64 to, .slice wa wh.length wc, .slice ca cols.length cc, .int .i64 limit, .bool desc] 28)).alloc (.cells #[.string nm, .slice ua cs.length uc, .int .i64 ky] 31)) = w0 := ⟨_, rfl⟩
      rw [hw0] at c3 c4 c5 c6 BX BS HK HU L
      (try rw [hw0])
      obtain ⟨w20, hw20⟩ : ∃ w20, (w0).drew = w20 := ⟨_, rfl⟩
      have hd20 : Below (w0).heap.size (w0) w20 := hw20 ▸ (Below.refl _ _).drew
      have mk20 : ∀ W, Below w20.heap.size w20 W → Below w20.heap.size w20 W ∧ W.cell? ⟨w.heap.size, 3, none⟩ = some (.int .i64 t) ∧ W.cell? ⟨w.heap.size, 4, none⟩ = some (.int .i64 v) ∧ W.cell? ⟨w.heap.size, 5, none⟩ = some (.int .i64 fr) ∧ W.cell? ⟨w.heap.size, 6, none⟩ = some (.int .i64 to) := fun W h => ⟨h, hkeep (hkeep c3 hd20) h, hkeep (hkeep c4 hd20) h, hkeep (hkeep c5 hd20) h, hkeep (hkeep c6 hd20) h⟩
      clear c0 c1 c2 c3 c4 c5 c6 c7 c8 c9 c10 s0 s1 s2
      refine wp_region_held_drew (S := (fun W => Below w20.heap.size w20 W ∧ W.cell? ⟨w.heap.size, 3, none⟩ = some (.int .i64 t) ∧ W.cell? ⟨w.heap.size, 4, none⟩ = some (.int .i64 v) ∧ W.cell? ⟨w.heap.size, 5, none⟩ = some (.int .i64 fr) ∧ W.cell? ⟨w.heap.size, 6, none⟩ = some (.int .i64 to))) (by kernel_rfl) (by rw [hw20]; exact mk20 _ (Below.refl _ _)) (fun hS20 => ?_)
      rw [hw20] at hS20 ⊢
      clear hw20
      refine wT 0 hS20 ?_
      refine wT 1 hS20 ?_
      refine wT 2 hS20 ?_
      refine wT 3 hS20 ?_
      refine wT 4 hS20 ?_
      refine wT 5 hS20 ?_
      refine wT 6 hS20 ?_
      refine wT 7 hS20 ?_
      refine wT 8 hS20 ?_
      refine wT 9 hS20 ?_
      refine wT 10 hS20 ?_
      refine wT 11 hS20 ?_
      refine wT 12 hS20 ?_
      refine wpAnyH_done (by kernel_rfl) ?_ _
      replace BX := hid (BX.out.keep hd20)
      replace BS := hid (BS.out.keep hd20)
      replace HK := hid (HK.out.below hd20)
      replace HU := hid (HU.out.below hd20)
      replace L := hid (hnext L.out hd20)
      clear hd20 mk20 hS20
      obtain ⟨c0, c1, c2, c3, c4, c5, c6, c7, c8, c9, c10, cl⟩ := BX.out.cells
      obtain ⟨s0, s1, s2, sl⟩ := BS.out.cells
      simp only at c0 c1 c2 c3 c4 c5 c6 c7 c8 c9 c10 s0 s1 s2
      clear cl sl
      go_wp2_with fail
      refine (CSP.out _).mono ?_; rintro e w4 ⟨rfl, b4⟩
      replace BX := hid (BX.out.keep b4)
      replace BS := hid (BS.out.keep b4)
      replace HK := hid (HK.out.below b4)
      replace HU := hid (HU.out.below b4)
      replace L := hid (hnext L.out b4)
      clear b4 CSP
      clear c0 c1 c2 c3 c4 c5 c6 c7 c8 c9 c10 s0 s1 s2
      obtain ⟨c0, c1, c2, c3, c4, c5, c6, c7, c8, c9, c10, cl⟩ := BX.out.cells
      obtain ⟨s0, s1, s2, sl⟩ := BS.out.cells
      simp only at c0 c1 c2 c3 c4 c5 c6 c7 c8 c9 c10 s0 s1 s2
      clear cl sl
      go_wp2_with fail
      have ck := keyed_any ⟨nm, cs, ky⟩ (.slice ua cs.length uc) key (.slice ka key.length kc) _ HU.out HK.out hok hkl
      refine ck.mono ?_; rintro e w5 ⟨rfl, b5⟩
      have L5 := hid (hnext L.out b5)
      clear b5 ck
      obtain ⟨r, hr⟩ : ∃ r, keyedB ⟨nm, cs, ky⟩ key = r := ⟨_, rfl⟩
      rw [hr] at HS
      rw [hr]
      clear hr
      clear c0 c1 c2 c3 c4 c5 c6 c7 c8 c9 c10 s0 s1 s2
      go_wp2_with fail
      go_ret
      rw [HS.out]
      exact ⟨rfl, L5.out⟩
  have hk3' : (kind == 3) = false := by simpa using hk3
  by_cases hk4 : kind = 4
  case pos =>
    subst hk4
    by_cases ht : t = 0
    case neg =>
      have ht' : (t == 0) = false := by simpa using ht
      have hsp := sp_eql fr to 0 0 _ rfl
      have HR : Hid (shapeB ⟨nm, cs, ky⟩ ⟨4, table, key, t, v, fr, to, wh, cols, limit, desc⟩ = false) := by show _ = _; rw [shape4 rfl]; simp [ht]
      (try clear hs)
      (try clear hv)
      (try clear ht)
      (try clear hk)
      (try clear hv1)
      (try clear hv2)
      (try clear hsr)
      go_enter Try.func28, Try.ntmps28
      go_wp2_with fail
      obtain ⟨w0, hw0⟩ : ∃ w0, ((w.alloc (.cells #[.int .i64 4, .string table, .slice ka key.length kc, .int .i64 t, .int .i64 v, .int .i64 fr, .int .i64 to, .slice wa wh.length wc, .slice ca cols.length cc, .int .i64 limit, .bool desc] 28)).alloc (.cells #[.string nm, .slice ua cs.length uc, .int .i64 ky] 31)) = w0 := ⟨_, rfl⟩
      rw [hw0] at c3 c4 c5 c6 BX BS HK HU L
      (try rw [hw0])
      obtain ⟨w20, hw20⟩ : ∃ w20, (w0).drew = w20 := ⟨_, rfl⟩
      have hd20 : Below (w0).heap.size (w0) w20 := hw20 ▸ (Below.refl _ _).drew
      have mk20 : ∀ W, Below w20.heap.size w20 W → Below w20.heap.size w20 W ∧ W.cell? ⟨w.heap.size, 3, none⟩ = some (.int .i64 t) ∧ W.cell? ⟨w.heap.size, 4, none⟩ = some (.int .i64 v) ∧ W.cell? ⟨w.heap.size, 5, none⟩ = some (.int .i64 fr) ∧ W.cell? ⟨w.heap.size, 6, none⟩ = some (.int .i64 to) := fun W h => ⟨h, hkeep (hkeep c3 hd20) h, hkeep (hkeep c4 hd20) h, hkeep (hkeep c5 hd20) h, hkeep (hkeep c6 hd20) h⟩
      clear c0 c1 c2 c3 c4 c5 c6 c7 c8 c9 c10 s0 s1 s2
      refine wp_region_held_drew (S := (fun W => Below w20.heap.size w20 W ∧ W.cell? ⟨w.heap.size, 3, none⟩ = some (.int .i64 t) ∧ W.cell? ⟨w.heap.size, 4, none⟩ = some (.int .i64 v) ∧ W.cell? ⟨w.heap.size, 5, none⟩ = some (.int .i64 fr) ∧ W.cell? ⟨w.heap.size, 6, none⟩ = some (.int .i64 to))) (by kernel_rfl) (by rw [hw20]; exact mk20 _ (Below.refl _ _)) (fun hS20 => ?_)
      rw [hw20] at hS20 ⊢
      clear hw20
      refine wT 0 hS20 ?_
      refine wT 1 hS20 ?_
      refine wT 2 hS20 ?_
      refine wT 3 hS20 ?_
      refine wT 4 hS20 ?_
      refine wT 5 hS20 ?_
      refine wT 6 hS20 ?_
      refine wT 7 hS20 ?_
      refine wT 8 hS20 ?_
      refine wT 9 hS20 ?_
      refine wT 10 hS20 ?_
      refine wT 11 hS20 ?_
      refine wT 12 hS20 ?_
      refine wpAnyH_done (by kernel_rfl) ?_ _
      replace BX := hid (BX.out.keep hd20)
      replace BS := hid (BS.out.keep hd20)
      replace HK := hid (HK.out.below hd20)
      replace HU := hid (HU.out.below hd20)
      replace L := hid (hnext L.out hd20)
      clear hd20 mk20 hS20
      obtain ⟨c0, c1, c2, c3, c4, c5, c6, c7, c8, c9, c10, cl⟩ := BX.out.cells
      obtain ⟨s0, s1, s2, sl⟩ := BS.out.cells
      simp only at c0 c1 c2 c3 c4 c5 c6 c7 c8 c9 c10 s0 s1 s2
      clear cl sl
      go_wp2_with fail
      go_ret
      rw [HR.out]
      exact ⟨rfl, L.out⟩
    have ht' : (t == 0) = true := by simpa using ht
    by_cases hv : v = 0
    case neg =>
      have hv' : (v == 0) = false := by simpa using hv
      have hsp := sp_eql fr to 0 0 _ rfl
      have HR : Hid (shapeB ⟨nm, cs, ky⟩ ⟨4, table, key, t, v, fr, to, wh, cols, limit, desc⟩ = false) := by show _ = _; rw [shape4 rfl]; simp [ht, hv]
      (try clear hs)
      (try clear hv)
      (try clear ht)
      (try clear hk)
      (try clear hv1)
      (try clear hv2)
      (try clear hsr)
      go_enter Try.func28, Try.ntmps28
      go_wp2_with fail
      obtain ⟨w0, hw0⟩ : ∃ w0, ((w.alloc (.cells #[.int .i64 4, .string table, .slice ka key.length kc, .int .i64 t, .int .i64 v, .int .i64 fr, .int .i64 to, .slice wa wh.length wc, .slice ca cols.length cc, .int .i64 limit, .bool desc] 28)).alloc (.cells #[.string nm, .slice ua cs.length uc, .int .i64 ky] 31)) = w0 := ⟨_, rfl⟩
      rw [hw0] at c3 c4 c5 c6 BX BS HK HU L
      (try rw [hw0])
      obtain ⟨w20, hw20⟩ : ∃ w20, (w0).drew = w20 := ⟨_, rfl⟩
      have hd20 : Below (w0).heap.size (w0) w20 := hw20 ▸ (Below.refl _ _).drew
      have mk20 : ∀ W, Below w20.heap.size w20 W → Below w20.heap.size w20 W ∧ W.cell? ⟨w.heap.size, 3, none⟩ = some (.int .i64 t) ∧ W.cell? ⟨w.heap.size, 4, none⟩ = some (.int .i64 v) ∧ W.cell? ⟨w.heap.size, 5, none⟩ = some (.int .i64 fr) ∧ W.cell? ⟨w.heap.size, 6, none⟩ = some (.int .i64 to) := fun W h => ⟨h, hkeep (hkeep c3 hd20) h, hkeep (hkeep c4 hd20) h, hkeep (hkeep c5 hd20) h, hkeep (hkeep c6 hd20) h⟩
      clear c0 c1 c2 c3 c4 c5 c6 c7 c8 c9 c10 s0 s1 s2
      refine wp_region_held_drew (S := (fun W => Below w20.heap.size w20 W ∧ W.cell? ⟨w.heap.size, 3, none⟩ = some (.int .i64 t) ∧ W.cell? ⟨w.heap.size, 4, none⟩ = some (.int .i64 v) ∧ W.cell? ⟨w.heap.size, 5, none⟩ = some (.int .i64 fr) ∧ W.cell? ⟨w.heap.size, 6, none⟩ = some (.int .i64 to))) (by kernel_rfl) (by rw [hw20]; exact mk20 _ (Below.refl _ _)) (fun hS20 => ?_)
      rw [hw20] at hS20 ⊢
      clear hw20
      refine wT 0 hS20 ?_
      refine wT 1 hS20 ?_
      refine wT 2 hS20 ?_
      refine wT 3 hS20 ?_
      refine wT 4 hS20 ?_
      refine wT 5 hS20 ?_
      refine wT 6 hS20 ?_
      refine wT 7 hS20 ?_
      refine wT 8 hS20 ?_
      refine wT 9 hS20 ?_
      refine wT 10 hS20 ?_
      refine wT 11 hS20 ?_
      refine wT 12 hS20 ?_
      refine wpAnyH_done (by kernel_rfl) ?_ _
      replace BX := hid (BX.out.keep hd20)
      replace BS := hid (BS.out.keep hd20)
      replace HK := hid (HK.out.below hd20)
      replace HU := hid (HU.out.below hd20)
      replace L := hid (hnext L.out hd20)
      clear hd20 mk20 hS20
      obtain ⟨c0, c1, c2, c3, c4, c5, c6, c7, c8, c9, c10, cl⟩ := BX.out.cells
      obtain ⟨s0, s1, s2, sl⟩ := BS.out.cells
      simp only at c0 c1 c2 c3 c4 c5 c6 c7 c8 c9 c10 s0 s1 s2
      clear cl sl
      go_wp2_with fail
      go_ret
      rw [HR.out]
      exact ⟨rfl, L.out⟩
    have hv' : (v == 0) = true := by simpa using hv
    by_cases hs : fr = 0 ∧ to = 0
    case neg =>
      have hsp := sp_eql fr to 0 0 false (by rw [Bool.and_eq_false_iff]; by_cases hf : fr = 0; exact .inr (by rw [beq_eq_false_iff_ne]; exact fun h => hs ⟨hf, h⟩); exact .inl (by rw [beq_eq_false_iff_ne]; exact hf))
      have HR : Hid (shapeB ⟨nm, cs, ky⟩ ⟨4, table, key, t, v, fr, to, wh, cols, limit, desc⟩ = false) := by show _ = _; rw [shape4 rfl]; simp [ht, hv, hs]
      (try clear hs)
      (try clear hv)
      (try clear ht)
      (try clear hk)
      (try clear hv1)
      (try clear hv2)
      (try clear hsr)
      go_enter Try.func28, Try.ntmps28
      go_wp2_with fail
      obtain ⟨w0, hw0⟩ : ∃ w0, ((w.alloc (.cells #[.int .i64 4, .string table, .slice ka key.length kc, .int .i64 t, .int .i64 v, .int .i64 fr, .int .i64 to, .slice wa wh.length wc, .slice ca cols.length cc, .int .i64 limit, .bool desc] 28)).alloc (.cells #[.string nm, .slice ua cs.length uc, .int .i64 ky] 31)) = w0 := ⟨_, rfl⟩
      rw [hw0] at c3 c4 c5 c6 BX BS HK HU L
      (try rw [hw0])
      obtain ⟨w20, hw20⟩ : ∃ w20, (w0).drew = w20 := ⟨_, rfl⟩
      have hd20 : Below (w0).heap.size (w0) w20 := hw20 ▸ (Below.refl _ _).drew
      have mk20 : ∀ W, Below w20.heap.size w20 W → Below w20.heap.size w20 W ∧ W.cell? ⟨w.heap.size, 3, none⟩ = some (.int .i64 t) ∧ W.cell? ⟨w.heap.size, 4, none⟩ = some (.int .i64 v) ∧ W.cell? ⟨w.heap.size, 5, none⟩ = some (.int .i64 fr) ∧ W.cell? ⟨w.heap.size, 6, none⟩ = some (.int .i64 to) := fun W h => ⟨h, hkeep (hkeep c3 hd20) h, hkeep (hkeep c4 hd20) h, hkeep (hkeep c5 hd20) h, hkeep (hkeep c6 hd20) h⟩
      clear c0 c1 c2 c3 c4 c5 c6 c7 c8 c9 c10 s0 s1 s2
      refine wp_region_held_drew (S := (fun W => Below w20.heap.size w20 W ∧ W.cell? ⟨w.heap.size, 3, none⟩ = some (.int .i64 t) ∧ W.cell? ⟨w.heap.size, 4, none⟩ = some (.int .i64 v) ∧ W.cell? ⟨w.heap.size, 5, none⟩ = some (.int .i64 fr) ∧ W.cell? ⟨w.heap.size, 6, none⟩ = some (.int .i64 to))) (by kernel_rfl) (by rw [hw20]; exact mk20 _ (Below.refl _ _)) (fun hS20 => ?_)
      rw [hw20] at hS20 ⊢
      clear hw20
      refine wT 0 hS20 ?_
      refine wT 1 hS20 ?_
      refine wT 2 hS20 ?_
      refine wT 3 hS20 ?_
      refine wT 4 hS20 ?_
      refine wT 5 hS20 ?_
      refine wT 6 hS20 ?_
      refine wT 7 hS20 ?_
      refine wT 8 hS20 ?_
      refine wT 9 hS20 ?_
      refine wT 10 hS20 ?_
      refine wT 11 hS20 ?_
      refine wT 12 hS20 ?_
      refine wpAnyH_done (by kernel_rfl) ?_ _
      replace BX := hid (BX.out.keep hd20)
      replace BS := hid (BS.out.keep hd20)
      replace HK := hid (HK.out.below hd20)
      replace HU := hid (HU.out.below hd20)
      replace L := hid (hnext L.out hd20)
      clear hd20 mk20 hS20
      obtain ⟨c0, c1, c2, c3, c4, c5, c6, c7, c8, c9, c10, cl⟩ := BX.out.cells
      obtain ⟨s0, s1, s2, sl⟩ := BS.out.cells
      simp only at c0 c1 c2 c3 c4 c5 c6 c7 c8 c9 c10 s0 s1 s2
      clear cl sl
      go_wp2_with fail
      go_ret
      rw [HR.out]
      exact ⟨rfl, L.out⟩
    have hsp := sp_eql fr to 0 0 true (by rw [hs.1, hs.2]; rfl)
    have HS : Hid (shapeB ⟨nm, cs, ky⟩ ⟨4, table, key, t, v, fr, to, wh, cols, limit, desc⟩ = keyedB ⟨nm, cs, ky⟩ key) := by show _ = _; rw [shape4 rfl]; simp [ht, hv, hs]
    (try clear hs)
    (try clear hv)
    (try clear ht)
    (try clear hk)
    (try clear hv1)
    (try clear hv2)
    (try clear hsr)
    go_enter Try.func28, Try.ntmps28
    go_wp2_with fail
    obtain ⟨w0, hw0⟩ : ∃ w0, ((w.alloc (.cells #[.int .i64 4, .string table, .slice ka key.length kc, .int .i64 t, .int .i64 v, .int .i64 fr, .int .i64 to, .slice wa wh.length wc, .slice ca cols.length cc, .int .i64 limit, .bool desc] 28)).alloc (.cells #[.string nm, .slice ua cs.length uc, .int .i64 ky] 31)) = w0 := ⟨_, rfl⟩
    rw [hw0] at c3 c4 c5 c6 BX BS HK HU L
    (try rw [hw0])
    obtain ⟨w20, hw20⟩ : ∃ w20, (w0).drew = w20 := ⟨_, rfl⟩
    have hd20 : Below (w0).heap.size (w0) w20 := hw20 ▸ (Below.refl _ _).drew
    have mk20 : ∀ W, Below w20.heap.size w20 W → Below w20.heap.size w20 W ∧ W.cell? ⟨w.heap.size, 3, none⟩ = some (.int .i64 t) ∧ W.cell? ⟨w.heap.size, 4, none⟩ = some (.int .i64 v) ∧ W.cell? ⟨w.heap.size, 5, none⟩ = some (.int .i64 fr) ∧ W.cell? ⟨w.heap.size, 6, none⟩ = some (.int .i64 to) := fun W h => ⟨h, hkeep (hkeep c3 hd20) h, hkeep (hkeep c4 hd20) h, hkeep (hkeep c5 hd20) h, hkeep (hkeep c6 hd20) h⟩
    clear c0 c1 c2 c3 c4 c5 c6 c7 c8 c9 c10 s0 s1 s2
    refine wp_region_held_drew (S := (fun W => Below w20.heap.size w20 W ∧ W.cell? ⟨w.heap.size, 3, none⟩ = some (.int .i64 t) ∧ W.cell? ⟨w.heap.size, 4, none⟩ = some (.int .i64 v) ∧ W.cell? ⟨w.heap.size, 5, none⟩ = some (.int .i64 fr) ∧ W.cell? ⟨w.heap.size, 6, none⟩ = some (.int .i64 to))) (by kernel_rfl) (by rw [hw20]; exact mk20 _ (Below.refl _ _)) (fun hS20 => ?_)
    rw [hw20] at hS20 ⊢
    clear hw20
    refine wT 0 hS20 ?_
    refine wT 1 hS20 ?_
    refine wT 2 hS20 ?_
    refine wT 3 hS20 ?_
    refine wT 4 hS20 ?_
    refine wT 5 hS20 ?_
    refine wT 6 hS20 ?_
    refine wT 7 hS20 ?_
    refine wT 8 hS20 ?_
    refine wT 9 hS20 ?_
    refine wT 10 hS20 ?_
    refine wT 11 hS20 ?_
    refine wT 12 hS20 ?_
    refine wpAnyH_done (by kernel_rfl) ?_ _
    replace BX := hid (BX.out.keep hd20)
    replace BS := hid (BS.out.keep hd20)
    replace HK := hid (HK.out.below hd20)
    replace HU := hid (HU.out.below hd20)
    replace L := hid (hnext L.out hd20)
    clear hd20 mk20 hS20
    obtain ⟨c0, c1, c2, c3, c4, c5, c6, c7, c8, c9, c10, cl⟩ := BX.out.cells
    obtain ⟨s0, s1, s2, sl⟩ := BS.out.cells
    simp only at c0 c1 c2 c3 c4 c5 c6 c7 c8 c9 c10 s0 s1 s2
    clear cl sl
    go_wp2_with fail
    have ck := keyed_any ⟨nm, cs, ky⟩ (.slice ua cs.length uc) key (.slice ka key.length kc) _ HU.out HK.out hok hkl
    refine ck.mono ?_; rintro e w5 ⟨rfl, b5⟩
    have L5 := hid (hnext L.out b5)
    clear b5 ck
    obtain ⟨r, hr⟩ : ∃ r, keyedB ⟨nm, cs, ky⟩ key = r := ⟨_, rfl⟩
    rw [hr] at HS
    rw [hr]
    clear hr
    clear c0 c1 c2 c3 c4 c5 c6 c7 c8 c9 c10 s0 s1 s2
    go_wp2_with fail
    go_ret
    rw [HS.out]
    exact ⟨rfl, L5.out⟩
  have hk4' : (kind == 4) = false := by simpa using hk4
  have hsp := sp_eql fr to 0 0 _ rfl
  have HR := hid (shape0 (s := ⟨nm, cs, ky⟩) (q := ⟨kind, table, key, t, v, fr, to, wh, cols, limit, desc⟩) hk1 hk2 hk3 hk4)
  (try clear hs)
  (try clear hv)
  (try clear ht)
  (try clear hk)
  (try clear hv1)
  (try clear hv2)
  (try clear hsr)
  go_enter Try.func28, Try.ntmps28
  go_wp2_with fail
  obtain ⟨w0, hw0⟩ : ∃ w0, ((w.alloc (.cells #[.int .i64 kind, .string table, .slice ka key.length kc, .int .i64 t, .int .i64 v, .int .i64 fr, .int .i64 to, .slice wa wh.length wc, .slice ca cols.length cc, .int .i64 limit, .bool desc] 28)).alloc (.cells #[.string nm, .slice ua cs.length uc, .int .i64 ky] 31)) = w0 := ⟨_, rfl⟩
  rw [hw0] at c3 c4 c5 c6 BX BS HK HU L
  (try rw [hw0])
  obtain ⟨w20, hw20⟩ : ∃ w20, (w0).drew = w20 := ⟨_, rfl⟩
  have hd20 : Below (w0).heap.size (w0) w20 := hw20 ▸ (Below.refl _ _).drew
  have mk20 : ∀ W, Below w20.heap.size w20 W → Below w20.heap.size w20 W ∧ W.cell? ⟨w.heap.size, 3, none⟩ = some (.int .i64 t) ∧ W.cell? ⟨w.heap.size, 4, none⟩ = some (.int .i64 v) ∧ W.cell? ⟨w.heap.size, 5, none⟩ = some (.int .i64 fr) ∧ W.cell? ⟨w.heap.size, 6, none⟩ = some (.int .i64 to) := fun W h => ⟨h, hkeep (hkeep c3 hd20) h, hkeep (hkeep c4 hd20) h, hkeep (hkeep c5 hd20) h, hkeep (hkeep c6 hd20) h⟩
  clear c0 c1 c2 c3 c4 c5 c6 c7 c8 c9 c10 s0 s1 s2
  refine wp_region_held_drew (S := (fun W => Below w20.heap.size w20 W ∧ W.cell? ⟨w.heap.size, 3, none⟩ = some (.int .i64 t) ∧ W.cell? ⟨w.heap.size, 4, none⟩ = some (.int .i64 v) ∧ W.cell? ⟨w.heap.size, 5, none⟩ = some (.int .i64 fr) ∧ W.cell? ⟨w.heap.size, 6, none⟩ = some (.int .i64 to))) (by kernel_rfl) (by rw [hw20]; exact mk20 _ (Below.refl _ _)) (fun hS20 => ?_)
  rw [hw20] at hS20 ⊢
  clear hw20
  refine wT 0 hS20 ?_
  refine wT 1 hS20 ?_
  refine wT 2 hS20 ?_
  refine wT 3 hS20 ?_
  refine wT 4 hS20 ?_
  refine wT 5 hS20 ?_
  refine wT 6 hS20 ?_
  refine wT 7 hS20 ?_
  refine wT 8 hS20 ?_
  refine wT 9 hS20 ?_
  refine wT 10 hS20 ?_
  refine wT 11 hS20 ?_
  refine wT 12 hS20 ?_
  refine wpAnyH_done (by kernel_rfl) ?_ _
  replace BX := hid (BX.out.keep hd20)
  replace BS := hid (BS.out.keep hd20)
  replace HK := hid (HK.out.below hd20)
  replace HU := hid (HU.out.below hd20)
  replace L := hid (hnext L.out hd20)
  clear hd20 mk20 hS20
  obtain ⟨c0, c1, c2, c3, c4, c5, c6, c7, c8, c9, c10, cl⟩ := BX.out.cells
  obtain ⟨s0, s1, s2, sl⟩ := BS.out.cells
  simp only at c0 c1 c2 c3 c4 c5 c6 c7 c8 c9 c10 s0 s1 s2
  clear cl sl
  go_wp2_with fail
  go_ret
  rw [HR.out]
  exact ⟨rfl, L.out⟩
set_option maxRecDepth 100000 in
set_option maxHeartbeats 6400000 in
theorem qright_any (q : Q) (vk vw vc : Value) (s : Sc.S) (u : Value) (w : World) (hq : QIn w q vk vw vc) (hu : CsAt w u s.cols) (hok : Qok q) (hlw : q.wh.length ≤ 1000000) : Calls Try.prog 12 #[qv q vk vw vc, sv s u] w fun e w' => e = .returned (.bool (rightB s q)) ∧ Below w.heap.size w w' := by
  obtain ⟨ka, kc, rfl⟩ := vs_slc hq.1
  obtain ⟨wa, wc, rfl⟩ := hq.2.1.slc
  obtain ⟨ca, cc, rfl⟩ := hq.2.2.slc
  obtain ⟨ua, uc, rfl⟩ := hu.slc
  obtain ⟨nm, cs, ky⟩ := s
  obtain ⟨kind, table, key, t, v, fr, to, wh, cols, limit, desc⟩ := q
  have b1 := hba w (.cells #[.int .i64 kind, .string table, .slice ka key.length kc, .int .i64 t, .int .i64 v, .int .i64 fr, .int .i64 to, .slice wa wh.length wc, .slice ca cols.length cc, .int .i64 limit, .bool desc] 28)
  have b2 := hba (w.alloc (.cells #[.int .i64 kind, .string table, .slice ka key.length kc, .int .i64 t, .int .i64 v, .int .i64 fr, .int .i64 to, .slice wa wh.length wc, .slice ca cols.length cc, .int .i64 limit, .bool desc] 28)) (.cells #[.string nm, .slice ua cs.length uc, .int .i64 ky] 31)
  have L := hid (hnext b1 b2)
  have BX := hid ((BQ.new w 28 ⟨kind, table, key, t, v, fr, to, wh, cols, limit, desc⟩ (.slice ka key.length kc) (.slice wa wh.length wc) (.slice ca cols.length cc)).keep b2)
  have BS0 := BS3.new (w.alloc (.cells #[.int .i64 kind, .string table, .slice ka key.length kc, .int .i64 t, .int .i64 v, .int .i64 fr, .int .i64 to, .slice wa wh.length wc, .slice ca cols.length cc, .int .i64 limit, .bool desc] 28)) ⟨nm, cs, ky⟩ (.slice ua cs.length uc)
  rw [show (w.alloc (.cells #[.int .i64 kind, .string table, .slice ka key.length kc, .int .i64 t, .int .i64 v, .int .i64 fr, .int .i64 to, .slice wa wh.length wc, .slice ca cols.length cc, .int .i64 limit, .bool desc] 28)).heap.size = w.heap.size + 1 by simp] at BS0
  have BS := hid BS0
  have HK := hid (hq.1.below L.out)
  have HW := hid (hq.2.1.below L.out)
  have HC := hid (hq.2.2.below L.out)
  have HU := hid (hu.below L.out)
  clear b1 b2 BS0 hq hu
  unfold qv sv
  simp only at HK HW HC HU ⊢
  obtain ⟨c0, c1, c2, c3, c4, c5, c6, c7, c8, c9, c10, cl⟩ := BX.out.cells
  obtain ⟨s0, s1, s2, sl⟩ := BS.out.cells
  simp only at c0 c1 c2 c3 c4 c5 c6 c7 c8 c9 c10 s0 s1 s2
  clear cl sl
  have csh0 := fun W h h' h'' h3 => shaped_any ⟨kind, table, key, t, v, fr, to, wh, cols, limit, desc⟩ (.slice ka key.length kc) (.slice wa wh.length wc) (.slice ca cols.length cc) ⟨nm, cs, ky⟩ (.slice ua cs.length uc) W ⟨h, h', h''⟩ h3 hok.key hok.lk
  unfold qv sv at csh0
  simp only at csh0
  have HOK := hid hok
  by_cases h1 : table = nm
  case neg =>
    have hb : (table.toList == nm.toList) = false := by rw [bytes_beq]; exact decide_eq_false h1
    have HR : Hid (rightB ⟨nm, cs, ky⟩ ⟨kind, table, key, t, v, fr, to, wh, cols, limit, desc⟩ = false) := by show _ = _; unfold rightB; simp [h1]
    (try clear h1)
    (try clear h2)
    (try clear h3)
    (try clear h4)
    go_enter Try.func12, Try.ntmps12
    go_wp2_with fail
    go_ret
    rw [HR.out]
    exact ⟨rfl, L.out⟩
  have hb : (table.toList == nm.toList) = true := by rw [bytes_beq]; exact decide_eq_true h1
  by_cases h2 : cols.length ≤ 16
  case neg =>
    have h2' : (16 : Int) < (cols.length : Int) := by omega
    have HR : Hid (rightB ⟨nm, cs, ky⟩ ⟨kind, table, key, t, v, fr, to, wh, cols, limit, desc⟩ = false) := by show _ = _; unfold rightB; simp [h1, h2]
    (try clear h1)
    (try clear h2)
    (try clear h3)
    (try clear h4)
    go_enter Try.func12, Try.ntmps12
    go_wp2_with fail
    go_ret
    rw [HR.out]
    exact ⟨rfl, L.out⟩
  have h2' : ¬ (16 : Int) < (cols.length : Int) := by omega
  have h2'' : decide ((16 : Int) < (cols.length : Int)) = false := decide_eq_false h2'
  by_cases h3 : 0 ≤ limit
  case neg =>
    have h3' : limit < 0 := by omega
    have HR : Hid (rightB ⟨nm, cs, ky⟩ ⟨kind, table, key, t, v, fr, to, wh, cols, limit, desc⟩ = false) := by show _ = _; unfold rightB; simp [h1, h2, h3]
    (try clear h1)
    (try clear h2)
    (try clear h3)
    (try clear h4)
    go_enter Try.func12, Try.ntmps12
    go_wp2_with fail
    go_ret
    rw [HR.out]
    exact ⟨rfl, L.out⟩
  have h3' : ¬ limit < 0 := by omega
  have h3'' : decide (limit < 0) = false := decide_eq_false h3'
  by_cases h4 : limit ≤ 1099511627776
  case neg =>
    have h4' : (1099511627776 : Int) < limit := by omega
    have HR : Hid (rightB ⟨nm, cs, ky⟩ ⟨kind, table, key, t, v, fr, to, wh, cols, limit, desc⟩ = false) := by show _ = _; unfold rightB; simp [h1, h2, h3, h4]
    (try clear h1)
    (try clear h2)
    (try clear h3)
    (try clear h4)
    go_enter Try.func12, Try.ntmps12
    go_wp2_with fail
    go_ret
    rw [HR.out]
    exact ⟨rfl, L.out⟩
  have h4' : ¬ (1099511627776 : Int) < limit := by omega
  have h4'' : decide ((1099511627776 : Int) < limit) = false := decide_eq_false h4'
  cases hsh : shapeB ⟨nm, cs, ky⟩ ⟨kind, table, key, t, v, fr, to, wh, cols, limit, desc⟩ with
  | false =>
    rw [hsh] at csh0
    have CSH := hid csh0
    have HR : Hid (rightB ⟨nm, cs, ky⟩ ⟨kind, table, key, t, v, fr, to, wh, cols, limit, desc⟩ = false) := by show (decide (table = nm) && (decide (cols.length ≤ 16) && (decide (0 ≤ limit ∧ limit ≤ 1099511627776) && (shapeB ⟨nm, cs, ky⟩ ⟨kind, table, key, t, v, fr, to, wh, cols, limit, desc⟩ && (colsB cs.length cols && (decide (wh.length = 0) || rightL cs wh)))))) = _; rw [decide_eq_true h1, decide_eq_true h2, decide_eq_true ⟨h3, h4⟩, hsh]; rfl
    clear hsh csh0
    (try clear h1)
    (try clear h2)
    (try clear h3)
    (try clear h4)
    go_enter Try.func12, Try.ntmps12
    go_wp2_with fail
    refine (CSH.out _ HK.out HW.out HC.out HU.out).mono ?_; rintro e w3 ⟨rfl, b3⟩
    replace L := hid (hnext L.out b3)
    replace BX := hid (BX.out.keep b3)
    replace BS := hid (BS.out.keep b3)
    replace HW := hid (HW.out.below b3)
    replace HC := hid (HC.out.below b3)
    replace HU := hid (HU.out.below b3)
    clear b3
    clear c0 c1 c2 c3 c4 c5 c6 c7 c8 c9 c10 s0 s1 s2
    go_wp2_with fail
    go_ret
    rw [HR.out]
    exact ⟨rfl, L.out⟩
  | true =>
    rw [hsh] at csh0
    have CSH := hid csh0
    have HE : Hid (rightB ⟨nm, cs, ky⟩ ⟨kind, table, key, t, v, fr, to, wh, cols, limit, desc⟩ = (colsB cs.length cols && (decide (wh.length = 0) || rightL cs wh))) := by show (decide (table = nm) && (decide (cols.length ≤ 16) && (decide (0 ≤ limit ∧ limit ≤ 1099511627776) && (shapeB ⟨nm, cs, ky⟩ ⟨kind, table, key, t, v, fr, to, wh, cols, limit, desc⟩ && (colsB cs.length cols && (decide (wh.length = 0) || rightL cs wh)))))) = _; rw [decide_eq_true h1, decide_eq_true h2, decide_eq_true ⟨h3, h4⟩, hsh]; rfl
    clear hsh csh0
    (try clear h1)
    (try clear h2)
    (try clear h3)
    (try clear h4)
    go_enter Try.func12, Try.ntmps12
    go_wp2_with fail
    refine (CSH.out _ HK.out HW.out HC.out HU.out).mono ?_; rintro e w3 ⟨rfl, b3⟩
    replace L := hid (hnext L.out b3)
    replace BX := hid (BX.out.keep b3)
    replace BS := hid (BS.out.keep b3)
    replace HW := hid (HW.out.below b3)
    replace HC := hid (HC.out.below b3)
    replace HU := hid (HU.out.below b3)
    clear b3
    clear c0 c1 c2 c3 c4 c5 c6 c7 c8 c9 c10 s0 s1 s2
    obtain ⟨c0, c1, c2, c3, c4, c5, c6, c7, c8, c9, c10, cl⟩ := BX.out.cells
    obtain ⟨s0, s1, s2, sl⟩ := BS.out.cells
    simp only at c0 c1 c2 c3 c4 c5 c6 c7 c8 c9 c10 s0 s1 s2
    clear cl sl
    obtain ⟨_, _, ec, hcc⟩ := HC.out
    cases ec
    have HCC := hid hcc
    clear hcc
    go_wp2_with fail
    go_loopw [37] (fun i wr => ∃ k : Nat, k ≤ cols.length ∧ i = .int .i64 (k : Int) ∧ Hid (∀ j (hj : j < cols.length), j < k → 0 ≤ cols[j] ∧ cols[j] < (cs.length : Int)) ∧ wr = w3) (fun i _ => cols.length - (intOf i).toNat)
    case atStart => exact ⟨0, by omega, rfl, fun j _ hj => absurd hj (Nat.not_lt_zero j), rfl⟩
    case round =>
      obtain ⟨k, hk, rfl, hall, rfl⟩ := hrel
      obtain ⟨w3, rfl⟩ : ∃ w3 : World, w3 = wr := ⟨_, rfl⟩
      have hk0 : (0 : Int) ≤ (k : Int) := by omega
      by_cases hkl : k < cols.length
      · have hkl' : (k : Int) < (cols.length : Int) := by omega
        obtain ⟨gc, oc, rfl, q0⟩ := HCC.out k hkl
        have HNO := hid (colsB_no (n := cs.length) hkl)
        have HYE := hid (fun (h : 0 ≤ cols[k] ∧ cols[k] < (cs.length : Int)) j (hj : j < cols.length) (hjk : j < k + 1) => (Nat.lt_succ_iff_lt_or_eq.1 hjk).elim (fun h2 => hall.out j hj h2) (fun h2 => (show 0 ≤ cols[j] ∧ cols[j] < (cs.length : Int) by subst h2; exact h)))
        generalize hx : cols[k] = c at q0 HNO HYE
        clear hx
        by_cases hc : 0 ≤ c ∧ c < (cs.length : Int)
        · have hc1 : decide (c < 0) = false := decide_eq_false (by omega)
          have hc2 : decide ((cs.length : Int) ≤ c) = false := decide_eq_false (by omega)
          have hc3 : ¬ c < 0 := by omega
          have hc4 : ¬ (cs.length : Int) ≤ c := by omega
          have HY := hid (HYE.out hc)
          clear HNO HYE hc
          go_wp2_with fail
          go_roundw
          case rel => exact ⟨k + 1, by omega, by first | rfl | go_num, HY.out, by first | rfl | trivial⟩
          case measure => simp [intOf]; omega
        · have HR : Hid (rightB ⟨nm, cs, ky⟩ ⟨kind, table, key, t, v, fr, to, wh, cols, limit, desc⟩ = false) := by show _ = _; rw [HE.out, HNO.out hc]; rfl
          clear HNO HYE
          by_cases hc1 : c < 0
          · clear hc
            go_wp2_with fail
            go_ret
            rw [HR.out]
            exact ⟨rfl, L.out⟩
          · have hc2 : (cs.length : Int) ≤ c := by omega
            clear hc
            go_wp2_with fail
            go_ret
            rw [HR.out]
            exact ⟨rfl, L.out⟩
      · obtain rfl : k = cols.length := by omega
        clear hkl
        have HE2 : Hid (rightB ⟨nm, cs, ky⟩ ⟨kind, table, key, t, v, fr, to, wh, cols, limit, desc⟩ = (decide (wh.length = 0) || rightL cs wh)) := by show _ = _; rw [HE.out, colsB_yes (fun j hj => hall.out j hj hj), Bool.true_and]
        by_cases hw : wh.length = 0
        · have hw' : ((wh.length : Int) == 0) = true := by rw [hw]; rfl
          have HR : Hid (rightB ⟨nm, cs, ky⟩ ⟨kind, table, key, t, v, fr, to, wh, cols, limit, desc⟩ = true) := by show _ = _; rw [HE2.out, decide_eq_true hw]; rfl
          clear hw
          go_wp2_with fail
          go_ret
          rw [HR.out]
          exact ⟨rfl, L.out⟩
        · have hw' : ((wh.length : Int) == 0) = false := by rw [beq_eq_false_iff_ne]; omega
          have HR : Hid (rightB ⟨nm, cs, ky⟩ ⟨kind, table, key, t, v, fr, to, wh, cols, limit, desc⟩ = rightL cs wh) := by show _ = _; rw [HE2.out, decide_eq_false hw, Bool.false_or]
          have cp := pright_any (.slice wa wh.length wc) wh ⟨nm, cs, ky⟩ (.slice ua cs.length uc) _ HW.out HU.out hlw (fun x hx => (HOK.out.wh x hx).2.2.2.2)
          unfold sv at cp
          simp only at cp
          generalize rightL cs wh = r at cp HR
          have CP := hid cp
          clear cp hw
          go_wp2_with fail
          refine CP.out.mono ?_; rintro e w5 ⟨rfl, b5⟩
          have L5 := hid (hnext L.out b5)
          clear b5
          clear c0 c1 c2 c3 c4 c5 c6 c7 c8 c9 c10 s0 s1 s2
          go_wp2_with fail
          go_ret
          rw [HR.out]
          exact ⟨rfl, L5.out⟩
end Go.Proofs.Ytmcneelapghfcaa
