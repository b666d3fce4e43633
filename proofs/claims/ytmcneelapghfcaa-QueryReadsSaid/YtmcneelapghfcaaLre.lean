/-
  QueryReads answers true at any bytes. No condition.
-/
import Derived.Test.YtmcneelapghfcaaRo
import Derived.Test.YtmcneelapghfcaaRj
import Derived.Test.YtmcneelapghfcaaRl
import Derived.Test.YtmcneelapghfcaaRm
namespace Go.Proofs.Ytmcneelapghfcaa
open Go.RowKit Pd Qu

set_option maxRecDepth 100000 in
set_option maxHeartbeats 12800000 in
theorem queryReads_walk (b : ByteArray) (w : World) (_ : b.size ≤ maxLen) :
    Calls Try.prog 4 #[.string b] w fun e w' => e = .returned (.bool true) ∧ Below w.heap.size w w' := by
  by_cases h1 : 1000 < b.size
  · have h1' : (1000 : Int) < (b.size : Int) := by omega
    clear h1
    go_enter Try.func4, Try.ntmps4
    go_wp2_with fail
    refine (known_any _).mono ?_; rintro e w9 ⟨rfl, b9⟩
    go_wp2
    go_ret
    exact ⟨rfl, b9⟩
  have h1' : ¬ (1000 : Int) < (b.size : Int) := by omega
  have cd := hid (fun W => qdecR_any b (by omega) W)
  have cp := hid (qdec_any b (by omega) w)
  clear h1
  go_enter Try.func4, Try.ntmps4
  go_wp2_with fail
  refine cp.out.mono ?_; rintro e w1 ⟨q, vk, vw, vc, er, rfl, hq, hs, hb, hd⟩
  obtain ⟨kd, tb, key, t, v, fr, to, wh, cols, lim, ds⟩ := q
  obtain ⟨a1, a2, a3, a4, a5, a6, rfl, rfl, rfl⟩ := qs3 hq
  simp only [] at hq
  have HQ := hid hq
  have HS := hid hs
  have HD := hid hd
  have L := hid hb
  clear hq hs hd hb cp
  unfold qv
  simp only
  have b := hba w1 (.cells #[.int .i64 kd, .string tb, .slice a1 key.length a2, .int .i64 t, .int .i64 v, .int .i64 fr, .int .i64 to, .slice a3 wh.length a4, .slice a5 cols.length a6, .int .i64 lim, .bool ds] 28)
  replace L := hid (hnext L.out b)
  replace HQ := hid (HQ.out.below b)
  have BX := hid (heap_alloc_new w1 (.cells #[.int .i64 kd, .string tb, .slice a1 key.length a2, .int .i64 t, .int .i64 v, .int .i64 fr, .int .i64 to, .slice a3 wh.length a4, .slice a5 cols.length a6, .int .i64 lim, .bool ds] 28))
  clear b
  go_wp2_with fail
  obtain ⟨gx, hgx⟩ : ∃ g, w1.heap.size = g := ⟨_, rfl⟩
  rw [hgx] at BX
  (try rw [hgx])
  clear hgx
  generalize w1.alloc (.cells #[.int .i64 kd, .string tb, .slice a1 key.length a2, .int .i64 t, .int .i64 v, .int .i64 fr, .int .i64 to, .slice a3 wh.length a4, .slice a5 cols.length a6, .int .i64 lim, .bool ds] 28) = w2 at *
  refine (cd.out _).mono ?_; rintro e w3 ⟨q2, vk2, vw2, vc2, er2, rfl, hq2, hs2, b, hd2⟩
  replace L := hid (hnext L.out b)
  replace HQ := hid (HQ.out.below b)
  replace BX := hid (keepBlock BX.out b)
  obtain ⟨rfl, rfl⟩ := dec_pair HS.out.ok hs2.ok HS.out.tab hs2.tab HD.out hd2
  obtain ⟨c1, c2, c3, c4, c5, c6, rfl, rfl, rfl⟩ := qs3 hq2
  simp only [] at hq2
  have HQ2 := hid hq2
  clear b hd2 hs2 hq2 cd HD
  unfold qv
  simp only
  have b := hba w3 (.cells #[.int .i64 kd, .string tb, .slice c1 key.length c2, .int .i64 t, .int .i64 v, .int .i64 fr, .int .i64 to, .slice c3 wh.length c4, .slice c5 cols.length c6, .int .i64 lim, .bool ds] 39)
  replace L := hid (hnext L.out b)
  replace HQ := hid (HQ.out.below b)
  replace BX := hid (keepBlock BX.out b)
  replace HQ2 := hid (HQ2.out.below b)
  have BY := hid (heap_alloc_new w3 (.cells #[.int .i64 kd, .string tb, .slice c1 key.length c2, .int .i64 t, .int .i64 v, .int .i64 fr, .int .i64 to, .slice c3 wh.length c4, .slice c5 cols.length c6, .int .i64 lim, .bool ds] 39))
  clear b
  go_wp2_with fail
  obtain ⟨gy, hgy⟩ : ∃ g, w3.heap.size = g := ⟨_, rfl⟩
  rw [hgy] at BY
  (try rw [hgy])
  clear hgy
  generalize w3.alloc (.cells #[.int .i64 kd, .string tb, .slice c1 key.length c2, .int .i64 t, .int .i64 v, .int .i64 fr, .int .i64 to, .slice c3 wh.length c4, .slice c5 cols.length c6, .int .i64 lim, .bool ds] 39) = w4 at *
  have he : (er == er) = true := by simp
  have hwl := hid HS.out.wh
  have x0 : w4.cell? ⟨gx, 0, none⟩ = some (.int .i64 kd) := cell_of_row _ (gx) 0 _ _ _ BX.out
  have x1 : w4.cell? ⟨gx, 1, none⟩ = some (.string tb) := cell_of_row _ (gx) 1 _ _ _ BX.out
  have x2 : w4.cell? ⟨gx, 2, none⟩ = some (.slice a1 key.length a2) := cell_of_row _ (gx) 2 _ _ _ BX.out
  have x3 : w4.cell? ⟨gx, 3, none⟩ = some (.int .i64 t) := cell_of_row _ (gx) 3 _ _ _ BX.out
  have x4 : w4.cell? ⟨gx, 4, none⟩ = some (.int .i64 v) := cell_of_row _ (gx) 4 _ _ _ BX.out
  have x5 : w4.cell? ⟨gx, 5, none⟩ = some (.int .i64 fr) := cell_of_row _ (gx) 5 _ _ _ BX.out
  have x6 : w4.cell? ⟨gx, 6, none⟩ = some (.int .i64 to) := cell_of_row _ (gx) 6 _ _ _ BX.out
  have x7 : w4.cell? ⟨gx, 7, none⟩ = some (.slice a3 wh.length a4) := cell_of_row _ (gx) 7 _ _ _ BX.out
  have x8 : w4.cell? ⟨gx, 8, none⟩ = some (.slice a5 cols.length a6) := cell_of_row _ (gx) 8 _ _ _ BX.out
  have x9 : w4.cell? ⟨gx, 9, none⟩ = some (.int .i64 lim) := cell_of_row _ (gx) 9 _ _ _ BX.out
  have x10 : w4.cell? ⟨gx, 10, none⟩ = some (.bool ds) := cell_of_row _ (gx) 10 _ _ _ BX.out
  have y0 : w4.cell? ⟨gy, 0, none⟩ = some (.int .i64 kd) := cell_of_row _ (gy) 0 _ _ _ BY.out
  have y1 : w4.cell? ⟨gy, 1, none⟩ = some (.string tb) := cell_of_row _ (gy) 1 _ _ _ BY.out
  have y2 : w4.cell? ⟨gy, 2, none⟩ = some (.slice c1 key.length c2) := cell_of_row _ (gy) 2 _ _ _ BY.out
  have y3 : w4.cell? ⟨gy, 3, none⟩ = some (.int .i64 t) := cell_of_row _ (gy) 3 _ _ _ BY.out
  have y4 : w4.cell? ⟨gy, 4, none⟩ = some (.int .i64 v) := cell_of_row _ (gy) 4 _ _ _ BY.out
  have y5 : w4.cell? ⟨gy, 5, none⟩ = some (.int .i64 fr) := cell_of_row _ (gy) 5 _ _ _ BY.out
  have y6 : w4.cell? ⟨gy, 6, none⟩ = some (.int .i64 to) := cell_of_row _ (gy) 6 _ _ _ BY.out
  have y7 : w4.cell? ⟨gy, 7, none⟩ = some (.slice c3 wh.length c4) := cell_of_row _ (gy) 7 _ _ _ BY.out
  have y8 : w4.cell? ⟨gy, 8, none⟩ = some (.slice c5 cols.length c6) := cell_of_row _ (gy) 8 _ _ _ BY.out
  have y9 : w4.cell? ⟨gy, 9, none⟩ = some (.int .i64 lim) := cell_of_row _ (gy) 9 _ _ _ BY.out
  have y10 : w4.cell? ⟨gy, 10, none⟩ = some (.bool ds) := cell_of_row _ (gy) 10 _ _ _ BY.out
  obtain ⟨w20, hw20⟩ : ∃ w20, (w4).drew = w20 := ⟨_, rfl⟩
  have hd20 : Below (w4).heap.size (w4) w20 := hw20 ▸ (Below.refl _ _).drew
  have mk20 : ∀ W, Below w20.heap.size w20 W → Below w20.heap.size w20 W ∧ W.cell? ⟨gx, 0, none⟩ = some (.int .i64 kd) ∧ W.cell? ⟨gx, 1, none⟩ = some (.string tb) ∧ W.cell? ⟨gx, 2, none⟩ = some (.slice a1 key.length a2) ∧ W.cell? ⟨gx, 3, none⟩ = some (.int .i64 t) ∧ W.cell? ⟨gx, 4, none⟩ = some (.int .i64 v) ∧ W.cell? ⟨gx, 5, none⟩ = some (.int .i64 fr) ∧ W.cell? ⟨gx, 6, none⟩ = some (.int .i64 to) ∧ W.cell? ⟨gx, 7, none⟩ = some (.slice a3 wh.length a4) ∧ W.cell? ⟨gx, 8, none⟩ = some (.slice a5 cols.length a6) ∧ W.cell? ⟨gx, 9, none⟩ = some (.int .i64 lim) ∧ W.cell? ⟨gx, 10, none⟩ = some (.bool ds) ∧ W.cell? ⟨gy, 0, none⟩ = some (.int .i64 kd) ∧ W.cell? ⟨gy, 1, none⟩ = some (.string tb) ∧ W.cell? ⟨gy, 2, none⟩ = some (.slice c1 key.length c2) ∧ W.cell? ⟨gy, 3, none⟩ = some (.int .i64 t) ∧ W.cell? ⟨gy, 4, none⟩ = some (.int .i64 v) ∧ W.cell? ⟨gy, 5, none⟩ = some (.int .i64 fr) ∧ W.cell? ⟨gy, 6, none⟩ = some (.int .i64 to) ∧ W.cell? ⟨gy, 7, none⟩ = some (.slice c3 wh.length c4) ∧ W.cell? ⟨gy, 8, none⟩ = some (.slice c5 cols.length c6) ∧ W.cell? ⟨gy, 9, none⟩ = some (.int .i64 lim) ∧ W.cell? ⟨gy, 10, none⟩ = some (.bool ds) := fun W h => ⟨h, hkeep (hkeep x0 hd20) h, hkeep (hkeep x1 hd20) h, hkeep (hkeep x2 hd20) h, hkeep (hkeep x3 hd20) h, hkeep (hkeep x4 hd20) h, hkeep (hkeep x5 hd20) h, hkeep (hkeep x6 hd20) h, hkeep (hkeep x7 hd20) h, hkeep (hkeep x8 hd20) h, hkeep (hkeep x9 hd20) h, hkeep (hkeep x10 hd20) h, hkeep (hkeep y0 hd20) h, hkeep (hkeep y1 hd20) h, hkeep (hkeep y2 hd20) h, hkeep (hkeep y3 hd20) h, hkeep (hkeep y4 hd20) h, hkeep (hkeep y5 hd20) h, hkeep (hkeep y6 hd20) h, hkeep (hkeep y7 hd20) h, hkeep (hkeep y8 hd20) h, hkeep (hkeep y9 hd20) h, hkeep (hkeep y10 hd20) h⟩
  clear x0 x1 x2 x3 x4 x5 x6 x7 x8 x9 x10 y0 y1 y2 y3 y4 y5 y6 y7 y8 y9 y10
  have L20 := hid (hnext L.out hd20)
  replace HQ := hid (HQ.out.below hd20)
  replace HQ2 := hid (HQ2.out.below hd20)
  clear L BX BY hd20
  refine wp_region_held_drew (S := (fun W => Below w20.heap.size w20 W ∧ W.cell? ⟨gx, 0, none⟩ = some (.int .i64 kd) ∧ W.cell? ⟨gx, 1, none⟩ = some (.string tb) ∧ W.cell? ⟨gx, 2, none⟩ = some (.slice a1 key.length a2) ∧ W.cell? ⟨gx, 3, none⟩ = some (.int .i64 t) ∧ W.cell? ⟨gx, 4, none⟩ = some (.int .i64 v) ∧ W.cell? ⟨gx, 5, none⟩ = some (.int .i64 fr) ∧ W.cell? ⟨gx, 6, none⟩ = some (.int .i64 to) ∧ W.cell? ⟨gx, 7, none⟩ = some (.slice a3 wh.length a4) ∧ W.cell? ⟨gx, 8, none⟩ = some (.slice a5 cols.length a6) ∧ W.cell? ⟨gx, 9, none⟩ = some (.int .i64 lim) ∧ W.cell? ⟨gx, 10, none⟩ = some (.bool ds) ∧ W.cell? ⟨gy, 0, none⟩ = some (.int .i64 kd) ∧ W.cell? ⟨gy, 1, none⟩ = some (.string tb) ∧ W.cell? ⟨gy, 2, none⟩ = some (.slice c1 key.length c2) ∧ W.cell? ⟨gy, 3, none⟩ = some (.int .i64 t) ∧ W.cell? ⟨gy, 4, none⟩ = some (.int .i64 v) ∧ W.cell? ⟨gy, 5, none⟩ = some (.int .i64 fr) ∧ W.cell? ⟨gy, 6, none⟩ = some (.int .i64 to) ∧ W.cell? ⟨gy, 7, none⟩ = some (.slice c3 wh.length c4) ∧ W.cell? ⟨gy, 8, none⟩ = some (.slice c5 cols.length c6) ∧ W.cell? ⟨gy, 9, none⟩ = some (.int .i64 lim) ∧ W.cell? ⟨gy, 10, none⟩ = some (.bool ds))) (by kernel_rfl) (by rw [hw20]; exact mk20 _ (Below.refl _ _)) (fun hS20 => ?_)
  rw [hw20] at hS20 ⊢
  clear hw20
  refine wT 0 hS20 ?_
  refine wT 2 hS20 ?_
  refine wpAnyH_ready (rs := [1]) (by kernel_rfl) (by simp) ?_
  refine wC (fun K hK => ?_) AllReadyH.nil
  go_simp
  refine (qplain_any ⟨kd, tb, key, t, v, fr, to, wh, cols, lim, ds⟩ _ _ _ _ (HQ.out.below hS20.1) (Nat.le_trans HS.out.wh (by decide))).mono ?_; rintro e w21 ⟨vp, rfl, hn, hb21⟩
  have HN := hid hn
  clear hn
  go_wp2_with fail
  refine hK.out _ _ (mk20 _ (hnext hS20.1 hb21)) (fun hS21 => ?_)
  clear hK K
  (try simp only [Act.put, List.setIfInBounds_toArray, List.set_cons_zero, List.set_cons_succ])
  clear hb21 hS20
  refine wpAnyH_ready (rs := [3]) (by kernel_rfl) (by simp) ?_
  refine wC (fun K hK => ?_) AllReadyH.nil
  go_simp
  refine (qsameR_same ⟨kd, tb, key, t, v, fr, to, wh, cols, lim, ds⟩ _ _ _ _ _ _ _ ⟨(HQ.out.below hS21.1).1, HN.out, (HQ.out.below hS21.1).2.2⟩ (HQ2.out.below hS21.1) (Nat.le_trans HS.out.key (by decide)) (Nat.le_trans HS.out.wh (by decide)) (Nat.le_trans HS.out.cols (by decide))).mono ?_; rintro e w22 ⟨rfl, hb22⟩
  go_wp2_with fail
  refine hK.out _ _ (mk20 _ (hnext hS21.1 hb22)) (fun hS22 => ?_)
  clear hK K
  (try simp only [Act.put, List.setIfInBounds_toArray, List.set_cons_zero, List.set_cons_succ])
  clear hb22 hS21
  refine wT 4 hS22 ?_
  refine wT 5 hS22 ?_
  refine wT 6 hS22 ?_
  refine wT 7 hS22 ?_
  refine wT 8 hS22 ?_
  refine wT 9 hS22 ?_
  refine wpAnyH_ready (rs := [10]) (by kernel_rfl) (by simp) ?_
  refine wC (fun K hK => ?_) AllReadyH.nil
  go_simp
  refine (known_any _).mono ?_; rintro e w23 ⟨rfl, hb23⟩
  go_wp2_with fail
  refine hK.out _ _ (mk20 _ (hnext hS22.1 hb23)) (fun hS23 => ?_)
  clear hK K
  (try simp only [Act.put, List.setIfInBounds_toArray, List.set_cons_zero, List.set_cons_succ])
  clear hb23 hS22
  refine wT 11 hS23 ?_
  refine wT 12 hS23 ?_
  refine wpAnyH_done (by kernel_rfl) ?_ _
  go_wp2_with fail
  go_ret
  exact ⟨rfl, hnext L20.out hS23.1⟩
end Go.Proofs.Ytmcneelapghfcaa
