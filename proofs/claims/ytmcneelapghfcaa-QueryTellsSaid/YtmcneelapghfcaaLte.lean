/-
  QueryTells answers true at any query, schema and row. No condition.
-/
import Derived.Test.YtmcneelapghfcaaRo
import Derived.Test.YtmcneelapghfcaaOq
import Derived.Test.YtmcneelapghfcaaRk
import Derived.Test.YtmcneelapghfcaaRl
import Derived.Test.YtmcneelapghfcaaRc
import Derived.Test.YtmcneelapghfcaaRf
namespace Go.Proofs.Ytmcneelapghfcaa
open Go.RowKit Pd Qu

set_option maxRecDepth 100000 in
set_option maxHeartbeats 12800000 in
theorem queryTells_walk (q : Q) (vk vw vc : Value) (s : Sc.S) (u : Value) (v : Value) (row : List Cd.V) (w : World) (hq : QHere w q vk vw vc) (hs : SchemaIn w s u) (hr : RsAt w v row ∧ ∀ x ∈ row, Vok x) :
    Calls Try.prog 3 #[qv q vk vw vc, sv s u, v] w fun e w' => e = .returned (.bool true) ∧ Below w.heap.size w w' := by
  obtain ⟨hq, hok⟩ := hq
  obtain ⟨kd, tb, key, t, v, fr, to, wh, cols, lim, ds⟩ := q
  obtain ⟨a1, a2, a3, a4, a5, a6, rfl, rfl, rfl⟩ := qs3 hq
  simp only [] at hq
  have HOK := hid hok
  obtain ⟨hcs, _⟩ := hs
  obtain ⟨hrs, hrk⟩ := hr
  obtain ⟨sa, sc, rfl⟩ := hcs.slc
  obtain ⟨ra, rc, rfl⟩ := vs_slc hrs.1
  have HRK := hid hrk
  clear hok hrk
  unfold qv sv
  simp only
  go_enter Try.func3, Try.ntmps3
  go_wp2_with fail
  have b1 := hba w (.cells #[.int .i64 kd, .string tb, .slice a1 key.length a2, .int .i64 t, .int .i64 v, .int .i64 fr, .int .i64 to, .slice a3 wh.length a4, .slice a5 cols.length a6, .int .i64 lim, .bool ds] 28)
  have b2 := hba (w.alloc (.cells #[.int .i64 kd, .string tb, .slice a1 key.length a2, .int .i64 t, .int .i64 v, .int .i64 fr, .int .i64 to, .slice a3 wh.length a4, .slice a5 cols.length a6, .int .i64 lim, .bool ds] 28)) (.cells #[.string s.name, .slice sa s.cols.length sc, .int .i64 s.keys] 31)
  have L := hid (hnext b1 b2)
  have BX := hid (keepBlock (heap_alloc_new w (.cells #[.int .i64 kd, .string tb, .slice a1 key.length a2, .int .i64 t, .int .i64 v, .int .i64 fr, .int .i64 to, .slice a3 wh.length a4, .slice a5 cols.length a6, .int .i64 lim, .bool ds] 28)) b2)
  have BS := hid (heap_alloc_new (w.alloc (.cells #[.int .i64 kd, .string tb, .slice a1 key.length a2, .int .i64 t, .int .i64 v, .int .i64 fr, .int .i64 to, .slice a3 wh.length a4, .slice a5 cols.length a6, .int .i64 lim, .bool ds] 28)) (.cells #[.string s.name, .slice sa s.cols.length sc, .int .i64 s.keys] 31))
  have HQ := hid (hq.below L.out)
  have HC := hid (hcs.below L.out)
  have HR := hid (hrs.below L.out)
  have hsz : ∀ (W : World) (o : Obj), (W.alloc o).heap.size = W.heap.size + 1 := fun W o => by simp
  obtain ⟨gx, hgx⟩ : ∃ g, w.heap.size = g := ⟨_, rfl⟩
  rw [hgx] at BX
  simp only [hsz, hgx] at BS
  (try simp only [hsz])
  (try simp only [hgx])
  clear hsz hgx b1 b2
  generalize ((w.alloc (.cells #[.int .i64 kd, .string tb, .slice a1 key.length a2, .int .i64 t, .int .i64 v, .int .i64 fr, .int .i64 to, .slice a3 wh.length a4, .slice a5 cols.length a6, .int .i64 lim, .bool ds] 28)).alloc (.cells #[.string s.name, .slice sa s.cols.length sc, .int .i64 s.keys] 31)) = w1 at *
  clear hq hcs hrs
  refine (weight_any ⟨kd, tb, key, t, v, fr, to, wh, cols, lim, ds⟩ _ _ _ _ HQ.out).mono ?_; rintro e w2 ⟨⟨z, rfl, hz⟩, b⟩
  replace L := hid (hnext L.out b)
  replace HQ := hid (HQ.out.below b)
  replace HC := hid (HC.out.below b)
  replace HR := hid (HR.out.below b)
  replace BX := hid (keepBlock BX.out b)
  replace BS := hid (keepBlock BS.out b)
  clear b
  by_cases h5 : 5000 < z
  · clear hz
    have s0 : w2.cell? ⟨gx + 1, 0, none⟩ = some (.string s.name) := cell_of_row _ (gx + 1) 0 _ _ _ BS.out
    have s1 : w2.cell? ⟨gx + 1, 1, none⟩ = some (.slice sa s.cols.length sc) := cell_of_row _ (gx + 1) 1 _ _ _ BS.out
    have s2 : w2.cell? ⟨gx + 1, 2, none⟩ = some (.int .i64 s.keys) := cell_of_row _ (gx + 1) 2 _ _ _ BS.out
    go_wp2_with fail
    refine (known_any _).mono ?_; rintro e w3 ⟨rfl, b⟩
    go_wp2
    go_ret
    exact ⟨rfl, hnext L.out b⟩
  have HZ := hid (hz (by omega))
  clear hz
  have hlz := HZ.out
  unfold LightQ at hlz
  simp only at hlz
  obtain ⟨hz1, hz2, hz3, hz4⟩ := hlz
  have hk6 : key.length ≤ 1000000 := by omega
  have hw6 : wh.length ≤ 1000000 := by omega
  have hc6 : cols.length ≤ 1000000 := by omega
  have ht8 : tb.size ≤ 100000000 := by omega
  have HK6 := hid hk6
  have HW6 := hid hw6
  have HC6 := hid hc6
  have HT8 := hid ht8
  clear hk6 hw6 hc6 ht8 hz1 hz2 hz3 hz4
  have s0 : w2.cell? ⟨gx + 1, 0, none⟩ = some (.string s.name) := cell_of_row _ (gx + 1) 0 _ _ _ BS.out
  have s1 : w2.cell? ⟨gx + 1, 1, none⟩ = some (.slice sa s.cols.length sc) := cell_of_row _ (gx + 1) 1 _ _ _ BS.out
  have s2 : w2.cell? ⟨gx + 1, 2, none⟩ = some (.int .i64 s.keys) := cell_of_row _ (gx + 1) 2 _ _ _ BS.out
  by_cases h1 : s.cols.length ≤ 40
  case neg =>
    have h1' : (40 : Int) < (s.cols.length : Int) := by omega
    clear h1
    go_wp2_with fail
    refine (known_any _).mono ?_; rintro e w3 ⟨rfl, b⟩
    go_wp2
    go_ret
    exact ⟨rfl, hnext L.out b⟩
  have h1' : ¬ (40 : Int) < (s.cols.length : Int) := by omega
  by_cases h2 : row.length ≤ 40
  case neg =>
    have h2' : (40 : Int) < (row.length : Int) := by omega
    clear h1 h2
    go_wp2_with fail
    refine (known_any _).mono ?_; rintro e w3 ⟨rfl, b⟩
    go_wp2
    go_ret
    exact ⟨rfl, hnext L.out b⟩
  have h2' : ¬ (40 : Int) < (row.length : Int) := by omega
  have hr6 : row.length ≤ 1000000 := by omega
  have HR6 := hid hr6
  clear h1 h2 hr6
  go_wp2_with fail
  clear s0 s1 s2
  go_loopw [7] (fun i wr => ∃ k : Nat, k ≤ row.length ∧ i = .int .i64 (k : Int) ∧ wr = w2) (fun i _ => row.length - (intOf i).toNat)
  case atStart => exact ⟨0, by omega, rfl, rfl⟩
  case round =>
    obtain ⟨k, hk, rfl, rfl⟩ := hrel
    obtain ⟨w2, rfl⟩ : ∃ w2 : World, w2 = wr := ⟨_, rfl⟩
    have hk0 : (0 : Int) ≤ (k : Int) := by omega
    by_cases hkl : k < row.length
    · have hkl' : (k : Int) < (row.length : Int) := by omega
      obtain ⟨_, _, e1, hc1⟩ := HR.out.1
      cases e1
      obtain ⟨g, off, rfl, _, _, _, u3⟩ := hc1 k hkl
      clear hc1
      generalize row[k].s = rs at u3
      by_cases h3 : 300 < rs.size
      · have h3' : (300 : Int) < (rs.size : Int) := by omega
        clear h3
        go_wp2_with fail
        refine (known_any _).mono ?_; rintro e w3 ⟨rfl, b⟩
        go_wp2
        go_ret
        exact ⟨rfl, hnext L.out b⟩
      · have h3' : ¬ (300 : Int) < (rs.size : Int) := by omega
        clear h3
        go_wp2_with fail
        go_roundw
        case rel => exact ⟨k + 1, by omega, by first | rfl | go_num, by first | rfl | trivial⟩
        case measure => simp [intOf]; omega
    · have hkl' : ¬ (k : Int) < (row.length : Int) := by omega
      clear hkl
      have x0 : w2.cell? ⟨gx, 0, none⟩ = some (.int .i64 kd) := cell_of_row _ (gx) 0 _ _ _ BX.out
      have x1 : w2.cell? ⟨gx, 1, none⟩ = some (.string tb) := cell_of_row _ (gx) 1 _ _ _ BX.out
      have x2 : w2.cell? ⟨gx, 2, none⟩ = some (.slice a1 key.length a2) := cell_of_row _ (gx) 2 _ _ _ BX.out
      have x3 : w2.cell? ⟨gx, 3, none⟩ = some (.int .i64 t) := cell_of_row _ (gx) 3 _ _ _ BX.out
      have x4 : w2.cell? ⟨gx, 4, none⟩ = some (.int .i64 v) := cell_of_row _ (gx) 4 _ _ _ BX.out
      have x5 : w2.cell? ⟨gx, 5, none⟩ = some (.int .i64 fr) := cell_of_row _ (gx) 5 _ _ _ BX.out
      have x6 : w2.cell? ⟨gx, 6, none⟩ = some (.int .i64 to) := cell_of_row _ (gx) 6 _ _ _ BX.out
      have x7 : w2.cell? ⟨gx, 7, none⟩ = some (.slice a3 wh.length a4) := cell_of_row _ (gx) 7 _ _ _ BX.out
      have x8 : w2.cell? ⟨gx, 8, none⟩ = some (.slice a5 cols.length a6) := cell_of_row _ (gx) 8 _ _ _ BX.out
      have x9 : w2.cell? ⟨gx, 9, none⟩ = some (.int .i64 lim) := cell_of_row _ (gx) 9 _ _ _ BX.out
      have x10 : w2.cell? ⟨gx, 10, none⟩ = some (.bool ds) := cell_of_row _ (gx) 10 _ _ _ BX.out
      go_wp2_with fail
      refine (qplain_any ⟨kd, tb, key, t, v, fr, to, wh, cols, lim, ds⟩ _ _ _ _ HQ.out HW6.out).mono ?_; rintro e w3 ⟨vp, rfl, hn, b⟩
      replace L := hid (hnext L.out b)
      replace HQ := hid (HQ.out.below b)
      replace HC := hid (HC.out.below b)
      replace HR := hid (HR.out.below b)
      replace BX := hid (keepBlock BX.out b)
      replace BS := hid (keepBlock BS.out b)
      obtain ⟨p1, p2, rfl⟩ := hn.slc
      have HN := hid hn
      clear b hn x0 x1 x2 x3 x4 x5 x6 x7 x8 x9 x10
      unfold qv
      simp only
      have b := hba w3 (.cells #[.int .i64 kd, .string tb, .slice a1 key.length a2, .int .i64 t, .int .i64 v, .int .i64 fr, .int .i64 to, .slice p1 wh.length p2, .slice a5 cols.length a6, .int .i64 lim, .bool ds] 39)
      replace L := hid (hnext L.out b)
      replace HQ := hid (HQ.out.below b)
      replace HC := hid (HC.out.below b)
      replace HR := hid (HR.out.below b)
      replace BX := hid (keepBlock BX.out b)
      replace BS := hid (keepBlock BS.out b)
      replace HN := hid (HN.out.below b)
      have BP := hid (heap_alloc_new w3 (.cells #[.int .i64 kd, .string tb, .slice a1 key.length a2, .int .i64 t, .int .i64 v, .int .i64 fr, .int .i64 to, .slice p1 wh.length p2, .slice a5 cols.length a6, .int .i64 lim, .bool ds] 39))
      clear b
      go_wp2_with fail
      obtain ⟨gp, hgp⟩ : ∃ g, w3.heap.size = g := ⟨_, rfl⟩
      rw [hgp] at BP
      (try rw [hgp])
      clear hgp
      generalize w3.alloc (.cells #[.int .i64 kd, .string tb, .slice a1 key.length a2, .int .i64 t, .int .i64 v, .int .i64 fr, .int .i64 to, .slice p1 wh.length p2, .slice a5 cols.length a6, .int .i64 lim, .bool ds] 39) = w4 at *
      have HP : Hid (QIn w4 ⟨kd, tb, key, t, v, fr, to, wh, cols, lim, ds⟩ (.slice a1 key.length a2) (.slice p1 wh.length p2) (.slice a5 cols.length a6)) := ⟨HQ.out.1, HN.out, HQ.out.2.2⟩
      have c1 := fun W h h2 => qright_any ⟨kd, tb, key, t, v, fr, to, wh, cols, lim, ds⟩ (.slice a1 key.length a2) (.slice a3 wh.length a4) (.slice a5 cols.length a6) s (.slice sa s.cols.length sc) W h h2 HOK.out HW6.out
      have c2 := fun W h h2 => qrightR_any ⟨kd, tb, key, t, v, fr, to, wh, cols, lim, ds⟩ (.slice a1 key.length a2) (.slice p1 wh.length p2) (.slice a5 cols.length a6) s (.slice sa s.cols.length sc) W h h2 HOK.out HW6.out
      have c3 := fun W h h2 => pass_any ⟨kd, tb, key, t, v, fr, to, wh, cols, lim, ds⟩ (.slice a1 key.length a2) (.slice a3 wh.length a4) (.slice a5 cols.length a6) row (.slice ra row.length rc) W h h2 HW6.out HOK.out.wh HRK.out
      have c4 := fun W h h2 => passR_any ⟨kd, tb, key, t, v, fr, to, wh, cols, lim, ds⟩ (.slice a1 key.length a2) (.slice p1 wh.length p2) (.slice a5 cols.length a6) row (.slice ra row.length rc) W h h2 HW6.out HOK.out.wh HRK.out
      have c5 := hid (fun W h h2 => project_any ⟨kd, tb, key, t, v, fr, to, wh, cols, lim, ds⟩ (.slice a1 key.length a2) (.slice a3 wh.length a4) (.slice a5 cols.length a6) row (.slice ra row.length rc) W h h2 HC6.out HR6.out)
      have c6 := hid (fun W h h2 => projectR_any ⟨kd, tb, key, t, v, fr, to, wh, cols, lim, ds⟩ (.slice a1 key.length a2) (.slice p1 wh.length p2) (.slice a5 cols.length a6) row (.slice ra row.length rc) W h h2 HC6.out HR6.out)
      have c7 := fun W h => qenc_any ⟨kd, tb, key, t, v, fr, to, wh, cols, lim, ds⟩ (.slice a1 key.length a2) (.slice a3 wh.length a4) (.slice a5 cols.length a6) W h HOK.out HK6.out HW6.out HC6.out HT8.out
      have c8 := fun W h => qencR_any ⟨kd, tb, key, t, v, fr, to, wh, cols, lim, ds⟩ (.slice a1 key.length a2) (.slice p1 wh.length p2) (.slice a5 cols.length a6) W h HOK.out HK6.out HW6.out HC6.out HT8.out
      have hpl : (projL ⟨kd, tb, key, t, v, fr, to, wh, cols, lim, ds⟩ row).length ≤ 1000000 := by
        have := HR6.out
        have := HC6.out
        unfold projL
        split
        · exact HR6.out
        · rw [List.length_map]; exact HC6.out
      generalize rightB s ⟨kd, tb, key, t, v, fr, to, wh, cols, lim, ds⟩ = r1 at c1 c2
      generalize passB ⟨kd, tb, key, t, v, fr, to, wh, cols, lim, ds⟩ row = r2 at c3 c4
      generalize bstr (enc ⟨kd, tb, key, t, v, fr, to, wh, cols, lim, ds⟩) = r3 at c7 c8
      generalize projL ⟨kd, tb, key, t, v, fr, to, wh, cols, lim, ds⟩ row = r4 at c5 c6 hpl
      have c9 := fun v u W h h2 => rows_any v u r4 r4 W h h2 hpl hpl
      rw [decide_eq_true (rfl : r4 = r4)] at c9
      have C1 := hid c1
      have C2 := hid c2
      have C3 := hid c3
      have C4 := hid c4
      have C7 := hid c7
      have C8 := hid c8
      have C9 := hid c9
      clear c1 c2 c3 c4 c7 c8 c9 hpl
      have x0 : w4.cell? ⟨gx, 0, none⟩ = some (.int .i64 kd) := cell_of_row _ (gx) 0 _ _ _ BX.out
      have x1 : w4.cell? ⟨gx, 1, none⟩ = some (.string tb) := cell_of_row _ (gx) 1 _ _ _ BX.out
      have x2 : w4.cell? ⟨gx, 2, none⟩ = some (.slice a1 key.length a2) := cell_of_row _ (gx) 2 _ _ _ BX.out
      have x3 : w4.cell? ⟨gx, 3, none⟩ = some (.int .i64 t) := cell_of_row _ (gx) 3 _ _ _ BX.out
      have x4 : w4.cell? ⟨gx, 4, none⟩ = some (.int .i64 v) := cell_of_row _ (gx) 4 _ _ _ BX.out
      have x5 : w4.cell? ⟨gx, 5, none⟩ = some (.int .i64 fr) := cell_of_row _ (gx) 5 _ _ _ BX.out
      have x6 : w4.cell? ⟨gx, 6, none⟩ = some (.int .i64 to) := cell_of_row _ (gx) 6 _ _ _ BX.out
      have x7 : w4.cell? ⟨gx, 7, none⟩ = some (.slice a3 wh.length a4) := cell_of_row _ (gx) 7 _ _ _ BX.out
      have x8 : w4.cell? ⟨gx, 8, none⟩ = some (.slice a5 cols.length a6) := cell_of_row _ (gx) 8 _ _ _ BX.out
      have x9 : w4.cell? ⟨gx, 9, none⟩ = some (.int .i64 lim) := cell_of_row _ (gx) 9 _ _ _ BX.out
      have x10 : w4.cell? ⟨gx, 10, none⟩ = some (.bool ds) := cell_of_row _ (gx) 10 _ _ _ BX.out
      have s0 : w4.cell? ⟨gx + 1, 0, none⟩ = some (.string s.name) := cell_of_row _ (gx + 1) 0 _ _ _ BS.out
      have s1 : w4.cell? ⟨gx + 1, 1, none⟩ = some (.slice sa s.cols.length sc) := cell_of_row _ (gx + 1) 1 _ _ _ BS.out
      have s2 : w4.cell? ⟨gx + 1, 2, none⟩ = some (.int .i64 s.keys) := cell_of_row _ (gx + 1) 2 _ _ _ BS.out
      have y0 : w4.cell? ⟨gp, 0, none⟩ = some (.int .i64 kd) := cell_of_row _ (gp) 0 _ _ _ BP.out
      have y1 : w4.cell? ⟨gp, 1, none⟩ = some (.string tb) := cell_of_row _ (gp) 1 _ _ _ BP.out
      have y2 : w4.cell? ⟨gp, 2, none⟩ = some (.slice a1 key.length a2) := cell_of_row _ (gp) 2 _ _ _ BP.out
      have y3 : w4.cell? ⟨gp, 3, none⟩ = some (.int .i64 t) := cell_of_row _ (gp) 3 _ _ _ BP.out
      have y4 : w4.cell? ⟨gp, 4, none⟩ = some (.int .i64 v) := cell_of_row _ (gp) 4 _ _ _ BP.out
      have y5 : w4.cell? ⟨gp, 5, none⟩ = some (.int .i64 fr) := cell_of_row _ (gp) 5 _ _ _ BP.out
      have y6 : w4.cell? ⟨gp, 6, none⟩ = some (.int .i64 to) := cell_of_row _ (gp) 6 _ _ _ BP.out
      have y7 : w4.cell? ⟨gp, 7, none⟩ = some (.slice p1 wh.length p2) := cell_of_row _ (gp) 7 _ _ _ BP.out
      have y8 : w4.cell? ⟨gp, 8, none⟩ = some (.slice a5 cols.length a6) := cell_of_row _ (gp) 8 _ _ _ BP.out
      have y9 : w4.cell? ⟨gp, 9, none⟩ = some (.int .i64 lim) := cell_of_row _ (gp) 9 _ _ _ BP.out
      have y10 : w4.cell? ⟨gp, 10, none⟩ = some (.bool ds) := cell_of_row _ (gp) 10 _ _ _ BP.out
      obtain ⟨w20, hw20⟩ : ∃ w20, (w4).drew = w20 := ⟨_, rfl⟩
      have hd20 : Below (w4).heap.size (w4) w20 := hw20 ▸ (Below.refl _ _).drew
      have mk20 : ∀ W, Below w20.heap.size w20 W → Below w20.heap.size w20 W ∧ W.cell? ⟨gx, 0, none⟩ = some (.int .i64 kd) ∧ W.cell? ⟨gx, 1, none⟩ = some (.string tb) ∧ W.cell? ⟨gx, 2, none⟩ = some (.slice a1 key.length a2) ∧ W.cell? ⟨gx, 3, none⟩ = some (.int .i64 t) ∧ W.cell? ⟨gx, 4, none⟩ = some (.int .i64 v) ∧ W.cell? ⟨gx, 5, none⟩ = some (.int .i64 fr) ∧ W.cell? ⟨gx, 6, none⟩ = some (.int .i64 to) ∧ W.cell? ⟨gx, 7, none⟩ = some (.slice a3 wh.length a4) ∧ W.cell? ⟨gx, 8, none⟩ = some (.slice a5 cols.length a6) ∧ W.cell? ⟨gx, 9, none⟩ = some (.int .i64 lim) ∧ W.cell? ⟨gx, 10, none⟩ = some (.bool ds) ∧ W.cell? ⟨gx + 1, 0, none⟩ = some (.string s.name) ∧ W.cell? ⟨gx + 1, 1, none⟩ = some (.slice sa s.cols.length sc) ∧ W.cell? ⟨gx + 1, 2, none⟩ = some (.int .i64 s.keys) ∧ W.cell? ⟨gp, 0, none⟩ = some (.int .i64 kd) ∧ W.cell? ⟨gp, 1, none⟩ = some (.string tb) ∧ W.cell? ⟨gp, 2, none⟩ = some (.slice a1 key.length a2) ∧ W.cell? ⟨gp, 3, none⟩ = some (.int .i64 t) ∧ W.cell? ⟨gp, 4, none⟩ = some (.int .i64 v) ∧ W.cell? ⟨gp, 5, none⟩ = some (.int .i64 fr) ∧ W.cell? ⟨gp, 6, none⟩ = some (.int .i64 to) ∧ W.cell? ⟨gp, 7, none⟩ = some (.slice p1 wh.length p2) ∧ W.cell? ⟨gp, 8, none⟩ = some (.slice a5 cols.length a6) ∧ W.cell? ⟨gp, 9, none⟩ = some (.int .i64 lim) ∧ W.cell? ⟨gp, 10, none⟩ = some (.bool ds) := fun W h => ⟨h, hkeep (hkeep x0 hd20) h, hkeep (hkeep x1 hd20) h, hkeep (hkeep x2 hd20) h, hkeep (hkeep x3 hd20) h, hkeep (hkeep x4 hd20) h, hkeep (hkeep x5 hd20) h, hkeep (hkeep x6 hd20) h, hkeep (hkeep x7 hd20) h, hkeep (hkeep x8 hd20) h, hkeep (hkeep x9 hd20) h, hkeep (hkeep x10 hd20) h, hkeep (hkeep s0 hd20) h, hkeep (hkeep s1 hd20) h, hkeep (hkeep s2 hd20) h, hkeep (hkeep y0 hd20) h, hkeep (hkeep y1 hd20) h, hkeep (hkeep y2 hd20) h, hkeep (hkeep y3 hd20) h, hkeep (hkeep y4 hd20) h, hkeep (hkeep y5 hd20) h, hkeep (hkeep y6 hd20) h, hkeep (hkeep y7 hd20) h, hkeep (hkeep y8 hd20) h, hkeep (hkeep y9 hd20) h, hkeep (hkeep y10 hd20) h⟩
      clear x0 x1 x2 x3 x4 x5 x6 x7 x8 x9 x10 s0 s1 s2 y0 y1 y2 y3 y4 y5 y6 y7 y8 y9 y10
      have L20 := hid (hnext L.out hd20)
      replace HQ := hid (HQ.out.below hd20)
      replace HC := hid (HC.out.below hd20)
      replace HR := hid (HR.out.below hd20)
      replace HP := hid (HP.out.below hd20)
      clear L BX BS HN BP hd20
      refine wp_region_held_drew (S := (fun W => Below w20.heap.size w20 W ∧ W.cell? ⟨gx, 0, none⟩ = some (.int .i64 kd) ∧ W.cell? ⟨gx, 1, none⟩ = some (.string tb) ∧ W.cell? ⟨gx, 2, none⟩ = some (.slice a1 key.length a2) ∧ W.cell? ⟨gx, 3, none⟩ = some (.int .i64 t) ∧ W.cell? ⟨gx, 4, none⟩ = some (.int .i64 v) ∧ W.cell? ⟨gx, 5, none⟩ = some (.int .i64 fr) ∧ W.cell? ⟨gx, 6, none⟩ = some (.int .i64 to) ∧ W.cell? ⟨gx, 7, none⟩ = some (.slice a3 wh.length a4) ∧ W.cell? ⟨gx, 8, none⟩ = some (.slice a5 cols.length a6) ∧ W.cell? ⟨gx, 9, none⟩ = some (.int .i64 lim) ∧ W.cell? ⟨gx, 10, none⟩ = some (.bool ds) ∧ W.cell? ⟨gx + 1, 0, none⟩ = some (.string s.name) ∧ W.cell? ⟨gx + 1, 1, none⟩ = some (.slice sa s.cols.length sc) ∧ W.cell? ⟨gx + 1, 2, none⟩ = some (.int .i64 s.keys) ∧ W.cell? ⟨gp, 0, none⟩ = some (.int .i64 kd) ∧ W.cell? ⟨gp, 1, none⟩ = some (.string tb) ∧ W.cell? ⟨gp, 2, none⟩ = some (.slice a1 key.length a2) ∧ W.cell? ⟨gp, 3, none⟩ = some (.int .i64 t) ∧ W.cell? ⟨gp, 4, none⟩ = some (.int .i64 v) ∧ W.cell? ⟨gp, 5, none⟩ = some (.int .i64 fr) ∧ W.cell? ⟨gp, 6, none⟩ = some (.int .i64 to) ∧ W.cell? ⟨gp, 7, none⟩ = some (.slice p1 wh.length p2) ∧ W.cell? ⟨gp, 8, none⟩ = some (.slice a5 cols.length a6) ∧ W.cell? ⟨gp, 9, none⟩ = some (.int .i64 lim) ∧ W.cell? ⟨gp, 10, none⟩ = some (.bool ds))) (by kernel_rfl) (by rw [hw20]; exact mk20 _ (Below.refl _ _)) (fun hS20 => ?_)
      rw [hw20] at hS20 ⊢
      clear hw20
      refine wT 0 hS20 ?_
      refine wT 1 hS20 ?_
      refine wT 3 hS20 ?_
      refine wT 4 hS20 ?_
      refine wpAnyH_ready (rs := [2]) (by kernel_rfl) (by simp) ?_
      refine wC (fun K hK => ?_) AllReadyH.nil
      go_simp
      refine (C1.out _ (HQ.out.below hS20.1) (HC.out.below hS20.1)).mono ?_; rintro e w21 ⟨rfl, hb21⟩
      go_wp2_with fail
      refine hK.out _ _ (mk20 _ (hnext hS20.1 hb21)) (fun hS21 => ?_)
      clear hK K
      (try simp only [Act.put, List.setIfInBounds_toArray, List.set_cons_zero, List.set_cons_succ])
      clear hb21 hS20
      refine wpAnyH_ready (rs := [5]) (by kernel_rfl) (by simp) ?_
      refine wC (fun K hK => ?_) AllReadyH.nil
      go_simp
      refine (C2.out _ (HP.out.below hS21.1) (HC.out.below hS21.1)).mono ?_; rintro e w22 ⟨rfl, hb22⟩
      go_wp2_with fail
      refine hK.out _ _ (mk20 _ (hnext hS21.1 hb22)) (fun hS22 => ?_)
      clear hK K
      (try simp only [Act.put, List.setIfInBounds_toArray, List.set_cons_zero, List.set_cons_succ])
      clear hb22 hS21
      refine wT 6 hS22 ?_
      refine wT 7 hS22 ?_
      refine wT 8 hS22 ?_
      refine wT 9 hS22 ?_
      refine wT 11 hS22 ?_
      refine wT 12 hS22 ?_
      refine wpAnyH_ready (rs := [10]) (by kernel_rfl) (by simp) ?_
      refine wC (fun K hK => ?_) AllReadyH.nil
      go_simp
      refine (C3.out _ (HQ.out.below hS22.1) (HR.out.below hS22.1).1).mono ?_; rintro e w23 ⟨rfl, hb23⟩
      go_wp2_with fail
      refine hK.out _ _ (mk20 _ (hnext hS22.1 hb23)) (fun hS23 => ?_)
      clear hK K
      (try simp only [Act.put, List.setIfInBounds_toArray, List.set_cons_zero, List.set_cons_succ])
      clear hb23 hS22
      refine wpAnyH_ready (rs := [13]) (by kernel_rfl) (by simp) ?_
      refine wC (fun K hK => ?_) AllReadyH.nil
      go_simp
      refine (C4.out _ (HP.out.below hS23.1) (HR.out.below hS23.1).1).mono ?_; rintro e w24 ⟨rfl, hb24⟩
      go_wp2_with fail
      refine hK.out _ _ (mk20 _ (hnext hS23.1 hb24)) (fun hS24 => ?_)
      clear hK K
      (try simp only [Act.put, List.setIfInBounds_toArray, List.set_cons_zero, List.set_cons_succ])
      clear hb24 hS23
      refine wT 14 hS24 ?_
      refine wT 15 hS24 ?_
      refine wT 16 hS24 ?_
      refine wT 17 hS24 ?_
      refine wT 18 hS24 ?_
      refine wT 20 hS24 ?_
      refine wT 21 hS24 ?_
      refine wpAnyH_ready (rs := [19]) (by kernel_rfl) (by simp) ?_
      refine wC (fun K hK => ?_) AllReadyH.nil
      go_simp
      refine (c5.out _ (HQ.out.below hS24.1) (HR.out.below hS24.1)).mono ?_; rintro e w25 ⟨v5, rfl, h5', hb25⟩
      obtain ⟨j1, j2, rfl⟩ := vs_slc h5'
      have H5 := hid h5'
      clear h5'
      go_wp2_with fail
      refine hK.out _ _ (mk20 _ (hnext hS24.1 hb25)) (fun hS25 => ?_)
      clear hK K
      (try simp only [Act.put, List.setIfInBounds_toArray, List.set_cons_zero, List.set_cons_succ])
      clear hb25 hS24
      refine wpAnyH_ready (rs := [22]) (by kernel_rfl) (by simp) ?_
      refine wC (fun K hK => ?_) AllReadyH.nil
      go_simp
      refine (c6.out _ (HP.out.below hS25.1) (HR.out.below hS25.1)).mono ?_; rintro e w26 ⟨v6, rfl, h6', hb26⟩
      obtain ⟨j3, j4, rfl⟩ := vs_slc h6'
      have H6 := hid h6'
      clear h6'
      go_wp2_with fail
      refine hK.out _ _ (mk20 _ (hnext hS25.1 hb26)) (fun hS26 => ?_)
      clear hK K
      (try simp only [Act.put, List.setIfInBounds_toArray, List.set_cons_zero, List.set_cons_succ])
      replace H5 := hid (H5.out.below hb26)
      clear hb26 hS25
      refine wpAnyH_ready (rs := [23]) (by kernel_rfl) (by simp) ?_
      refine wC (fun K hK => ?_) AllReadyH.nil
      go_simp
      refine (C9.out _ _ _ H5.out H6.out).mono ?_; rintro e w27 ⟨rfl, hb27⟩
      go_wp2_with fail
      refine hK.out _ _ (mk20 _ (hnext hS26.1 hb27)) (fun hS27 => ?_)
      clear hK K
      (try simp only [Act.put, List.setIfInBounds_toArray, List.set_cons_zero, List.set_cons_succ])
      replace H5 := hid (H5.out.below hb27)
      replace H6 := hid (H6.out.below hb27)
      clear hb27 hS26
      refine wT 24 hS27 ?_
      refine wT 25 hS27 ?_
      refine wT 26 hS27 ?_
      refine wT 28 hS27 ?_
      refine wpAnyH_ready (rs := [27]) (by kernel_rfl) (by simp) ?_
      refine wC (fun K hK => ?_) AllReadyH.nil
      go_simp
      refine (C7.out _ (HQ.out.below hS27.1)).mono ?_; rintro e w28 ⟨rfl, hb28⟩
      go_wp2_with fail
      refine hK.out _ _ (mk20 _ (hnext hS27.1 hb28)) (fun hS28 => ?_)
      clear hK K
      (try simp only [Act.put, List.setIfInBounds_toArray, List.set_cons_zero, List.set_cons_succ])
      replace H5 := hid (H5.out.below hb28)
      replace H6 := hid (H6.out.below hb28)
      clear hb28 hS27
      refine wpAnyH_ready (rs := [29]) (by kernel_rfl) (by simp) ?_
      refine wC (fun K hK => ?_) AllReadyH.nil
      go_simp
      refine (C8.out _ (HP.out.below hS28.1)).mono ?_; rintro e w29 ⟨rfl, hb29⟩
      go_wp2_with fail
      refine hK.out _ _ (mk20 _ (hnext hS28.1 hb29)) (fun hS29 => ?_)
      clear hK K
      (try simp only [Act.put, List.setIfInBounds_toArray, List.set_cons_zero, List.set_cons_succ])
      replace H5 := hid (H5.out.below hb29)
      replace H6 := hid (H6.out.below hb29)
      clear hb29 hS28
      refine wT 30 hS29 ?_
      refine wT 31 hS29 ?_
      refine wT 32 hS29 ?_
      refine wpAnyH_ready (rs := [33]) (by kernel_rfl) (by simp) ?_
      refine wC (fun K hK => ?_) AllReadyH.nil
      go_simp
      refine (known_any _).mono ?_; rintro e w30 ⟨rfl, hb30⟩
      go_wp2_with fail
      refine hK.out _ _ (mk20 _ (hnext hS29.1 hb30)) (fun hS30 => ?_)
      clear hK K
      (try simp only [Act.put, List.setIfInBounds_toArray, List.set_cons_zero, List.set_cons_succ])
      replace H5 := hid (H5.out.below hb30)
      replace H6 := hid (H6.out.below hb30)
      clear hb30 hS29
      refine wT 34 hS30 ?_
      refine wT 35 hS30 ?_
      refine wpAnyH_done (by kernel_rfl) ?_ _
      go_wp2_with fail
      go_ret
      exact ⟨rfl, hnext L20.out hS30.1⟩
end Go.Proofs.Ytmcneelapghfcaa
