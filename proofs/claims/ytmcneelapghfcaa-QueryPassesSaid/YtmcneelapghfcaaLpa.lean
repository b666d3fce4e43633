/-
  QueryPasses answers true at any query and any row. No condition.
-/
import Derived.Test.YtmcneelapghfcaaRo
import Derived.Test.YtmcneelapghfcaaOq
import Derived.Test.YtmcneelapghfcaaRk
import Derived.Test.YtmcneelapghfcaaPm
namespace Go.Proofs.Ytmcneelapghfcaa
open Go.RowKit Pd Qu

set_option maxRecDepth 100000 in
set_option maxHeartbeats 12800000 in
theorem queryPasses_walk (q : Q) (vk vw vc : Value) (v : Value) (row : List Cd.V) (w : World) (hq : QHere w q vk vw vc) (hr : RsAt w v row ∧ ∀ x ∈ row, Vok x) :
    Calls Try.prog 8 #[qv q vk vw vc, v] w fun e w' => e = .returned (.bool true) ∧ Below w.heap.size w w' := by
  obtain ⟨hq, hok⟩ := hq
  obtain ⟨kd, tb, key, t, v, fr, to, wh, cols, lim, ds⟩ := q
  obtain ⟨a1, a2, a3, a4, a5, a6, rfl, rfl, rfl⟩ := qs3 hq
  simp only [] at hq
  have HOK := hid hok
  obtain ⟨hrs, hrk⟩ := hr
  obtain ⟨ra, rc, rfl⟩ := vs_slc hrs.1
  have HRK := hid hrk
  clear hok hrk
  unfold qv
  simp only
  go_enter Try.func8, Try.ntmps8
  go_wp2_with fail
  have b1 := hba w (.cells #[.int .i64 kd, .string tb, .slice a1 key.length a2, .int .i64 t, .int .i64 v, .int .i64 fr, .int .i64 to, .slice a3 wh.length a4, .slice a5 cols.length a6, .int .i64 lim, .bool ds] 28)
  have L := hid b1
  have BX := hid (heap_alloc_new w (.cells #[.int .i64 kd, .string tb, .slice a1 key.length a2, .int .i64 t, .int .i64 v, .int .i64 fr, .int .i64 to, .slice a3 wh.length a4, .slice a5 cols.length a6, .int .i64 lim, .bool ds] 28))
  have HQ := hid (hq.below L.out)
  have HR := hid (hrs.below L.out)
  have hsz : ∀ (W : World) (o : Obj), (W.alloc o).heap.size = W.heap.size + 1 := fun W o => by simp
  obtain ⟨gx, hgx⟩ : ∃ g, w.heap.size = g := ⟨_, rfl⟩
  rw [hgx] at BX
  (try simp only [hsz])
  (try simp only [hgx])
  clear hsz hgx b1
  generalize (w.alloc (.cells #[.int .i64 kd, .string tb, .slice a1 key.length a2, .int .i64 t, .int .i64 v, .int .i64 fr, .int .i64 to, .slice a3 wh.length a4, .slice a5 cols.length a6, .int .i64 lim, .bool ds] 28)) = w1 at *
  clear hq hrs
  refine (weight_any ⟨kd, tb, key, t, v, fr, to, wh, cols, lim, ds⟩ _ _ _ _ HQ.out).mono ?_; rintro e w2 ⟨⟨z, rfl, hz⟩, b⟩
  replace L := hid (hnext L.out b)
  replace HQ := hid (HQ.out.below b)
  replace HR := hid (HR.out.below b)
  replace BX := hid (keepBlock BX.out b)
  clear b
  by_cases h5 : 5000 < z
  · clear hz
    have x0 : w2.cell? ⟨gx, 0, none⟩ = some (.int .i64 kd) := cell_of_row _ (gx) 0 _ _ _ BX.out
    have x1 : w2.cell? ⟨gx, 1, none⟩ = some (.string tb) := cell_of_row _ (gx) 1 _ _ _ BX.out
    have x2 : w2.cell? ⟨gx, 2, none⟩ = some (.slice a1 key.length a2) := cell_of_row _ (gx) 2 _ _ _ BX.out
    have x3 : w2.cell? ⟨gx, 3, none⟩ = some (.int .i64 t) := cell_of_row _ (gx) 3 _ _ _ BX.out
    have x4 : w2.cell? ⟨gx, 4, none⟩ = some (.int .i64 v) := cell_of_row _ (gx) 4 _ _ _ BX.out
    have x5 : w2.cell? ⟨gx, 5, none⟩ = some (.int .i64 fr) := cell_of_row _ (gx) 5 _ _ _ BX.out
    have x6 : w2.cell? ⟨gx, 6, none⟩ = some (.int .i64 to) := cell_of_row _ (gx) 6 _ _ _ BX.out
    have x7 : w2.cell? ⟨gx, 7, none⟩ = some (.slice a3 wh.length a4) := cell_of_row _ (gx) 7 _ _ _ BX.out
    have x8 : w2.cell? ⟨gx, 8, none⟩ = some (.slice a5 cols.length a6) := cell_of_row _ (gx) 8 _ _ _ BX.out
    have x9 : w2.cell? ⟨gx, 9, none⟩ = some (.int .i64 lim) := cell_of_row _ (gx) 9 _ _ _ BX.out
    have x10 : w2.cell? ⟨gx, 10, none⟩ = some (.bool ds) := cell_of_row _ (gx) 10 _ _ _ BX.out
    go_wp2_with fail
    refine (known_any _).mono ?_; rintro e w3 ⟨rfl, b⟩
    go_wp2
    go_ret
    exact ⟨rfl, hnext L.out b⟩
  have HZ := hid (hz (by omega))
  clear hz
  have hlz := HZ.out
  unfold LightQ at hlz
  simp only at hlz
  obtain ⟨hz1, hz2, hz3, hz4⟩ := hlz
  have hk6 : key.length ≤ 1000000 := by omega
  have hw6 : wh.length ≤ 1000000 := by omega
  have hc6 : cols.length ≤ 1000000 := by omega
  have ht8 : tb.size ≤ 100000000 := by omega
  have HK6 := hid hk6
  have HW6 := hid hw6
  have HC6 := hid hc6
  have HT8 := hid ht8
  clear hk6 hw6 hc6 ht8 hz1 hz2 hz3 hz4
  have x0 : w2.cell? ⟨gx, 0, none⟩ = some (.int .i64 kd) := cell_of_row _ (gx) 0 _ _ _ BX.out
  have x1 : w2.cell? ⟨gx, 1, none⟩ = some (.string tb) := cell_of_row _ (gx) 1 _ _ _ BX.out
  have x2 : w2.cell? ⟨gx, 2, none⟩ = some (.slice a1 key.length a2) := cell_of_row _ (gx) 2 _ _ _ BX.out
  have x3 : w2.cell? ⟨gx, 3, none⟩ = some (.int .i64 t) := cell_of_row _ (gx) 3 _ _ _ BX.out
  have x4 : w2.cell? ⟨gx, 4, none⟩ = some (.int .i64 v) := cell_of_row _ (gx) 4 _ _ _ BX.out
  have x5 : w2.cell? ⟨gx, 5, none⟩ = some (.int .i64 fr) := cell_of_row _ (gx) 5 _ _ _ BX.out
  have x6 : w2.cell? ⟨gx, 6, none⟩ = some (.int .i64 to) := cell_of_row _ (gx) 6 _ _ _ BX.out
  have x7 : w2.cell? ⟨gx, 7, none⟩ = some (.slice a3 wh.length a4) := cell_of_row _ (gx) 7 _ _ _ BX.out
  have x8 : w2.cell? ⟨gx, 8, none⟩ = some (.slice a5 cols.length a6) := cell_of_row _ (gx) 8 _ _ _ BX.out
  have x9 : w2.cell? ⟨gx, 9, none⟩ = some (.int .i64 lim) := cell_of_row _ (gx) 9 _ _ _ BX.out
  have x10 : w2.cell? ⟨gx, 10, none⟩ = some (.bool ds) := cell_of_row _ (gx) 10 _ _ _ BX.out
  by_cases h1 : row.length ≤ 40
  case neg =>
    have h1' : (40 : Int) < (row.length : Int) := by omega
    clear h1
    go_wp2_with fail
    refine (known_any _).mono ?_; rintro e w3 ⟨rfl, b⟩
    go_wp2
    go_ret
    exact ⟨rfl, hnext L.out b⟩
  have h1' : ¬ (40 : Int) < (row.length : Int) := by omega
  by_cases h2 : 0 < wh.length
  case neg =>
    have h2' : ((wh.length : Int) == 0) = true := by rw [beq_iff_eq]; omega
    clear h2
    go_wp2_with fail
    refine (known_any _).mono ?_; rintro e w3 ⟨rfl, b⟩
    go_wp2
    go_ret
    exact ⟨rfl, hnext L.out b⟩
  have h2' : ((wh.length : Int) == 0) = false := by rw [beq_eq_false_iff_ne]; omega
  by_cases h3 : wh.length ≤ 38
  case neg =>
    have h3' : (38 : Int) < (wh.length : Int) := by omega
    clear h3
    go_wp2_with fail
    refine (known_any _).mono ?_; rintro e w3 ⟨rfl, b⟩
    go_wp2
    go_ret
    exact ⟨rfl, hnext L.out b⟩
  have h3' : ¬ (38 : Int) < (wh.length : Int) := by omega
  have H1 := hid h1
  have H2 := hid h2
  have H3 := hid h3
  clear h1 h2 h3
  go_wp2_with fail
  clear x0 x1 x2 x3 x4 x5 x6 x7 x8 x9 x10
  go_loopw [5] (fun i wr => ∃ k : Nat, k ≤ row.length ∧ i = .int .i64 (k : Int) ∧ wr = w2) (fun i _ => row.length - (intOf i).toNat)
  case atStart => exact ⟨0, by omega, rfl, rfl⟩
  case round =>
    obtain ⟨k, hk, rfl, rfl⟩ := hrel
    obtain ⟨w2, rfl⟩ : ∃ w2 : World, w2 = wr := ⟨_, rfl⟩
    have hk0 : (0 : Int) ≤ (k : Int) := by omega
    by_cases hkl : k < row.length
    · have hkl' : (k : Int) < (row.length : Int) := by omega
      obtain ⟨_, _, e1, hc1⟩ := HR.out.1
      cases e1
      obtain ⟨g, off, rfl, _, _, _, u3⟩ := hc1 k hkl
      clear hc1
      generalize row[k].s = rs at u3
      by_cases h3 : 300 < rs.size
      · have h3' : (300 : Int) < (rs.size : Int) := by omega
        clear h3
        go_wp2_with fail
        refine (known_any _).mono ?_; rintro e w3 ⟨rfl, b⟩
        go_wp2
        go_ret
        exact ⟨rfl, hnext L.out b⟩
      · have h3' : ¬ (300 : Int) < (rs.size : Int) := by omega
        clear h3
        go_wp2_with fail
        go_roundw
        case rel => exact ⟨k + 1, by omega, by first | rfl | go_num, by first | rfl | trivial⟩
        case measure => simp [intOf]; omega
    · have hkl' : ¬ (k : Int) < (row.length : Int) := by omega
      clear hkl
      clear hk0 hk
      have x0 : w2.cell? ⟨gx, 0, none⟩ = some (.int .i64 kd) := cell_of_row _ (gx) 0 _ _ _ BX.out
      have x1 : w2.cell? ⟨gx, 1, none⟩ = some (.string tb) := cell_of_row _ (gx) 1 _ _ _ BX.out
      have x2 : w2.cell? ⟨gx, 2, none⟩ = some (.slice a1 key.length a2) := cell_of_row _ (gx) 2 _ _ _ BX.out
      have x3 : w2.cell? ⟨gx, 3, none⟩ = some (.int .i64 t) := cell_of_row _ (gx) 3 _ _ _ BX.out
      have x4 : w2.cell? ⟨gx, 4, none⟩ = some (.int .i64 v) := cell_of_row _ (gx) 4 _ _ _ BX.out
      have x5 : w2.cell? ⟨gx, 5, none⟩ = some (.int .i64 fr) := cell_of_row _ (gx) 5 _ _ _ BX.out
      have x6 : w2.cell? ⟨gx, 6, none⟩ = some (.int .i64 to) := cell_of_row _ (gx) 6 _ _ _ BX.out
      have x7 : w2.cell? ⟨gx, 7, none⟩ = some (.slice a3 wh.length a4) := cell_of_row _ (gx) 7 _ _ _ BX.out
      have x8 : w2.cell? ⟨gx, 8, none⟩ = some (.slice a5 cols.length a6) := cell_of_row _ (gx) 8 _ _ _ BX.out
      have x9 : w2.cell? ⟨gx, 9, none⟩ = some (.int .i64 lim) := cell_of_row _ (gx) 9 _ _ _ BX.out
      have x10 : w2.cell? ⟨gx, 10, none⟩ = some (.bool ds) := cell_of_row _ (gx) 10 _ _ _ BX.out
      obtain ⟨gn, hgn⟩ : ∃ gn, w2.heap.size = gn := ⟨_, rfl⟩
      have hb1 := hba w2 (.cells #[.int .i64 kd, .string tb, .slice a1 key.length a2, .int .i64 t, .int .i64 v, .int .i64 fr, .int .i64 to, .slice a3 wh.length a4, .slice a5 cols.length a6, .int .i64 lim, .bool ds] 28)
      have hb2 := hba (w2.alloc (.cells #[.int .i64 kd, .string tb, .slice a1 key.length a2, .int .i64 t, .int .i64 v, .int .i64 fr, .int .i64 to, .slice a3 wh.length a4, .slice a5 cols.length a6, .int .i64 lim, .bool ds] 28)) (.cells #[.int .i64 11, .int .i64 0, .int .i64 0, .int .i64 0, .int .u64 0, .string ⟨#[]⟩] 65)
      have hb12 := hnext hb1 hb2
      have hsz1 : (w2.alloc (.cells #[.int .i64 kd, .string tb, .slice a1 key.length a2, .int .i64 t, .int .i64 v, .int .i64 fr, .int .i64 to, .slice a3 wh.length a4, .slice a5 cols.length a6, .int .i64 lim, .bool ds] 28)).heap.size = gn + 1 := by simp [hgn]
      have hbn : Var ((w2.alloc (.cells #[.int .i64 kd, .string tb, .slice a1 key.length a2, .int .i64 t, .int .i64 v, .int .i64 fr, .int .i64 to, .slice a3 wh.length a4, .slice a5 cols.length a6, .int .i64 lim, .bool ds] 28)).alloc (.cells #[.int .i64 11, .int .i64 0, .int .i64 0, .int .i64 0, .int .u64 0, .string ⟨#[]⟩] 65)) gn #[.int .i64 kd, .string tb, .slice a1 key.length a2, .int .i64 t, .int .i64 v, .int .i64 fr, .int .i64 to, .slice a3 wh.length a4, .slice a5 cols.length a6, .int .i64 lim, .bool ds] 28 := by rw [← hgn]; exact keepBlock (heap_alloc_new w2 (.cells #[.int .i64 kd, .string tb, .slice a1 key.length a2, .int .i64 t, .int .i64 v, .int .i64 fr, .int .i64 to, .slice a3 wh.length a4, .slice a5 cols.length a6, .int .i64 lim, .bool ds] 28)) hb2
      have own0 : OwnN ((w2.alloc (.cells #[.int .i64 kd, .string tb, .slice a1 key.length a2, .int .i64 t, .int .i64 v, .int .i64 fr, .int .i64 to, .slice a3 wh.length a4, .slice a5 cols.length a6, .int .i64 lim, .bool ds] 28)).alloc (.cells #[.int .i64 11, .int .i64 0, .int .i64 0, .int .i64 0, .int .u64 0, .string ⟨#[]⟩] 65)) (gn + 1) (.slice (some ⟨gn + 1, 0, none⟩) 1 1) [⟨11, 0, nul⟩] := by rw [← hsz1]; exact OwnN.new (w2.alloc (.cells #[.int .i64 kd, .string tb, .slice a1 key.length a2, .int .i64 t, .int .i64 v, .int .i64 fr, .int .i64 to, .slice a3 wh.length a4, .slice a5 cols.length a6, .int .i64 lim, .bool ds] 28)) ⟨11, 0, nul⟩
      have hltA : gn + 1 < ((w2.alloc (.cells #[.int .i64 kd, .string tb, .slice a1 key.length a2, .int .i64 t, .int .i64 v, .int .i64 fr, .int .i64 to, .slice a3 wh.length a4, .slice a5 cols.length a6, .int .i64 lim, .bool ds] 28)).alloc (.cells #[.int .i64 11, .int .i64 0, .int .i64 0, .int .i64 0, .int .u64 0, .string ⟨#[]⟩] 65)).heap.size := by simp [hgn]
      have hgx : gx < gn := by rw [← hgn]; exact Var.lt (cs := #[.int .i64 kd, .string tb, .slice a1 key.length a2, .int .i64 t, .int .i64 v, .int .i64 fr, .int .i64 to, .slice a3 wh.length a4, .slice a5 cols.length a6, .int .i64 lim, .bool ds]) (t := 28) BX.out
      have hne1 : gx ≠ gn := by omega
      have hne2 : gn ≠ gx := by omega
      have HQA := hid (HQ.out.below hb12)
      have BXA : Hid (Var ((w2.alloc (.cells #[.int .i64 kd, .string tb, .slice a1 key.length a2, .int .i64 t, .int .i64 v, .int .i64 fr, .int .i64 to, .slice a3 wh.length a4, .slice a5 cols.length a6, .int .i64 lim, .bool ds] 28)).alloc (.cells #[.int .i64 11, .int .i64 0, .int .i64 0, .int .i64 0, .int .u64 0, .string ⟨#[]⟩] 65)) gx #[.int .i64 kd, .string tb, .slice a1 key.length a2, .int .i64 t, .int .i64 v, .int .i64 fr, .int .i64 to, .slice a3 wh.length a4, .slice a5 cols.length a6, .int .i64 lim, .bool ds] 28) := keepBlock BX.out hb12
      have BNA := hid hbn
      have OWA := hid own0
      have HLT := hid hltA
      have HB12 := hid hb12
      have HGN := hid hgn
      clear hb1 hb2 hb12 hsz1 hbn own0 hltA
      have y0 : ((w2.alloc (.cells #[.int .i64 kd, .string tb, .slice a1 key.length a2, .int .i64 t, .int .i64 v, .int .i64 fr, .int .i64 to, .slice a3 wh.length a4, .slice a5 cols.length a6, .int .i64 lim, .bool ds] 28)).alloc (.cells #[.int .i64 11, .int .i64 0, .int .i64 0, .int .i64 0, .int .u64 0, .string ⟨#[]⟩] 65)).cell? ⟨gx, 0, none⟩ = some (.int .i64 kd) := cell_of_row _ (gx) 0 _ _ _ BXA.out
      have y1 : ((w2.alloc (.cells #[.int .i64 kd, .string tb, .slice a1 key.length a2, .int .i64 t, .int .i64 v, .int .i64 fr, .int .i64 to, .slice a3 wh.length a4, .slice a5 cols.length a6, .int .i64 lim, .bool ds] 28)).alloc (.cells #[.int .i64 11, .int .i64 0, .int .i64 0, .int .i64 0, .int .u64 0, .string ⟨#[]⟩] 65)).cell? ⟨gx, 1, none⟩ = some (.string tb) := cell_of_row _ (gx) 1 _ _ _ BXA.out
      have y2 : ((w2.alloc (.cells #[.int .i64 kd, .string tb, .slice a1 key.length a2, .int .i64 t, .int .i64 v, .int .i64 fr, .int .i64 to, .slice a3 wh.length a4, .slice a5 cols.length a6, .int .i64 lim, .bool ds] 28)).alloc (.cells #[.int .i64 11, .int .i64 0, .int .i64 0, .int .i64 0, .int .u64 0, .string ⟨#[]⟩] 65)).cell? ⟨gx, 2, none⟩ = some (.slice a1 key.length a2) := cell_of_row _ (gx) 2 _ _ _ BXA.out
      have y3 : ((w2.alloc (.cells #[.int .i64 kd, .string tb, .slice a1 key.length a2, .int .i64 t, .int .i64 v, .int .i64 fr, .int .i64 to, .slice a3 wh.length a4, .slice a5 cols.length a6, .int .i64 lim, .bool ds] 28)).alloc (.cells #[.int .i64 11, .int .i64 0, .int .i64 0, .int .i64 0, .int .u64 0, .string ⟨#[]⟩] 65)).cell? ⟨gx, 3, none⟩ = some (.int .i64 t) := cell_of_row _ (gx) 3 _ _ _ BXA.out
      have y4 : ((w2.alloc (.cells #[.int .i64 kd, .string tb, .slice a1 key.length a2, .int .i64 t, .int .i64 v, .int .i64 fr, .int .i64 to, .slice a3 wh.length a4, .slice a5 cols.length a6, .int .i64 lim, .bool ds] 28)).alloc (.cells #[.int .i64 11, .int .i64 0, .int .i64 0, .int .i64 0, .int .u64 0, .string ⟨#[]⟩] 65)).cell? ⟨gx, 4, none⟩ = some (.int .i64 v) := cell_of_row _ (gx) 4 _ _ _ BXA.out
      have y5 : ((w2.alloc (.cells #[.int .i64 kd, .string tb, .slice a1 key.length a2, .int .i64 t, .int .i64 v, .int .i64 fr, .int .i64 to, .slice a3 wh.length a4, .slice a5 cols.length a6, .int .i64 lim, .bool ds] 28)).alloc (.cells #[.int .i64 11, .int .i64 0, .int .i64 0, .int .i64 0, .int .u64 0, .string ⟨#[]⟩] 65)).cell? ⟨gx, 5, none⟩ = some (.int .i64 fr) := cell_of_row _ (gx) 5 _ _ _ BXA.out
      have y6 : ((w2.alloc (.cells #[.int .i64 kd, .string tb, .slice a1 key.length a2, .int .i64 t, .int .i64 v, .int .i64 fr, .int .i64 to, .slice a3 wh.length a4, .slice a5 cols.length a6, .int .i64 lim, .bool ds] 28)).alloc (.cells #[.int .i64 11, .int .i64 0, .int .i64 0, .int .i64 0, .int .u64 0, .string ⟨#[]⟩] 65)).cell? ⟨gx, 6, none⟩ = some (.int .i64 to) := cell_of_row _ (gx) 6 _ _ _ BXA.out
      have y7 : ((w2.alloc (.cells #[.int .i64 kd, .string tb, .slice a1 key.length a2, .int .i64 t, .int .i64 v, .int .i64 fr, .int .i64 to, .slice a3 wh.length a4, .slice a5 cols.length a6, .int .i64 lim, .bool ds] 28)).alloc (.cells #[.int .i64 11, .int .i64 0, .int .i64 0, .int .i64 0, .int .u64 0, .string ⟨#[]⟩] 65)).cell? ⟨gx, 7, none⟩ = some (.slice a3 wh.length a4) := cell_of_row _ (gx) 7 _ _ _ BXA.out
      have y8 : ((w2.alloc (.cells #[.int .i64 kd, .string tb, .slice a1 key.length a2, .int .i64 t, .int .i64 v, .int .i64 fr, .int .i64 to, .slice a3 wh.length a4, .slice a5 cols.length a6, .int .i64 lim, .bool ds] 28)).alloc (.cells #[.int .i64 11, .int .i64 0, .int .i64 0, .int .i64 0, .int .u64 0, .string ⟨#[]⟩] 65)).cell? ⟨gx, 8, none⟩ = some (.slice a5 cols.length a6) := cell_of_row _ (gx) 8 _ _ _ BXA.out
      have y9 : ((w2.alloc (.cells #[.int .i64 kd, .string tb, .slice a1 key.length a2, .int .i64 t, .int .i64 v, .int .i64 fr, .int .i64 to, .slice a3 wh.length a4, .slice a5 cols.length a6, .int .i64 lim, .bool ds] 28)).alloc (.cells #[.int .i64 11, .int .i64 0, .int .i64 0, .int .i64 0, .int .u64 0, .string ⟨#[]⟩] 65)).cell? ⟨gx, 9, none⟩ = some (.int .i64 lim) := cell_of_row _ (gx) 9 _ _ _ BXA.out
      have y10 : ((w2.alloc (.cells #[.int .i64 kd, .string tb, .slice a1 key.length a2, .int .i64 t, .int .i64 v, .int .i64 fr, .int .i64 to, .slice a3 wh.length a4, .slice a5 cols.length a6, .int .i64 lim, .bool ds] 28)).alloc (.cells #[.int .i64 11, .int .i64 0, .int .i64 0, .int .i64 0, .int .u64 0, .string ⟨#[]⟩] 65)).cell? ⟨gx, 10, none⟩ = some (.bool ds) := cell_of_row _ (gx) 10 _ _ _ BXA.out
      have hw1m : 1 + wh.length ≤ 1000000 := by have := H3.out; omega
      go_wp2_with (at_builtin; go_loud (refine append_nodes ((w2.alloc (.cells #[.int .i64 kd, .string tb, .slice a1 key.length a2, .int .i64 t, .int .i64 v, .int .i64 fr, .int .i64 to, .slice a3 wh.length a4, .slice a5 cols.length a6, .int .i64 lim, .bool ds] 28)).alloc (.cells #[.int .i64 11, .int .i64 0, .int .i64 0, .int .i64 0, .int .u64 0, .string ⟨#[]⟩] 65)) rfl _ _ rfl (gn + 1) (.slice (some ⟨gn + 1, 0, none⟩) 1 1) [⟨11, 0, nul⟩] (by go_simp) OWA.out wh a3 wh.length a4 (by go_simp) HQA.out.2.1 H2.out (by show 1 + wh.length ≤ _; omega) (Nat.le_of_lt HLT.out) ?_; intro v7 w7 own7 gr7; have hown : ∀ q, (Value.slice (some ⟨gn + 1, 0, none⟩) 1 1).ownBlock = some q → gn + 1 ≤ q := (fun q e => (World.ownsRow.lt OWA.out q e).1); have B27 := hid (HB12.out.grown gr7 HB12.out.size (fun q e => by have := hown q e; have := HGN.out; omega)); have BX7 : Hid (Var w7 gx #[.int .i64 kd, .string tb, .slice a1 key.length a2, .int .i64 t, .int .i64 v, .int .i64 fr, .int .i64 to, .slice a3 wh.length a4, .slice a5 cols.length a6, .int .i64 lim, .bool ds] 28) := keepBlock BX.out B27.out; have BN7 := hid ((gr7.block gn (by have := HLT.out; omega) (fun e => by have := hown gn e.symm; omega)).trans BNA.out); obtain ⟨n1, n2, e7⟩ := own_sl7 own7; rw [List.length_append, List.length_singleton, Nat.add_comm] at e7; subst e7; have OW7 := hid own7; clear own7 gr7 hown x0 y0 x1 y1 x2 y2 x3 y3 x4 y4 x5 y5 x6 y6 x7 y7 x8 y8 x9 y9 x10 y10; have y0 : w7.cell? ⟨gx, 0, none⟩ = some (.int .i64 kd) := cell_of_row _ gx 0 _ _ _ BX7.out; have y1 : w7.cell? ⟨gx, 1, none⟩ = some (.string tb) := cell_of_row _ gx 1 _ _ _ BX7.out; have y2 : w7.cell? ⟨gx, 2, none⟩ = some (.slice a1 key.length a2) := cell_of_row _ gx 2 _ _ _ BX7.out; have y3 : w7.cell? ⟨gx, 3, none⟩ = some (.int .i64 t) := cell_of_row _ gx 3 _ _ _ BX7.out; have y4 : w7.cell? ⟨gx, 4, none⟩ = some (.int .i64 v) := cell_of_row _ gx 4 _ _ _ BX7.out; have y5 : w7.cell? ⟨gx, 5, none⟩ = some (.int .i64 fr) := cell_of_row _ gx 5 _ _ _ BX7.out; have y6 : w7.cell? ⟨gx, 6, none⟩ = some (.int .i64 to) := cell_of_row _ gx 6 _ _ _ BX7.out; have y7 : w7.cell? ⟨gx, 7, none⟩ = some (.slice a3 wh.length a4) := cell_of_row _ gx 7 _ _ _ BX7.out; have y8 : w7.cell? ⟨gx, 8, none⟩ = some (.slice a5 cols.length a6) := cell_of_row _ gx 8 _ _ _ BX7.out; have y9 : w7.cell? ⟨gx, 9, none⟩ = some (.int .i64 lim) := cell_of_row _ gx 9 _ _ _ BX7.out; have y10 : w7.cell? ⟨gx, 10, none⟩ = some (.bool ds) := cell_of_row _ gx 10 _ _ _ BX7.out; have x7 : w7.cell? ⟨gn, 7, none⟩ = some (.slice a3 wh.length a4) := cell_of_row _ gn 7 _ _ _ BN7.out; have f7 : w7.frozen? ⟨gn, 7, none⟩ = false := frozen_of_row w7 gn 7 _ _ BN7.out))
      have hB28 : Below w2.heap.size w2 (w7.setCell ⟨gn, 7, none⟩ (.slice n1 (wh.length + 1) n2)) := B27.out.setCell (p := ⟨gn, 7, none⟩) (by show w2.heap.size ≤ gn; exact Nat.le_of_eq HGN.out) (.slice n1 (wh.length + 1) n2)
      have BNo : Hid (Var (w7.setCell ⟨gn, 7, none⟩ (.slice n1 (wh.length + 1) n2)) gn #[.int .i64 kd, .string tb, .slice a1 key.length a2, .int .i64 t, .int .i64 v, .int .i64 fr, .int .i64 to, .slice n1 (wh.length + 1) n2, .slice a5 cols.length a6, .int .i64 lim, .bool ds] 28) := (show Var w7 gn #[.int .i64 kd, .string tb, .slice a1 key.length a2, .int .i64 t, .int .i64 v, .int .i64 fr, .int .i64 to, .slice a3 wh.length a4, .slice a5 cols.length a6, .int .i64 lim, .bool ds] 28 from BN7.out).set 7 _
      have HNo : Hid (NsAt (w7.setCell ⟨gn, 7, none⟩ (.slice n1 (wh.length + 1) n2)) (.slice n1 (wh.length + 1) n2) (⟨11, 0, nul⟩ :: wh)) := NsAt.own (l := (⟨11, 0, nul⟩ :: wh)) (own_setO (r := gn) (o := 7) (u := (.slice n1 (wh.length + 1) n2)) OW7.out (Nat.lt_succ_self _))
      replace L := hid (hnext L.out hB28)
      replace HQ := hid (HQ.out.below hB28)
      replace HR := hid (HR.out.below hB28)
      replace BX : Hid (Var (w7.setCell ⟨gn, 7, none⟩ (.slice n1 (wh.length + 1) n2)) gx #[.int .i64 kd, .string tb, .slice a1 key.length a2, .int .i64 t, .int .i64 v, .int .i64 fr, .int .i64 to, .slice a3 wh.length a4, .slice a5 cols.length a6, .int .i64 lim, .bool ds] 28) := keepBlock BX.out hB28
      clear hB28 B27 BX7 BN7 OW7 HQA BXA BNA OWA HLT HB12 x7 f7 hw1m y0 y1 y2 y3 y4 y5 y6 y7 y8 y9 y10
      generalize (w7.setCell ⟨gn, 7, none⟩ (.slice n1 (wh.length + 1) n2)) = w8 at *
      have NOK : Hid (∀ x ∈ (⟨11, 0, nul⟩ :: wh), Nok x) := fun x hx => by
        rcases List.mem_cons.1 hx with rfl | hx
        · exact ⟨by constructor <;> decide, by constructor <;> decide, nul_ok⟩
        · exact HOK.out.wh x hx
      have c1 := fun W h h2 => pass_any ⟨kd, tb, key, t, v, fr, to, wh, cols, lim, ds⟩ (.slice a1 key.length a2) (.slice a3 wh.length a4) (.slice a5 cols.length a6) row (.slice ra row.length rc) W h h2 HW6.out HOK.out.wh HRK.out
      have c2 := fun W h h2 => pass_any ⟨kd, tb, key, t, v, fr, to, (⟨11, 0, nul⟩ :: wh), cols, lim, ds⟩ (.slice a1 key.length a2) (.slice n1 (wh.length + 1) n2) (.slice a5 cols.length a6) row (.slice ra row.length rc) W h h2 (show (⟨11, 0, nul⟩ :: wh).length ≤ 1000000 by rw [List.length_cons]; have := H3.out; omega) NOK.out HRK.out
      have CPU := hid (fun W h => push_any (.slice a3 wh.length a4) wh W h HW6.out)
      have CPR := hid (fun W h h2 => project_any ⟨kd, tb, key, t, v, fr, to, wh, cols, lim, ds⟩ (.slice a1 key.length a2) (.slice a3 wh.length a4) (.slice a5 cols.length a6) row (.slice ra row.length rc) W h h2 HC6.out (by have := H1.out; omega))
      have hpq := pass_wh (q := ⟨kd, tb, key, t, v, fr, to, wh, cols, lim, ds⟩) (row := row) H2.out
      simp only at hpq
      cases hr1 : passB ⟨kd, tb, key, t, v, fr, to, wh, cols, lim, ds⟩ row with
      | false =>
        rw [hr1] at c1 hpq
        have C1 := hid c1
        clear c1 hr1
        clear c2 hpq NOK BNo HNo
        refine (C1.out _ HQ.out HR.out.1).mono ?_; rintro e w9 ⟨rfl, b⟩
        replace L := hid (hnext L.out b)
        replace HQ := hid (HQ.out.below b)
        replace HR := hid (HR.out.below b)
        replace BX := hid (keepBlock BX.out b)
        clear b
        have x0 : w9.cell? ⟨gx, 0, none⟩ = some (.int .i64 kd) := cell_of_row _ (gx) 0 _ _ _ BX.out
        have x1 : w9.cell? ⟨gx, 1, none⟩ = some (.string tb) := cell_of_row _ (gx) 1 _ _ _ BX.out
        have x2 : w9.cell? ⟨gx, 2, none⟩ = some (.slice a1 key.length a2) := cell_of_row _ (gx) 2 _ _ _ BX.out
        have x3 : w9.cell? ⟨gx, 3, none⟩ = some (.int .i64 t) := cell_of_row _ (gx) 3 _ _ _ BX.out
        have x4 : w9.cell? ⟨gx, 4, none⟩ = some (.int .i64 v) := cell_of_row _ (gx) 4 _ _ _ BX.out
        have x5 : w9.cell? ⟨gx, 5, none⟩ = some (.int .i64 fr) := cell_of_row _ (gx) 5 _ _ _ BX.out
        have x6 : w9.cell? ⟨gx, 6, none⟩ = some (.int .i64 to) := cell_of_row _ (gx) 6 _ _ _ BX.out
        have x7 : w9.cell? ⟨gx, 7, none⟩ = some (.slice a3 wh.length a4) := cell_of_row _ (gx) 7 _ _ _ BX.out
        have x8 : w9.cell? ⟨gx, 8, none⟩ = some (.slice a5 cols.length a6) := cell_of_row _ (gx) 8 _ _ _ BX.out
        have x9 : w9.cell? ⟨gx, 9, none⟩ = some (.int .i64 lim) := cell_of_row _ (gx) 9 _ _ _ BX.out
        have x10 : w9.cell? ⟨gx, 10, none⟩ = some (.bool ds) := cell_of_row _ (gx) 10 _ _ _ BX.out
        have HBX0 := hid BX.out
        have HLs := hid L.out.size
        have HQ0 := hid HQ.out
        have HR0 := hid HR.out
        have HG8 := hid (Below.refl w9.heap.size w9)
        have hb := hba w9 (.cells #[.int .i64 kd, .string tb, .slice a1 key.length a2, .int .i64 t, .int .i64 v, .int .i64 fr, .int .i64 to, .slice a3 wh.length a4, .slice a5 cols.length a6, .int .i64 lim, .bool ds] 28)
        have y6 : (w9.alloc (.cells #[.int .i64 kd, .string tb, .slice a1 key.length a2, .int .i64 t, .int .i64 v, .int .i64 fr, .int .i64 to, .slice a3 wh.length a4, .slice a5 cols.length a6, .int .i64 lim, .bool ds] 28)).cell? ⟨gx, 7, none⟩ = some (.slice a3 wh.length a4) := hkeep x7 hb
        replace L := hid (hnext L.out hb)
        replace HQ := hid (HQ.out.below hb)
        replace HR := hid (HR.out.below hb)
        replace BX := hid (keepBlock BX.out hb)
        replace HG8 := hid (hnext HG8.out hb)
        obtain ⟨gw, hgw⟩ : ∃ gw, w9.heap.size = gw := ⟨_, rfl⟩
        have BW := hid (show Var (w9.alloc (.cells #[.int .i64 kd, .string tb, .slice a1 key.length a2, .int .i64 t, .int .i64 v, .int .i64 fr, .int .i64 to, .slice a3 wh.length a4, .slice a5 cols.length a6, .int .i64 lim, .bool ds] 28)) gw #[.int .i64 kd, .string tb, .slice a1 key.length a2, .int .i64 t, .int .i64 v, .int .i64 fr, .int .i64 to, .slice a3 wh.length a4, .slice a5 cols.length a6, .int .i64 lim, .bool ds] 28 by rw [← hgw]; exact heap_alloc_new w9 (.cells #[.int .i64 kd, .string tb, .slice a1 key.length a2, .int .i64 t, .int .i64 v, .int .i64 fr, .int .i64 to, .slice a3 wh.length a4, .slice a5 cols.length a6, .int .i64 lim, .bool ds] 28))
        have hgw1 : gx < gw := by rw [← hgw]; exact (Array.getElem?_eq_some_iff.1 (show w9.heap[gx]? = _ from HBX0.out)).1
        have hn1 : gx ≠ gw := by omega
        have hn2 : gw ≠ gx := by omega
        have hwgw : Hid (w.heap.size ≤ gw) := by show _ ≤ _; rw [← hgw]; exact HLs.out
        have HGW := hid hgw
        clear hb hgw1
        by_cases hc0 : 0 < cols.length
        · have hc1 : (0 : Int) < (cols.length : Int) := by omega
          have hpl : (projL ⟨kd, tb, key, t, v, fr, to, wh, cols, lim, ds⟩ row).length = cols.length := by rw [proj_len]; exact if_neg (show ¬ cols.length = 0 by omega)
          have HPL := hid hpl
          clear hc0 hpl
          go_wp2_with fail
          (try rw [hgw])
          clear hgw y6 hc1 HBX0 HLs x0 x1 x2 x3 x4 x5 x6 x7 x8 x9 x10
          generalize (w9.alloc (.cells #[.int .i64 kd, .string tb, .slice a1 key.length a2, .int .i64 t, .int .i64 v, .int .i64 fr, .int .i64 to, .slice a3 wh.length a4, .slice a5 cols.length a6, .int .i64 lim, .bool ds] 28)) = w10 at *
          refine (CPU.out _ HQ.out.2.1).mono ?_; rintro e w11 ⟨pv, p, rfl, hop, hpl, b⟩
          have hgo : gw < w10.heap.size := (Array.getElem?_eq_some_iff.1 BW.out).1
          replace L := hid (hnext L.out b)
          replace HQ := hid (HQ.out.below b)
          replace HR := hid (HR.out.below b)
          replace BX := hid (keepBlock BX.out b)
          replace HG8 := hid (hnext HG8.out b)
          replace BW := hid (keepBlock BW.out b)
          obtain ⟨p1, p2, rfl⟩ := own_sl7 hop
          have HOP := hid hop
          clear b hop
          clear hpl
          have x0 : w11.cell? ⟨gx, 0, none⟩ = some (.int .i64 kd) := cell_of_row _ (gx) 0 _ _ _ BX.out
          have x1 : w11.cell? ⟨gx, 1, none⟩ = some (.string tb) := cell_of_row _ (gx) 1 _ _ _ BX.out
          have x2 : w11.cell? ⟨gx, 2, none⟩ = some (.slice a1 key.length a2) := cell_of_row _ (gx) 2 _ _ _ BX.out
          have x3 : w11.cell? ⟨gx, 3, none⟩ = some (.int .i64 t) := cell_of_row _ (gx) 3 _ _ _ BX.out
          have x4 : w11.cell? ⟨gx, 4, none⟩ = some (.int .i64 v) := cell_of_row _ (gx) 4 _ _ _ BX.out
          have x5 : w11.cell? ⟨gx, 5, none⟩ = some (.int .i64 fr) := cell_of_row _ (gx) 5 _ _ _ BX.out
          have x6 : w11.cell? ⟨gx, 6, none⟩ = some (.int .i64 to) := cell_of_row _ (gx) 6 _ _ _ BX.out
          have x7 : w11.cell? ⟨gx, 7, none⟩ = some (.slice a3 wh.length a4) := cell_of_row _ (gx) 7 _ _ _ BX.out
          have x8 : w11.cell? ⟨gx, 8, none⟩ = some (.slice a5 cols.length a6) := cell_of_row _ (gx) 8 _ _ _ BX.out
          have x9 : w11.cell? ⟨gx, 9, none⟩ = some (.int .i64 lim) := cell_of_row _ (gx) 9 _ _ _ BX.out
          have x10 : w11.cell? ⟨gx, 10, none⟩ = some (.bool ds) := cell_of_row _ (gx) 10 _ _ _ BX.out
          have z7 : w11.cell? ⟨gw, 7, none⟩ = some (.slice a3 wh.length a4) := cell_of_row _ gw 7 _ _ _ BW.out
          have f7 : w11.frozen? ⟨gw, 7, none⟩ = false := frozen_of_row w11 gw 7 _ _ BW.out
          go_wp2_with fail
          have hu : Upd gw w11 (w11.setCell ⟨gw, 7, none⟩ (.slice p1 p.length p2)) := Upd.set _ _ _ _
          have BX2 : Hid (Var (w11.setCell ⟨gw, 7, none⟩ (.slice p1 p.length p2)) gx #[.int .i64 kd, .string tb, .slice a1 key.length a2, .int .i64 t, .int .i64 v, .int .i64 fr, .int .i64 to, .slice a3 wh.length a4, .slice a5 cols.length a6, .int .i64 lim, .bool ds] 28) := Var.setO (r := gw) (o := 7) BX.out _ hn2
          have BW2 : Hid (Var (w11.setCell ⟨gw, 7, none⟩ (.slice p1 p.length p2)) gw #[.int .i64 kd, .string tb, .slice a1 key.length a2, .int .i64 t, .int .i64 v, .int .i64 fr, .int .i64 to, .slice p1 p.length p2, .slice a5 cols.length a6, .int .i64 lim, .bool ds] 28) := (show Var w11 gw #[.int .i64 kd, .string tb, .slice a1 key.length a2, .int .i64 t, .int .i64 v, .int .i64 fr, .int .i64 to, .slice a3 wh.length a4, .slice a5 cols.length a6, .int .i64 lim, .bool ds] 28 from BW.out).set 7 _
          have HP2 : Hid (NsAt (w11.setCell ⟨gw, 7, none⟩ (.slice p1 p.length p2)) (.slice p1 p.length p2) p) := NsAt.own (own_setO (r := gw) (o := 7) (u := (.slice p1 p.length p2)) HOP.out hgo)
          have L2 : Hid (Below w.heap.size w (w11.setCell ⟨gw, 7, none⟩ (.slice p1 p.length p2))) := L.out.setCell (p := ⟨gw, 7, none⟩) hwgw.out _
          have HB2 : Hid (Below w9.heap.size w9 (w11.setCell ⟨gw, 7, none⟩ (.slice p1 p.length p2))) := HG8.out.setCell (p := ⟨gw, 7, none⟩) (by show w9.heap.size ≤ gw; exact Nat.le_of_eq HGW.out) _
          have HQ2 := hid (HQ0.out.below HB2.out)
          have HR2 := hid (HR0.out.below HB2.out)
          clear BX BW L HOP HG8 HB2 HQ0 HR0 HQ HR HGW hgo hwgw f7 z7 x0 x1 x2 x3 x4 x5 x6 x7 x8 x9 x10
          clear BW2 HP2
          generalize (w11.setCell ⟨gw, 7, none⟩ (.slice p1 p.length p2)) = w12 at *
          refine (C1.out _ HQ2.out HR2.out.1).mono ?_; rintro e w13 ⟨rfl, b⟩
          replace L2 := hid (hnext L2.out b)
          replace HQ2 := hid (HQ2.out.below b)
          replace HR2 := hid (HR2.out.below b)
          replace BX2 := hid (keepBlock BX2.out b)
          clear b C1
          have x0 : w13.cell? ⟨gx, 0, none⟩ = some (.int .i64 kd) := cell_of_row _ (gx) 0 _ _ _ BX2.out
          have x1 : w13.cell? ⟨gx, 1, none⟩ = some (.string tb) := cell_of_row _ (gx) 1 _ _ _ BX2.out
          have x2 : w13.cell? ⟨gx, 2, none⟩ = some (.slice a1 key.length a2) := cell_of_row _ (gx) 2 _ _ _ BX2.out
          have x3 : w13.cell? ⟨gx, 3, none⟩ = some (.int .i64 t) := cell_of_row _ (gx) 3 _ _ _ BX2.out
          have x4 : w13.cell? ⟨gx, 4, none⟩ = some (.int .i64 v) := cell_of_row _ (gx) 4 _ _ _ BX2.out
          have x5 : w13.cell? ⟨gx, 5, none⟩ = some (.int .i64 fr) := cell_of_row _ (gx) 5 _ _ _ BX2.out
          have x6 : w13.cell? ⟨gx, 6, none⟩ = some (.int .i64 to) := cell_of_row _ (gx) 6 _ _ _ BX2.out
          have x7 : w13.cell? ⟨gx, 7, none⟩ = some (.slice a3 wh.length a4) := cell_of_row _ (gx) 7 _ _ _ BX2.out
          have x8 : w13.cell? ⟨gx, 8, none⟩ = some (.slice a5 cols.length a6) := cell_of_row _ (gx) 8 _ _ _ BX2.out
          have x9 : w13.cell? ⟨gx, 9, none⟩ = some (.int .i64 lim) := cell_of_row _ (gx) 9 _ _ _ BX2.out
          have x10 : w13.cell? ⟨gx, 10, none⟩ = some (.bool ds) := cell_of_row _ (gx) 10 _ _ _ BX2.out
          go_wp2_with fail
          refine (CPR.out _ HQ2.out HR2.out).mono ?_; rintro e w14 ⟨v9, rfl, h9, b⟩
          replace L2 := hid (hnext L2.out b)
          replace HQ2 := hid (HQ2.out.below b)
          replace HR2 := hid (HR2.out.below b)
          replace BX2 := hid (keepBlock BX2.out b)
          obtain ⟨l1, l2, e9⟩ := vs_slc h9
          rw [HPL.out] at e9
          subst e9
          clear b h9 x0 x1 x2 x3 x4 x5 x6 x7 x8 x9 x10
          go_wp2_with fail
          refine (known_any _).mono ?_; rintro e w15 ⟨rfl, b⟩
          go_wp2
          go_ret
          exact ⟨rfl, hnext L2.out b⟩
        · have hc1 : ¬ (0 : Int) < (cols.length : Int) := by omega
          have hpl : (projL ⟨kd, tb, key, t, v, fr, to, wh, cols, lim, ds⟩ row).length = row.length := by rw [proj_len]; exact if_pos (show cols.length = 0 by omega)
          have HPL := hid hpl
          clear hc0 hpl
          go_wp2_with fail
          (try rw [hgw])
          clear hgw y6 hc1 HBX0 HLs x0 x1 x2 x3 x4 x5 x6 x7 x8 x9 x10
          generalize (w9.alloc (.cells #[.int .i64 kd, .string tb, .slice a1 key.length a2, .int .i64 t, .int .i64 v, .int .i64 fr, .int .i64 to, .slice a3 wh.length a4, .slice a5 cols.length a6, .int .i64 lim, .bool ds] 28)) = w10 at *
          refine (CPU.out _ HQ.out.2.1).mono ?_; rintro e w11 ⟨pv, p, rfl, hop, hpl, b⟩
          have hgo : gw < w10.heap.size := (Array.getElem?_eq_some_iff.1 BW.out).1
          replace L := hid (hnext L.out b)
          replace HQ := hid (HQ.out.below b)
          replace HR := hid (HR.out.below b)
          replace BX := hid (keepBlock BX.out b)
          replace HG8 := hid (hnext HG8.out b)
          replace BW := hid (keepBlock BW.out b)
          obtain ⟨p1, p2, rfl⟩ := own_sl7 hop
          have HOP := hid hop
          clear b hop
          clear hpl
          have x0 : w11.cell? ⟨gx, 0, none⟩ = some (.int .i64 kd) := cell_of_row _ (gx) 0 _ _ _ BX.out
          have x1 : w11.cell? ⟨gx, 1, none⟩ = some (.string tb) := cell_of_row _ (gx) 1 _ _ _ BX.out
          have x2 : w11.cell? ⟨gx, 2, none⟩ = some (.slice a1 key.length a2) := cell_of_row _ (gx) 2 _ _ _ BX.out
          have x3 : w11.cell? ⟨gx, 3, none⟩ = some (.int .i64 t) := cell_of_row _ (gx) 3 _ _ _ BX.out
          have x4 : w11.cell? ⟨gx, 4, none⟩ = some (.int .i64 v) := cell_of_row _ (gx) 4 _ _ _ BX.out
          have x5 : w11.cell? ⟨gx, 5, none⟩ = some (.int .i64 fr) := cell_of_row _ (gx) 5 _ _ _ BX.out
          have x6 : w11.cell? ⟨gx, 6, none⟩ = some (.int .i64 to) := cell_of_row _ (gx) 6 _ _ _ BX.out
          have x7 : w11.cell? ⟨gx, 7, none⟩ = some (.slice a3 wh.length a4) := cell_of_row _ (gx) 7 _ _ _ BX.out
          have x8 : w11.cell? ⟨gx, 8, none⟩ = some (.slice a5 cols.length a6) := cell_of_row _ (gx) 8 _ _ _ BX.out
          have x9 : w11.cell? ⟨gx, 9, none⟩ = some (.int .i64 lim) := cell_of_row _ (gx) 9 _ _ _ BX.out
          have x10 : w11.cell? ⟨gx, 10, none⟩ = some (.bool ds) := cell_of_row _ (gx) 10 _ _ _ BX.out
          have z7 : w11.cell? ⟨gw, 7, none⟩ = some (.slice a3 wh.length a4) := cell_of_row _ gw 7 _ _ _ BW.out
          have f7 : w11.frozen? ⟨gw, 7, none⟩ = false := frozen_of_row w11 gw 7 _ _ BW.out
          go_wp2_with fail
          have hu : Upd gw w11 (w11.setCell ⟨gw, 7, none⟩ (.slice p1 p.length p2)) := Upd.set _ _ _ _
          have BX2 : Hid (Var (w11.setCell ⟨gw, 7, none⟩ (.slice p1 p.length p2)) gx #[.int .i64 kd, .string tb, .slice a1 key.length a2, .int .i64 t, .int .i64 v, .int .i64 fr, .int .i64 to, .slice a3 wh.length a4, .slice a5 cols.length a6, .int .i64 lim, .bool ds] 28) := Var.setO (r := gw) (o := 7) BX.out _ hn2
          have BW2 : Hid (Var (w11.setCell ⟨gw, 7, none⟩ (.slice p1 p.length p2)) gw #[.int .i64 kd, .string tb, .slice a1 key.length a2, .int .i64 t, .int .i64 v, .int .i64 fr, .int .i64 to, .slice p1 p.length p2, .slice a5 cols.length a6, .int .i64 lim, .bool ds] 28) := (show Var w11 gw #[.int .i64 kd, .string tb, .slice a1 key.length a2, .int .i64 t, .int .i64 v, .int .i64 fr, .int .i64 to, .slice a3 wh.length a4, .slice a5 cols.length a6, .int .i64 lim, .bool ds] 28 from BW.out).set 7 _
          have HP2 : Hid (NsAt (w11.setCell ⟨gw, 7, none⟩ (.slice p1 p.length p2)) (.slice p1 p.length p2) p) := NsAt.own (own_setO (r := gw) (o := 7) (u := (.slice p1 p.length p2)) HOP.out hgo)
          have L2 : Hid (Below w.heap.size w (w11.setCell ⟨gw, 7, none⟩ (.slice p1 p.length p2))) := L.out.setCell (p := ⟨gw, 7, none⟩) hwgw.out _
          have HB2 : Hid (Below w9.heap.size w9 (w11.setCell ⟨gw, 7, none⟩ (.slice p1 p.length p2))) := HG8.out.setCell (p := ⟨gw, 7, none⟩) (by show w9.heap.size ≤ gw; exact Nat.le_of_eq HGW.out) _
          have HQ2 := hid (HQ0.out.below HB2.out)
          have HR2 := hid (HR0.out.below HB2.out)
          clear BX BW L HOP HG8 HB2 HQ0 HR0 HQ HR HGW hgo hwgw f7 z7 x0 x1 x2 x3 x4 x5 x6 x7 x8 x9 x10
          clear BW2 HP2
          generalize (w11.setCell ⟨gw, 7, none⟩ (.slice p1 p.length p2)) = w12 at *
          refine (C1.out _ HQ2.out HR2.out.1).mono ?_; rintro e w13 ⟨rfl, b⟩
          replace L2 := hid (hnext L2.out b)
          replace HQ2 := hid (HQ2.out.below b)
          replace HR2 := hid (HR2.out.below b)
          replace BX2 := hid (keepBlock BX2.out b)
          clear b C1
          have x0 : w13.cell? ⟨gx, 0, none⟩ = some (.int .i64 kd) := cell_of_row _ (gx) 0 _ _ _ BX2.out
          have x1 : w13.cell? ⟨gx, 1, none⟩ = some (.string tb) := cell_of_row _ (gx) 1 _ _ _ BX2.out
          have x2 : w13.cell? ⟨gx, 2, none⟩ = some (.slice a1 key.length a2) := cell_of_row _ (gx) 2 _ _ _ BX2.out
          have x3 : w13.cell? ⟨gx, 3, none⟩ = some (.int .i64 t) := cell_of_row _ (gx) 3 _ _ _ BX2.out
          have x4 : w13.cell? ⟨gx, 4, none⟩ = some (.int .i64 v) := cell_of_row _ (gx) 4 _ _ _ BX2.out
          have x5 : w13.cell? ⟨gx, 5, none⟩ = some (.int .i64 fr) := cell_of_row _ (gx) 5 _ _ _ BX2.out
          have x6 : w13.cell? ⟨gx, 6, none⟩ = some (.int .i64 to) := cell_of_row _ (gx) 6 _ _ _ BX2.out
          have x7 : w13.cell? ⟨gx, 7, none⟩ = some (.slice a3 wh.length a4) := cell_of_row _ (gx) 7 _ _ _ BX2.out
          have x8 : w13.cell? ⟨gx, 8, none⟩ = some (.slice a5 cols.length a6) := cell_of_row _ (gx) 8 _ _ _ BX2.out
          have x9 : w13.cell? ⟨gx, 9, none⟩ = some (.int .i64 lim) := cell_of_row _ (gx) 9 _ _ _ BX2.out
          have x10 : w13.cell? ⟨gx, 10, none⟩ = some (.bool ds) := cell_of_row _ (gx) 10 _ _ _ BX2.out
          go_wp2_with fail
          refine (CPR.out _ HQ2.out HR2.out).mono ?_; rintro e w14 ⟨v9, rfl, h9, b⟩
          replace L2 := hid (hnext L2.out b)
          replace HQ2 := hid (HQ2.out.below b)
          replace HR2 := hid (HR2.out.below b)
          replace BX2 := hid (keepBlock BX2.out b)
          obtain ⟨l1, l2, e9⟩ := vs_slc h9
          rw [HPL.out] at e9
          subst e9
          clear b h9 x0 x1 x2 x3 x4 x5 x6 x7 x8 x9 x10
          go_wp2_with fail
          refine (known_any _).mono ?_; rintro e w15 ⟨rfl, b⟩
          go_wp2
          go_ret
          exact ⟨rfl, hnext L2.out b⟩
      | true =>
        rw [hr1] at c1 hpq
        have C1 := hid c1
        clear c1 hr1
        have hev : evalI wh row = 1 := of_decide_eq_true hpq.symm
        have hno : passB ⟨kd, tb, key, t, v, fr, to, (⟨11, 0, nul⟩ :: wh), cols, lim, ds⟩ row = false := by rw [pass_wh (show 0 < (⟨11, 0, nul⟩ :: wh).length by simp)]; exact decide_eq_false (not_pass rfl H3.out hev)
        rw [hno] at c2
        have C2 := hid c2
        have HEV := hid hev
        clear c2 hno hev hpq
        refine (C1.out _ HQ.out HR.out.1).mono ?_; rintro e w9 ⟨rfl, b⟩
        replace L := hid (hnext L.out b)
        replace HQ := hid (HQ.out.below b)
        replace HR := hid (HR.out.below b)
        replace BX := hid (keepBlock BX.out b)
        replace BNo := hid (keepBlock BNo.out b)
        replace HNo := hid (HNo.out.below b)
        clear b
        have z0 : w9.cell? ⟨gn, 0, none⟩ = some (.int .i64 kd) := cell_of_row _ (gn) 0 _ _ _ BNo.out
        have z1 : w9.cell? ⟨gn, 1, none⟩ = some (.string tb) := cell_of_row _ (gn) 1 _ _ _ BNo.out
        have z2 : w9.cell? ⟨gn, 2, none⟩ = some (.slice a1 key.length a2) := cell_of_row _ (gn) 2 _ _ _ BNo.out
        have z3 : w9.cell? ⟨gn, 3, none⟩ = some (.int .i64 t) := cell_of_row _ (gn) 3 _ _ _ BNo.out
        have z4 : w9.cell? ⟨gn, 4, none⟩ = some (.int .i64 v) := cell_of_row _ (gn) 4 _ _ _ BNo.out
        have z5 : w9.cell? ⟨gn, 5, none⟩ = some (.int .i64 fr) := cell_of_row _ (gn) 5 _ _ _ BNo.out
        have z6 : w9.cell? ⟨gn, 6, none⟩ = some (.int .i64 to) := cell_of_row _ (gn) 6 _ _ _ BNo.out
        have z7 : w9.cell? ⟨gn, 7, none⟩ = some (.slice n1 (wh.length + 1) n2) := cell_of_row _ (gn) 7 _ _ _ BNo.out
        have z8 : w9.cell? ⟨gn, 8, none⟩ = some (.slice a5 cols.length a6) := cell_of_row _ (gn) 8 _ _ _ BNo.out
        have z9 : w9.cell? ⟨gn, 9, none⟩ = some (.int .i64 lim) := cell_of_row _ (gn) 9 _ _ _ BNo.out
        have z10 : w9.cell? ⟨gn, 10, none⟩ = some (.bool ds) := cell_of_row _ (gn) 10 _ _ _ BNo.out
        go_wp2_with fail
        refine (C2.out _ ⟨HQ.out.1, HNo.out, HQ.out.2.2⟩ HR.out.1).mono ?_; rintro e w10 ⟨rfl, b⟩
        replace L := hid (hnext L.out b)
        replace HQ := hid (HQ.out.below b)
        replace HR := hid (HR.out.below b)
        replace BX := hid (keepBlock BX.out b)
        clear b C2 BNo HNo NOK
        clear z0 z1 z2 z3 z4 z5 z6 z7 z8 z9 z10
        have x0 : w10.cell? ⟨gx, 0, none⟩ = some (.int .i64 kd) := cell_of_row _ (gx) 0 _ _ _ BX.out
        have x1 : w10.cell? ⟨gx, 1, none⟩ = some (.string tb) := cell_of_row _ (gx) 1 _ _ _ BX.out
        have x2 : w10.cell? ⟨gx, 2, none⟩ = some (.slice a1 key.length a2) := cell_of_row _ (gx) 2 _ _ _ BX.out
        have x3 : w10.cell? ⟨gx, 3, none⟩ = some (.int .i64 t) := cell_of_row _ (gx) 3 _ _ _ BX.out
        have x4 : w10.cell? ⟨gx, 4, none⟩ = some (.int .i64 v) := cell_of_row _ (gx) 4 _ _ _ BX.out
        have x5 : w10.cell? ⟨gx, 5, none⟩ = some (.int .i64 fr) := cell_of_row _ (gx) 5 _ _ _ BX.out
        have x6 : w10.cell? ⟨gx, 6, none⟩ = some (.int .i64 to) := cell_of_row _ (gx) 6 _ _ _ BX.out
        have x7 : w10.cell? ⟨gx, 7, none⟩ = some (.slice a3 wh.length a4) := cell_of_row _ (gx) 7 _ _ _ BX.out
        have x8 : w10.cell? ⟨gx, 8, none⟩ = some (.slice a5 cols.length a6) := cell_of_row _ (gx) 8 _ _ _ BX.out
        have x9 : w10.cell? ⟨gx, 9, none⟩ = some (.int .i64 lim) := cell_of_row _ (gx) 9 _ _ _ BX.out
        have x10 : w10.cell? ⟨gx, 10, none⟩ = some (.bool ds) := cell_of_row _ (gx) 10 _ _ _ BX.out
        have HBX0 := hid BX.out
        have HLs := hid L.out.size
        have HQ0 := hid HQ.out
        have HR0 := hid HR.out
        have HG8 := hid (Below.refl w10.heap.size w10)
        have hb := hba w10 (.cells #[.int .i64 kd, .string tb, .slice a1 key.length a2, .int .i64 t, .int .i64 v, .int .i64 fr, .int .i64 to, .slice a3 wh.length a4, .slice a5 cols.length a6, .int .i64 lim, .bool ds] 28)
        have y6 : (w10.alloc (.cells #[.int .i64 kd, .string tb, .slice a1 key.length a2, .int .i64 t, .int .i64 v, .int .i64 fr, .int .i64 to, .slice a3 wh.length a4, .slice a5 cols.length a6, .int .i64 lim, .bool ds] 28)).cell? ⟨gx, 7, none⟩ = some (.slice a3 wh.length a4) := hkeep x7 hb
        replace L := hid (hnext L.out hb)
        replace HQ := hid (HQ.out.below hb)
        replace HR := hid (HR.out.below hb)
        replace BX := hid (keepBlock BX.out hb)
        replace HG8 := hid (hnext HG8.out hb)
        obtain ⟨gw, hgw⟩ : ∃ gw, w10.heap.size = gw := ⟨_, rfl⟩
        have BW := hid (show Var (w10.alloc (.cells #[.int .i64 kd, .string tb, .slice a1 key.length a2, .int .i64 t, .int .i64 v, .int .i64 fr, .int .i64 to, .slice a3 wh.length a4, .slice a5 cols.length a6, .int .i64 lim, .bool ds] 28)) gw #[.int .i64 kd, .string tb, .slice a1 key.length a2, .int .i64 t, .int .i64 v, .int .i64 fr, .int .i64 to, .slice a3 wh.length a4, .slice a5 cols.length a6, .int .i64 lim, .bool ds] 28 by rw [← hgw]; exact heap_alloc_new w10 (.cells #[.int .i64 kd, .string tb, .slice a1 key.length a2, .int .i64 t, .int .i64 v, .int .i64 fr, .int .i64 to, .slice a3 wh.length a4, .slice a5 cols.length a6, .int .i64 lim, .bool ds] 28))
        have hgw1 : gx < gw := by rw [← hgw]; exact (Array.getElem?_eq_some_iff.1 (show w10.heap[gx]? = _ from HBX0.out)).1
        have hn1 : gx ≠ gw := by omega
        have hn2 : gw ≠ gx := by omega
        have hwgw : Hid (w.heap.size ≤ gw) := by show _ ≤ _; rw [← hgw]; exact HLs.out
        have HGW := hid hgw
        clear hb hgw1
        by_cases hc0 : 0 < cols.length
        · have hc1 : (0 : Int) < (cols.length : Int) := by omega
          have hpl : (projL ⟨kd, tb, key, t, v, fr, to, wh, cols, lim, ds⟩ row).length = cols.length := by rw [proj_len]; exact if_neg (show ¬ cols.length = 0 by omega)
          have HPL := hid hpl
          clear hc0 hpl
          go_wp2_with fail
          (try rw [hgw])
          clear hgw y6 hc1 HBX0 HLs x0 x1 x2 x3 x4 x5 x6 x7 x8 x9 x10
          generalize (w10.alloc (.cells #[.int .i64 kd, .string tb, .slice a1 key.length a2, .int .i64 t, .int .i64 v, .int .i64 fr, .int .i64 to, .slice a3 wh.length a4, .slice a5 cols.length a6, .int .i64 lim, .bool ds] 28)) = w11 at *
          refine (CPU.out _ HQ.out.2.1).mono ?_; rintro e w12 ⟨pv, p, rfl, hop, hpl, b⟩
          have hgo : gw < w11.heap.size := (Array.getElem?_eq_some_iff.1 BW.out).1
          replace L := hid (hnext L.out b)
          replace HQ := hid (HQ.out.below b)
          replace HR := hid (HR.out.below b)
          replace BX := hid (keepBlock BX.out b)
          replace HG8 := hid (hnext HG8.out b)
          replace BW := hid (keepBlock BW.out b)
          obtain ⟨p1, p2, rfl⟩ := own_sl7 hop
          have HOP := hid hop
          clear b hop
          obtain ⟨hp0, hp40, hpe, _⟩ := push_pass hpl HEV.out
          have hpk := push_nok hpl HOK.out.wh
          have c3 := fun W h h2 => pass_any ⟨kd, tb, key, t, v, fr, to, p, cols, lim, ds⟩ (.slice a1 key.length a2) (.slice p1 p.length p2) (.slice a5 cols.length a6) row (.slice ra row.length rc) W h h2 (show p.length ≤ 1000000 by omega) hpk HRK.out
          rw [pass_wh (show 0 < p.length from hp0), decide_eq_true hpe] at c3
          have C3 := hid c3
          clear c3 hp0 hp40 hpe hpk
          clear hpl
          have x0 : w12.cell? ⟨gx, 0, none⟩ = some (.int .i64 kd) := cell_of_row _ (gx) 0 _ _ _ BX.out
          have x1 : w12.cell? ⟨gx, 1, none⟩ = some (.string tb) := cell_of_row _ (gx) 1 _ _ _ BX.out
          have x2 : w12.cell? ⟨gx, 2, none⟩ = some (.slice a1 key.length a2) := cell_of_row _ (gx) 2 _ _ _ BX.out
          have x3 : w12.cell? ⟨gx, 3, none⟩ = some (.int .i64 t) := cell_of_row _ (gx) 3 _ _ _ BX.out
          have x4 : w12.cell? ⟨gx, 4, none⟩ = some (.int .i64 v) := cell_of_row _ (gx) 4 _ _ _ BX.out
          have x5 : w12.cell? ⟨gx, 5, none⟩ = some (.int .i64 fr) := cell_of_row _ (gx) 5 _ _ _ BX.out
          have x6 : w12.cell? ⟨gx, 6, none⟩ = some (.int .i64 to) := cell_of_row _ (gx) 6 _ _ _ BX.out
          have x7 : w12.cell? ⟨gx, 7, none⟩ = some (.slice a3 wh.length a4) := cell_of_row _ (gx) 7 _ _ _ BX.out
          have x8 : w12.cell? ⟨gx, 8, none⟩ = some (.slice a5 cols.length a6) := cell_of_row _ (gx) 8 _ _ _ BX.out
          have x9 : w12.cell? ⟨gx, 9, none⟩ = some (.int .i64 lim) := cell_of_row _ (gx) 9 _ _ _ BX.out
          have x10 : w12.cell? ⟨gx, 10, none⟩ = some (.bool ds) := cell_of_row _ (gx) 10 _ _ _ BX.out
          have z7 : w12.cell? ⟨gw, 7, none⟩ = some (.slice a3 wh.length a4) := cell_of_row _ gw 7 _ _ _ BW.out
          have f7 : w12.frozen? ⟨gw, 7, none⟩ = false := frozen_of_row w12 gw 7 _ _ BW.out
          go_wp2_with fail
          have hu : Upd gw w12 (w12.setCell ⟨gw, 7, none⟩ (.slice p1 p.length p2)) := Upd.set _ _ _ _
          have BX2 : Hid (Var (w12.setCell ⟨gw, 7, none⟩ (.slice p1 p.length p2)) gx #[.int .i64 kd, .string tb, .slice a1 key.length a2, .int .i64 t, .int .i64 v, .int .i64 fr, .int .i64 to, .slice a3 wh.length a4, .slice a5 cols.length a6, .int .i64 lim, .bool ds] 28) := Var.setO (r := gw) (o := 7) BX.out _ hn2
          have BW2 : Hid (Var (w12.setCell ⟨gw, 7, none⟩ (.slice p1 p.length p2)) gw #[.int .i64 kd, .string tb, .slice a1 key.length a2, .int .i64 t, .int .i64 v, .int .i64 fr, .int .i64 to, .slice p1 p.length p2, .slice a5 cols.length a6, .int .i64 lim, .bool ds] 28) := (show Var w12 gw #[.int .i64 kd, .string tb, .slice a1 key.length a2, .int .i64 t, .int .i64 v, .int .i64 fr, .int .i64 to, .slice a3 wh.length a4, .slice a5 cols.length a6, .int .i64 lim, .bool ds] 28 from BW.out).set 7 _
          have HP2 : Hid (NsAt (w12.setCell ⟨gw, 7, none⟩ (.slice p1 p.length p2)) (.slice p1 p.length p2) p) := NsAt.own (own_setO (r := gw) (o := 7) (u := (.slice p1 p.length p2)) HOP.out hgo)
          have L2 : Hid (Below w.heap.size w (w12.setCell ⟨gw, 7, none⟩ (.slice p1 p.length p2))) := L.out.setCell (p := ⟨gw, 7, none⟩) hwgw.out _
          have HB2 : Hid (Below w10.heap.size w10 (w12.setCell ⟨gw, 7, none⟩ (.slice p1 p.length p2))) := HG8.out.setCell (p := ⟨gw, 7, none⟩) (by show w10.heap.size ≤ gw; exact Nat.le_of_eq HGW.out) _
          have HQ2 := hid (HQ0.out.below HB2.out)
          have HR2 := hid (HR0.out.below HB2.out)
          clear BX BW L HOP HG8 HB2 HQ0 HR0 HQ HR HGW hgo hwgw f7 z7 x0 x1 x2 x3 x4 x5 x6 x7 x8 x9 x10
          generalize (w12.setCell ⟨gw, 7, none⟩ (.slice p1 p.length p2)) = w13 at *
          refine (C1.out _ HQ2.out HR2.out.1).mono ?_; rintro e w14 ⟨rfl, b⟩
          replace L2 := hid (hnext L2.out b)
          replace HQ2 := hid (HQ2.out.below b)
          replace HR2 := hid (HR2.out.below b)
          replace BX2 := hid (keepBlock BX2.out b)
          replace BW2 := hid (keepBlock BW2.out b)
          replace HP2 := hid (HP2.out.below b)
          clear b C1
          have z0 : w14.cell? ⟨gw, 0, none⟩ = some (.int .i64 kd) := cell_of_row _ (gw) 0 _ _ _ BW2.out
          have z1 : w14.cell? ⟨gw, 1, none⟩ = some (.string tb) := cell_of_row _ (gw) 1 _ _ _ BW2.out
          have z2 : w14.cell? ⟨gw, 2, none⟩ = some (.slice a1 key.length a2) := cell_of_row _ (gw) 2 _ _ _ BW2.out
          have z3 : w14.cell? ⟨gw, 3, none⟩ = some (.int .i64 t) := cell_of_row _ (gw) 3 _ _ _ BW2.out
          have z4 : w14.cell? ⟨gw, 4, none⟩ = some (.int .i64 v) := cell_of_row _ (gw) 4 _ _ _ BW2.out
          have z5 : w14.cell? ⟨gw, 5, none⟩ = some (.int .i64 fr) := cell_of_row _ (gw) 5 _ _ _ BW2.out
          have z6 : w14.cell? ⟨gw, 6, none⟩ = some (.int .i64 to) := cell_of_row _ (gw) 6 _ _ _ BW2.out
          have z7 : w14.cell? ⟨gw, 7, none⟩ = some (.slice p1 p.length p2) := cell_of_row _ (gw) 7 _ _ _ BW2.out
          have z8 : w14.cell? ⟨gw, 8, none⟩ = some (.slice a5 cols.length a6) := cell_of_row _ (gw) 8 _ _ _ BW2.out
          have z9 : w14.cell? ⟨gw, 9, none⟩ = some (.int .i64 lim) := cell_of_row _ (gw) 9 _ _ _ BW2.out
          have z10 : w14.cell? ⟨gw, 10, none⟩ = some (.bool ds) := cell_of_row _ (gw) 10 _ _ _ BW2.out
          go_wp2_with fail
          refine (C3.out _ ⟨HQ2.out.1, HP2.out, HQ2.out.2.2⟩ HR2.out.1).mono ?_; rintro e w15 ⟨rfl, b⟩
          replace L2 := hid (hnext L2.out b)
          replace HQ2 := hid (HQ2.out.below b)
          replace HR2 := hid (HR2.out.below b)
          replace BX2 := hid (keepBlock BX2.out b)
          clear b C3 BW2 HP2
          clear z0 z1 z2 z3 z4 z5 z6 z7 z8 z9 z10
          have x0 : w15.cell? ⟨gx, 0, none⟩ = some (.int .i64 kd) := cell_of_row _ (gx) 0 _ _ _ BX2.out
          have x1 : w15.cell? ⟨gx, 1, none⟩ = some (.string tb) := cell_of_row _ (gx) 1 _ _ _ BX2.out
          have x2 : w15.cell? ⟨gx, 2, none⟩ = some (.slice a1 key.length a2) := cell_of_row _ (gx) 2 _ _ _ BX2.out
          have x3 : w15.cell? ⟨gx, 3, none⟩ = some (.int .i64 t) := cell_of_row _ (gx) 3 _ _ _ BX2.out
          have x4 : w15.cell? ⟨gx, 4, none⟩ = some (.int .i64 v) := cell_of_row _ (gx) 4 _ _ _ BX2.out
          have x5 : w15.cell? ⟨gx, 5, none⟩ = some (.int .i64 fr) := cell_of_row _ (gx) 5 _ _ _ BX2.out
          have x6 : w15.cell? ⟨gx, 6, none⟩ = some (.int .i64 to) := cell_of_row _ (gx) 6 _ _ _ BX2.out
          have x7 : w15.cell? ⟨gx, 7, none⟩ = some (.slice a3 wh.length a4) := cell_of_row _ (gx) 7 _ _ _ BX2.out
          have x8 : w15.cell? ⟨gx, 8, none⟩ = some (.slice a5 cols.length a6) := cell_of_row _ (gx) 8 _ _ _ BX2.out
          have x9 : w15.cell? ⟨gx, 9, none⟩ = some (.int .i64 lim) := cell_of_row _ (gx) 9 _ _ _ BX2.out
          have x10 : w15.cell? ⟨gx, 10, none⟩ = some (.bool ds) := cell_of_row _ (gx) 10 _ _ _ BX2.out
          go_wp2_with fail
          refine (CPR.out _ HQ2.out HR2.out).mono ?_; rintro e w16 ⟨v9, rfl, h9, b⟩
          replace L2 := hid (hnext L2.out b)
          replace HQ2 := hid (HQ2.out.below b)
          replace HR2 := hid (HR2.out.below b)
          replace BX2 := hid (keepBlock BX2.out b)
          obtain ⟨l1, l2, e9⟩ := vs_slc h9
          rw [HPL.out] at e9
          subst e9
          clear b h9 x0 x1 x2 x3 x4 x5 x6 x7 x8 x9 x10
          go_wp2_with fail
          refine (known_any _).mono ?_; rintro e w17 ⟨rfl, b⟩
          go_wp2
          go_ret
          exact ⟨rfl, hnext L2.out b⟩
        · have hc1 : ¬ (0 : Int) < (cols.length : Int) := by omega
          have hpl : (projL ⟨kd, tb, key, t, v, fr, to, wh, cols, lim, ds⟩ row).length = row.length := by rw [proj_len]; exact if_pos (show cols.length = 0 by omega)
          have HPL := hid hpl
          clear hc0 hpl
          go_wp2_with fail
          (try rw [hgw])
          clear hgw y6 hc1 HBX0 HLs x0 x1 x2 x3 x4 x5 x6 x7 x8 x9 x10
          generalize (w10.alloc (.cells #[.int .i64 kd, .string tb, .slice a1 key.length a2, .int .i64 t, .int .i64 v, .int .i64 fr, .int .i64 to, .slice a3 wh.length a4, .slice a5 cols.length a6, .int .i64 lim, .bool ds] 28)) = w11 at *
          refine (CPU.out _ HQ.out.2.1).mono ?_; rintro e w12 ⟨pv, p, rfl, hop, hpl, b⟩
          have hgo : gw < w11.heap.size := (Array.getElem?_eq_some_iff.1 BW.out).1
          replace L := hid (hnext L.out b)
          replace HQ := hid (HQ.out.below b)
          replace HR := hid (HR.out.below b)
          replace BX := hid (keepBlock BX.out b)
          replace HG8 := hid (hnext HG8.out b)
          replace BW := hid (keepBlock BW.out b)
          obtain ⟨p1, p2, rfl⟩ := own_sl7 hop
          have HOP := hid hop
          clear b hop
          obtain ⟨hp0, hp40, hpe, _⟩ := push_pass hpl HEV.out
          have hpk := push_nok hpl HOK.out.wh
          have c3 := fun W h h2 => pass_any ⟨kd, tb, key, t, v, fr, to, p, cols, lim, ds⟩ (.slice a1 key.length a2) (.slice p1 p.length p2) (.slice a5 cols.length a6) row (.slice ra row.length rc) W h h2 (show p.length ≤ 1000000 by omega) hpk HRK.out
          rw [pass_wh (show 0 < p.length from hp0), decide_eq_true hpe] at c3
          have C3 := hid c3
          clear c3 hp0 hp40 hpe hpk
          clear hpl
          have x0 : w12.cell? ⟨gx, 0, none⟩ = some (.int .i64 kd) := cell_of_row _ (gx) 0 _ _ _ BX.out
          have x1 : w12.cell? ⟨gx, 1, none⟩ = some (.string tb) := cell_of_row _ (gx) 1 _ _ _ BX.out
          have x2 : w12.cell? ⟨gx, 2, none⟩ = some (.slice a1 key.length a2) := cell_of_row _ (gx) 2 _ _ _ BX.out
          have x3 : w12.cell? ⟨gx, 3, none⟩ = some (.int .i64 t) := cell_of_row _ (gx) 3 _ _ _ BX.out
          have x4 : w12.cell? ⟨gx, 4, none⟩ = some (.int .i64 v) := cell_of_row _ (gx) 4 _ _ _ BX.out
          have x5 : w12.cell? ⟨gx, 5, none⟩ = some (.int .i64 fr) := cell_of_row _ (gx) 5 _ _ _ BX.out
          have x6 : w12.cell? ⟨gx, 6, none⟩ = some (.int .i64 to) := cell_of_row _ (gx) 6 _ _ _ BX.out
          have x7 : w12.cell? ⟨gx, 7, none⟩ = some (.slice a3 wh.length a4) := cell_of_row _ (gx) 7 _ _ _ BX.out
          have x8 : w12.cell? ⟨gx, 8, none⟩ = some (.slice a5 cols.length a6) := cell_of_row _ (gx) 8 _ _ _ BX.out
          have x9 : w12.cell? ⟨gx, 9, none⟩ = some (.int .i64 lim) := cell_of_row _ (gx) 9 _ _ _ BX.out
          have x10 : w12.cell? ⟨gx, 10, none⟩ = some (.bool ds) := cell_of_row _ (gx) 10 _ _ _ BX.out
          have z7 : w12.cell? ⟨gw, 7, none⟩ = some (.slice a3 wh.length a4) := cell_of_row _ gw 7 _ _ _ BW.out
          have f7 : w12.frozen? ⟨gw, 7, none⟩ = false := frozen_of_row w12 gw 7 _ _ BW.out
          go_wp2_with fail
          have hu : Upd gw w12 (w12.setCell ⟨gw, 7, none⟩ (.slice p1 p.length p2)) := Upd.set _ _ _ _
          have BX2 : Hid (Var (w12.setCell ⟨gw, 7, none⟩ (.slice p1 p.length p2)) gx #[.int .i64 kd, .string tb, .slice a1 key.length a2, .int .i64 t, .int .i64 v, .int .i64 fr, .int .i64 to, .slice a3 wh.length a4, .slice a5 cols.length a6, .int .i64 lim, .bool ds] 28) := Var.setO (r := gw) (o := 7) BX.out _ hn2
          have BW2 : Hid (Var (w12.setCell ⟨gw, 7, none⟩ (.slice p1 p.length p2)) gw #[.int .i64 kd, .string tb, .slice a1 key.length a2, .int .i64 t, .int .i64 v, .int .i64 fr, .int .i64 to, .slice p1 p.length p2, .slice a5 cols.length a6, .int .i64 lim, .bool ds] 28) := (show Var w12 gw #[.int .i64 kd, .string tb, .slice a1 key.length a2, .int .i64 t, .int .i64 v, .int .i64 fr, .int .i64 to, .slice a3 wh.length a4, .slice a5 cols.length a6, .int .i64 lim, .bool ds] 28 from BW.out).set 7 _
          have HP2 : Hid (NsAt (w12.setCell ⟨gw, 7, none⟩ (.slice p1 p.length p2)) (.slice p1 p.length p2) p) := NsAt.own (own_setO (r := gw) (o := 7) (u := (.slice p1 p.length p2)) HOP.out hgo)
          have L2 : Hid (Below w.heap.size w (w12.setCell ⟨gw, 7, none⟩ (.slice p1 p.length p2))) := L.out.setCell (p := ⟨gw, 7, none⟩) hwgw.out _
          have HB2 : Hid (Below w10.heap.size w10 (w12.setCell ⟨gw, 7, none⟩ (.slice p1 p.length p2))) := HG8.out.setCell (p := ⟨gw, 7, none⟩) (by show w10.heap.size ≤ gw; exact Nat.le_of_eq HGW.out) _
          have HQ2 := hid (HQ0.out.below HB2.out)
          have HR2 := hid (HR0.out.below HB2.out)
          clear BX BW L HOP HG8 HB2 HQ0 HR0 HQ HR HGW hgo hwgw f7 z7 x0 x1 x2 x3 x4 x5 x6 x7 x8 x9 x10
          generalize (w12.setCell ⟨gw, 7, none⟩ (.slice p1 p.length p2)) = w13 at *
          refine (C1.out _ HQ2.out HR2.out.1).mono ?_; rintro e w14 ⟨rfl, b⟩
          replace L2 := hid (hnext L2.out b)
          replace HQ2 := hid (HQ2.out.below b)
          replace HR2 := hid (HR2.out.below b)
          replace BX2 := hid (keepBlock BX2.out b)
          replace BW2 := hid (keepBlock BW2.out b)
          replace HP2 := hid (HP2.out.below b)
          clear b C1
          have z0 : w14.cell? ⟨gw, 0, none⟩ = some (.int .i64 kd) := cell_of_row _ (gw) 0 _ _ _ BW2.out
          have z1 : w14.cell? ⟨gw, 1, none⟩ = some (.string tb) := cell_of_row _ (gw) 1 _ _ _ BW2.out
          have z2 : w14.cell? ⟨gw, 2, none⟩ = some (.slice a1 key.length a2) := cell_of_row _ (gw) 2 _ _ _ BW2.out
          have z3 : w14.cell? ⟨gw, 3, none⟩ = some (.int .i64 t) := cell_of_row _ (gw) 3 _ _ _ BW2.out
          have z4 : w14.cell? ⟨gw, 4, none⟩ = some (.int .i64 v) := cell_of_row _ (gw) 4 _ _ _ BW2.out
          have z5 : w14.cell? ⟨gw, 5, none⟩ = some (.int .i64 fr) := cell_of_row _ (gw) 5 _ _ _ BW2.out
          have z6 : w14.cell? ⟨gw, 6, none⟩ = some (.int .i64 to) := cell_of_row _ (gw) 6 _ _ _ BW2.out
          have z7 : w14.cell? ⟨gw, 7, none⟩ = some (.slice p1 p.length p2) := cell_of_row _ (gw) 7 _ _ _ BW2.out
          have z8 : w14.cell? ⟨gw, 8, none⟩ = some (.slice a5 cols.length a6) := cell_of_row _ (gw) 8 _ _ _ BW2.out
          have z9 : w14.cell? ⟨gw, 9, none⟩ = some (.int .i64 lim) := cell_of_row _ (gw) 9 _ _ _ BW2.out
          have z10 : w14.cell? ⟨gw, 10, none⟩ = some (.bool ds) := cell_of_row _ (gw) 10 _ _ _ BW2.out
          go_wp2_with fail
          refine (C3.out _ ⟨HQ2.out.1, HP2.out, HQ2.out.2.2⟩ HR2.out.1).mono ?_; rintro e w15 ⟨rfl, b⟩
          replace L2 := hid (hnext L2.out b)
          replace HQ2 := hid (HQ2.out.below b)
          replace HR2 := hid (HR2.out.below b)
          replace BX2 := hid (keepBlock BX2.out b)
          clear b C3 BW2 HP2
          clear z0 z1 z2 z3 z4 z5 z6 z7 z8 z9 z10
          have x0 : w15.cell? ⟨gx, 0, none⟩ = some (.int .i64 kd) := cell_of_row _ (gx) 0 _ _ _ BX2.out
          have x1 : w15.cell? ⟨gx, 1, none⟩ = some (.string tb) := cell_of_row _ (gx) 1 _ _ _ BX2.out
          have x2 : w15.cell? ⟨gx, 2, none⟩ = some (.slice a1 key.length a2) := cell_of_row _ (gx) 2 _ _ _ BX2.out
          have x3 : w15.cell? ⟨gx, 3, none⟩ = some (.int .i64 t) := cell_of_row _ (gx) 3 _ _ _ BX2.out
          have x4 : w15.cell? ⟨gx, 4, none⟩ = some (.int .i64 v) := cell_of_row _ (gx) 4 _ _ _ BX2.out
          have x5 : w15.cell? ⟨gx, 5, none⟩ = some (.int .i64 fr) := cell_of_row _ (gx) 5 _ _ _ BX2.out
          have x6 : w15.cell? ⟨gx, 6, none⟩ = some (.int .i64 to) := cell_of_row _ (gx) 6 _ _ _ BX2.out
          have x7 : w15.cell? ⟨gx, 7, none⟩ = some (.slice a3 wh.length a4) := cell_of_row _ (gx) 7 _ _ _ BX2.out
          have x8 : w15.cell? ⟨gx, 8, none⟩ = some (.slice a5 cols.length a6) := cell_of_row _ (gx) 8 _ _ _ BX2.out
          have x9 : w15.cell? ⟨gx, 9, none⟩ = some (.int .i64 lim) := cell_of_row _ (gx) 9 _ _ _ BX2.out
          have x10 : w15.cell? ⟨gx, 10, none⟩ = some (.bool ds) := cell_of_row _ (gx) 10 _ _ _ BX2.out
          go_wp2_with fail
          refine (CPR.out _ HQ2.out HR2.out).mono ?_; rintro e w16 ⟨v9, rfl, h9, b⟩
          replace L2 := hid (hnext L2.out b)
          replace HQ2 := hid (HQ2.out.below b)
          replace HR2 := hid (HR2.out.below b)
          replace BX2 := hid (keepBlock BX2.out b)
          obtain ⟨l1, l2, e9⟩ := vs_slc h9
          rw [HPL.out] at e9
          subst e9
          clear b h9 x0 x1 x2 x3 x4 x5 x6 x7 x8 x9 x10
          go_wp2_with fail
          refine (known_any _).mono ?_; rintro e w17 ⟨rfl, b⟩
          go_wp2
          go_ret
          exact ⟨rfl, hnext L2.out b⟩
end Go.Proofs.Ytmcneelapghfcaa
