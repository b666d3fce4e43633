/-
  QueryGrows answers true at any query and any two schemas. No condition.
-/
import Derived.Test.YtmcneelapghfcaaRo
import Derived.Test.YtmcneelapghfcaaOq
import Derived.Test.YtmcneelapghfcaaRk
import Derived.Test.YtmcneelapghfcaaPl
namespace Go.Proofs.Ytmcneelapghfcaa
open Go.RowKit Pd Qu

set_option maxRecDepth 100000 in
set_option maxHeartbeats 12800000 in
theorem queryGrows_walk (q : Q) (vk vw vc : Value) (s : Sc.S) (u : Value) (r : Sc.S) (u' : Value) (w : World) (hq : QHere w q vk vw vc) (hs : SchemaIn w s u) (hr : SchemaIn w r u') :
    Calls Try.prog 6 #[qv q vk vw vc, sv s u, sv r u'] w fun e w' => e = .returned (.bool true) ∧ Below w.heap.size w w' := by
  obtain ⟨hq, hok⟩ := hq
  obtain ⟨kd, tb, key, t, v, fr, to, wh, cols, lim, ds⟩ := q
  obtain ⟨a1, a2, a3, a4, a5, a6, rfl, rfl, rfl⟩ := qs3 hq
  simp only [] at hq
  have HOK := hid hok
  obtain ⟨hca, hsa⟩ := hs
  obtain ⟨hcb, hsb⟩ := hr
  obtain ⟨sa, sc, rfl⟩ := hca.slc
  obtain ⟨ta, tc, rfl⟩ := hcb.slc
  have HSA := hid hsa
  have HSB := hid hsb
  clear hok hsa hsb
  unfold qv sv
  simp only
  go_enter Try.func6, Try.ntmps6
  go_wp2_with fail
  have b1 := hba w (.cells #[.int .i64 kd, .string tb, .slice a1 key.length a2, .int .i64 t, .int .i64 v, .int .i64 fr, .int .i64 to, .slice a3 wh.length a4, .slice a5 cols.length a6, .int .i64 lim, .bool ds] 28)
  have b2 := hba (w.alloc (.cells #[.int .i64 kd, .string tb, .slice a1 key.length a2, .int .i64 t, .int .i64 v, .int .i64 fr, .int .i64 to, .slice a3 wh.length a4, .slice a5 cols.length a6, .int .i64 lim, .bool ds] 28)) (.cells #[.string s.name, .slice sa s.cols.length sc, .int .i64 s.keys] 31)
  have b3 := hba ((w.alloc (.cells #[.int .i64 kd, .string tb, .slice a1 key.length a2, .int .i64 t, .int .i64 v, .int .i64 fr, .int .i64 to, .slice a3 wh.length a4, .slice a5 cols.length a6, .int .i64 lim, .bool ds] 28)).alloc (.cells #[.string s.name, .slice sa s.cols.length sc, .int .i64 s.keys] 31)) (.cells #[.string r.name, .slice ta r.cols.length tc, .int .i64 r.keys] 31)
  have L := hid (hnext (hnext b1 b2) b3)
  have BX := hid (keepBlock (keepBlock (heap_alloc_new w (.cells #[.int .i64 kd, .string tb, .slice a1 key.length a2, .int .i64 t, .int .i64 v, .int .i64 fr, .int .i64 to, .slice a3 wh.length a4, .slice a5 cols.length a6, .int .i64 lim, .bool ds] 28)) b2) b3)
  have BA := hid (keepBlock (heap_alloc_new (w.alloc (.cells #[.int .i64 kd, .string tb, .slice a1 key.length a2, .int .i64 t, .int .i64 v, .int .i64 fr, .int .i64 to, .slice a3 wh.length a4, .slice a5 cols.length a6, .int .i64 lim, .bool ds] 28)) (.cells #[.string s.name, .slice sa s.cols.length sc, .int .i64 s.keys] 31)) b3)
  have BR := hid (heap_alloc_new ((w.alloc (.cells #[.int .i64 kd, .string tb, .slice a1 key.length a2, .int .i64 t, .int .i64 v, .int .i64 fr, .int .i64 to, .slice a3 wh.length a4, .slice a5 cols.length a6, .int .i64 lim, .bool ds] 28)).alloc (.cells #[.string s.name, .slice sa s.cols.length sc, .int .i64 s.keys] 31)) (.cells #[.string r.name, .slice ta r.cols.length tc, .int .i64 r.keys] 31))
  have HQ := hid (hq.below L.out)
  have HA := hid (hca.below L.out)
  have HT := hid (hcb.below L.out)
  have hsz : ∀ (W : World) (o : Obj), (W.alloc o).heap.size = W.heap.size + 1 := fun W o => by simp
  obtain ⟨gx, hgx⟩ : ∃ g, w.heap.size = g := ⟨_, rfl⟩
  rw [hgx] at BX
  simp only [hsz, hgx] at BA
  simp only [hsz, hgx] at BR
  (try simp only [hsz])
  (try simp only [hgx])
  clear hsz hgx b1 b2 b3
  generalize (((w.alloc (.cells #[.int .i64 kd, .string tb, .slice a1 key.length a2, .int .i64 t, .int .i64 v, .int .i64 fr, .int .i64 to, .slice a3 wh.length a4, .slice a5 cols.length a6, .int .i64 lim, .bool ds] 28)).alloc (.cells #[.string s.name, .slice sa s.cols.length sc, .int .i64 s.keys] 31)).alloc (.cells #[.string r.name, .slice ta r.cols.length tc, .int .i64 r.keys] 31)) = w1 at *
  clear hq hca hcb
  refine (weight_any ⟨kd, tb, key, t, v, fr, to, wh, cols, lim, ds⟩ _ _ _ _ HQ.out).mono ?_; rintro e w2 ⟨⟨z, rfl, hz⟩, b⟩
  replace L := hid (hnext L.out b)
  replace HQ := hid (HQ.out.below b)
  replace HA := hid (HA.out.below b)
  replace HT := hid (HT.out.below b)
  replace BX := hid (keepBlock BX.out b)
  replace BA := hid (keepBlock BA.out b)
  replace BR := hid (keepBlock BR.out b)
  clear b
  by_cases h5 : 5000 < z
  · clear hz
    go_wp2_with fail
    refine (known_any _).mono ?_; rintro e w3 ⟨rfl, b⟩
    go_wp2
    go_ret
    exact ⟨rfl, hnext L.out b⟩
  have HZ := hid (hz (by omega))
  clear hz
  have hlz := HZ.out
  unfold LightQ at hlz
  simp only at hlz
  obtain ⟨hz1, hz2, hz3, hz4⟩ := hlz
  have hk6 : key.length ≤ 1000000 := by omega
  have hw6 : wh.length ≤ 1000000 := by omega
  have hc6 : cols.length ≤ 1000000 := by omega
  have ht8 : tb.size ≤ 100000000 := by omega
  have HK6 := hid hk6
  have HW6 := hid hw6
  have HC6 := hid hc6
  have HT8 := hid ht8
  clear hk6 hw6 hc6 ht8 hz1 hz2 hz3 hz4
  have x0 : w2.cell? ⟨gx, 0, none⟩ = some (.int .i64 kd) := cell_of_row _ (gx) 0 _ _ _ BX.out
  have x1 : w2.cell? ⟨gx, 1, none⟩ = some (.string tb) := cell_of_row _ (gx) 1 _ _ _ BX.out
  have x2 : w2.cell? ⟨gx, 2, none⟩ = some (.slice a1 key.length a2) := cell_of_row _ (gx) 2 _ _ _ BX.out
  have x3 : w2.cell? ⟨gx, 3, none⟩ = some (.int .i64 t) := cell_of_row _ (gx) 3 _ _ _ BX.out
  have x4 : w2.cell? ⟨gx, 4, none⟩ = some (.int .i64 v) := cell_of_row _ (gx) 4 _ _ _ BX.out
  have x5 : w2.cell? ⟨gx, 5, none⟩ = some (.int .i64 fr) := cell_of_row _ (gx) 5 _ _ _ BX.out
  have x6 : w2.cell? ⟨gx, 6, none⟩ = some (.int .i64 to) := cell_of_row _ (gx) 6 _ _ _ BX.out
  have x7 : w2.cell? ⟨gx, 7, none⟩ = some (.slice a3 wh.length a4) := cell_of_row _ (gx) 7 _ _ _ BX.out
  have x8 : w2.cell? ⟨gx, 8, none⟩ = some (.slice a5 cols.length a6) := cell_of_row _ (gx) 8 _ _ _ BX.out
  have x9 : w2.cell? ⟨gx, 9, none⟩ = some (.int .i64 lim) := cell_of_row _ (gx) 9 _ _ _ BX.out
  have x10 : w2.cell? ⟨gx, 10, none⟩ = some (.bool ds) := cell_of_row _ (gx) 10 _ _ _ BX.out
  have s0 : w2.cell? ⟨gx + 1, 0, none⟩ = some (.string s.name) := cell_of_row _ (gx + 1) 0 _ _ _ BA.out
  have s1 : w2.cell? ⟨gx + 1, 1, none⟩ = some (.slice sa s.cols.length sc) := cell_of_row _ (gx + 1) 1 _ _ _ BA.out
  have s2 : w2.cell? ⟨gx + 1, 2, none⟩ = some (.int .i64 s.keys) := cell_of_row _ (gx + 1) 2 _ _ _ BA.out
  have r0 : w2.cell? ⟨gx + 1 + 1, 0, none⟩ = some (.string r.name) := cell_of_row _ (gx + 1 + 1) 0 _ _ _ BR.out
  have r1 : w2.cell? ⟨gx + 1 + 1, 1, none⟩ = some (.slice ta r.cols.length tc) := cell_of_row _ (gx + 1 + 1) 1 _ _ _ BR.out
  have r2 : w2.cell? ⟨gx + 1 + 1, 2, none⟩ = some (.int .i64 r.keys) := cell_of_row _ (gx + 1 + 1) 2 _ _ _ BR.out
  by_cases h1 : s.cols.length ≤ 40
  case neg =>
    have h1' : (40 : Int) < (s.cols.length : Int) := by omega
    clear h1
    go_wp2_with fail
    refine (known_any _).mono ?_; rintro e w3 ⟨rfl, b⟩
    go_wp2
    go_ret
    exact ⟨rfl, hnext L.out b⟩
  have h1' : ¬ (40 : Int) < (s.cols.length : Int) := by omega
  by_cases h2 : r.cols.length ≤ 40
  case neg =>
    have h2' : (40 : Int) < (r.cols.length : Int) := by omega
    clear h2
    go_wp2_with fail
    refine (known_any _).mono ?_; rintro e w3 ⟨rfl, b⟩
    go_wp2
    go_ret
    exact ⟨rfl, hnext L.out b⟩
  have h2' : ¬ (40 : Int) < (r.cols.length : Int) := by omega
  clear h1 h2
  have c1 := fun W h h2 => qright_any ⟨kd, tb, key, t, v, fr, to, wh, cols, lim, ds⟩ (.slice a1 key.length a2) (.slice a3 wh.length a4) (.slice a5 cols.length a6) s (.slice sa s.cols.length sc) W h h2 HOK.out HW6.out
  cases hrq : rightB s ⟨kd, tb, key, t, v, fr, to, wh, cols, lim, ds⟩ with
  | false =>
    rw [hrq] at c1
    have C1 := hid c1
    clear c1 hrq
    go_wp2_with fail
    refine (C1.out _ HQ.out HA.out).mono ?_; rintro e w3 ⟨rfl, b⟩
    replace L := hid (hnext L.out b)
    replace HQ := hid (HQ.out.below b)
    replace HA := hid (HA.out.below b)
    replace HT := hid (HT.out.below b)
    replace BX := hid (keepBlock BX.out b)
    replace BA := hid (keepBlock BA.out b)
    replace BR := hid (keepBlock BR.out b)
    clear b
    clear x0 x1 x2 x3 x4 x5 x6 x7 x8 x9 x10 s0 s1 s2 r0 r1 r2
    go_wp2_with fail
    refine (known_any _).mono ?_; rintro e w4 ⟨rfl, b⟩
    go_wp2
    go_ret
    exact ⟨rfl, hnext L.out b⟩
  | true =>
    have hkd := right_kind hrq
    simp only at hkd
    obtain ⟨kz, hkz0⟩ : ∃ kz : Int, kd + 4 = kz := ⟨_, rfl⟩
    have hkz : IntKind.i64.wrap (kd + 4) = kz := by rw [IntKind.wrap_i64]; omega
    have htb : tb.size ≤ 200 := HZ.out.2.2.2
    have htz : (tb ++ ⟨#[122]⟩ : ByteArray).size ≤ 201 := by rw [ByteArray.size_append]; show tb.size + 1 ≤ 201; omega
    have OKX : Hid (Qok ⟨kd, tb ++ ⟨#[122]⟩, key, t, v, fr, to, wh, cols, lim, ds⟩) := ⟨HOK.out.kind, Nat.le_trans htz (by decide), HOK.out.key, HOK.out.t, HOK.out.v, HOK.out.fr, HOK.out.to, HOK.out.wh, HOK.out.cols, HOK.out.limit, HOK.out.lk, HOK.out.lw, HOK.out.lc⟩
    have OKY : Hid (Qok ⟨kd, tb, key, t, v, fr, to, wh, cols, -1, ds⟩) := ⟨HOK.out.kind, HOK.out.table, HOK.out.key, HOK.out.t, HOK.out.v, HOK.out.fr, HOK.out.to, HOK.out.wh, HOK.out.cols, by show I64 (-1); constructor <;> decide, HOK.out.lk, HOK.out.lw, HOK.out.lc⟩
    have OKZ : Hid (Qok ⟨kz, tb, key, t, v, fr, to, wh, cols, lim, ds⟩) := ⟨by show I64 kz; constructor <;> omega, HOK.out.table, HOK.out.key, HOK.out.t, HOK.out.v, HOK.out.fr, HOK.out.to, HOK.out.wh, HOK.out.cols, HOK.out.limit, HOK.out.lk, HOK.out.lw, HOK.out.lc⟩
    have cx := fun W h h2 => qright_any ⟨kd, tb ++ ⟨#[122]⟩, key, t, v, fr, to, wh, cols, lim, ds⟩ (.slice a1 key.length a2) (.slice a3 wh.length a4) (.slice a5 cols.length a6) s (.slice sa s.cols.length sc) W h h2 OKX.out HW6.out
    rw [bad_table hrq rfl] at cx
    have cy := fun W h h2 => qright_any ⟨kd, tb, key, t, v, fr, to, wh, cols, -1, ds⟩ (.slice a1 key.length a2) (.slice a3 wh.length a4) (.slice a5 cols.length a6) s (.slice sa s.cols.length sc) W h h2 OKY.out HW6.out
    rw [bad_limit rfl] at cy
    have cz := fun W h h2 => qright_any ⟨kz, tb, key, t, v, fr, to, wh, cols, lim, ds⟩ (.slice a1 key.length a2) (.slice a3 wh.length a4) (.slice a5 cols.length a6) s (.slice sa s.cols.length sc) W h h2 OKZ.out HW6.out
    rw [bad_kind (show 5 ≤ kz by omega)] at cz
    have CE := hid (fun W h h2 => extendsR_any s r (.slice sa s.cols.length sc) (.slice ta r.cols.length tc) W h h2 HSA.out HSB.out)
    have CX := hid cx
    have CY := hid cy
    have CZ := hid cz
    have HRQ := hid hrq
    rw [hrq] at c1
    have C1 := hid c1
    have hadd : ¬ 9223372036854775807 < tb.size + (⟨#[122]⟩ : ByteArray).size := by show ¬ _ < tb.size + 1; omega
    clear c1 hrq cx cy cz hkz0 hkd htb htz OKX OKY OKZ
    go_wp2_with fail
    refine (C1.out _ HQ.out HA.out).mono ?_; rintro e w3 ⟨rfl, b⟩
    replace L := hid (hnext L.out b)
    replace HQ := hid (HQ.out.below b)
    replace HA := hid (HA.out.below b)
    replace HT := hid (HT.out.below b)
    replace BX := hid (keepBlock BX.out b)
    replace BA := hid (keepBlock BA.out b)
    replace BR := hid (keepBlock BR.out b)
    clear b C1
    clear x0 x1 x2 x3 x4 x5 x6 x7 x8 x9 x10 s0 s1 s2 r0 r1 r2
    have hb1 := hba w3 (.cells #[.int .i64 kd, .string (tb ++ ⟨#[122]⟩), .slice a1 key.length a2, .int .i64 t, .int .i64 v, .int .i64 fr, .int .i64 to, .slice a3 wh.length a4, .slice a5 cols.length a6, .int .i64 lim, .bool ds] 28)
    have hb2 := hba (w3.alloc (.cells #[.int .i64 kd, .string (tb ++ ⟨#[122]⟩), .slice a1 key.length a2, .int .i64 t, .int .i64 v, .int .i64 fr, .int .i64 to, .slice a3 wh.length a4, .slice a5 cols.length a6, .int .i64 lim, .bool ds] 28)) (.cells #[.int .i64 kd, .string tb, .slice a1 key.length a2, .int .i64 t, .int .i64 v, .int .i64 fr, .int .i64 to, .slice a3 wh.length a4, .slice a5 cols.length a6, .int .i64 (-1), .bool ds] 28)
    have hb3 := hba ((w3.alloc (.cells #[.int .i64 kd, .string (tb ++ ⟨#[122]⟩), .slice a1 key.length a2, .int .i64 t, .int .i64 v, .int .i64 fr, .int .i64 to, .slice a3 wh.length a4, .slice a5 cols.length a6, .int .i64 lim, .bool ds] 28)).alloc (.cells #[.int .i64 kd, .string tb, .slice a1 key.length a2, .int .i64 t, .int .i64 v, .int .i64 fr, .int .i64 to, .slice a3 wh.length a4, .slice a5 cols.length a6, .int .i64 (-1), .bool ds] 28)) (.cells #[.int .i64 kz, .string tb, .slice a1 key.length a2, .int .i64 t, .int .i64 v, .int .i64 fr, .int .i64 to, .slice a3 wh.length a4, .slice a5 cols.length a6, .int .i64 lim, .bool ds] 28)
    obtain ⟨gn, hgn⟩ : ∃ gn, w3.heap.size = gn := ⟨_, rfl⟩
    have hs1 : (w3.alloc (.cells #[.int .i64 kd, .string (tb ++ ⟨#[122]⟩), .slice a1 key.length a2, .int .i64 t, .int .i64 v, .int .i64 fr, .int .i64 to, .slice a3 wh.length a4, .slice a5 cols.length a6, .int .i64 lim, .bool ds] 28)).heap.size = gn + 1 := by simp [hgn]
    have hs2 : ((w3.alloc (.cells #[.int .i64 kd, .string (tb ++ ⟨#[122]⟩), .slice a1 key.length a2, .int .i64 t, .int .i64 v, .int .i64 fr, .int .i64 to, .slice a3 wh.length a4, .slice a5 cols.length a6, .int .i64 lim, .bool ds] 28)).alloc (.cells #[.int .i64 kd, .string tb, .slice a1 key.length a2, .int .i64 t, .int .i64 v, .int .i64 fr, .int .i64 to, .slice a3 wh.length a4, .slice a5 cols.length a6, .int .i64 (-1), .bool ds] 28)).heap.size = gn + 1 + 1 := by simp [hgn]
    have hx0 : Var (((w3.alloc (.cells #[.int .i64 kd, .string (tb ++ ⟨#[122]⟩), .slice a1 key.length a2, .int .i64 t, .int .i64 v, .int .i64 fr, .int .i64 to, .slice a3 wh.length a4, .slice a5 cols.length a6, .int .i64 lim, .bool ds] 28)).alloc (.cells #[.int .i64 kd, .string tb, .slice a1 key.length a2, .int .i64 t, .int .i64 v, .int .i64 fr, .int .i64 to, .slice a3 wh.length a4, .slice a5 cols.length a6, .int .i64 (-1), .bool ds] 28)).alloc (.cells #[.int .i64 kz, .string tb, .slice a1 key.length a2, .int .i64 t, .int .i64 v, .int .i64 fr, .int .i64 to, .slice a3 wh.length a4, .slice a5 cols.length a6, .int .i64 lim, .bool ds] 28)) gn #[.int .i64 kd, .string (tb ++ ⟨#[122]⟩), .slice a1 key.length a2, .int .i64 t, .int .i64 v, .int .i64 fr, .int .i64 to, .slice a3 wh.length a4, .slice a5 cols.length a6, .int .i64 lim, .bool ds] 28 := by rw [← hgn]; exact keepBlock (keepBlock (heap_alloc_new w3 (.cells #[.int .i64 kd, .string (tb ++ ⟨#[122]⟩), .slice a1 key.length a2, .int .i64 t, .int .i64 v, .int .i64 fr, .int .i64 to, .slice a3 wh.length a4, .slice a5 cols.length a6, .int .i64 lim, .bool ds] 28)) hb2) hb3
    have hy0 : Var (((w3.alloc (.cells #[.int .i64 kd, .string (tb ++ ⟨#[122]⟩), .slice a1 key.length a2, .int .i64 t, .int .i64 v, .int .i64 fr, .int .i64 to, .slice a3 wh.length a4, .slice a5 cols.length a6, .int .i64 lim, .bool ds] 28)).alloc (.cells #[.int .i64 kd, .string tb, .slice a1 key.length a2, .int .i64 t, .int .i64 v, .int .i64 fr, .int .i64 to, .slice a3 wh.length a4, .slice a5 cols.length a6, .int .i64 (-1), .bool ds] 28)).alloc (.cells #[.int .i64 kz, .string tb, .slice a1 key.length a2, .int .i64 t, .int .i64 v, .int .i64 fr, .int .i64 to, .slice a3 wh.length a4, .slice a5 cols.length a6, .int .i64 lim, .bool ds] 28)) (gn + 1) #[.int .i64 kd, .string tb, .slice a1 key.length a2, .int .i64 t, .int .i64 v, .int .i64 fr, .int .i64 to, .slice a3 wh.length a4, .slice a5 cols.length a6, .int .i64 (-1), .bool ds] 28 := by rw [← hs1]; exact keepBlock (heap_alloc_new (w3.alloc (.cells #[.int .i64 kd, .string (tb ++ ⟨#[122]⟩), .slice a1 key.length a2, .int .i64 t, .int .i64 v, .int .i64 fr, .int .i64 to, .slice a3 wh.length a4, .slice a5 cols.length a6, .int .i64 lim, .bool ds] 28)) (.cells #[.int .i64 kd, .string tb, .slice a1 key.length a2, .int .i64 t, .int .i64 v, .int .i64 fr, .int .i64 to, .slice a3 wh.length a4, .slice a5 cols.length a6, .int .i64 (-1), .bool ds] 28)) hb3
    have hz0 : Var (((w3.alloc (.cells #[.int .i64 kd, .string (tb ++ ⟨#[122]⟩), .slice a1 key.length a2, .int .i64 t, .int .i64 v, .int .i64 fr, .int .i64 to, .slice a3 wh.length a4, .slice a5 cols.length a6, .int .i64 lim, .bool ds] 28)).alloc (.cells #[.int .i64 kd, .string tb, .slice a1 key.length a2, .int .i64 t, .int .i64 v, .int .i64 fr, .int .i64 to, .slice a3 wh.length a4, .slice a5 cols.length a6, .int .i64 (-1), .bool ds] 28)).alloc (.cells #[.int .i64 kz, .string tb, .slice a1 key.length a2, .int .i64 t, .int .i64 v, .int .i64 fr, .int .i64 to, .slice a3 wh.length a4, .slice a5 cols.length a6, .int .i64 lim, .bool ds] 28)) (gn + 1 + 1) #[.int .i64 kz, .string tb, .slice a1 key.length a2, .int .i64 t, .int .i64 v, .int .i64 fr, .int .i64 to, .slice a3 wh.length a4, .slice a5 cols.length a6, .int .i64 lim, .bool ds] 28 := by rw [← hs2]; exact heap_alloc_new ((w3.alloc (.cells #[.int .i64 kd, .string (tb ++ ⟨#[122]⟩), .slice a1 key.length a2, .int .i64 t, .int .i64 v, .int .i64 fr, .int .i64 to, .slice a3 wh.length a4, .slice a5 cols.length a6, .int .i64 lim, .bool ds] 28)).alloc (.cells #[.int .i64 kd, .string tb, .slice a1 key.length a2, .int .i64 t, .int .i64 v, .int .i64 fr, .int .i64 to, .slice a3 wh.length a4, .slice a5 cols.length a6, .int .i64 (-1), .bool ds] 28)) (.cells #[.int .i64 kz, .string tb, .slice a1 key.length a2, .int .i64 t, .int .i64 v, .int .i64 fr, .int .i64 to, .slice a3 wh.length a4, .slice a5 cols.length a6, .int .i64 lim, .bool ds] 28)
    have BN1 := hid hx0
    have BN2 := hid hy0
    have BN3 := hid hz0
    clear hx0 hy0 hz0 hs1 hs2
    have hb12 := hnext hb1 hb2
    have hb13 := hnext hb12 hb3
    have x0 : w3.cell? ⟨gx, 0, none⟩ = some (.int .i64 kd) := (cell_of_row _ gx 0 _ _ _ BX.out)
    have x1 : w3.cell? ⟨gx, 1, none⟩ = some (.string tb) := (cell_of_row _ gx 1 _ _ _ BX.out)
    have x2 : w3.cell? ⟨gx, 2, none⟩ = some (.slice a1 key.length a2) := (cell_of_row _ gx 2 _ _ _ BX.out)
    have x3 : w3.cell? ⟨gx, 3, none⟩ = some (.int .i64 t) := (cell_of_row _ gx 3 _ _ _ BX.out)
    have x4 : w3.cell? ⟨gx, 4, none⟩ = some (.int .i64 v) := (cell_of_row _ gx 4 _ _ _ BX.out)
    have x5 : w3.cell? ⟨gx, 5, none⟩ = some (.int .i64 fr) := (cell_of_row _ gx 5 _ _ _ BX.out)
    have x6 : w3.cell? ⟨gx, 6, none⟩ = some (.int .i64 to) := (cell_of_row _ gx 6 _ _ _ BX.out)
    have x7 : w3.cell? ⟨gx, 7, none⟩ = some (.slice a3 wh.length a4) := (cell_of_row _ gx 7 _ _ _ BX.out)
    have x8 : w3.cell? ⟨gx, 8, none⟩ = some (.slice a5 cols.length a6) := (cell_of_row _ gx 8 _ _ _ BX.out)
    have x9 : w3.cell? ⟨gx, 9, none⟩ = some (.int .i64 lim) := (cell_of_row _ gx 9 _ _ _ BX.out)
    have x10 : w3.cell? ⟨gx, 10, none⟩ = some (.bool ds) := (cell_of_row _ gx 10 _ _ _ BX.out)
    have y0 : (w3.alloc (.cells #[.int .i64 kd, .string (tb ++ ⟨#[122]⟩), .slice a1 key.length a2, .int .i64 t, .int .i64 v, .int .i64 fr, .int .i64 to, .slice a3 wh.length a4, .slice a5 cols.length a6, .int .i64 lim, .bool ds] 28)).cell? ⟨gx, 0, none⟩ = some (.int .i64 kd) := hkeep (cell_of_row _ gx 0 _ _ _ BX.out) hb1
    have y1 : (w3.alloc (.cells #[.int .i64 kd, .string (tb ++ ⟨#[122]⟩), .slice a1 key.length a2, .int .i64 t, .int .i64 v, .int .i64 fr, .int .i64 to, .slice a3 wh.length a4, .slice a5 cols.length a6, .int .i64 lim, .bool ds] 28)).cell? ⟨gx, 1, none⟩ = some (.string tb) := hkeep (cell_of_row _ gx 1 _ _ _ BX.out) hb1
    have y2 : (w3.alloc (.cells #[.int .i64 kd, .string (tb ++ ⟨#[122]⟩), .slice a1 key.length a2, .int .i64 t, .int .i64 v, .int .i64 fr, .int .i64 to, .slice a3 wh.length a4, .slice a5 cols.length a6, .int .i64 lim, .bool ds] 28)).cell? ⟨gx, 2, none⟩ = some (.slice a1 key.length a2) := hkeep (cell_of_row _ gx 2 _ _ _ BX.out) hb1
    have y3 : (w3.alloc (.cells #[.int .i64 kd, .string (tb ++ ⟨#[122]⟩), .slice a1 key.length a2, .int .i64 t, .int .i64 v, .int .i64 fr, .int .i64 to, .slice a3 wh.length a4, .slice a5 cols.length a6, .int .i64 lim, .bool ds] 28)).cell? ⟨gx, 3, none⟩ = some (.int .i64 t) := hkeep (cell_of_row _ gx 3 _ _ _ BX.out) hb1
    have y4 : (w3.alloc (.cells #[.int .i64 kd, .string (tb ++ ⟨#[122]⟩), .slice a1 key.length a2, .int .i64 t, .int .i64 v, .int .i64 fr, .int .i64 to, .slice a3 wh.length a4, .slice a5 cols.length a6, .int .i64 lim, .bool ds] 28)).cell? ⟨gx, 4, none⟩ = some (.int .i64 v) := hkeep (cell_of_row _ gx 4 _ _ _ BX.out) hb1
    have y5 : (w3.alloc (.cells #[.int .i64 kd, .string (tb ++ ⟨#[122]⟩), .slice a1 key.length a2, .int .i64 t, .int .i64 v, .int .i64 fr, .int .i64 to, .slice a3 wh.length a4, .slice a5 cols.length a6, .int .i64 lim, .bool ds] 28)).cell? ⟨gx, 5, none⟩ = some (.int .i64 fr) := hkeep (cell_of_row _ gx 5 _ _ _ BX.out) hb1
    have y6 : (w3.alloc (.cells #[.int .i64 kd, .string (tb ++ ⟨#[122]⟩), .slice a1 key.length a2, .int .i64 t, .int .i64 v, .int .i64 fr, .int .i64 to, .slice a3 wh.length a4, .slice a5 cols.length a6, .int .i64 lim, .bool ds] 28)).cell? ⟨gx, 6, none⟩ = some (.int .i64 to) := hkeep (cell_of_row _ gx 6 _ _ _ BX.out) hb1
    have y7 : (w3.alloc (.cells #[.int .i64 kd, .string (tb ++ ⟨#[122]⟩), .slice a1 key.length a2, .int .i64 t, .int .i64 v, .int .i64 fr, .int .i64 to, .slice a3 wh.length a4, .slice a5 cols.length a6, .int .i64 lim, .bool ds] 28)).cell? ⟨gx, 7, none⟩ = some (.slice a3 wh.length a4) := hkeep (cell_of_row _ gx 7 _ _ _ BX.out) hb1
    have y8 : (w3.alloc (.cells #[.int .i64 kd, .string (tb ++ ⟨#[122]⟩), .slice a1 key.length a2, .int .i64 t, .int .i64 v, .int .i64 fr, .int .i64 to, .slice a3 wh.length a4, .slice a5 cols.length a6, .int .i64 lim, .bool ds] 28)).cell? ⟨gx, 8, none⟩ = some (.slice a5 cols.length a6) := hkeep (cell_of_row _ gx 8 _ _ _ BX.out) hb1
    have y9 : (w3.alloc (.cells #[.int .i64 kd, .string (tb ++ ⟨#[122]⟩), .slice a1 key.length a2, .int .i64 t, .int .i64 v, .int .i64 fr, .int .i64 to, .slice a3 wh.length a4, .slice a5 cols.length a6, .int .i64 lim, .bool ds] 28)).cell? ⟨gx, 9, none⟩ = some (.int .i64 lim) := hkeep (cell_of_row _ gx 9 _ _ _ BX.out) hb1
    have y10 : (w3.alloc (.cells #[.int .i64 kd, .string (tb ++ ⟨#[122]⟩), .slice a1 key.length a2, .int .i64 t, .int .i64 v, .int .i64 fr, .int .i64 to, .slice a3 wh.length a4, .slice a5 cols.length a6, .int .i64 lim, .bool ds] 28)).cell? ⟨gx, 10, none⟩ = some (.bool ds) := hkeep (cell_of_row _ gx 10 _ _ _ BX.out) hb1
    have z0 : ((w3.alloc (.cells #[.int .i64 kd, .string (tb ++ ⟨#[122]⟩), .slice a1 key.length a2, .int .i64 t, .int .i64 v, .int .i64 fr, .int .i64 to, .slice a3 wh.length a4, .slice a5 cols.length a6, .int .i64 lim, .bool ds] 28)).alloc (.cells #[.int .i64 kd, .string tb, .slice a1 key.length a2, .int .i64 t, .int .i64 v, .int .i64 fr, .int .i64 to, .slice a3 wh.length a4, .slice a5 cols.length a6, .int .i64 (-1), .bool ds] 28)).cell? ⟨gx, 0, none⟩ = some (.int .i64 kd) := hkeep (cell_of_row _ gx 0 _ _ _ BX.out) hb12
    have z1 : ((w3.alloc (.cells #[.int .i64 kd, .string (tb ++ ⟨#[122]⟩), .slice a1 key.length a2, .int .i64 t, .int .i64 v, .int .i64 fr, .int .i64 to, .slice a3 wh.length a4, .slice a5 cols.length a6, .int .i64 lim, .bool ds] 28)).alloc (.cells #[.int .i64 kd, .string tb, .slice a1 key.length a2, .int .i64 t, .int .i64 v, .int .i64 fr, .int .i64 to, .slice a3 wh.length a4, .slice a5 cols.length a6, .int .i64 (-1), .bool ds] 28)).cell? ⟨gx, 1, none⟩ = some (.string tb) := hkeep (cell_of_row _ gx 1 _ _ _ BX.out) hb12
    have z2 : ((w3.alloc (.cells #[.int .i64 kd, .string (tb ++ ⟨#[122]⟩), .slice a1 key.length a2, .int .i64 t, .int .i64 v, .int .i64 fr, .int .i64 to, .slice a3 wh.length a4, .slice a5 cols.length a6, .int .i64 lim, .bool ds] 28)).alloc (.cells #[.int .i64 kd, .string tb, .slice a1 key.length a2, .int .i64 t, .int .i64 v, .int .i64 fr, .int .i64 to, .slice a3 wh.length a4, .slice a5 cols.length a6, .int .i64 (-1), .bool ds] 28)).cell? ⟨gx, 2, none⟩ = some (.slice a1 key.length a2) := hkeep (cell_of_row _ gx 2 _ _ _ BX.out) hb12
    have z3 : ((w3.alloc (.cells #[.int .i64 kd, .string (tb ++ ⟨#[122]⟩), .slice a1 key.length a2, .int .i64 t, .int .i64 v, .int .i64 fr, .int .i64 to, .slice a3 wh.length a4, .slice a5 cols.length a6, .int .i64 lim, .bool ds] 28)).alloc (.cells #[.int .i64 kd, .string tb, .slice a1 key.length a2, .int .i64 t, .int .i64 v, .int .i64 fr, .int .i64 to, .slice a3 wh.length a4, .slice a5 cols.length a6, .int .i64 (-1), .bool ds] 28)).cell? ⟨gx, 3, none⟩ = some (.int .i64 t) := hkeep (cell_of_row _ gx 3 _ _ _ BX.out) hb12
    have z4 : ((w3.alloc (.cells #[.int .i64 kd, .string (tb ++ ⟨#[122]⟩), .slice a1 key.length a2, .int .i64 t, .int .i64 v, .int .i64 fr, .int .i64 to, .slice a3 wh.length a4, .slice a5 cols.length a6, .int .i64 lim, .bool ds] 28)).alloc (.cells #[.int .i64 kd, .string tb, .slice a1 key.length a2, .int .i64 t, .int .i64 v, .int .i64 fr, .int .i64 to, .slice a3 wh.length a4, .slice a5 cols.length a6, .int .i64 (-1), .bool ds] 28)).cell? ⟨gx, 4, none⟩ = some (.int .i64 v) := hkeep (cell_of_row _ gx 4 _ _ _ BX.out) hb12
    have z5 : ((w3.alloc (.cells #[.int .i64 kd, .string (tb ++ ⟨#[122]⟩), .slice a1 key.length a2, .int .i64 t, .int .i64 v, .int .i64 fr, .int .i64 to, .slice a3 wh.length a4, .slice a5 cols.length a6, .int .i64 lim, .bool ds] 28)).alloc (.cells #[.int .i64 kd, .string tb, .slice a1 key.length a2, .int .i64 t, .int .i64 v, .int .i64 fr, .int .i64 to, .slice a3 wh.length a4, .slice a5 cols.length a6, .int .i64 (-1), .bool ds] 28)).cell? ⟨gx, 5, none⟩ = some (.int .i64 fr) := hkeep (cell_of_row _ gx 5 _ _ _ BX.out) hb12
    have z6 : ((w3.alloc (.cells #[.int .i64 kd, .string (tb ++ ⟨#[122]⟩), .slice a1 key.length a2, .int .i64 t, .int .i64 v, .int .i64 fr, .int .i64 to, .slice a3 wh.length a4, .slice a5 cols.length a6, .int .i64 lim, .bool ds] 28)).alloc (.cells #[.int .i64 kd, .string tb, .slice a1 key.length a2, .int .i64 t, .int .i64 v, .int .i64 fr, .int .i64 to, .slice a3 wh.length a4, .slice a5 cols.length a6, .int .i64 (-1), .bool ds] 28)).cell? ⟨gx, 6, none⟩ = some (.int .i64 to) := hkeep (cell_of_row _ gx 6 _ _ _ BX.out) hb12
    have z7 : ((w3.alloc (.cells #[.int .i64 kd, .string (tb ++ ⟨#[122]⟩), .slice a1 key.length a2, .int .i64 t, .int .i64 v, .int .i64 fr, .int .i64 to, .slice a3 wh.length a4, .slice a5 cols.length a6, .int .i64 lim, .bool ds] 28)).alloc (.cells #[.int .i64 kd, .string tb, .slice a1 key.length a2, .int .i64 t, .int .i64 v, .int .i64 fr, .int .i64 to, .slice a3 wh.length a4, .slice a5 cols.length a6, .int .i64 (-1), .bool ds] 28)).cell? ⟨gx, 7, none⟩ = some (.slice a3 wh.length a4) := hkeep (cell_of_row _ gx 7 _ _ _ BX.out) hb12
    have z8 : ((w3.alloc (.cells #[.int .i64 kd, .string (tb ++ ⟨#[122]⟩), .slice a1 key.length a2, .int .i64 t, .int .i64 v, .int .i64 fr, .int .i64 to, .slice a3 wh.length a4, .slice a5 cols.length a6, .int .i64 lim, .bool ds] 28)).alloc (.cells #[.int .i64 kd, .string tb, .slice a1 key.length a2, .int .i64 t, .int .i64 v, .int .i64 fr, .int .i64 to, .slice a3 wh.length a4, .slice a5 cols.length a6, .int .i64 (-1), .bool ds] 28)).cell? ⟨gx, 8, none⟩ = some (.slice a5 cols.length a6) := hkeep (cell_of_row _ gx 8 _ _ _ BX.out) hb12
    have z9 : ((w3.alloc (.cells #[.int .i64 kd, .string (tb ++ ⟨#[122]⟩), .slice a1 key.length a2, .int .i64 t, .int .i64 v, .int .i64 fr, .int .i64 to, .slice a3 wh.length a4, .slice a5 cols.length a6, .int .i64 lim, .bool ds] 28)).alloc (.cells #[.int .i64 kd, .string tb, .slice a1 key.length a2, .int .i64 t, .int .i64 v, .int .i64 fr, .int .i64 to, .slice a3 wh.length a4, .slice a5 cols.length a6, .int .i64 (-1), .bool ds] 28)).cell? ⟨gx, 9, none⟩ = some (.int .i64 lim) := hkeep (cell_of_row _ gx 9 _ _ _ BX.out) hb12
    have z10 : ((w3.alloc (.cells #[.int .i64 kd, .string (tb ++ ⟨#[122]⟩), .slice a1 key.length a2, .int .i64 t, .int .i64 v, .int .i64 fr, .int .i64 to, .slice a3 wh.length a4, .slice a5 cols.length a6, .int .i64 lim, .bool ds] 28)).alloc (.cells #[.int .i64 kd, .string tb, .slice a1 key.length a2, .int .i64 t, .int .i64 v, .int .i64 fr, .int .i64 to, .slice a3 wh.length a4, .slice a5 cols.length a6, .int .i64 (-1), .bool ds] 28)).cell? ⟨gx, 10, none⟩ = some (.bool ds) := hkeep (cell_of_row _ gx 10 _ _ _ BX.out) hb12
    have u0 : (((w3.alloc (.cells #[.int .i64 kd, .string (tb ++ ⟨#[122]⟩), .slice a1 key.length a2, .int .i64 t, .int .i64 v, .int .i64 fr, .int .i64 to, .slice a3 wh.length a4, .slice a5 cols.length a6, .int .i64 lim, .bool ds] 28)).alloc (.cells #[.int .i64 kd, .string tb, .slice a1 key.length a2, .int .i64 t, .int .i64 v, .int .i64 fr, .int .i64 to, .slice a3 wh.length a4, .slice a5 cols.length a6, .int .i64 (-1), .bool ds] 28)).alloc (.cells #[.int .i64 kd, .string tb, .slice a1 key.length a2, .int .i64 t, .int .i64 v, .int .i64 fr, .int .i64 to, .slice a3 wh.length a4, .slice a5 cols.length a6, .int .i64 lim, .bool ds] 28)).cell? ⟨gx, 0, none⟩ = some (.int .i64 kd) := hkeep (cell_of_row _ gx 0 _ _ _ BX.out) (hnext hb12 (hba ((w3.alloc (.cells #[.int .i64 kd, .string (tb ++ ⟨#[122]⟩), .slice a1 key.length a2, .int .i64 t, .int .i64 v, .int .i64 fr, .int .i64 to, .slice a3 wh.length a4, .slice a5 cols.length a6, .int .i64 lim, .bool ds] 28)).alloc (.cells #[.int .i64 kd, .string tb, .slice a1 key.length a2, .int .i64 t, .int .i64 v, .int .i64 fr, .int .i64 to, .slice a3 wh.length a4, .slice a5 cols.length a6, .int .i64 (-1), .bool ds] 28)) (.cells #[.int .i64 kd, .string tb, .slice a1 key.length a2, .int .i64 t, .int .i64 v, .int .i64 fr, .int .i64 to, .slice a3 wh.length a4, .slice a5 cols.length a6, .int .i64 lim, .bool ds] 28)))
    have u1 : (((w3.alloc (.cells #[.int .i64 kd, .string (tb ++ ⟨#[122]⟩), .slice a1 key.length a2, .int .i64 t, .int .i64 v, .int .i64 fr, .int .i64 to, .slice a3 wh.length a4, .slice a5 cols.length a6, .int .i64 lim, .bool ds] 28)).alloc (.cells #[.int .i64 kd, .string tb, .slice a1 key.length a2, .int .i64 t, .int .i64 v, .int .i64 fr, .int .i64 to, .slice a3 wh.length a4, .slice a5 cols.length a6, .int .i64 (-1), .bool ds] 28)).alloc (.cells #[.int .i64 kz, .string tb, .slice a1 key.length a2, .int .i64 t, .int .i64 v, .int .i64 fr, .int .i64 to, .slice a3 wh.length a4, .slice a5 cols.length a6, .int .i64 lim, .bool ds] 28)).cell? ⟨gx, 0, none⟩ = some (.int .i64 kd) := hkeep (cell_of_row _ gx 0 _ _ _ BX.out) hb13
    replace L := hid (hnext L.out hb13)
    replace HQ := hid (HQ.out.below hb13)
    replace HA := hid (HA.out.below hb13)
    replace HT := hid (HT.out.below hb13)
    replace BX := hid (keepBlock BX.out hb13)
    replace BA := hid (keepBlock BA.out hb13)
    replace BR := hid (keepBlock BR.out hb13)
    have s0 : (((w3.alloc (.cells #[.int .i64 kd, .string (tb ++ ⟨#[122]⟩), .slice a1 key.length a2, .int .i64 t, .int .i64 v, .int .i64 fr, .int .i64 to, .slice a3 wh.length a4, .slice a5 cols.length a6, .int .i64 lim, .bool ds] 28)).alloc (.cells #[.int .i64 kd, .string tb, .slice a1 key.length a2, .int .i64 t, .int .i64 v, .int .i64 fr, .int .i64 to, .slice a3 wh.length a4, .slice a5 cols.length a6, .int .i64 (-1), .bool ds] 28)).alloc (.cells #[.int .i64 kz, .string tb, .slice a1 key.length a2, .int .i64 t, .int .i64 v, .int .i64 fr, .int .i64 to, .slice a3 wh.length a4, .slice a5 cols.length a6, .int .i64 lim, .bool ds] 28)).cell? ⟨gx + 1, 0, none⟩ = some (.string s.name) := cell_of_row _ (gx + 1) 0 _ _ _ BA.out
    have s1 : (((w3.alloc (.cells #[.int .i64 kd, .string (tb ++ ⟨#[122]⟩), .slice a1 key.length a2, .int .i64 t, .int .i64 v, .int .i64 fr, .int .i64 to, .slice a3 wh.length a4, .slice a5 cols.length a6, .int .i64 lim, .bool ds] 28)).alloc (.cells #[.int .i64 kd, .string tb, .slice a1 key.length a2, .int .i64 t, .int .i64 v, .int .i64 fr, .int .i64 to, .slice a3 wh.length a4, .slice a5 cols.length a6, .int .i64 (-1), .bool ds] 28)).alloc (.cells #[.int .i64 kz, .string tb, .slice a1 key.length a2, .int .i64 t, .int .i64 v, .int .i64 fr, .int .i64 to, .slice a3 wh.length a4, .slice a5 cols.length a6, .int .i64 lim, .bool ds] 28)).cell? ⟨gx + 1, 1, none⟩ = some (.slice sa s.cols.length sc) := cell_of_row _ (gx + 1) 1 _ _ _ BA.out
    have s2 : (((w3.alloc (.cells #[.int .i64 kd, .string (tb ++ ⟨#[122]⟩), .slice a1 key.length a2, .int .i64 t, .int .i64 v, .int .i64 fr, .int .i64 to, .slice a3 wh.length a4, .slice a5 cols.length a6, .int .i64 lim, .bool ds] 28)).alloc (.cells #[.int .i64 kd, .string tb, .slice a1 key.length a2, .int .i64 t, .int .i64 v, .int .i64 fr, .int .i64 to, .slice a3 wh.length a4, .slice a5 cols.length a6, .int .i64 (-1), .bool ds] 28)).alloc (.cells #[.int .i64 kz, .string tb, .slice a1 key.length a2, .int .i64 t, .int .i64 v, .int .i64 fr, .int .i64 to, .slice a3 wh.length a4, .slice a5 cols.length a6, .int .i64 lim, .bool ds] 28)).cell? ⟨gx + 1, 2, none⟩ = some (.int .i64 s.keys) := cell_of_row _ (gx + 1) 2 _ _ _ BA.out
    have r0 : (((w3.alloc (.cells #[.int .i64 kd, .string (tb ++ ⟨#[122]⟩), .slice a1 key.length a2, .int .i64 t, .int .i64 v, .int .i64 fr, .int .i64 to, .slice a3 wh.length a4, .slice a5 cols.length a6, .int .i64 lim, .bool ds] 28)).alloc (.cells #[.int .i64 kd, .string tb, .slice a1 key.length a2, .int .i64 t, .int .i64 v, .int .i64 fr, .int .i64 to, .slice a3 wh.length a4, .slice a5 cols.length a6, .int .i64 (-1), .bool ds] 28)).alloc (.cells #[.int .i64 kz, .string tb, .slice a1 key.length a2, .int .i64 t, .int .i64 v, .int .i64 fr, .int .i64 to, .slice a3 wh.length a4, .slice a5 cols.length a6, .int .i64 lim, .bool ds] 28)).cell? ⟨gx + 1 + 1, 0, none⟩ = some (.string r.name) := cell_of_row _ (gx + 1 + 1) 0 _ _ _ BR.out
    have r1 : (((w3.alloc (.cells #[.int .i64 kd, .string (tb ++ ⟨#[122]⟩), .slice a1 key.length a2, .int .i64 t, .int .i64 v, .int .i64 fr, .int .i64 to, .slice a3 wh.length a4, .slice a5 cols.length a6, .int .i64 lim, .bool ds] 28)).alloc (.cells #[.int .i64 kd, .string tb, .slice a1 key.length a2, .int .i64 t, .int .i64 v, .int .i64 fr, .int .i64 to, .slice a3 wh.length a4, .slice a5 cols.length a6, .int .i64 (-1), .bool ds] 28)).alloc (.cells #[.int .i64 kz, .string tb, .slice a1 key.length a2, .int .i64 t, .int .i64 v, .int .i64 fr, .int .i64 to, .slice a3 wh.length a4, .slice a5 cols.length a6, .int .i64 lim, .bool ds] 28)).cell? ⟨gx + 1 + 1, 1, none⟩ = some (.slice ta r.cols.length tc) := cell_of_row _ (gx + 1 + 1) 1 _ _ _ BR.out
    have r2 : (((w3.alloc (.cells #[.int .i64 kd, .string (tb ++ ⟨#[122]⟩), .slice a1 key.length a2, .int .i64 t, .int .i64 v, .int .i64 fr, .int .i64 to, .slice a3 wh.length a4, .slice a5 cols.length a6, .int .i64 lim, .bool ds] 28)).alloc (.cells #[.int .i64 kd, .string tb, .slice a1 key.length a2, .int .i64 t, .int .i64 v, .int .i64 fr, .int .i64 to, .slice a3 wh.length a4, .slice a5 cols.length a6, .int .i64 (-1), .bool ds] 28)).alloc (.cells #[.int .i64 kz, .string tb, .slice a1 key.length a2, .int .i64 t, .int .i64 v, .int .i64 fr, .int .i64 to, .slice a3 wh.length a4, .slice a5 cols.length a6, .int .i64 lim, .bool ds] 28)).cell? ⟨gx + 1 + 1, 2, none⟩ = some (.int .i64 r.keys) := cell_of_row _ (gx + 1 + 1) 2 _ _ _ BR.out
    clear hb1 hb2 hb3 hb12 hb13
    go_wp2_with fail
    clear hgn x0 y0 z0 x1 y1 z1 x2 y2 z2 x3 y3 z3 x4 y4 z4 x5 y5 z5 x6 y6 z6 x7 y7 z7 x8 y8 z8 x9 y9 z9 x10 y10 z10
    (try clear u0 u1)
    generalize (((w3.alloc (.cells #[.int .i64 kd, .string (tb ++ ⟨#[122]⟩), .slice a1 key.length a2, .int .i64 t, .int .i64 v, .int .i64 fr, .int .i64 to, .slice a3 wh.length a4, .slice a5 cols.length a6, .int .i64 lim, .bool ds] 28)).alloc (.cells #[.int .i64 kd, .string tb, .slice a1 key.length a2, .int .i64 t, .int .i64 v, .int .i64 fr, .int .i64 to, .slice a3 wh.length a4, .slice a5 cols.length a6, .int .i64 (-1), .bool ds] 28)).alloc (.cells #[.int .i64 kz, .string tb, .slice a1 key.length a2, .int .i64 t, .int .i64 v, .int .i64 fr, .int .i64 to, .slice a3 wh.length a4, .slice a5 cols.length a6, .int .i64 lim, .bool ds] 28)) = w6 at *
    cases hext : Sc.extends s r with
    | false =>
      have ce := CE.out
      rw [hext] at ce
      have CE2 := hid ce
      clear ce CE
      clear hext
      refine (CE2.out _ HA.out HT.out).mono ?_; rintro e w7 ⟨rfl, b⟩
      replace L := hid (hnext L.out b)
      replace HQ := hid (HQ.out.below b)
      replace HA := hid (HA.out.below b)
      replace HT := hid (HT.out.below b)
      replace BX := hid (keepBlock BX.out b)
      replace BA := hid (keepBlock BA.out b)
      replace BR := hid (keepBlock BR.out b)
      replace BN1 := hid (keepBlock BN1.out b)
      replace BN2 := hid (keepBlock BN2.out b)
      replace BN3 := hid (keepBlock BN3.out b)
      clear b
      clear s0 s1 s2 r0 r1 r2
      have x0 : w7.cell? ⟨gn, 0, none⟩ = some (.int .i64 kd) := cell_of_row _ (gn) 0 _ _ _ BN1.out
      have x1 : w7.cell? ⟨gn, 1, none⟩ = some (.string (tb ++ ⟨#[122]⟩)) := cell_of_row _ (gn) 1 _ _ _ BN1.out
      have x2 : w7.cell? ⟨gn, 2, none⟩ = some (.slice a1 key.length a2) := cell_of_row _ (gn) 2 _ _ _ BN1.out
      have x3 : w7.cell? ⟨gn, 3, none⟩ = some (.int .i64 t) := cell_of_row _ (gn) 3 _ _ _ BN1.out
      have x4 : w7.cell? ⟨gn, 4, none⟩ = some (.int .i64 v) := cell_of_row _ (gn) 4 _ _ _ BN1.out
      have x5 : w7.cell? ⟨gn, 5, none⟩ = some (.int .i64 fr) := cell_of_row _ (gn) 5 _ _ _ BN1.out
      have x6 : w7.cell? ⟨gn, 6, none⟩ = some (.int .i64 to) := cell_of_row _ (gn) 6 _ _ _ BN1.out
      have x7 : w7.cell? ⟨gn, 7, none⟩ = some (.slice a3 wh.length a4) := cell_of_row _ (gn) 7 _ _ _ BN1.out
      have x8 : w7.cell? ⟨gn, 8, none⟩ = some (.slice a5 cols.length a6) := cell_of_row _ (gn) 8 _ _ _ BN1.out
      have x9 : w7.cell? ⟨gn, 9, none⟩ = some (.int .i64 lim) := cell_of_row _ (gn) 9 _ _ _ BN1.out
      have x10 : w7.cell? ⟨gn, 10, none⟩ = some (.bool ds) := cell_of_row _ (gn) 10 _ _ _ BN1.out
      have s0 : w7.cell? ⟨gx + 1, 0, none⟩ = some (.string s.name) := cell_of_row _ (gx + 1) 0 _ _ _ BA.out
      have s1 : w7.cell? ⟨gx + 1, 1, none⟩ = some (.slice sa s.cols.length sc) := cell_of_row _ (gx + 1) 1 _ _ _ BA.out
      have s2 : w7.cell? ⟨gx + 1, 2, none⟩ = some (.int .i64 s.keys) := cell_of_row _ (gx + 1) 2 _ _ _ BA.out
      go_wp2_with fail
      refine (CX.out _ HQ.out HA.out).mono ?_; rintro e w8 ⟨rfl, b⟩
      replace L := hid (hnext L.out b)
      replace HQ := hid (HQ.out.below b)
      replace HA := hid (HA.out.below b)
      replace HT := hid (HT.out.below b)
      replace BX := hid (keepBlock BX.out b)
      replace BA := hid (keepBlock BA.out b)
      replace BR := hid (keepBlock BR.out b)
      replace BN1 := hid (keepBlock BN1.out b)
      replace BN2 := hid (keepBlock BN2.out b)
      replace BN3 := hid (keepBlock BN3.out b)
      clear b
      clear x0 x1 x2 x3 x4 x5 x6 x7 x8 x9 x10 s0 s1 s2
      have x0 : w8.cell? ⟨gn + 1, 0, none⟩ = some (.int .i64 kd) := cell_of_row _ (gn + 1) 0 _ _ _ BN2.out
      have x1 : w8.cell? ⟨gn + 1, 1, none⟩ = some (.string tb) := cell_of_row _ (gn + 1) 1 _ _ _ BN2.out
      have x2 : w8.cell? ⟨gn + 1, 2, none⟩ = some (.slice a1 key.length a2) := cell_of_row _ (gn + 1) 2 _ _ _ BN2.out
      have x3 : w8.cell? ⟨gn + 1, 3, none⟩ = some (.int .i64 t) := cell_of_row _ (gn + 1) 3 _ _ _ BN2.out
      have x4 : w8.cell? ⟨gn + 1, 4, none⟩ = some (.int .i64 v) := cell_of_row _ (gn + 1) 4 _ _ _ BN2.out
      have x5 : w8.cell? ⟨gn + 1, 5, none⟩ = some (.int .i64 fr) := cell_of_row _ (gn + 1) 5 _ _ _ BN2.out
      have x6 : w8.cell? ⟨gn + 1, 6, none⟩ = some (.int .i64 to) := cell_of_row _ (gn + 1) 6 _ _ _ BN2.out
      have x7 : w8.cell? ⟨gn + 1, 7, none⟩ = some (.slice a3 wh.length a4) := cell_of_row _ (gn + 1) 7 _ _ _ BN2.out
      have x8 : w8.cell? ⟨gn + 1, 8, none⟩ = some (.slice a5 cols.length a6) := cell_of_row _ (gn + 1) 8 _ _ _ BN2.out
      have x9 : w8.cell? ⟨gn + 1, 9, none⟩ = some (.int .i64 (-1)) := cell_of_row _ (gn + 1) 9 _ _ _ BN2.out
      have x10 : w8.cell? ⟨gn + 1, 10, none⟩ = some (.bool ds) := cell_of_row _ (gn + 1) 10 _ _ _ BN2.out
      have s0 : w8.cell? ⟨gx + 1, 0, none⟩ = some (.string s.name) := cell_of_row _ (gx + 1) 0 _ _ _ BA.out
      have s1 : w8.cell? ⟨gx + 1, 1, none⟩ = some (.slice sa s.cols.length sc) := cell_of_row _ (gx + 1) 1 _ _ _ BA.out
      have s2 : w8.cell? ⟨gx + 1, 2, none⟩ = some (.int .i64 s.keys) := cell_of_row _ (gx + 1) 2 _ _ _ BA.out
      go_wp2_with fail
      refine (CY.out _ HQ.out HA.out).mono ?_; rintro e w9 ⟨rfl, b⟩
      replace L := hid (hnext L.out b)
      replace HQ := hid (HQ.out.below b)
      replace HA := hid (HA.out.below b)
      replace HT := hid (HT.out.below b)
      replace BX := hid (keepBlock BX.out b)
      replace BA := hid (keepBlock BA.out b)
      replace BR := hid (keepBlock BR.out b)
      replace BN1 := hid (keepBlock BN1.out b)
      replace BN2 := hid (keepBlock BN2.out b)
      replace BN3 := hid (keepBlock BN3.out b)
      clear b
      clear x0 x1 x2 x3 x4 x5 x6 x7 x8 x9 x10 s0 s1 s2
      have x0 : w9.cell? ⟨gn + 1 + 1, 0, none⟩ = some (.int .i64 kz) := cell_of_row _ (gn + 1 + 1) 0 _ _ _ BN3.out
      have x1 : w9.cell? ⟨gn + 1 + 1, 1, none⟩ = some (.string tb) := cell_of_row _ (gn + 1 + 1) 1 _ _ _ BN3.out
      have x2 : w9.cell? ⟨gn + 1 + 1, 2, none⟩ = some (.slice a1 key.length a2) := cell_of_row _ (gn + 1 + 1) 2 _ _ _ BN3.out
      have x3 : w9.cell? ⟨gn + 1 + 1, 3, none⟩ = some (.int .i64 t) := cell_of_row _ (gn + 1 + 1) 3 _ _ _ BN3.out
      have x4 : w9.cell? ⟨gn + 1 + 1, 4, none⟩ = some (.int .i64 v) := cell_of_row _ (gn + 1 + 1) 4 _ _ _ BN3.out
      have x5 : w9.cell? ⟨gn + 1 + 1, 5, none⟩ = some (.int .i64 fr) := cell_of_row _ (gn + 1 + 1) 5 _ _ _ BN3.out
      have x6 : w9.cell? ⟨gn + 1 + 1, 6, none⟩ = some (.int .i64 to) := cell_of_row _ (gn + 1 + 1) 6 _ _ _ BN3.out
      have x7 : w9.cell? ⟨gn + 1 + 1, 7, none⟩ = some (.slice a3 wh.length a4) := cell_of_row _ (gn + 1 + 1) 7 _ _ _ BN3.out
      have x8 : w9.cell? ⟨gn + 1 + 1, 8, none⟩ = some (.slice a5 cols.length a6) := cell_of_row _ (gn + 1 + 1) 8 _ _ _ BN3.out
      have x9 : w9.cell? ⟨gn + 1 + 1, 9, none⟩ = some (.int .i64 lim) := cell_of_row _ (gn + 1 + 1) 9 _ _ _ BN3.out
      have x10 : w9.cell? ⟨gn + 1 + 1, 10, none⟩ = some (.bool ds) := cell_of_row _ (gn + 1 + 1) 10 _ _ _ BN3.out
      have s0 : w9.cell? ⟨gx + 1, 0, none⟩ = some (.string s.name) := cell_of_row _ (gx + 1) 0 _ _ _ BA.out
      have s1 : w9.cell? ⟨gx + 1, 1, none⟩ = some (.slice sa s.cols.length sc) := cell_of_row _ (gx + 1) 1 _ _ _ BA.out
      have s2 : w9.cell? ⟨gx + 1, 2, none⟩ = some (.int .i64 s.keys) := cell_of_row _ (gx + 1) 2 _ _ _ BA.out
      go_wp2_with fail
      refine (CZ.out _ HQ.out HA.out).mono ?_; rintro e w10 ⟨rfl, b⟩
      replace L := hid (hnext L.out b)
      replace HQ := hid (HQ.out.below b)
      replace HA := hid (HA.out.below b)
      replace HT := hid (HT.out.below b)
      replace BX := hid (keepBlock BX.out b)
      replace BA := hid (keepBlock BA.out b)
      replace BR := hid (keepBlock BR.out b)
      replace BN1 := hid (keepBlock BN1.out b)
      replace BN2 := hid (keepBlock BN2.out b)
      replace BN3 := hid (keepBlock BN3.out b)
      clear b
      clear x0 x1 x2 x3 x4 x5 x6 x7 x8 x9 x10 s0 s1 s2
      go_wp2_with fail
      refine (known_any _).mono ?_; rintro e w11 ⟨rfl, b⟩
      go_wp2
      go_ret
      exact ⟨rfl, hnext L.out b⟩
    | true =>
      have ce := CE.out
      rw [hext] at ce
      have CE2 := hid ce
      clear ce CE
      have cb := fun W h h2 => qright_any ⟨kd, tb, key, t, v, fr, to, wh, cols, lim, ds⟩ (.slice a1 key.length a2) (.slice a3 wh.length a4) (.slice a5 cols.length a6) r (.slice ta r.cols.length tc) W h h2 HOK.out HW6.out
      rw [right_wide hext HRQ.out] at cb
      have CB2 := hid cb
      clear cb
      clear hext
      refine (CE2.out _ HA.out HT.out).mono ?_; rintro e w7 ⟨rfl, b⟩
      replace L := hid (hnext L.out b)
      replace HQ := hid (HQ.out.below b)
      replace HA := hid (HA.out.below b)
      replace HT := hid (HT.out.below b)
      replace BX := hid (keepBlock BX.out b)
      replace BA := hid (keepBlock BA.out b)
      replace BR := hid (keepBlock BR.out b)
      replace BN1 := hid (keepBlock BN1.out b)
      replace BN2 := hid (keepBlock BN2.out b)
      replace BN3 := hid (keepBlock BN3.out b)
      clear b
      clear s0 s1 s2 r0 r1 r2
      have x0 : w7.cell? ⟨gx, 0, none⟩ = some (.int .i64 kd) := cell_of_row _ (gx) 0 _ _ _ BX.out
      have x1 : w7.cell? ⟨gx, 1, none⟩ = some (.string tb) := cell_of_row _ (gx) 1 _ _ _ BX.out
      have x2 : w7.cell? ⟨gx, 2, none⟩ = some (.slice a1 key.length a2) := cell_of_row _ (gx) 2 _ _ _ BX.out
      have x3 : w7.cell? ⟨gx, 3, none⟩ = some (.int .i64 t) := cell_of_row _ (gx) 3 _ _ _ BX.out
      have x4 : w7.cell? ⟨gx, 4, none⟩ = some (.int .i64 v) := cell_of_row _ (gx) 4 _ _ _ BX.out
      have x5 : w7.cell? ⟨gx, 5, none⟩ = some (.int .i64 fr) := cell_of_row _ (gx) 5 _ _ _ BX.out
      have x6 : w7.cell? ⟨gx, 6, none⟩ = some (.int .i64 to) := cell_of_row _ (gx) 6 _ _ _ BX.out
      have x7 : w7.cell? ⟨gx, 7, none⟩ = some (.slice a3 wh.length a4) := cell_of_row _ (gx) 7 _ _ _ BX.out
      have x8 : w7.cell? ⟨gx, 8, none⟩ = some (.slice a5 cols.length a6) := cell_of_row _ (gx) 8 _ _ _ BX.out
      have x9 : w7.cell? ⟨gx, 9, none⟩ = some (.int .i64 lim) := cell_of_row _ (gx) 9 _ _ _ BX.out
      have x10 : w7.cell? ⟨gx, 10, none⟩ = some (.bool ds) := cell_of_row _ (gx) 10 _ _ _ BX.out
      have s0 : w7.cell? ⟨gx + 1 + 1, 0, none⟩ = some (.string r.name) := cell_of_row _ (gx + 1 + 1) 0 _ _ _ BR.out
      have s1 : w7.cell? ⟨gx + 1 + 1, 1, none⟩ = some (.slice ta r.cols.length tc) := cell_of_row _ (gx + 1 + 1) 1 _ _ _ BR.out
      have s2 : w7.cell? ⟨gx + 1 + 1, 2, none⟩ = some (.int .i64 r.keys) := cell_of_row _ (gx + 1 + 1) 2 _ _ _ BR.out
      go_wp2_with fail
      refine (CB2.out _ HQ.out HT.out).mono ?_; rintro e w8 ⟨rfl, b⟩
      replace L := hid (hnext L.out b)
      replace HQ := hid (HQ.out.below b)
      replace HA := hid (HA.out.below b)
      replace HT := hid (HT.out.below b)
      replace BX := hid (keepBlock BX.out b)
      replace BA := hid (keepBlock BA.out b)
      replace BR := hid (keepBlock BR.out b)
      replace BN1 := hid (keepBlock BN1.out b)
      replace BN2 := hid (keepBlock BN2.out b)
      replace BN3 := hid (keepBlock BN3.out b)
      clear b
      clear x0 x1 x2 x3 x4 x5 x6 x7 x8 x9 x10 s0 s1 s2
      have x0 : w8.cell? ⟨gn, 0, none⟩ = some (.int .i64 kd) := cell_of_row _ (gn) 0 _ _ _ BN1.out
      have x1 : w8.cell? ⟨gn, 1, none⟩ = some (.string (tb ++ ⟨#[122]⟩)) := cell_of_row _ (gn) 1 _ _ _ BN1.out
      have x2 : w8.cell? ⟨gn, 2, none⟩ = some (.slice a1 key.length a2) := cell_of_row _ (gn) 2 _ _ _ BN1.out
      have x3 : w8.cell? ⟨gn, 3, none⟩ = some (.int .i64 t) := cell_of_row _ (gn) 3 _ _ _ BN1.out
      have x4 : w8.cell? ⟨gn, 4, none⟩ = some (.int .i64 v) := cell_of_row _ (gn) 4 _ _ _ BN1.out
      have x5 : w8.cell? ⟨gn, 5, none⟩ = some (.int .i64 fr) := cell_of_row _ (gn) 5 _ _ _ BN1.out
      have x6 : w8.cell? ⟨gn, 6, none⟩ = some (.int .i64 to) := cell_of_row _ (gn) 6 _ _ _ BN1.out
      have x7 : w8.cell? ⟨gn, 7, none⟩ = some (.slice a3 wh.length a4) := cell_of_row _ (gn) 7 _ _ _ BN1.out
      have x8 : w8.cell? ⟨gn, 8, none⟩ = some (.slice a5 cols.length a6) := cell_of_row _ (gn) 8 _ _ _ BN1.out
      have x9 : w8.cell? ⟨gn, 9, none⟩ = some (.int .i64 lim) := cell_of_row _ (gn) 9 _ _ _ BN1.out
      have x10 : w8.cell? ⟨gn, 10, none⟩ = some (.bool ds) := cell_of_row _ (gn) 10 _ _ _ BN1.out
      have s0 : w8.cell? ⟨gx + 1, 0, none⟩ = some (.string s.name) := cell_of_row _ (gx + 1) 0 _ _ _ BA.out
      have s1 : w8.cell? ⟨gx + 1, 1, none⟩ = some (.slice sa s.cols.length sc) := cell_of_row _ (gx + 1) 1 _ _ _ BA.out
      have s2 : w8.cell? ⟨gx + 1, 2, none⟩ = some (.int .i64 s.keys) := cell_of_row _ (gx + 1) 2 _ _ _ BA.out
      go_wp2_with fail
      refine (CX.out _ HQ.out HA.out).mono ?_; rintro e w9 ⟨rfl, b⟩
      replace L := hid (hnext L.out b)
      replace HQ := hid (HQ.out.below b)
      replace HA := hid (HA.out.below b)
      replace HT := hid (HT.out.below b)
      replace BX := hid (keepBlock BX.out b)
      replace BA := hid (keepBlock BA.out b)
      replace BR := hid (keepBlock BR.out b)
      replace BN1 := hid (keepBlock BN1.out b)
      replace BN2 := hid (keepBlock BN2.out b)
      replace BN3 := hid (keepBlock BN3.out b)
      clear b
      clear x0 x1 x2 x3 x4 x5 x6 x7 x8 x9 x10 s0 s1 s2
      have x0 : w9.cell? ⟨gn + 1, 0, none⟩ = some (.int .i64 kd) := cell_of_row _ (gn + 1) 0 _ _ _ BN2.out
      have x1 : w9.cell? ⟨gn + 1, 1, none⟩ = some (.string tb) := cell_of_row _ (gn + 1) 1 _ _ _ BN2.out
      have x2 : w9.cell? ⟨gn + 1, 2, none⟩ = some (.slice a1 key.length a2) := cell_of_row _ (gn + 1) 2 _ _ _ BN2.out
      have x3 : w9.cell? ⟨gn + 1, 3, none⟩ = some (.int .i64 t) := cell_of_row _ (gn + 1) 3 _ _ _ BN2.out
      have x4 : w9.cell? ⟨gn + 1, 4, none⟩ = some (.int .i64 v) := cell_of_row _ (gn + 1) 4 _ _ _ BN2.out
      have x5 : w9.cell? ⟨gn + 1, 5, none⟩ = some (.int .i64 fr) := cell_of_row _ (gn + 1) 5 _ _ _ BN2.out
      have x6 : w9.cell? ⟨gn + 1, 6, none⟩ = some (.int .i64 to) := cell_of_row _ (gn + 1) 6 _ _ _ BN2.out
      have x7 : w9.cell? ⟨gn + 1, 7, none⟩ = some (.slice a3 wh.length a4) := cell_of_row _ (gn + 1) 7 _ _ _ BN2.out
      have x8 : w9.cell? ⟨gn + 1, 8, none⟩ = some (.slice a5 cols.length a6) := cell_of_row _ (gn + 1) 8 _ _ _ BN2.out
      have x9 : w9.cell? ⟨gn + 1, 9, none⟩ = some (.int .i64 (-1)) := cell_of_row _ (gn + 1) 9 _ _ _ BN2.out
      have x10 : w9.cell? ⟨gn + 1, 10, none⟩ = some (.bool ds) := cell_of_row _ (gn + 1) 10 _ _ _ BN2.out
      have s0 : w9.cell? ⟨gx + 1, 0, none⟩ = some (.string s.name) := cell_of_row _ (gx + 1) 0 _ _ _ BA.out
      have s1 : w9.cell? ⟨gx + 1, 1, none⟩ = some (.slice sa s.cols.length sc) := cell_of_row _ (gx + 1) 1 _ _ _ BA.out
      have s2 : w9.cell? ⟨gx + 1, 2, none⟩ = some (.int .i64 s.keys) := cell_of_row _ (gx + 1) 2 _ _ _ BA.out
      go_wp2_with fail
      refine (CY.out _ HQ.out HA.out).mono ?_; rintro e w10 ⟨rfl, b⟩
      replace L := hid (hnext L.out b)
      replace HQ := hid (HQ.out.below b)
      replace HA := hid (HA.out.below b)
      replace HT := hid (HT.out.below b)
      replace BX := hid (keepBlock BX.out b)
      replace BA := hid (keepBlock BA.out b)
      replace BR := hid (keepBlock BR.out b)
      replace BN1 := hid (keepBlock BN1.out b)
      replace BN2 := hid (keepBlock BN2.out b)
      replace BN3 := hid (keepBlock BN3.out b)
      clear b
      clear x0 x1 x2 x3 x4 x5 x6 x7 x8 x9 x10 s0 s1 s2
      have x0 : w10.cell? ⟨gn + 1 + 1, 0, none⟩ = some (.int .i64 kz) := cell_of_row _ (gn + 1 + 1) 0 _ _ _ BN3.out
      have x1 : w10.cell? ⟨gn + 1 + 1, 1, none⟩ = some (.string tb) := cell_of_row _ (gn + 1 + 1) 1 _ _ _ BN3.out
      have x2 : w10.cell? ⟨gn + 1 + 1, 2, none⟩ = some (.slice a1 key.length a2) := cell_of_row _ (gn + 1 + 1) 2 _ _ _ BN3.out
      have x3 : w10.cell? ⟨gn + 1 + 1, 3, none⟩ = some (.int .i64 t) := cell_of_row _ (gn + 1 + 1) 3 _ _ _ BN3.out
      have x4 : w10.cell? ⟨gn + 1 + 1, 4, none⟩ = some (.int .i64 v) := cell_of_row _ (gn + 1 + 1) 4 _ _ _ BN3.out
      have x5 : w10.cell? ⟨gn + 1 + 1, 5, none⟩ = some (.int .i64 fr) := cell_of_row _ (gn + 1 + 1) 5 _ _ _ BN3.out
      have x6 : w10.cell? ⟨gn + 1 + 1, 6, none⟩ = some (.int .i64 to) := cell_of_row _ (gn + 1 + 1) 6 _ _ _ BN3.out
      have x7 : w10.cell? ⟨gn + 1 + 1, 7, none⟩ = some (.slice a3 wh.length a4) := cell_of_row _ (gn + 1 + 1) 7 _ _ _ BN3.out
      have x8 : w10.cell? ⟨gn + 1 + 1, 8, none⟩ = some (.slice a5 cols.length a6) := cell_of_row _ (gn + 1 + 1) 8 _ _ _ BN3.out
      have x9 : w10.cell? ⟨gn + 1 + 1, 9, none⟩ = some (.int .i64 lim) := cell_of_row _ (gn + 1 + 1) 9 _ _ _ BN3.out
      have x10 : w10.cell? ⟨gn + 1 + 1, 10, none⟩ = some (.bool ds) := cell_of_row _ (gn + 1 + 1) 10 _ _ _ BN3.out
      have s0 : w10.cell? ⟨gx + 1, 0, none⟩ = some (.string s.name) := cell_of_row _ (gx + 1) 0 _ _ _ BA.out
      have s1 : w10.cell? ⟨gx + 1, 1, none⟩ = some (.slice sa s.cols.length sc) := cell_of_row _ (gx + 1) 1 _ _ _ BA.out
      have s2 : w10.cell? ⟨gx + 1, 2, none⟩ = some (.int .i64 s.keys) := cell_of_row _ (gx + 1) 2 _ _ _ BA.out
      go_wp2_with fail
      refine (CZ.out _ HQ.out HA.out).mono ?_; rintro e w11 ⟨rfl, b⟩
      replace L := hid (hnext L.out b)
      replace HQ := hid (HQ.out.below b)
      replace HA := hid (HA.out.below b)
      replace HT := hid (HT.out.below b)
      replace BX := hid (keepBlock BX.out b)
      replace BA := hid (keepBlock BA.out b)
      replace BR := hid (keepBlock BR.out b)
      replace BN1 := hid (keepBlock BN1.out b)
      replace BN2 := hid (keepBlock BN2.out b)
      replace BN3 := hid (keepBlock BN3.out b)
      clear b
      clear x0 x1 x2 x3 x4 x5 x6 x7 x8 x9 x10 s0 s1 s2
      go_wp2_with fail
      refine (known_any _).mono ?_; rintro e w12 ⟨rfl, b⟩
      go_wp2
      go_ret
      exact ⟨rfl, hnext L.out b⟩
end Go.Proofs.Ytmcneelapghfcaa
