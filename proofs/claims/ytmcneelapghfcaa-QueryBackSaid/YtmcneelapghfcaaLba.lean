/-
  QueryBack answers true at any query and any bytes. No condition.
-/
import Derived.Test.YtmcneelapghfcaaRo
import Derived.Test.YtmcneelapghfcaaOq
import Derived.Test.YtmcneelapghfcaaRk
import Derived.Test.YtmcneelapghfcaaRm
namespace Go.Proofs.Ytmcneelapghfcaa
open Go.RowKit Pd Qu

theorem enc_size {q : Q} (h : LightQ q) : (bstr (enc q)).size ≤ 1000000000 := by
  by_cases he : enc q = []
  · rw [he]; decide
  · rw [bstr_size, (enc_full he).2]
    obtain ⟨h1, h2, h3, h4⟩ := h
    have a1 := (Cd.enc_length q.kind.toNat).2
    have a2 := (Cd.enc_length q.table.size).2
    have a3 := row_length q.key
    have a4 : q.table.data.toList.length = q.table.size := by simp
    have b1 := num_len q.t
    have b2 := num_len q.v
    have b3 := num_len q.fr
    have b4 := num_len q.to
    have b5 := num_len q.limit
    have c1 := (Cd.enc_length q.wh.length).2
    have c2 := (Cd.enc_length q.cols.length).2
    have c3 := nodes_len q.wh
    have c4 := nums_len q.cols
    have c5 := (Cd.enc_length (if q.desc = true then 1 else 0)).2
    rw [bstr_size] at b1 b2 b3 b4 b5
    unfold encL headL spotL whL colsL endL Cd.text
    simp only [List.length_append]
    omega
/-- a query that has bytes is read of them -/
theorem dec_back (q : Q) (hk : Qok q) (h : LightQ q) (he : enc q ≠ []) (w : World) : Calls Try.prog 21 #[.string (bstr (enc q))] w fun e w' => ∃ vk vw vc, e = .returned (.tuple #[qv q vk vw vc, .int .i64 0]) ∧ QIn w' q vk vw vc ∧ Below w.heap.size w w' :=
  (qdec_any (bstr (enc q)) (enc_size h) w).mono fun e w' hd => by
    obtain ⟨u, vk, vw, vc, er, rfl, hq, hs, hb, hd⟩ := hd
    have ht : q.table.size ≤ 1000000 := by have := h.2.2.2; omega
    rcases hd with ⟨rfl, hn, e⟩ | ⟨_, _, hn⟩
    · have := enc_inj hk hs.ok ht hs.tab he e hn
      subst this
      exact ⟨vk, vw, vc, rfl, hq, hb⟩
    · exact absurd rfl (hn q hk ht he)
theorem dec_empty (w : World) : Calls Try.prog 21 #[.string ⟨#[]⟩] w fun e w' => ∃ vk vw vc, e = .returned (.tuple #[qv noQ vk vw vc, .int .i64 7]) ∧ QIn w' noQ vk vw vc ∧ Below w.heap.size w w' :=
  (qdec_any ⟨#[]⟩ (by decide) w).mono fun e w' hd => by
    obtain ⟨u, vk, vw, vc, er, rfl, hq, hs, hb, hd⟩ := hd
    rcases hd with ⟨rfl, hn, e⟩ | ⟨rfl, rfl, _⟩
    · have := enc_long hn
      rw [← e] at this
      exact absurd this (by decide)
    · exact ⟨vk, vw, vc, rfl, hq, hb⟩
set_option maxRecDepth 100000 in
set_option maxHeartbeats 12800000 in
theorem queryBack_walk (q : Q) (vk vw vc : Value) (b : ByteArray) (w : World) (hq : QHere w q vk vw vc) (_ : b.size ≤ maxLen) :
    Calls Try.prog 5 #[qv q vk vw vc, .string b] w fun e w' => e = .returned (.bool true) ∧ Below w.heap.size w w' := by
  obtain ⟨hq, hok⟩ := hq
  obtain ⟨kd, tb, key, t, v, fr, to, wh, cols, lim, ds⟩ := q
  obtain ⟨a1, a2, a3, a4, a5, a6, rfl, rfl, rfl⟩ := qs3 hq
  simp only [] at hq
  have HOK := hid hok
  clear hok
  unfold qv
  simp only
  go_enter Try.func5, Try.ntmps5
  go_wp2_with fail
  have b1 := hba w (.cells #[.int .i64 kd, .string tb, .slice a1 key.length a2, .int .i64 t, .int .i64 v, .int .i64 fr, .int .i64 to, .slice a3 wh.length a4, .slice a5 cols.length a6, .int .i64 lim, .bool ds] 28)
  have L := hid b1
  have HQ := hid (hq.below b1)
  have BX := hid (heap_alloc_new w (.cells #[.int .i64 kd, .string tb, .slice a1 key.length a2, .int .i64 t, .int .i64 v, .int .i64 fr, .int .i64 to, .slice a3 wh.length a4, .slice a5 cols.length a6, .int .i64 lim, .bool ds] 28))
  clear b1 hq
  obtain ⟨gx, hgx⟩ : ∃ g, w.heap.size = g := ⟨_, rfl⟩
  rw [hgx] at BX
  (try rw [hgx])
  clear hgx
  generalize w.alloc (.cells #[.int .i64 kd, .string tb, .slice a1 key.length a2, .int .i64 t, .int .i64 v, .int .i64 fr, .int .i64 to, .slice a3 wh.length a4, .slice a5 cols.length a6, .int .i64 lim, .bool ds] 28) = w1 at *
  refine (weight_any ⟨kd, tb, key, t, v, fr, to, wh, cols, lim, ds⟩ _ _ _ _ HQ.out).mono ?_; rintro e w2 ⟨⟨z, rfl, hz⟩, b⟩
  replace L := hid (hnext L.out b)
  replace HQ := hid (HQ.out.below b)
  replace BX := hid (keepBlock BX.out b)
  clear b
  by_cases h5 : 5000 < z
  · clear hz
    go_wp2_with fail
    refine (known_any _).mono ?_; rintro e w3 ⟨rfl, b⟩
    go_wp2
    go_ret
    exact ⟨rfl, hnext L.out b⟩
  have HZ := hid (hz (by omega))
  clear hz
  by_cases h1 : 1000 < b.size
  · have h1' : (1000 : Int) < (b.size : Int) := by omega
    go_wp2_with fail
    refine (known_any _).mono ?_; rintro e w3 ⟨rfl, b⟩
    go_wp2
    go_ret
    exact ⟨rfl, hnext L.out b⟩
  have h1' : ¬ (1000 : Int) < (b.size : Int) := by omega
  have CB := hid (fun W => qdec_any b (by omega) W)
  clear h1
  have hlz := HZ.out
  unfold LightQ at hlz
  simp only at hlz
  obtain ⟨hz1, hz2, hz3, hz4⟩ := hlz
  have CE := hid (fun W h => qenc_any ⟨kd, tb, key, t, v, fr, to, wh, cols, lim, ds⟩ (.slice a1 key.length a2) (.slice a3 wh.length a4) (.slice a5 cols.length a6) W h HOK.out (by show key.length ≤ _; omega) (by show wh.length ≤ _; omega) (by show cols.length ≤ _; omega) (by show tb.size ≤ _; omega))
  have hk6 : key.length ≤ 1000000 := by omega
  have hw6 : wh.length ≤ 1000000 := by omega
  have hc6 : cols.length ≤ 1000000 := by omega
  have HK6 := hid hk6
  have HW6 := hid hw6
  have HC6 := hid hc6
  clear hk6 hw6 hc6 hz1 hz2 hz3 hz4
  by_cases hE : enc ⟨kd, tb, key, t, v, fr, to, wh, cols, lim, ds⟩ = []
  · have x0 : w2.cell? ⟨gx, 0, none⟩ = some (.int .i64 kd) := cell_of_row _ (gx) 0 _ _ _ BX.out
    have x1 : w2.cell? ⟨gx, 1, none⟩ = some (.string tb) := cell_of_row _ (gx) 1 _ _ _ BX.out
    have x2 : w2.cell? ⟨gx, 2, none⟩ = some (.slice a1 key.length a2) := cell_of_row _ (gx) 2 _ _ _ BX.out
    have x3 : w2.cell? ⟨gx, 3, none⟩ = some (.int .i64 t) := cell_of_row _ (gx) 3 _ _ _ BX.out
    have x4 : w2.cell? ⟨gx, 4, none⟩ = some (.int .i64 v) := cell_of_row _ (gx) 4 _ _ _ BX.out
    have x5 : w2.cell? ⟨gx, 5, none⟩ = some (.int .i64 fr) := cell_of_row _ (gx) 5 _ _ _ BX.out
    have x6 : w2.cell? ⟨gx, 6, none⟩ = some (.int .i64 to) := cell_of_row _ (gx) 6 _ _ _ BX.out
    have x7 : w2.cell? ⟨gx, 7, none⟩ = some (.slice a3 wh.length a4) := cell_of_row _ (gx) 7 _ _ _ BX.out
    have x8 : w2.cell? ⟨gx, 8, none⟩ = some (.slice a5 cols.length a6) := cell_of_row _ (gx) 8 _ _ _ BX.out
    have x9 : w2.cell? ⟨gx, 9, none⟩ = some (.int .i64 lim) := cell_of_row _ (gx) 9 _ _ _ BX.out
    have x10 : w2.cell? ⟨gx, 10, none⟩ = some (.bool ds) := cell_of_row _ (gx) 10 _ _ _ BX.out
    have CD := hid dec_empty
    go_wp2_with fail
    refine (CE.out _ HQ.out).mono ?_; rintro e w3 ⟨rfl, b⟩
    replace L := hid (hnext L.out b)
    replace HQ := hid (HQ.out.below b)
    replace BX := hid (keepBlock BX.out b)
    clear b CE x0 x1 x2 x3 x4 x5 x6 x7 x8 x9 x10
    rw [hE]
    rw [show bstr [] = ⟨#[]⟩ from rfl]
    clear hE
    go_wp2_with fail
    refine (CD.out _).mono ?_; rintro e w4 ⟨vk, vw, vc, rfl, hd, b⟩
    replace L := hid (hnext L.out b)
    replace HQ := hid (HQ.out.below b)
    replace BX := hid (keepBlock BX.out b)
    obtain ⟨c1, c2, c3, c4, c5, c6, rfl, rfl, rfl⟩ := qs3 hd
    (try simp only [] at hd)
    have HD := hid hd
    clear b hd CD
    unfold qv
    unfold noQ
    (try simp only [List.length_nil])
    have b := hba w4 (.cells #[.int .i64 0, .string ⟨#[]⟩, .slice c1 0 c2, .int .i64 0, .int .i64 0, .int .i64 0, .int .i64 0, .slice c3 0 c4, .slice c5 0 c6, .int .i64 0, .bool false] 28)
    replace L := hid (hnext L.out b)
    replace HQ := hid (HQ.out.below b)
    replace BX := hid (keepBlock BX.out b)
    have BD := hid (heap_alloc_new w4 (.cells #[.int .i64 0, .string ⟨#[]⟩, .slice c1 0 c2, .int .i64 0, .int .i64 0, .int .i64 0, .int .i64 0, .slice c3 0 c4, .slice c5 0 c6, .int .i64 0, .bool false] 28))
    clear b
    go_wp2_with fail
    obtain ⟨gd, hgd⟩ : ∃ g, w4.heap.size = g := ⟨_, rfl⟩
    rw [hgd] at BD
    (try rw [hgd])
    clear hgd
    generalize w4.alloc (.cells #[.int .i64 0, .string ⟨#[]⟩, .slice c1 0 c2, .int .i64 0, .int .i64 0, .int .i64 0, .int .i64 0, .slice c3 0 c4, .slice c5 0 c6, .int .i64 0, .bool false] 28) = w5 at *
    refine (CB.out _).mono ?_; rintro e w6 ⟨u, vk2, vw2, vc2, er, rfl, hu, hs2, b, hd2⟩
    replace L := hid (hnext L.out b)
    replace HQ := hid (HQ.out.below b)
    replace BX := hid (keepBlock BX.out b)
    replace BD := hid (keepBlock BD.out b)
    obtain ⟨kd', tb', key', t', v', fr', to', wh', cols', lim', ds'⟩ := u
    obtain ⟨d1, d2, d3, d4, d5, d6, rfl, rfl, rfl⟩ := qs3 hu
    simp only [] at hu
    have HU := hid hu
    have HS := hid hs2
    clear b hu hs2 CB
    unfold qv
    simp only
    rcases hd2 with ⟨rfl, hn, he⟩ | ⟨rfl, _, _⟩
    · have hm : ((bstr (enc ⟨kd', tb', key', t', v', fr', to', wh', cols', lim', ds'⟩)).toList == b.toList) = true := by rw [bytes_beq]; exact decide_eq_true he.symm
      have CU := hid (fun W h => qenc_any ⟨kd', tb', key', t', v', fr', to', wh', cols', lim', ds'⟩ (.slice d1 key'.length d2) (.slice d3 wh'.length d4) (.slice d5 cols'.length d6) W h HS.out.ok (Nat.le_trans HS.out.key (by decide)) (Nat.le_trans HS.out.wh (by decide)) (Nat.le_trans HS.out.cols (by decide)) (Nat.le_trans HS.out.tab (by decide)))
      clear hn he
      generalize bstr (enc ⟨kd', tb', key', t', v', fr', to', wh', cols', lim', ds'⟩) = M at hm CU
      unfold qv at CU
      simp only at CU
      have b := hba w6 (.cells #[.int .i64 kd', .string tb', .slice d1 key'.length d2, .int .i64 t', .int .i64 v', .int .i64 fr', .int .i64 to', .slice d3 wh'.length d4, .slice d5 cols'.length d6, .int .i64 lim', .bool ds'] 28)
      replace L := hid (hnext L.out b)
      replace HQ := hid (HQ.out.below b)
      replace BX := hid (keepBlock BX.out b)
      replace BD := hid (keepBlock BD.out b)
      replace HU := hid (HU.out.below b)
      have BU := hid (heap_alloc_new w6 (.cells #[.int .i64 kd', .string tb', .slice d1 key'.length d2, .int .i64 t', .int .i64 v', .int .i64 fr', .int .i64 to', .slice d3 wh'.length d4, .slice d5 cols'.length d6, .int .i64 lim', .bool ds'] 28))
      clear b
      obtain ⟨gu, hgu⟩ : ∃ g, w6.heap.size = g := ⟨_, rfl⟩
      rw [hgu] at BU
      have x0 : (w6.alloc (.cells #[.int .i64 kd', .string tb', .slice d1 key'.length d2, .int .i64 t', .int .i64 v', .int .i64 fr', .int .i64 to', .slice d3 wh'.length d4, .slice d5 cols'.length d6, .int .i64 lim', .bool ds'] 28)).cell? ⟨gx, 0, none⟩ = some (.int .i64 kd) := cell_of_row _ (gx) 0 _ _ _ BX.out
      have x1 : (w6.alloc (.cells #[.int .i64 kd', .string tb', .slice d1 key'.length d2, .int .i64 t', .int .i64 v', .int .i64 fr', .int .i64 to', .slice d3 wh'.length d4, .slice d5 cols'.length d6, .int .i64 lim', .bool ds'] 28)).cell? ⟨gx, 1, none⟩ = some (.string tb) := cell_of_row _ (gx) 1 _ _ _ BX.out
      have x2 : (w6.alloc (.cells #[.int .i64 kd', .string tb', .slice d1 key'.length d2, .int .i64 t', .int .i64 v', .int .i64 fr', .int .i64 to', .slice d3 wh'.length d4, .slice d5 cols'.length d6, .int .i64 lim', .bool ds'] 28)).cell? ⟨gx, 2, none⟩ = some (.slice a1 key.length a2) := cell_of_row _ (gx) 2 _ _ _ BX.out
      have x3 : (w6.alloc (.cells #[.int .i64 kd', .string tb', .slice d1 key'.length d2, .int .i64 t', .int .i64 v', .int .i64 fr', .int .i64 to', .slice d3 wh'.length d4, .slice d5 cols'.length d6, .int .i64 lim', .bool ds'] 28)).cell? ⟨gx, 3, none⟩ = some (.int .i64 t) := cell_of_row _ (gx) 3 _ _ _ BX.out
      have x4 : (w6.alloc (.cells #[.int .i64 kd', .string tb', .slice d1 key'.length d2, .int .i64 t', .int .i64 v', .int .i64 fr', .int .i64 to', .slice d3 wh'.length d4, .slice d5 cols'.length d6, .int .i64 lim', .bool ds'] 28)).cell? ⟨gx, 4, none⟩ = some (.int .i64 v) := cell_of_row _ (gx) 4 _ _ _ BX.out
      have x5 : (w6.alloc (.cells #[.int .i64 kd', .string tb', .slice d1 key'.length d2, .int .i64 t', .int .i64 v', .int .i64 fr', .int .i64 to', .slice d3 wh'.length d4, .slice d5 cols'.length d6, .int .i64 lim', .bool ds'] 28)).cell? ⟨gx, 5, none⟩ = some (.int .i64 fr) := cell_of_row _ (gx) 5 _ _ _ BX.out
      have x6 : (w6.alloc (.cells #[.int .i64 kd', .string tb', .slice d1 key'.length d2, .int .i64 t', .int .i64 v', .int .i64 fr', .int .i64 to', .slice d3 wh'.length d4, .slice d5 cols'.length d6, .int .i64 lim', .bool ds'] 28)).cell? ⟨gx, 6, none⟩ = some (.int .i64 to) := cell_of_row _ (gx) 6 _ _ _ BX.out
      have x7 : (w6.alloc (.cells #[.int .i64 kd', .string tb', .slice d1 key'.length d2, .int .i64 t', .int .i64 v', .int .i64 fr', .int .i64 to', .slice d3 wh'.length d4, .slice d5 cols'.length d6, .int .i64 lim', .bool ds'] 28)).cell? ⟨gx, 7, none⟩ = some (.slice a3 wh.length a4) := cell_of_row _ (gx) 7 _ _ _ BX.out
      have x8 : (w6.alloc (.cells #[.int .i64 kd', .string tb', .slice d1 key'.length d2, .int .i64 t', .int .i64 v', .int .i64 fr', .int .i64 to', .slice d3 wh'.length d4, .slice d5 cols'.length d6, .int .i64 lim', .bool ds'] 28)).cell? ⟨gx, 8, none⟩ = some (.slice a5 cols.length a6) := cell_of_row _ (gx) 8 _ _ _ BX.out
      have x9 : (w6.alloc (.cells #[.int .i64 kd', .string tb', .slice d1 key'.length d2, .int .i64 t', .int .i64 v', .int .i64 fr', .int .i64 to', .slice d3 wh'.length d4, .slice d5 cols'.length d6, .int .i64 lim', .bool ds'] 28)).cell? ⟨gx, 9, none⟩ = some (.int .i64 lim) := cell_of_row _ (gx) 9 _ _ _ BX.out
      have x10 : (w6.alloc (.cells #[.int .i64 kd', .string tb', .slice d1 key'.length d2, .int .i64 t', .int .i64 v', .int .i64 fr', .int .i64 to', .slice d3 wh'.length d4, .slice d5 cols'.length d6, .int .i64 lim', .bool ds'] 28)).cell? ⟨gx, 10, none⟩ = some (.bool ds) := cell_of_row _ (gx) 10 _ _ _ BX.out
      have z0 : (w6.alloc (.cells #[.int .i64 kd', .string tb', .slice d1 key'.length d2, .int .i64 t', .int .i64 v', .int .i64 fr', .int .i64 to', .slice d3 wh'.length d4, .slice d5 cols'.length d6, .int .i64 lim', .bool ds'] 28)).cell? ⟨gu, 0, none⟩ = some (.int .i64 kd') := cell_of_row _ (gu) 0 _ _ _ BU.out
      have z1 : (w6.alloc (.cells #[.int .i64 kd', .string tb', .slice d1 key'.length d2, .int .i64 t', .int .i64 v', .int .i64 fr', .int .i64 to', .slice d3 wh'.length d4, .slice d5 cols'.length d6, .int .i64 lim', .bool ds'] 28)).cell? ⟨gu, 1, none⟩ = some (.string tb') := cell_of_row _ (gu) 1 _ _ _ BU.out
      have z2 : (w6.alloc (.cells #[.int .i64 kd', .string tb', .slice d1 key'.length d2, .int .i64 t', .int .i64 v', .int .i64 fr', .int .i64 to', .slice d3 wh'.length d4, .slice d5 cols'.length d6, .int .i64 lim', .bool ds'] 28)).cell? ⟨gu, 2, none⟩ = some (.slice d1 key'.length d2) := cell_of_row _ (gu) 2 _ _ _ BU.out
      have z3 : (w6.alloc (.cells #[.int .i64 kd', .string tb', .slice d1 key'.length d2, .int .i64 t', .int .i64 v', .int .i64 fr', .int .i64 to', .slice d3 wh'.length d4, .slice d5 cols'.length d6, .int .i64 lim', .bool ds'] 28)).cell? ⟨gu, 3, none⟩ = some (.int .i64 t') := cell_of_row _ (gu) 3 _ _ _ BU.out
      have z4 : (w6.alloc (.cells #[.int .i64 kd', .string tb', .slice d1 key'.length d2, .int .i64 t', .int .i64 v', .int .i64 fr', .int .i64 to', .slice d3 wh'.length d4, .slice d5 cols'.length d6, .int .i64 lim', .bool ds'] 28)).cell? ⟨gu, 4, none⟩ = some (.int .i64 v') := cell_of_row _ (gu) 4 _ _ _ BU.out
      have z5 : (w6.alloc (.cells #[.int .i64 kd', .string tb', .slice d1 key'.length d2, .int .i64 t', .int .i64 v', .int .i64 fr', .int .i64 to', .slice d3 wh'.length d4, .slice d5 cols'.length d6, .int .i64 lim', .bool ds'] 28)).cell? ⟨gu, 5, none⟩ = some (.int .i64 fr') := cell_of_row _ (gu) 5 _ _ _ BU.out
      have z6 : (w6.alloc (.cells #[.int .i64 kd', .string tb', .slice d1 key'.length d2, .int .i64 t', .int .i64 v', .int .i64 fr', .int .i64 to', .slice d3 wh'.length d4, .slice d5 cols'.length d6, .int .i64 lim', .bool ds'] 28)).cell? ⟨gu, 6, none⟩ = some (.int .i64 to') := cell_of_row _ (gu) 6 _ _ _ BU.out
      have z7 : (w6.alloc (.cells #[.int .i64 kd', .string tb', .slice d1 key'.length d2, .int .i64 t', .int .i64 v', .int .i64 fr', .int .i64 to', .slice d3 wh'.length d4, .slice d5 cols'.length d6, .int .i64 lim', .bool ds'] 28)).cell? ⟨gu, 7, none⟩ = some (.slice d3 wh'.length d4) := cell_of_row _ (gu) 7 _ _ _ BU.out
      have z8 : (w6.alloc (.cells #[.int .i64 kd', .string tb', .slice d1 key'.length d2, .int .i64 t', .int .i64 v', .int .i64 fr', .int .i64 to', .slice d3 wh'.length d4, .slice d5 cols'.length d6, .int .i64 lim', .bool ds'] 28)).cell? ⟨gu, 8, none⟩ = some (.slice d5 cols'.length d6) := cell_of_row _ (gu) 8 _ _ _ BU.out
      have z9 : (w6.alloc (.cells #[.int .i64 kd', .string tb', .slice d1 key'.length d2, .int .i64 t', .int .i64 v', .int .i64 fr', .int .i64 to', .slice d3 wh'.length d4, .slice d5 cols'.length d6, .int .i64 lim', .bool ds'] 28)).cell? ⟨gu, 9, none⟩ = some (.int .i64 lim') := cell_of_row _ (gu) 9 _ _ _ BU.out
      have z10 : (w6.alloc (.cells #[.int .i64 kd', .string tb', .slice d1 key'.length d2, .int .i64 t', .int .i64 v', .int .i64 fr', .int .i64 to', .slice d3 wh'.length d4, .slice d5 cols'.length d6, .int .i64 lim', .bool ds'] 28)).cell? ⟨gu, 10, none⟩ = some (.bool ds') := cell_of_row _ (gu) 10 _ _ _ BU.out
      go_wp2_with fail
      (try rw [hgu])
      clear hgu x0 z0 x1 z1 x2 z2 x3 z3 x4 z4 x5 z5 x6 z6 x7 z7 x8 z8 x9 z9 x10 z10
      generalize (w6.alloc (.cells #[.int .i64 kd', .string tb', .slice d1 key'.length d2, .int .i64 t', .int .i64 v', .int .i64 fr', .int .i64 to', .slice d3 wh'.length d4, .slice d5 cols'.length d6, .int .i64 lim', .bool ds'] 28)) = w7 at *
      refine (CU.out _ HU.out).mono ?_; rintro e w8 ⟨rfl, b⟩
      replace L := hid (hnext L.out b)
      replace HQ := hid (HQ.out.below b)
      replace BX := hid (keepBlock BX.out b)
      replace BD := hid (keepBlock BD.out b)
      replace HU := hid (HU.out.below b)
      replace BU := hid (keepBlock BU.out b)
      clear b
      go_wp2_with fail
      refine (known_any _).mono ?_; rintro e w9 ⟨rfl, b⟩
      go_wp2
      go_ret
      exact ⟨rfl, hnext L.out b⟩
    · have b := hba w6 (.cells #[.int .i64 kd', .string tb', .slice d1 key'.length d2, .int .i64 t', .int .i64 v', .int .i64 fr', .int .i64 to', .slice d3 wh'.length d4, .slice d5 cols'.length d6, .int .i64 lim', .bool ds'] 28)
      replace L := hid (hnext L.out b)
      replace HQ := hid (HQ.out.below b)
      replace BX := hid (keepBlock BX.out b)
      replace BD := hid (keepBlock BD.out b)
      replace HU := hid (HU.out.below b)
      have BU := hid (heap_alloc_new w6 (.cells #[.int .i64 kd', .string tb', .slice d1 key'.length d2, .int .i64 t', .int .i64 v', .int .i64 fr', .int .i64 to', .slice d3 wh'.length d4, .slice d5 cols'.length d6, .int .i64 lim', .bool ds'] 28))
      clear b
      obtain ⟨gu, hgu⟩ : ∃ g, w6.heap.size = g := ⟨_, rfl⟩
      rw [hgu] at BU
      have x0 : (w6.alloc (.cells #[.int .i64 kd', .string tb', .slice d1 key'.length d2, .int .i64 t', .int .i64 v', .int .i64 fr', .int .i64 to', .slice d3 wh'.length d4, .slice d5 cols'.length d6, .int .i64 lim', .bool ds'] 28)).cell? ⟨gx, 0, none⟩ = some (.int .i64 kd) := cell_of_row _ (gx) 0 _ _ _ BX.out
      have x1 : (w6.alloc (.cells #[.int .i64 kd', .string tb', .slice d1 key'.length d2, .int .i64 t', .int .i64 v', .int .i64 fr', .int .i64 to', .slice d3 wh'.length d4, .slice d5 cols'.length d6, .int .i64 lim', .bool ds'] 28)).cell? ⟨gx, 1, none⟩ = some (.string tb) := cell_of_row _ (gx) 1 _ _ _ BX.out
      have x2 : (w6.alloc (.cells #[.int .i64 kd', .string tb', .slice d1 key'.length d2, .int .i64 t', .int .i64 v', .int .i64 fr', .int .i64 to', .slice d3 wh'.length d4, .slice d5 cols'.length d6, .int .i64 lim', .bool ds'] 28)).cell? ⟨gx, 2, none⟩ = some (.slice a1 key.length a2) := cell_of_row _ (gx) 2 _ _ _ BX.out
      have x3 : (w6.alloc (.cells #[.int .i64 kd', .string tb', .slice d1 key'.length d2, .int .i64 t', .int .i64 v', .int .i64 fr', .int .i64 to', .slice d3 wh'.length d4, .slice d5 cols'.length d6, .int .i64 lim', .bool ds'] 28)).cell? ⟨gx, 3, none⟩ = some (.int .i64 t) := cell_of_row _ (gx) 3 _ _ _ BX.out
      have x4 : (w6.alloc (.cells #[.int .i64 kd', .string tb', .slice d1 key'.length d2, .int .i64 t', .int .i64 v', .int .i64 fr', .int .i64 to', .slice d3 wh'.length d4, .slice d5 cols'.length d6, .int .i64 lim', .bool ds'] 28)).cell? ⟨gx, 4, none⟩ = some (.int .i64 v) := cell_of_row _ (gx) 4 _ _ _ BX.out
      have x5 : (w6.alloc (.cells #[.int .i64 kd', .string tb', .slice d1 key'.length d2, .int .i64 t', .int .i64 v', .int .i64 fr', .int .i64 to', .slice d3 wh'.length d4, .slice d5 cols'.length d6, .int .i64 lim', .bool ds'] 28)).cell? ⟨gx, 5, none⟩ = some (.int .i64 fr) := cell_of_row _ (gx) 5 _ _ _ BX.out
      have x6 : (w6.alloc (.cells #[.int .i64 kd', .string tb', .slice d1 key'.length d2, .int .i64 t', .int .i64 v', .int .i64 fr', .int .i64 to', .slice d3 wh'.length d4, .slice d5 cols'.length d6, .int .i64 lim', .bool ds'] 28)).cell? ⟨gx, 6, none⟩ = some (.int .i64 to) := cell_of_row _ (gx) 6 _ _ _ BX.out
      have x7 : (w6.alloc (.cells #[.int .i64 kd', .string tb', .slice d1 key'.length d2, .int .i64 t', .int .i64 v', .int .i64 fr', .int .i64 to', .slice d3 wh'.length d4, .slice d5 cols'.length d6, .int .i64 lim', .bool ds'] 28)).cell? ⟨gx, 7, none⟩ = some (.slice a3 wh.length a4) := cell_of_row _ (gx) 7 _ _ _ BX.out
      have x8 : (w6.alloc (.cells #[.int .i64 kd', .string tb', .slice d1 key'.length d2, .int .i64 t', .int .i64 v', .int .i64 fr', .int .i64 to', .slice d3 wh'.length d4, .slice d5 cols'.length d6, .int .i64 lim', .bool ds'] 28)).cell? ⟨gx, 8, none⟩ = some (.slice a5 cols.length a6) := cell_of_row _ (gx) 8 _ _ _ BX.out
      have x9 : (w6.alloc (.cells #[.int .i64 kd', .string tb', .slice d1 key'.length d2, .int .i64 t', .int .i64 v', .int .i64 fr', .int .i64 to', .slice d3 wh'.length d4, .slice d5 cols'.length d6, .int .i64 lim', .bool ds'] 28)).cell? ⟨gx, 9, none⟩ = some (.int .i64 lim) := cell_of_row _ (gx) 9 _ _ _ BX.out
      have x10 : (w6.alloc (.cells #[.int .i64 kd', .string tb', .slice d1 key'.length d2, .int .i64 t', .int .i64 v', .int .i64 fr', .int .i64 to', .slice d3 wh'.length d4, .slice d5 cols'.length d6, .int .i64 lim', .bool ds'] 28)).cell? ⟨gx, 10, none⟩ = some (.bool ds) := cell_of_row _ (gx) 10 _ _ _ BX.out
      have z0 : (w6.alloc (.cells #[.int .i64 kd', .string tb', .slice d1 key'.length d2, .int .i64 t', .int .i64 v', .int .i64 fr', .int .i64 to', .slice d3 wh'.length d4, .slice d5 cols'.length d6, .int .i64 lim', .bool ds'] 28)).cell? ⟨gu, 0, none⟩ = some (.int .i64 kd') := cell_of_row _ (gu) 0 _ _ _ BU.out
      have z1 : (w6.alloc (.cells #[.int .i64 kd', .string tb', .slice d1 key'.length d2, .int .i64 t', .int .i64 v', .int .i64 fr', .int .i64 to', .slice d3 wh'.length d4, .slice d5 cols'.length d6, .int .i64 lim', .bool ds'] 28)).cell? ⟨gu, 1, none⟩ = some (.string tb') := cell_of_row _ (gu) 1 _ _ _ BU.out
      have z2 : (w6.alloc (.cells #[.int .i64 kd', .string tb', .slice d1 key'.length d2, .int .i64 t', .int .i64 v', .int .i64 fr', .int .i64 to', .slice d3 wh'.length d4, .slice d5 cols'.length d6, .int .i64 lim', .bool ds'] 28)).cell? ⟨gu, 2, none⟩ = some (.slice d1 key'.length d2) := cell_of_row _ (gu) 2 _ _ _ BU.out
      have z3 : (w6.alloc (.cells #[.int .i64 kd', .string tb', .slice d1 key'.length d2, .int .i64 t', .int .i64 v', .int .i64 fr', .int .i64 to', .slice d3 wh'.length d4, .slice d5 cols'.length d6, .int .i64 lim', .bool ds'] 28)).cell? ⟨gu, 3, none⟩ = some (.int .i64 t') := cell_of_row _ (gu) 3 _ _ _ BU.out
      have z4 : (w6.alloc (.cells #[.int .i64 kd', .string tb', .slice d1 key'.length d2, .int .i64 t', .int .i64 v', .int .i64 fr', .int .i64 to', .slice d3 wh'.length d4, .slice d5 cols'.length d6, .int .i64 lim', .bool ds'] 28)).cell? ⟨gu, 4, none⟩ = some (.int .i64 v') := cell_of_row _ (gu) 4 _ _ _ BU.out
      have z5 : (w6.alloc (.cells #[.int .i64 kd', .string tb', .slice d1 key'.length d2, .int .i64 t', .int .i64 v', .int .i64 fr', .int .i64 to', .slice d3 wh'.length d4, .slice d5 cols'.length d6, .int .i64 lim', .bool ds'] 28)).cell? ⟨gu, 5, none⟩ = some (.int .i64 fr') := cell_of_row _ (gu) 5 _ _ _ BU.out
      have z6 : (w6.alloc (.cells #[.int .i64 kd', .string tb', .slice d1 key'.length d2, .int .i64 t', .int .i64 v', .int .i64 fr', .int .i64 to', .slice d3 wh'.length d4, .slice d5 cols'.length d6, .int .i64 lim', .bool ds'] 28)).cell? ⟨gu, 6, none⟩ = some (.int .i64 to') := cell_of_row _ (gu) 6 _ _ _ BU.out
      have z7 : (w6.alloc (.cells #[.int .i64 kd', .string tb', .slice d1 key'.length d2, .int .i64 t', .int .i64 v', .int .i64 fr', .int .i64 to', .slice d3 wh'.length d4, .slice d5 cols'.length d6, .int .i64 lim', .bool ds'] 28)).cell? ⟨gu, 7, none⟩ = some (.slice d3 wh'.length d4) := cell_of_row _ (gu) 7 _ _ _ BU.out
      have z8 : (w6.alloc (.cells #[.int .i64 kd', .string tb', .slice d1 key'.length d2, .int .i64 t', .int .i64 v', .int .i64 fr', .int .i64 to', .slice d3 wh'.length d4, .slice d5 cols'.length d6, .int .i64 lim', .bool ds'] 28)).cell? ⟨gu, 8, none⟩ = some (.slice d5 cols'.length d6) := cell_of_row _ (gu) 8 _ _ _ BU.out
      have z9 : (w6.alloc (.cells #[.int .i64 kd', .string tb', .slice d1 key'.length d2, .int .i64 t', .int .i64 v', .int .i64 fr', .int .i64 to', .slice d3 wh'.length d4, .slice d5 cols'.length d6, .int .i64 lim', .bool ds'] 28)).cell? ⟨gu, 9, none⟩ = some (.int .i64 lim') := cell_of_row _ (gu) 9 _ _ _ BU.out
      have z10 : (w6.alloc (.cells #[.int .i64 kd', .string tb', .slice d1 key'.length d2, .int .i64 t', .int .i64 v', .int .i64 fr', .int .i64 to', .slice d3 wh'.length d4, .slice d5 cols'.length d6, .int .i64 lim', .bool ds'] 28)).cell? ⟨gu, 10, none⟩ = some (.bool ds') := cell_of_row _ (gu) 10 _ _ _ BU.out
      go_wp2_with fail
      (try rw [hgu])
      clear hgu x0 z0 x1 z1 x2 z2 x3 z3 x4 z4 x5 z5 x6 z6 x7 z7 x8 z8 x9 z9 x10 z10
      generalize (w6.alloc (.cells #[.int .i64 kd', .string tb', .slice d1 key'.length d2, .int .i64 t', .int .i64 v', .int .i64 fr', .int .i64 to', .slice d3 wh'.length d4, .slice d5 cols'.length d6, .int .i64 lim', .bool ds'] 28)) = w7 at *
      refine (known_any _).mono ?_; rintro e w8 ⟨rfl, b⟩
      go_wp2
      go_ret
      exact ⟨rfl, hnext L.out b⟩
  · have x0 : w2.cell? ⟨gx, 0, none⟩ = some (.int .i64 kd) := cell_of_row _ (gx) 0 _ _ _ BX.out
    have x1 : w2.cell? ⟨gx, 1, none⟩ = some (.string tb) := cell_of_row _ (gx) 1 _ _ _ BX.out
    have x2 : w2.cell? ⟨gx, 2, none⟩ = some (.slice a1 key.length a2) := cell_of_row _ (gx) 2 _ _ _ BX.out
    have x3 : w2.cell? ⟨gx, 3, none⟩ = some (.int .i64 t) := cell_of_row _ (gx) 3 _ _ _ BX.out
    have x4 : w2.cell? ⟨gx, 4, none⟩ = some (.int .i64 v) := cell_of_row _ (gx) 4 _ _ _ BX.out
    have x5 : w2.cell? ⟨gx, 5, none⟩ = some (.int .i64 fr) := cell_of_row _ (gx) 5 _ _ _ BX.out
    have x6 : w2.cell? ⟨gx, 6, none⟩ = some (.int .i64 to) := cell_of_row _ (gx) 6 _ _ _ BX.out
    have x7 : w2.cell? ⟨gx, 7, none⟩ = some (.slice a3 wh.length a4) := cell_of_row _ (gx) 7 _ _ _ BX.out
    have x8 : w2.cell? ⟨gx, 8, none⟩ = some (.slice a5 cols.length a6) := cell_of_row _ (gx) 8 _ _ _ BX.out
    have x9 : w2.cell? ⟨gx, 9, none⟩ = some (.int .i64 lim) := cell_of_row _ (gx) 9 _ _ _ BX.out
    have x10 : w2.cell? ⟨gx, 10, none⟩ = some (.bool ds) := cell_of_row _ (gx) 10 _ _ _ BX.out
    have p1 : ((bstr (enc ⟨kd, tb, key, t, v, fr, to, wh, cols, lim, ds⟩)).toList == []) = false := by rw [bempty]; exact decide_eq_false hE
    have p2 : (bstr (enc ⟨kd, tb, key, t, v, fr, to, wh, cols, lim, ds⟩)).toList.isEmpty = false := by rw [bempty']; exact decide_eq_false hE
    have CD := hid (fun W => dec_back ⟨kd, tb, key, t, v, fr, to, wh, cols, lim, ds⟩ HOK.out HZ.out hE W)
    go_wp2_with fail
    refine (CE.out _ HQ.out).mono ?_; rintro e w3 ⟨rfl, b⟩
    replace L := hid (hnext L.out b)
    replace HQ := hid (HQ.out.below b)
    replace BX := hid (keepBlock BX.out b)
    clear b CE x0 x1 x2 x3 x4 x5 x6 x7 x8 x9 x10
    clear hE
    generalize bstr (enc ⟨kd, tb, key, t, v, fr, to, wh, cols, lim, ds⟩) = S at p1 p2 CD ⊢
    go_wp2_with fail
    refine (CD.out _).mono ?_; rintro e w4 ⟨vk, vw, vc, rfl, hd, b⟩
    replace L := hid (hnext L.out b)
    replace HQ := hid (HQ.out.below b)
    replace BX := hid (keepBlock BX.out b)
    obtain ⟨c1, c2, c3, c4, c5, c6, rfl, rfl, rfl⟩ := qs3 hd
    (try simp only [] at hd)
    have HD := hid hd
    clear b hd CD
    unfold qv
    simp only
    have b := hba w4 (.cells #[.int .i64 kd, .string tb, .slice c1 key.length c2, .int .i64 t, .int .i64 v, .int .i64 fr, .int .i64 to, .slice c3 wh.length c4, .slice c5 cols.length c6, .int .i64 lim, .bool ds] 28)
    replace L := hid (hnext L.out b)
    replace HQ := hid (HQ.out.below b)
    replace BX := hid (keepBlock BX.out b)
    replace HD := hid (HD.out.below b)
    have BD := hid (heap_alloc_new w4 (.cells #[.int .i64 kd, .string tb, .slice c1 key.length c2, .int .i64 t, .int .i64 v, .int .i64 fr, .int .i64 to, .slice c3 wh.length c4, .slice c5 cols.length c6, .int .i64 lim, .bool ds] 28))
    clear b
    go_wp2_with fail
    obtain ⟨gd, hgd⟩ : ∃ g, w4.heap.size = g := ⟨_, rfl⟩
    rw [hgd] at BD
    (try rw [hgd])
    clear hgd
    generalize w4.alloc (.cells #[.int .i64 kd, .string tb, .slice c1 key.length c2, .int .i64 t, .int .i64 v, .int .i64 fr, .int .i64 to, .slice c3 wh.length c4, .slice c5 cols.length c6, .int .i64 lim, .bool ds] 28) = w5 at *
    refine (CB.out _).mono ?_; rintro e w6 ⟨u, vk2, vw2, vc2, er, rfl, hu, hs2, b, hd2⟩
    replace L := hid (hnext L.out b)
    replace HQ := hid (HQ.out.below b)
    replace BX := hid (keepBlock BX.out b)
    replace HD := hid (HD.out.below b)
    replace BD := hid (keepBlock BD.out b)
    obtain ⟨kd', tb', key', t', v', fr', to', wh', cols', lim', ds'⟩ := u
    obtain ⟨d1, d2, d3, d4, d5, d6, rfl, rfl, rfl⟩ := qs3 hu
    simp only [] at hu
    have HU := hid hu
    have HS := hid hs2
    clear b hu hs2 CB
    unfold qv
    simp only
    rcases hd2 with ⟨rfl, hn, he⟩ | ⟨rfl, _, _⟩
    · have hm : ((bstr (enc ⟨kd', tb', key', t', v', fr', to', wh', cols', lim', ds'⟩)).toList == b.toList) = true := by rw [bytes_beq]; exact decide_eq_true he.symm
      have CU := hid (fun W h => qenc_any ⟨kd', tb', key', t', v', fr', to', wh', cols', lim', ds'⟩ (.slice d1 key'.length d2) (.slice d3 wh'.length d4) (.slice d5 cols'.length d6) W h HS.out.ok (Nat.le_trans HS.out.key (by decide)) (Nat.le_trans HS.out.wh (by decide)) (Nat.le_trans HS.out.cols (by decide)) (Nat.le_trans HS.out.tab (by decide)))
      clear hn he
      generalize bstr (enc ⟨kd', tb', key', t', v', fr', to', wh', cols', lim', ds'⟩) = M at hm CU
      unfold qv at CU
      simp only at CU
      have b := hba w6 (.cells #[.int .i64 kd', .string tb', .slice d1 key'.length d2, .int .i64 t', .int .i64 v', .int .i64 fr', .int .i64 to', .slice d3 wh'.length d4, .slice d5 cols'.length d6, .int .i64 lim', .bool ds'] 28)
      replace L := hid (hnext L.out b)
      replace HQ := hid (HQ.out.below b)
      replace BX := hid (keepBlock BX.out b)
      replace HD := hid (HD.out.below b)
      replace BD := hid (keepBlock BD.out b)
      replace HU := hid (HU.out.below b)
      have BU := hid (heap_alloc_new w6 (.cells #[.int .i64 kd', .string tb', .slice d1 key'.length d2, .int .i64 t', .int .i64 v', .int .i64 fr', .int .i64 to', .slice d3 wh'.length d4, .slice d5 cols'.length d6, .int .i64 lim', .bool ds'] 28))
      clear b
      obtain ⟨gu, hgu⟩ : ∃ g, w6.heap.size = g := ⟨_, rfl⟩
      rw [hgu] at BU
      have x0 : (w6.alloc (.cells #[.int .i64 kd', .string tb', .slice d1 key'.length d2, .int .i64 t', .int .i64 v', .int .i64 fr', .int .i64 to', .slice d3 wh'.length d4, .slice d5 cols'.length d6, .int .i64 lim', .bool ds'] 28)).cell? ⟨gx, 0, none⟩ = some (.int .i64 kd) := cell_of_row _ (gx) 0 _ _ _ BX.out
      have x1 : (w6.alloc (.cells #[.int .i64 kd', .string tb', .slice d1 key'.length d2, .int .i64 t', .int .i64 v', .int .i64 fr', .int .i64 to', .slice d3 wh'.length d4, .slice d5 cols'.length d6, .int .i64 lim', .bool ds'] 28)).cell? ⟨gx, 1, none⟩ = some (.string tb) := cell_of_row _ (gx) 1 _ _ _ BX.out
      have x2 : (w6.alloc (.cells #[.int .i64 kd', .string tb', .slice d1 key'.length d2, .int .i64 t', .int .i64 v', .int .i64 fr', .int .i64 to', .slice d3 wh'.length d4, .slice d5 cols'.length d6, .int .i64 lim', .bool ds'] 28)).cell? ⟨gx, 2, none⟩ = some (.slice a1 key.length a2) := cell_of_row _ (gx) 2 _ _ _ BX.out
      have x3 : (w6.alloc (.cells #[.int .i64 kd', .string tb', .slice d1 key'.length d2, .int .i64 t', .int .i64 v', .int .i64 fr', .int .i64 to', .slice d3 wh'.length d4, .slice d5 cols'.length d6, .int .i64 lim', .bool ds'] 28)).cell? ⟨gx, 3, none⟩ = some (.int .i64 t) := cell_of_row _ (gx) 3 _ _ _ BX.out
      have x4 : (w6.alloc (.cells #[.int .i64 kd', .string tb', .slice d1 key'.length d2, .int .i64 t', .int .i64 v', .int .i64 fr', .int .i64 to', .slice d3 wh'.length d4, .slice d5 cols'.length d6, .int .i64 lim', .bool ds'] 28)).cell? ⟨gx, 4, none⟩ = some (.int .i64 v) := cell_of_row _ (gx) 4 _ _ _ BX.out
      have x5 : (w6.alloc (.cells #[.int .i64 kd', .string tb', .slice d1 key'.length d2, .int .i64 t', .int .i64 v', .int .i64 fr', .int .i64 to', .slice d3 wh'.length d4, .slice d5 cols'.length d6, .int .i64 lim', .bool ds'] 28)).cell? ⟨gx, 5, none⟩ = some (.int .i64 fr) := cell_of_row _ (gx) 5 _ _ _ BX.out
      have x6 : (w6.alloc (.cells #[.int .i64 kd', .string tb', .slice d1 key'.length d2, .int .i64 t', .int .i64 v', .int .i64 fr', .int .i64 to', .slice d3 wh'.length d4, .slice d5 cols'.length d6, .int .i64 lim', .bool ds'] 28)).cell? ⟨gx, 6, none⟩ = some (.int .i64 to) := cell_of_row _ (gx) 6 _ _ _ BX.out
      have x7 : (w6.alloc (.cells #[.int .i64 kd', .string tb', .slice d1 key'.length d2, .int .i64 t', .int .i64 v', .int .i64 fr', .int .i64 to', .slice d3 wh'.length d4, .slice d5 cols'.length d6, .int .i64 lim', .bool ds'] 28)).cell? ⟨gx, 7, none⟩ = some (.slice a3 wh.length a4) := cell_of_row _ (gx) 7 _ _ _ BX.out
      have x8 : (w6.alloc (.cells #[.int .i64 kd', .string tb', .slice d1 key'.length d2, .int .i64 t', .int .i64 v', .int .i64 fr', .int .i64 to', .slice d3 wh'.length d4, .slice d5 cols'.length d6, .int .i64 lim', .bool ds'] 28)).cell? ⟨gx, 8, none⟩ = some (.slice a5 cols.length a6) := cell_of_row _ (gx) 8 _ _ _ BX.out
      have x9 : (w6.alloc (.cells #[.int .i64 kd', .string tb', .slice d1 key'.length d2, .int .i64 t', .int .i64 v', .int .i64 fr', .int .i64 to', .slice d3 wh'.length d4, .slice d5 cols'.length d6, .int .i64 lim', .bool ds'] 28)).cell? ⟨gx, 9, none⟩ = some (.int .i64 lim) := cell_of_row _ (gx) 9 _ _ _ BX.out
      have x10 : (w6.alloc (.cells #[.int .i64 kd', .string tb', .slice d1 key'.length d2, .int .i64 t', .int .i64 v', .int .i64 fr', .int .i64 to', .slice d3 wh'.length d4, .slice d5 cols'.length d6, .int .i64 lim', .bool ds'] 28)).cell? ⟨gx, 10, none⟩ = some (.bool ds) := cell_of_row _ (gx) 10 _ _ _ BX.out
      have y0 : (w6.alloc (.cells #[.int .i64 kd', .string tb', .slice d1 key'.length d2, .int .i64 t', .int .i64 v', .int .i64 fr', .int .i64 to', .slice d3 wh'.length d4, .slice d5 cols'.length d6, .int .i64 lim', .bool ds'] 28)).cell? ⟨gd, 0, none⟩ = some (.int .i64 kd) := cell_of_row _ (gd) 0 _ _ _ BD.out
      have y1 : (w6.alloc (.cells #[.int .i64 kd', .string tb', .slice d1 key'.length d2, .int .i64 t', .int .i64 v', .int .i64 fr', .int .i64 to', .slice d3 wh'.length d4, .slice d5 cols'.length d6, .int .i64 lim', .bool ds'] 28)).cell? ⟨gd, 1, none⟩ = some (.string tb) := cell_of_row _ (gd) 1 _ _ _ BD.out
      have y2 : (w6.alloc (.cells #[.int .i64 kd', .string tb', .slice d1 key'.length d2, .int .i64 t', .int .i64 v', .int .i64 fr', .int .i64 to', .slice d3 wh'.length d4, .slice d5 cols'.length d6, .int .i64 lim', .bool ds'] 28)).cell? ⟨gd, 2, none⟩ = some (.slice c1 key.length c2) := cell_of_row _ (gd) 2 _ _ _ BD.out
      have y3 : (w6.alloc (.cells #[.int .i64 kd', .string tb', .slice d1 key'.length d2, .int .i64 t', .int .i64 v', .int .i64 fr', .int .i64 to', .slice d3 wh'.length d4, .slice d5 cols'.length d6, .int .i64 lim', .bool ds'] 28)).cell? ⟨gd, 3, none⟩ = some (.int .i64 t) := cell_of_row _ (gd) 3 _ _ _ BD.out
      have y4 : (w6.alloc (.cells #[.int .i64 kd', .string tb', .slice d1 key'.length d2, .int .i64 t', .int .i64 v', .int .i64 fr', .int .i64 to', .slice d3 wh'.length d4, .slice d5 cols'.length d6, .int .i64 lim', .bool ds'] 28)).cell? ⟨gd, 4, none⟩ = some (.int .i64 v) := cell_of_row _ (gd) 4 _ _ _ BD.out
      have y5 : (w6.alloc (.cells #[.int .i64 kd', .string tb', .slice d1 key'.length d2, .int .i64 t', .int .i64 v', .int .i64 fr', .int .i64 to', .slice d3 wh'.length d4, .slice d5 cols'.length d6, .int .i64 lim', .bool ds'] 28)).cell? ⟨gd, 5, none⟩ = some (.int .i64 fr) := cell_of_row _ (gd) 5 _ _ _ BD.out
      have y6 : (w6.alloc (.cells #[.int .i64 kd', .string tb', .slice d1 key'.length d2, .int .i64 t', .int .i64 v', .int .i64 fr', .int .i64 to', .slice d3 wh'.length d4, .slice d5 cols'.length d6, .int .i64 lim', .bool ds'] 28)).cell? ⟨gd, 6, none⟩ = some (.int .i64 to) := cell_of_row _ (gd) 6 _ _ _ BD.out
      have y7 : (w6.alloc (.cells #[.int .i64 kd', .string tb', .slice d1 key'.length d2, .int .i64 t', .int .i64 v', .int .i64 fr', .int .i64 to', .slice d3 wh'.length d4, .slice d5 cols'.length d6, .int .i64 lim', .bool ds'] 28)).cell? ⟨gd, 7, none⟩ = some (.slice c3 wh.length c4) := cell_of_row _ (gd) 7 _ _ _ BD.out
      have y8 : (w6.alloc (.cells #[.int .i64 kd', .string tb', .slice d1 key'.length d2, .int .i64 t', .int .i64 v', .int .i64 fr', .int .i64 to', .slice d3 wh'.length d4, .slice d5 cols'.length d6, .int .i64 lim', .bool ds'] 28)).cell? ⟨gd, 8, none⟩ = some (.slice c5 cols.length c6) := cell_of_row _ (gd) 8 _ _ _ BD.out
      have y9 : (w6.alloc (.cells #[.int .i64 kd', .string tb', .slice d1 key'.length d2, .int .i64 t', .int .i64 v', .int .i64 fr', .int .i64 to', .slice d3 wh'.length d4, .slice d5 cols'.length d6, .int .i64 lim', .bool ds'] 28)).cell? ⟨gd, 9, none⟩ = some (.int .i64 lim) := cell_of_row _ (gd) 9 _ _ _ BD.out
      have y10 : (w6.alloc (.cells #[.int .i64 kd', .string tb', .slice d1 key'.length d2, .int .i64 t', .int .i64 v', .int .i64 fr', .int .i64 to', .slice d3 wh'.length d4, .slice d5 cols'.length d6, .int .i64 lim', .bool ds'] 28)).cell? ⟨gd, 10, none⟩ = some (.bool ds) := cell_of_row _ (gd) 10 _ _ _ BD.out
      have z0 : (w6.alloc (.cells #[.int .i64 kd', .string tb', .slice d1 key'.length d2, .int .i64 t', .int .i64 v', .int .i64 fr', .int .i64 to', .slice d3 wh'.length d4, .slice d5 cols'.length d6, .int .i64 lim', .bool ds'] 28)).cell? ⟨gu, 0, none⟩ = some (.int .i64 kd') := cell_of_row _ (gu) 0 _ _ _ BU.out
      have z1 : (w6.alloc (.cells #[.int .i64 kd', .string tb', .slice d1 key'.length d2, .int .i64 t', .int .i64 v', .int .i64 fr', .int .i64 to', .slice d3 wh'.length d4, .slice d5 cols'.length d6, .int .i64 lim', .bool ds'] 28)).cell? ⟨gu, 1, none⟩ = some (.string tb') := cell_of_row _ (gu) 1 _ _ _ BU.out
      have z2 : (w6.alloc (.cells #[.int .i64 kd', .string tb', .slice d1 key'.length d2, .int .i64 t', .int .i64 v', .int .i64 fr', .int .i64 to', .slice d3 wh'.length d4, .slice d5 cols'.length d6, .int .i64 lim', .bool ds'] 28)).cell? ⟨gu, 2, none⟩ = some (.slice d1 key'.length d2) := cell_of_row _ (gu) 2 _ _ _ BU.out
      have z3 : (w6.alloc (.cells #[.int .i64 kd', .string tb', .slice d1 key'.length d2, .int .i64 t', .int .i64 v', .int .i64 fr', .int .i64 to', .slice d3 wh'.length d4, .slice d5 cols'.length d6, .int .i64 lim', .bool ds'] 28)).cell? ⟨gu, 3, none⟩ = some (.int .i64 t') := cell_of_row _ (gu) 3 _ _ _ BU.out
      have z4 : (w6.alloc (.cells #[.int .i64 kd', .string tb', .slice d1 key'.length d2, .int .i64 t', .int .i64 v', .int .i64 fr', .int .i64 to', .slice d3 wh'.length d4, .slice d5 cols'.length d6, .int .i64 lim', .bool ds'] 28)).cell? ⟨gu, 4, none⟩ = some (.int .i64 v') := cell_of_row _ (gu) 4 _ _ _ BU.out
      have z5 : (w6.alloc (.cells #[.int .i64 kd', .string tb', .slice d1 key'.length d2, .int .i64 t', .int .i64 v', .int .i64 fr', .int .i64 to', .slice d3 wh'.length d4, .slice d5 cols'.length d6, .int .i64 lim', .bool ds'] 28)).cell? ⟨gu, 5, none⟩ = some (.int .i64 fr') := cell_of_row _ (gu) 5 _ _ _ BU.out
      have z6 : (w6.alloc (.cells #[.int .i64 kd', .string tb', .slice d1 key'.length d2, .int .i64 t', .int .i64 v', .int .i64 fr', .int .i64 to', .slice d3 wh'.length d4, .slice d5 cols'.length d6, .int .i64 lim', .bool ds'] 28)).cell? ⟨gu, 6, none⟩ = some (.int .i64 to') := cell_of_row _ (gu) 6 _ _ _ BU.out
      have z7 : (w6.alloc (.cells #[.int .i64 kd', .string tb', .slice d1 key'.length d2, .int .i64 t', .int .i64 v', .int .i64 fr', .int .i64 to', .slice d3 wh'.length d4, .slice d5 cols'.length d6, .int .i64 lim', .bool ds'] 28)).cell? ⟨gu, 7, none⟩ = some (.slice d3 wh'.length d4) := cell_of_row _ (gu) 7 _ _ _ BU.out
      have z8 : (w6.alloc (.cells #[.int .i64 kd', .string tb', .slice d1 key'.length d2, .int .i64 t', .int .i64 v', .int .i64 fr', .int .i64 to', .slice d3 wh'.length d4, .slice d5 cols'.length d6, .int .i64 lim', .bool ds'] 28)).cell? ⟨gu, 8, none⟩ = some (.slice d5 cols'.length d6) := cell_of_row _ (gu) 8 _ _ _ BU.out
      have z9 : (w6.alloc (.cells #[.int .i64 kd', .string tb', .slice d1 key'.length d2, .int .i64 t', .int .i64 v', .int .i64 fr', .int .i64 to', .slice d3 wh'.length d4, .slice d5 cols'.length d6, .int .i64 lim', .bool ds'] 28)).cell? ⟨gu, 9, none⟩ = some (.int .i64 lim') := cell_of_row _ (gu) 9 _ _ _ BU.out
      have z10 : (w6.alloc (.cells #[.int .i64 kd', .string tb', .slice d1 key'.length d2, .int .i64 t', .int .i64 v', .int .i64 fr', .int .i64 to', .slice d3 wh'.length d4, .slice d5 cols'.length d6, .int .i64 lim', .bool ds'] 28)).cell? ⟨gu, 10, none⟩ = some (.bool ds') := cell_of_row _ (gu) 10 _ _ _ BU.out
      go_wp2_with fail
      (try rw [hgu])
      clear hgu x0 y0 z0 x1 y1 z1 x2 y2 z2 x3 y3 z3 x4 y4 z4 x5 y5 z5 x6 y6 z6 x7 y7 z7 x8 y8 z8 x9 y9 z9 x10 y10 z10
      generalize (w6.alloc (.cells #[.int .i64 kd', .string tb', .slice d1 key'.length d2, .int .i64 t', .int .i64 v', .int .i64 fr', .int .i64 to', .slice d3 wh'.length d4, .slice d5 cols'.length d6, .int .i64 lim', .bool ds'] 28)) = w7 at *
      refine (qsame_same ⟨kd, tb, key, t, v, fr, to, wh, cols, lim, ds⟩ _ _ _ _ _ _ _ HD.out HQ.out HK6.out HW6.out HC6.out).mono ?_; rintro e w8 ⟨rfl, b⟩
      replace L := hid (hnext L.out b)
      replace HQ := hid (HQ.out.below b)
      replace BX := hid (keepBlock BX.out b)
      replace HD := hid (HD.out.below b)
      replace BD := hid (keepBlock BD.out b)
      replace HU := hid (HU.out.below b)
      replace BU := hid (keepBlock BU.out b)
      clear b
      have z0 : w8.cell? ⟨gu, 0, none⟩ = some (.int .i64 kd') := cell_of_row _ (gu) 0 _ _ _ BU.out
      have z1 : w8.cell? ⟨gu, 1, none⟩ = some (.string tb') := cell_of_row _ (gu) 1 _ _ _ BU.out
      have z2 : w8.cell? ⟨gu, 2, none⟩ = some (.slice d1 key'.length d2) := cell_of_row _ (gu) 2 _ _ _ BU.out
      have z3 : w8.cell? ⟨gu, 3, none⟩ = some (.int .i64 t') := cell_of_row _ (gu) 3 _ _ _ BU.out
      have z4 : w8.cell? ⟨gu, 4, none⟩ = some (.int .i64 v') := cell_of_row _ (gu) 4 _ _ _ BU.out
      have z5 : w8.cell? ⟨gu, 5, none⟩ = some (.int .i64 fr') := cell_of_row _ (gu) 5 _ _ _ BU.out
      have z6 : w8.cell? ⟨gu, 6, none⟩ = some (.int .i64 to') := cell_of_row _ (gu) 6 _ _ _ BU.out
      have z7 : w8.cell? ⟨gu, 7, none⟩ = some (.slice d3 wh'.length d4) := cell_of_row _ (gu) 7 _ _ _ BU.out
      have z8 : w8.cell? ⟨gu, 8, none⟩ = some (.slice d5 cols'.length d6) := cell_of_row _ (gu) 8 _ _ _ BU.out
      have z9 : w8.cell? ⟨gu, 9, none⟩ = some (.int .i64 lim') := cell_of_row _ (gu) 9 _ _ _ BU.out
      have z10 : w8.cell? ⟨gu, 10, none⟩ = some (.bool ds') := cell_of_row _ (gu) 10 _ _ _ BU.out
      go_wp2_with fail
      refine (CU.out _ HU.out).mono ?_; rintro e w9 ⟨rfl, b⟩
      replace L := hid (hnext L.out b)
      replace HQ := hid (HQ.out.below b)
      replace BX := hid (keepBlock BX.out b)
      replace HD := hid (HD.out.below b)
      replace BD := hid (keepBlock BD.out b)
      replace HU := hid (HU.out.below b)
      replace BU := hid (keepBlock BU.out b)
      clear b
      go_wp2_with fail
      refine (known_any _).mono ?_; rintro e w10 ⟨rfl, b⟩
      go_wp2
      go_ret
      exact ⟨rfl, hnext L.out b⟩
    · have b := hba w6 (.cells #[.int .i64 kd', .string tb', .slice d1 key'.length d2, .int .i64 t', .int .i64 v', .int .i64 fr', .int .i64 to', .slice d3 wh'.length d4, .slice d5 cols'.length d6, .int .i64 lim', .bool ds'] 28)
      replace L := hid (hnext L.out b)
      replace HQ := hid (HQ.out.below b)
      replace BX := hid (keepBlock BX.out b)
      replace HD := hid (HD.out.below b)
      replace BD := hid (keepBlock BD.out b)
      replace HU := hid (HU.out.below b)
      have BU := hid (heap_alloc_new w6 (.cells #[.int .i64 kd', .string tb', .slice d1 key'.length d2, .int .i64 t', .int .i64 v', .int .i64 fr', .int .i64 to', .slice d3 wh'.length d4, .slice d5 cols'.length d6, .int .i64 lim', .bool ds'] 28))
      clear b
      obtain ⟨gu, hgu⟩ : ∃ g, w6.heap.size = g := ⟨_, rfl⟩
      rw [hgu] at BU
      have x0 : (w6.alloc (.cells #[.int .i64 kd', .string tb', .slice d1 key'.length d2, .int .i64 t', .int .i64 v', .int .i64 fr', .int .i64 to', .slice d3 wh'.length d4, .slice d5 cols'.length d6, .int .i64 lim', .bool ds'] 28)).cell? ⟨gx, 0, none⟩ = some (.int .i64 kd) := cell_of_row _ (gx) 0 _ _ _ BX.out
      have x1 : (w6.alloc (.cells #[.int .i64 kd', .string tb', .slice d1 key'.length d2, .int .i64 t', .int .i64 v', .int .i64 fr', .int .i64 to', .slice d3 wh'.length d4, .slice d5 cols'.length d6, .int .i64 lim', .bool ds'] 28)).cell? ⟨gx, 1, none⟩ = some (.string tb) := cell_of_row _ (gx) 1 _ _ _ BX.out
      have x2 : (w6.alloc (.cells #[.int .i64 kd', .string tb', .slice d1 key'.length d2, .int .i64 t', .int .i64 v', .int .i64 fr', .int .i64 to', .slice d3 wh'.length d4, .slice d5 cols'.length d6, .int .i64 lim', .bool ds'] 28)).cell? ⟨gx, 2, none⟩ = some (.slice a1 key.length a2) := cell_of_row _ (gx) 2 _ _ _ BX.out
      have x3 : (w6.alloc (.cells #[.int .i64 kd', .string tb', .slice d1 key'.length d2, .int .i64 t', .int .i64 v', .int .i64 fr', .int .i64 to', .slice d3 wh'.length d4, .slice d5 cols'.length d6, .int .i64 lim', .bool ds'] 28)).cell? ⟨gx, 3, none⟩ = some (.int .i64 t) := cell_of_row _ (gx) 3 _ _ _ BX.out
      have x4 : (w6.alloc (.cells #[.int .i64 kd', .string tb', .slice d1 key'.length d2, .int .i64 t', .int .i64 v', .int .i64 fr', .int .i64 to', .slice d3 wh'.length d4, .slice d5 cols'.length d6, .int .i64 lim', .bool ds'] 28)).cell? ⟨gx, 4, none⟩ = some (.int .i64 v) := cell_of_row _ (gx) 4 _ _ _ BX.out
      have x5 : (w6.alloc (.cells #[.int .i64 kd', .string tb', .slice d1 key'.length d2, .int .i64 t', .int .i64 v', .int .i64 fr', .int .i64 to', .slice d3 wh'.length d4, .slice d5 cols'.length d6, .int .i64 lim', .bool ds'] 28)).cell? ⟨gx, 5, none⟩ = some (.int .i64 fr) := cell_of_row _ (gx) 5 _ _ _ BX.out
      have x6 : (w6.alloc (.cells #[.int .i64 kd', .string tb', .slice d1 key'.length d2, .int .i64 t', .int .i64 v', .int .i64 fr', .int .i64 to', .slice d3 wh'.length d4, .slice d5 cols'.length d6, .int .i64 lim', .bool ds'] 28)).cell? ⟨gx, 6, none⟩ = some (.int .i64 to) := cell_of_row _ (gx) 6 _ _ _ BX.out
      have x7 : (w6.alloc (.cells #[.int .i64 kd', .string tb', .slice d1 key'.length d2, .int .i64 t', .int .i64 v', .int .i64 fr', .int .i64 to', .slice d3 wh'.length d4, .slice d5 cols'.length d6, .int .i64 lim', .bool ds'] 28)).cell? ⟨gx, 7, none⟩ = some (.slice a3 wh.length a4) := cell_of_row _ (gx) 7 _ _ _ BX.out
      have x8 : (w6.alloc (.cells #[.int .i64 kd', .string tb', .slice d1 key'.length d2, .int .i64 t', .int .i64 v', .int .i64 fr', .int .i64 to', .slice d3 wh'.length d4, .slice d5 cols'.length d6, .int .i64 lim', .bool ds'] 28)).cell? ⟨gx, 8, none⟩ = some (.slice a5 cols.length a6) := cell_of_row _ (gx) 8 _ _ _ BX.out
      have x9 : (w6.alloc (.cells #[.int .i64 kd', .string tb', .slice d1 key'.length d2, .int .i64 t', .int .i64 v', .int .i64 fr', .int .i64 to', .slice d3 wh'.length d4, .slice d5 cols'.length d6, .int .i64 lim', .bool ds'] 28)).cell? ⟨gx, 9, none⟩ = some (.int .i64 lim) := cell_of_row _ (gx) 9 _ _ _ BX.out
      have x10 : (w6.alloc (.cells #[.int .i64 kd', .string tb', .slice d1 key'.length d2, .int .i64 t', .int .i64 v', .int .i64 fr', .int .i64 to', .slice d3 wh'.length d4, .slice d5 cols'.length d6, .int .i64 lim', .bool ds'] 28)).cell? ⟨gx, 10, none⟩ = some (.bool ds) := cell_of_row _ (gx) 10 _ _ _ BX.out
      have y0 : (w6.alloc (.cells #[.int .i64 kd', .string tb', .slice d1 key'.length d2, .int .i64 t', .int .i64 v', .int .i64 fr', .int .i64 to', .slice d3 wh'.length d4, .slice d5 cols'.length d6, .int .i64 lim', .bool ds'] 28)).cell? ⟨gd, 0, none⟩ = some (.int .i64 kd) := cell_of_row _ (gd) 0 _ _ _ BD.out
      have y1 : (w6.alloc (.cells #[.int .i64 kd', .string tb', .slice d1 key'.length d2, .int .i64 t', .int .i64 v', .int .i64 fr', .int .i64 to', .slice d3 wh'.length d4, .slice d5 cols'.length d6, .int .i64 lim', .bool ds'] 28)).cell? ⟨gd, 1, none⟩ = some (.string tb) := cell_of_row _ (gd) 1 _ _ _ BD.out
      have y2 : (w6.alloc (.cells #[.int .i64 kd', .string tb', .slice d1 key'.length d2, .int .i64 t', .int .i64 v', .int .i64 fr', .int .i64 to', .slice d3 wh'.length d4, .slice d5 cols'.length d6, .int .i64 lim', .bool ds'] 28)).cell? ⟨gd, 2, none⟩ = some (.slice c1 key.length c2) := cell_of_row _ (gd) 2 _ _ _ BD.out
      have y3 : (w6.alloc (.cells #[.int .i64 kd', .string tb', .slice d1 key'.length d2, .int .i64 t', .int .i64 v', .int .i64 fr', .int .i64 to', .slice d3 wh'.length d4, .slice d5 cols'.length d6, .int .i64 lim', .bool ds'] 28)).cell? ⟨gd, 3, none⟩ = some (.int .i64 t) := cell_of_row _ (gd) 3 _ _ _ BD.out
      have y4 : (w6.alloc (.cells #[.int .i64 kd', .string tb', .slice d1 key'.length d2, .int .i64 t', .int .i64 v', .int .i64 fr', .int .i64 to', .slice d3 wh'.length d4, .slice d5 cols'.length d6, .int .i64 lim', .bool ds'] 28)).cell? ⟨gd, 4, none⟩ = some (.int .i64 v) := cell_of_row _ (gd) 4 _ _ _ BD.out
      have y5 : (w6.alloc (.cells #[.int .i64 kd', .string tb', .slice d1 key'.length d2, .int .i64 t', .int .i64 v', .int .i64 fr', .int .i64 to', .slice d3 wh'.length d4, .slice d5 cols'.length d6, .int .i64 lim', .bool ds'] 28)).cell? ⟨gd, 5, none⟩ = some (.int .i64 fr) := cell_of_row _ (gd) 5 _ _ _ BD.out
      have y6 : (w6.alloc (.cells #[.int .i64 kd', .string tb', .slice d1 key'.length d2, .int .i64 t', .int .i64 v', .int .i64 fr', .int .i64 to', .slice d3 wh'.length d4, .slice d5 cols'.length d6, .int .i64 lim', .bool ds'] 28)).cell? ⟨gd, 6, none⟩ = some (.int .i64 to) := cell_of_row _ (gd) 6 _ _ _ BD.out
      have y7 : (w6.alloc (.cells #[.int .i64 kd', .string tb', .slice d1 key'.length d2, .int .i64 t', .int .i64 v', .int .i64 fr', .int .i64 to', .slice d3 wh'.length d4, .slice d5 cols'.length d6, .int .i64 lim', .bool ds'] 28)).cell? ⟨gd, 7, none⟩ = some (.slice c3 wh.length c4) := cell_of_row _ (gd) 7 _ _ _ BD.out
      have y8 : (w6.alloc (.cells #[.int .i64 kd', .string tb', .slice d1 key'.length d2, .int .i64 t', .int .i64 v', .int .i64 fr', .int .i64 to', .slice d3 wh'.length d4, .slice d5 cols'.length d6, .int .i64 lim', .bool ds'] 28)).cell? ⟨gd, 8, none⟩ = some (.slice c5 cols.length c6) := cell_of_row _ (gd) 8 _ _ _ BD.out
      have y9 : (w6.alloc (.cells #[.int .i64 kd', .string tb', .slice d1 key'.length d2, .int .i64 t', .int .i64 v', .int .i64 fr', .int .i64 to', .slice d3 wh'.length d4, .slice d5 cols'.length d6, .int .i64 lim', .bool ds'] 28)).cell? ⟨gd, 9, none⟩ = some (.int .i64 lim) := cell_of_row _ (gd) 9 _ _ _ BD.out
      have y10 : (w6.alloc (.cells #[.int .i64 kd', .string tb', .slice d1 key'.length d2, .int .i64 t', .int .i64 v', .int .i64 fr', .int .i64 to', .slice d3 wh'.length d4, .slice d5 cols'.length d6, .int .i64 lim', .bool ds'] 28)).cell? ⟨gd, 10, none⟩ = some (.bool ds) := cell_of_row _ (gd) 10 _ _ _ BD.out
      have z0 : (w6.alloc (.cells #[.int .i64 kd', .string tb', .slice d1 key'.length d2, .int .i64 t', .int .i64 v', .int .i64 fr', .int .i64 to', .slice d3 wh'.length d4, .slice d5 cols'.length d6, .int .i64 lim', .bool ds'] 28)).cell? ⟨gu, 0, none⟩ = some (.int .i64 kd') := cell_of_row _ (gu) 0 _ _ _ BU.out
      have z1 : (w6.alloc (.cells #[.int .i64 kd', .string tb', .slice d1 key'.length d2, .int .i64 t', .int .i64 v', .int .i64 fr', .int .i64 to', .slice d3 wh'.length d4, .slice d5 cols'.length d6, .int .i64 lim', .bool ds'] 28)).cell? ⟨gu, 1, none⟩ = some (.string tb') := cell_of_row _ (gu) 1 _ _ _ BU.out
      have z2 : (w6.alloc (.cells #[.int .i64 kd', .string tb', .slice d1 key'.length d2, .int .i64 t', .int .i64 v', .int .i64 fr', .int .i64 to', .slice d3 wh'.length d4, .slice d5 cols'.length d6, .int .i64 lim', .bool ds'] 28)).cell? ⟨gu, 2, none⟩ = some (.slice d1 key'.length d2) := cell_of_row _ (gu) 2 _ _ _ BU.out
      have z3 : (w6.alloc (.cells #[.int .i64 kd', .string tb', .slice d1 key'.length d2, .int .i64 t', .int .i64 v', .int .i64 fr', .int .i64 to', .slice d3 wh'.length d4, .slice d5 cols'.length d6, .int .i64 lim', .bool ds'] 28)).cell? ⟨gu, 3, none⟩ = some (.int .i64 t') := cell_of_row _ (gu) 3 _ _ _ BU.out
      have z4 : (w6.alloc (.cells #[.int .i64 kd', .string tb', .slice d1 key'.length d2, .int .i64 t', .int .i64 v', .int .i64 fr', .int .i64 to', .slice d3 wh'.length d4, .slice d5 cols'.length d6, .int .i64 lim', .bool ds'] 28)).cell? ⟨gu, 4, none⟩ = some (.int .i64 v') := cell_of_row _ (gu) 4 _ _ _ BU.out
      have z5 : (w6.alloc (.cells #[.int .i64 kd', .string tb', .slice d1 key'.length d2, .int .i64 t', .int .i64 v', .int .i64 fr', .int .i64 to', .slice d3 wh'.length d4, .slice d5 cols'.length d6, .int .i64 lim', .bool ds'] 28)).cell? ⟨gu, 5, none⟩ = some (.int .i64 fr') := cell_of_row _ (gu) 5 _ _ _ BU.out
      have z6 : (w6.alloc (.cells #[.int .i64 kd', .string tb', .slice d1 key'.length d2, .int .i64 t', .int .i64 v', .int .i64 fr', .int .i64 to', .slice d3 wh'.length d4, .slice d5 cols'.length d6, .int .i64 lim', .bool ds'] 28)).cell? ⟨gu, 6, none⟩ = some (.int .i64 to') := cell_of_row _ (gu) 6 _ _ _ BU.out
      have z7 : (w6.alloc (.cells #[.int .i64 kd', .string tb', .slice d1 key'.length d2, .int .i64 t', .int .i64 v', .int .i64 fr', .int .i64 to', .slice d3 wh'.length d4, .slice d5 cols'.length d6, .int .i64 lim', .bool ds'] 28)).cell? ⟨gu, 7, none⟩ = some (.slice d3 wh'.length d4) := cell_of_row _ (gu) 7 _ _ _ BU.out
      have z8 : (w6.alloc (.cells #[.int .i64 kd', .string tb', .slice d1 key'.length d2, .int .i64 t', .int .i64 v', .int .i64 fr', .int .i64 to', .slice d3 wh'.length d4, .slice d5 cols'.length d6, .int .i64 lim', .bool ds'] 28)).cell? ⟨gu, 8, none⟩ = some (.slice d5 cols'.length d6) := cell_of_row _ (gu) 8 _ _ _ BU.out
      have z9 : (w6.alloc (.cells #[.int .i64 kd', .string tb', .slice d1 key'.length d2, .int .i64 t', .int .i64 v', .int .i64 fr', .int .i64 to', .slice d3 wh'.length d4, .slice d5 cols'.length d6, .int .i64 lim', .bool ds'] 28)).cell? ⟨gu, 9, none⟩ = some (.int .i64 lim') := cell_of_row _ (gu) 9 _ _ _ BU.out
      have z10 : (w6.alloc (.cells #[.int .i64 kd', .string tb', .slice d1 key'.length d2, .int .i64 t', .int .i64 v', .int .i64 fr', .int .i64 to', .slice d3 wh'.length d4, .slice d5 cols'.length d6, .int .i64 lim', .bool ds'] 28)).cell? ⟨gu, 10, none⟩ = some (.bool ds') := cell_of_row _ (gu) 10 _ _ _ BU.out
      go_wp2_with fail
      (try rw [hgu])
      clear hgu x0 y0 z0 x1 y1 z1 x2 y2 z2 x3 y3 z3 x4 y4 z4 x5 y5 z5 x6 y6 z6 x7 y7 z7 x8 y8 z8 x9 y9 z9 x10 y10 z10
      generalize (w6.alloc (.cells #[.int .i64 kd', .string tb', .slice d1 key'.length d2, .int .i64 t', .int .i64 v', .int .i64 fr', .int .i64 to', .slice d3 wh'.length d4, .slice d5 cols'.length d6, .int .i64 lim', .bool ds'] 28)) = w7 at *
      refine (qsame_same ⟨kd, tb, key, t, v, fr, to, wh, cols, lim, ds⟩ _ _ _ _ _ _ _ HD.out HQ.out HK6.out HW6.out HC6.out).mono ?_; rintro e w8 ⟨rfl, b⟩
      replace L := hid (hnext L.out b)
      replace HQ := hid (HQ.out.below b)
      replace BX := hid (keepBlock BX.out b)
      replace HD := hid (HD.out.below b)
      replace BD := hid (keepBlock BD.out b)
      replace HU := hid (HU.out.below b)
      replace BU := hid (keepBlock BU.out b)
      clear b
      have z0 : w8.cell? ⟨gu, 0, none⟩ = some (.int .i64 kd') := cell_of_row _ (gu) 0 _ _ _ BU.out
      have z1 : w8.cell? ⟨gu, 1, none⟩ = some (.string tb') := cell_of_row _ (gu) 1 _ _ _ BU.out
      have z2 : w8.cell? ⟨gu, 2, none⟩ = some (.slice d1 key'.length d2) := cell_of_row _ (gu) 2 _ _ _ BU.out
      have z3 : w8.cell? ⟨gu, 3, none⟩ = some (.int .i64 t') := cell_of_row _ (gu) 3 _ _ _ BU.out
      have z4 : w8.cell? ⟨gu, 4, none⟩ = some (.int .i64 v') := cell_of_row _ (gu) 4 _ _ _ BU.out
      have z5 : w8.cell? ⟨gu, 5, none⟩ = some (.int .i64 fr') := cell_of_row _ (gu) 5 _ _ _ BU.out
      have z6 : w8.cell? ⟨gu, 6, none⟩ = some (.int .i64 to') := cell_of_row _ (gu) 6 _ _ _ BU.out
      have z7 : w8.cell? ⟨gu, 7, none⟩ = some (.slice d3 wh'.length d4) := cell_of_row _ (gu) 7 _ _ _ BU.out
      have z8 : w8.cell? ⟨gu, 8, none⟩ = some (.slice d5 cols'.length d6) := cell_of_row _ (gu) 8 _ _ _ BU.out
      have z9 : w8.cell? ⟨gu, 9, none⟩ = some (.int .i64 lim') := cell_of_row _ (gu) 9 _ _ _ BU.out
      have z10 : w8.cell? ⟨gu, 10, none⟩ = some (.bool ds') := cell_of_row _ (gu) 10 _ _ _ BU.out
      go_wp2_with fail
      refine (known_any _).mono ?_; rintro e w9 ⟨rfl, b⟩
      go_wp2
      go_ret
      exact ⟨rfl, hnext L.out b⟩
end Go.Proofs.Ytmcneelapghfcaa
