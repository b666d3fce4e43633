/-
  FrameReads answers true at any bytes and any body. No condition.
-/
import Derived.Test.YtmmegicaeaifaaaGl
namespace Go.Proofs.Ytmmegicaeaifaaa
open Go.RowKit Fr

set_option maxRecDepth 100000 in
set_option maxHeartbeats 12800000 in
theorem frameReads_walk (s b : ByteArray) (w : World) (_ : s.size ≤ maxLen) (_ : b.size ≤ maxLen) :
    Calls Try.prog 4 #[.string s, .string b] w fun e w' => e = .returned (.bool true) ∧ Below w.heap.size w w' := by
  by_cases h1 : 3000 < s.size
  · have h1' : (3000 : Int) < (s.size : Int) := by omega
    clear h1
    go_enter Try.func4, Try.ntmps4
    go_wp2_with fail
    refine (known_any _).mono ?_; rintro e w9 ⟨rfl, b9⟩
    go_wp2
    go_ret
    exact ⟨rfl, b9⟩
  have h1' : ¬ (3000 : Int) < (s.size : Int) := by omega
  by_cases h2 : 2000 < b.size
  · have h2' : (2000 : Int) < (b.size : Int) := by omega
    clear h1 h2
    go_enter Try.func4, Try.ntmps4
    go_wp2_with fail
    refine (known_any _).mono ?_; rintro e w9 ⟨rfl, b9⟩
    go_wp2
    go_ret
    exact ⟨rfl, b9⟩
  have h2' : ¬ (2000 : Int) < (b.size : Int) := by omega
  have cn := fun W => fnext_any s (by omega) W
  have cm := fun W => fnextR_any s (by omega) W
  have cs := fun W => fsplit_any s (by omega) W
  have ct := fun W => fsplitR_any s (by omega) W
  unfold SplitP at cs ct
  have hlen := splitR_len s
  have hl : (splitR s).1.length ≤ 1000000 := by omega
  generalize nextR s = p at cn cm
  generalize splitR s = q at cs ct hl
  obtain ⟨x, n, er⟩ := p
  obtain ⟨l, i, g⟩ := q
  simp only at cn cm cs ct hl
  have CN := hid cn
  have CM := hid cm
  have CS := hid cs
  have CT := hid ct
  have HL := hid hl
  have CD := hid (fun W => fdecode_any b (by omega) W)
  have CE := hid (fun W => fdecodeR_any b (by omega) W)
  clear cn cm cs ct hl hlen h1 h2
  have L := hid (Below.refl w.heap.size w)
  go_enter Try.func4, Try.ntmps4
  go_wp2_with fail
  refine (CN.out _).mono ?_; rintro e w1 ⟨rfl, b⟩
  replace L := hid (hnext L.out b)
  clear b
  go_wp2_with fail
  refine (CM.out _).mono ?_; rintro e w2 ⟨rfl, b⟩
  replace L := hid (hnext L.out b)
  clear b
  go_wp2_with fail
  refine (CS.out _).mono ?_; rintro e w3 ⟨v1, rfl, ho, b⟩
  replace L := hid (hnext L.out b)
  have S1 := hid ho.at
  clear ho b
  go_wp2_with fail
  refine (CT.out _).mono ?_; rintro e w4 ⟨v2, rfl, ho, b⟩
  replace L := hid (hnext L.out b)
  replace S1 := hid (S1.out.below b)
  have S2 := hid ho.at
  clear ho b
  go_wp2_with fail
  refine (CD.out _).mono ?_; rintro e w5 ⟨t, vt, e1, rfl, ht, hkt, b, hd1⟩
  obtain ⟨at1, ct1, rfl⟩ := ht.slc
  replace L := hid (hnext L.out b)
  replace S1 := hid (S1.out.below b)
  replace S2 := hid (S2.out.below b)
  have HT := hid ht
  have D1 := hid hd1
  have KT := hid hkt
  clear ht b hd1 hkt
  unfold tv
  go_wp2_with fail
  have BX := hid (heap_alloc_new w5 (.cells #[.int .i64 t.seq, .int .i64 t.time, .slice at1 t.cs.length ct1] 24))
  have b := hba w5 (.cells #[.int .i64 t.seq, .int .i64 t.time, .slice at1 t.cs.length ct1] 24)
  replace L := hid (hnext L.out b)
  replace S1 := hid (S1.out.below b)
  replace S2 := hid (S2.out.below b)
  replace HT := hid (HT.out.below b)
  clear b
  obtain ⟨gx, hgx⟩ : ∃ g, w5.heap.size = g := ⟨_, rfl⟩
  rw [hgx] at BX
  (try rw [hgx])
  clear hgx
  generalize w5.alloc (.cells #[.int .i64 t.seq, .int .i64 t.time, .slice at1 t.cs.length ct1] 24) = w6 at *
  refine (CE.out _).mono ?_; rintro e w7 ⟨u, vu, e2, rfl, hu, hku, b, hd2⟩
  obtain ⟨htu, hee⟩ := dec_pair KT.out hku D1.out hd2
  subst htu hee
  obtain ⟨at2, ct2, rfl⟩ := hu.slc
  replace L := hid (hnext L.out b)
  replace S1 := hid (S1.out.below b)
  replace S2 := hid (S2.out.below b)
  replace HT := hid (HT.out.below b)
  replace BX := hid (keepBlock BX.out b)
  have HU := hid hu
  clear hu b hd2 hku
  unfold tv
  go_wp2_with fail
  have BY := hid (heap_alloc_new w7 (.cells #[.int .i64 t.seq, .int .i64 t.time, .slice at2 t.cs.length ct2] 24))
  have b := hba w7 (.cells #[.int .i64 t.seq, .int .i64 t.time, .slice at2 t.cs.length ct2] 24)
  replace L := hid (hnext L.out b)
  replace S1 := hid (S1.out.below b)
  replace S2 := hid (S2.out.below b)
  replace HT := hid (HT.out.below b)
  replace BX := hid (keepBlock BX.out b)
  replace HU := hid (HU.out.below b)
  clear b
  obtain ⟨gy, hgy⟩ : ∃ g, w7.heap.size = g := ⟨_, rfl⟩
  rw [hgy] at BY
  (try rw [hgy])
  clear hgy
  generalize w7.alloc (.cells #[.int .i64 t.seq, .int .i64 t.time, .slice at2 t.cs.length ct2] 24) = w8 at *
  go_wp2_with fail
  have ct := ftexts_any _ _ l l _ S1.out S2.out HL.out HL.out
  rw [decide_eq_true (rfl : l = l)] at ct
  refine ct.mono ?_; rintro e w9 ⟨rfl, b⟩
  replace L := hid (hnext L.out b)
  replace S1 := hid (S1.out.below b)
  replace S2 := hid (S2.out.below b)
  replace HT := hid (HT.out.below b)
  replace BX := hid (keepBlock BX.out b)
  replace HU := hid (HU.out.below b)
  replace BY := hid (keepBlock BY.out b)
  clear b ct
  have x0 := cell_of_row w9 gx 0 _ _ _ BX.out
  have x1 := cell_of_row w9 gx 1 _ _ _ BX.out
  have x2 := cell_of_row w9 gx 2 _ _ _ BX.out
  simp only [List.getElem?_toArray, List.getElem?_cons_zero, List.getElem?_cons_succ] at x0 x1 x2
  have y0 := cell_of_row w9 gy 0 _ _ _ BY.out
  have y1 := cell_of_row w9 gy 1 _ _ _ BY.out
  have y2 := cell_of_row w9 gy 2 _ _ _ BY.out
  simp only [List.getElem?_toArray, List.getElem?_cons_zero, List.getElem?_cons_succ] at y0 y1 y2
  go_wp2_with fail
  have cu := fsameR_any t t _ _ _ HT.out HU.out KT.out KT.out
  rw [decide_eq_true (rfl : t = t)] at cu
  refine cu.mono ?_; rintro e w10 ⟨rfl, b⟩
  replace L := hid (hnext L.out b)
  replace S1 := hid (S1.out.below b)
  replace S2 := hid (S2.out.below b)
  replace HT := hid (HT.out.below b)
  replace BX := hid (keepBlock BX.out b)
  replace HU := hid (HU.out.below b)
  replace BY := hid (keepBlock BY.out b)
  clear b cu x0 x1 x2 y0 y1 y2
  go_wp2_with fail
  refine (known_any _).mono ?_; rintro e w11 ⟨rfl, b⟩
  go_wp2
  go_ret
  exact ⟨rfl, hnext L.out b⟩
end Go.Proofs.Ytmmegicaeaifaaa
