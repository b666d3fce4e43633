/-
  The bytes of a query: the contract of the reference's Encode. Condition: sizes that can stand in memory.
-/
import Derived.Test.YtmcneelapghfcaaRe
namespace Go.Proofs.Ytmcneelapghfcaa
open Go.RowKit Pd Qu

theorem uintR_int (n : Int) (h0 : 0 ≤ n) (h1 : n ≤ 9223372036854775807) (w : World) : Calls Try.prog 41 #[.int .u64 n] w fun e w' => e = .returned (.string (bstr (Cd.enc n.toNat))) ∧ Below w.heap.size w w' := by
  obtain ⟨m, rfl⟩ : ∃ m : Nat, n = (m : Int) := ⟨n.toNat, by omega⟩
  exact uintR_exact m (by omega) w
theorem uintR_nat (n : Nat) (hn : n ≤ 9223372036854775807) (w : World) : Calls Try.prog 41 #[.int .u64 (n : Int)] w fun e w' => e = .returned (.string (bstr (Cd.enc n))) ∧ Below w.heap.size w w' := by
  have := uintR_int (n : Int) (by omega) (by omega) w
  rwa [Int.toNat_natCast] at this
set_option maxRecDepth 100000 in
set_option maxHeartbeats 6400000 in
theorem qencR_any (q : Q) (vk vw vc : Value) (w : World) (hq : QIn w q vk vw vc) (hok : Qok q) (hk : q.key.length ≤ 1000000) (hw : q.wh.length ≤ 1000000) (hc : q.cols.length ≤ 1000000) (ht : q.table.size ≤ 100000000) : Calls Try.prog 20 #[qv q vk vw vc] w fun e w' => e = .returned (.string (bstr (enc q))) ∧ Below w.heap.size w w' := by
  obtain ⟨ka, kc, rfl⟩ := vs_slc hq.1
  obtain ⟨wa, wc, rfl⟩ := hq.2.1.slc
  obtain ⟨ca, cc, rfl⟩ := hq.2.2.slc
  obtain ⟨kind, table, key, t, v, fr, to, wh, cols, limit, desc⟩ := q
  have L := hid (hba w (.cells #[.int .i64 kind, .string table, .slice ka key.length kc, .int .i64 t, .int .i64 v, .int .i64 fr, .int .i64 to, .slice wa wh.length wc, .slice ca cols.length cc, .int .i64 limit, .bool desc] 39))
  have BX := hid (BQ.new w 39 ⟨kind, table, key, t, v, fr, to, wh, cols, limit, desc⟩ (.slice ka key.length kc) (.slice wa wh.length wc) (.slice ca cols.length cc))
  have HK := hid (hq.1.below L.out)
  have HW := hid (hq.2.1.below L.out)
  have HC := hid (hq.2.2.below L.out)
  have HOK := hid hok
  clear hq
  unfold qv
  simp only at HK HW HC hk hw hc ht ⊢
  have cr := hid (fun W h => rowR_any (.slice ka key.length kc) key W h hok.key hk)
  clear hok
  obtain ⟨c0, c1, c2, c3, c4, c5, c6, c7, c8, c9, c10, cl⟩ := BX.out.cells
  simp only at c0 c1 c2 c3 c4 c5 c6 c7 c8 c9 c10
  clear cl
  by_cases h0 : 0 ≤ kind
  case neg =>
    have h0' : kind < 0 := by omega
    have HR := hid (enc_kind (q := ⟨kind, table, key, t, v, fr, to, wh, cols, limit, desc⟩) h0)
    clear h0
    go_enter Try.func20, Try.ntmps20
    go_wp2_with fail
    refine (cr.out _ HK.out).mono ?_; rintro e w1 ⟨rfl, b⟩
    replace L := hid (hnext L.out b)
    replace BX := hid (BX.out.keep b)
    replace HK := hid (HK.out.below b)
    replace HW := hid (HW.out.below b)
    replace HC := hid (HC.out.below b)
    clear b
    clear c0 c1 c2 c3 c4 c5 c6 c7 c8 c9 c10
    obtain ⟨c0, c1, c2, c3, c4, c5, c6, c7, c8, c9, c10, cl⟩ := BX.out.cells
    simp only at c0 c1 c2 c3 c4 c5 c6 c7 c8 c9 c10
    clear cl
    go_wp2_with fail
    go_ret
    rw [HR.out]
    exact ⟨rfl, L.out⟩
  have h0' : ¬ kind < 0 := by omega
  have h0'' : decide (kind < 0) = false := decide_eq_false h0'
  cases hkr : key.all Cd.V.right with
  | false =>
    have HR := hid (enc_key (q := ⟨kind, table, key, t, v, fr, to, wh, cols, limit, desc⟩) hkr)
    have p1 : ((bstr (Cd.row key)).toList == []) = true := by rw [bempty]; exact decide_eq_true (row_empty hkr)
    have p2 : (bstr (Cd.row key)).toList.isEmpty = true := by rw [bempty']; exact decide_eq_true (row_empty hkr)
    generalize bstr (Cd.row key) = K at *
    clear h0 hkr
    go_enter Try.func20, Try.ntmps20
    go_wp2_with fail
    refine (cr.out _ HK.out).mono ?_; rintro e w1 ⟨rfl, b⟩
    replace L := hid (hnext L.out b)
    replace BX := hid (BX.out.keep b)
    replace HK := hid (HK.out.below b)
    replace HW := hid (HW.out.below b)
    replace HC := hid (HC.out.below b)
    clear b
    clear c0 c1 c2 c3 c4 c5 c6 c7 c8 c9 c10
    obtain ⟨c0, c1, c2, c3, c4, c5, c6, c7, c8, c9, c10, cl⟩ := BX.out.cells
    simp only at c0 c1 c2 c3 c4 c5 c6 c7 c8 c9 c10
    clear cl
    go_wp2_with fail
    go_ret
    rw [HR.out]
    exact ⟨rfl, L.out⟩
  | true =>
    have p1 : ((bstr (Cd.row key)).toList == []) = false := by rw [bempty]; exact decide_eq_false (row_full hkr)
    have p2 : (bstr (Cd.row key)).toList.isEmpty = false := by rw [bempty']; exact decide_eq_false (row_full hkr)
    by_cases hm1 : key.length ≤ 1000
    case neg =>
      have hm1' : (1000 : Int) < (key.length : Int) := by omega
      have HR := hid (enc_len (q := ⟨kind, table, key, t, v, fr, to, wh, cols, limit, desc⟩) (fun h => hm1 h.1))
      generalize bstr (Cd.row key) = K at *
      clear h0 hkr
      go_enter Try.func20, Try.ntmps20
      go_wp2_with fail
      refine (cr.out _ HK.out).mono ?_; rintro e w1 ⟨rfl, b⟩
      replace L := hid (hnext L.out b)
      replace BX := hid (BX.out.keep b)
      replace HK := hid (HK.out.below b)
      replace HW := hid (HW.out.below b)
      replace HC := hid (HC.out.below b)
      clear b
      clear c0 c1 c2 c3 c4 c5 c6 c7 c8 c9 c10
      obtain ⟨c0, c1, c2, c3, c4, c5, c6, c7, c8, c9, c10, cl⟩ := BX.out.cells
      simp only at c0 c1 c2 c3 c4 c5 c6 c7 c8 c9 c10
      clear cl
      go_wp2_with fail
      go_ret
      rw [HR.out]
      exact ⟨rfl, L.out⟩
    have hm1' : ¬ (1000 : Int) < (key.length : Int) := by omega
    have hm1'' : decide ((1000 : Int) < (key.length : Int)) = false := decide_eq_false hm1'
    by_cases hm2 : wh.length ≤ 1000
    case neg =>
      have hm2' : (1000 : Int) < (wh.length : Int) := by omega
      have HR := hid (enc_len (q := ⟨kind, table, key, t, v, fr, to, wh, cols, limit, desc⟩) (fun h => hm2 h.2.1))
      generalize bstr (Cd.row key) = K at *
      clear h0 hkr
      go_enter Try.func20, Try.ntmps20
      go_wp2_with fail
      refine (cr.out _ HK.out).mono ?_; rintro e w1 ⟨rfl, b⟩
      replace L := hid (hnext L.out b)
      replace BX := hid (BX.out.keep b)
      replace HK := hid (HK.out.below b)
      replace HW := hid (HW.out.below b)
      replace HC := hid (HC.out.below b)
      clear b
      clear c0 c1 c2 c3 c4 c5 c6 c7 c8 c9 c10
      obtain ⟨c0, c1, c2, c3, c4, c5, c6, c7, c8, c9, c10, cl⟩ := BX.out.cells
      simp only at c0 c1 c2 c3 c4 c5 c6 c7 c8 c9 c10
      clear cl
      go_wp2_with fail
      go_ret
      rw [HR.out]
      exact ⟨rfl, L.out⟩
    have hm2' : ¬ (1000 : Int) < (wh.length : Int) := by omega
    have hm2'' : decide ((1000 : Int) < (wh.length : Int)) = false := decide_eq_false hm2'
    by_cases hm3 : cols.length ≤ 1000
    case neg =>
      have hm3' : (1000 : Int) < (cols.length : Int) := by omega
      have HR := hid (enc_len (q := ⟨kind, table, key, t, v, fr, to, wh, cols, limit, desc⟩) (fun h => hm3 h.2.2))
      generalize bstr (Cd.row key) = K at *
      clear h0 hkr
      go_enter Try.func20, Try.ntmps20
      go_wp2_with fail
      refine (cr.out _ HK.out).mono ?_; rintro e w1 ⟨rfl, b⟩
      replace L := hid (hnext L.out b)
      replace BX := hid (BX.out.keep b)
      replace HK := hid (HK.out.below b)
      replace HW := hid (HW.out.below b)
      replace HC := hid (HC.out.below b)
      clear b
      clear c0 c1 c2 c3 c4 c5 c6 c7 c8 c9 c10
      obtain ⟨c0, c1, c2, c3, c4, c5, c6, c7, c8, c9, c10, cl⟩ := BX.out.cells
      simp only at c0 c1 c2 c3 c4 c5 c6 c7 c8 c9 c10
      clear cl
      go_wp2_with fail
      go_ret
      rw [HR.out]
      exact ⟨rfl, L.out⟩
    have hm3' : ¬ (1000 : Int) < (cols.length : Int) := by omega
    have hm3'' : decide ((1000 : Int) < (cols.length : Int)) = false := decide_eq_false hm3'
    have hm : key.length ≤ 1000 ∧ wh.length ≤ 1000 ∧ cols.length ≤ 1000 := ⟨hm1, hm2, hm3⟩
    obtain ⟨kn, rfl⟩ : ∃ kn : Nat, kind = (kn : Int) := ⟨kind.toNat, by omega⟩
    have hkn : kn < 9223372036854775808 := by have := HOK.out.kind.2; simp only at this; omega
    have wk : IntKind.u64.wrap (kn : Int) = (kn : Int) := by rw [IntKind.wrap_u64]; omega
    have wkw : IntKind.u64.wrap (wh.length : Int) = (wh.length : Int) := by rw [IntKind.wrap_u64]; omega
    have hKz : (bstr (Cd.row key)).size ≤ 5000010 := by have := row_length key; rw [bstr_size]; omega
    obtain ⟨K, hK⟩ : ∃ K, bstr (Cd.row key) = K := ⟨_, rfl⟩
    have CU := hid (fun W => uintR_nat kn (by omega) W)
    have CTX := hid (fun W => textR_any table (by omega) W)
    have CUW := hid (fun W => uintR_nat wh.length (by omega) W)
    have hA1 : (bstr (Cd.enc kn)).size ≤ 10 := (Cd.enc_length kn).2
    have hA2 : (bstr (Cd.text table)).size ≤ 100000010 := by have := text_length table; rw [bstr_size]; omega
    have hUW : (bstr (Cd.enc wh.length)).size ≤ 10 := (Cd.enc_length wh.length).2
    have HM := hid hm
    have HKR := hid hkr
    clear hm hm1 hm2 hm3 h0 hkr
    rw [hK] at cr p1 p2 hKz
    have HKK := hid hK
    clear hK
    have hnt := HOK.out.t
    have Ct := hid (fun W => intR_any t hnt.1 hnt.2 W)
    have hIt : (bstr (Cd.enc (Cd.zig t))).size ≤ 10 := (Cd.enc_length _).2
    clear hnt
    have hnv := HOK.out.v
    have Cv := hid (fun W => intR_any v hnv.1 hnv.2 W)
    have hIv : (bstr (Cd.enc (Cd.zig v))).size ≤ 10 := (Cd.enc_length _).2
    clear hnv
    have hnfr := HOK.out.fr
    have Cfr := hid (fun W => intR_any fr hnfr.1 hnfr.2 W)
    have hIfr : (bstr (Cd.enc (Cd.zig fr))).size ≤ 10 := (Cd.enc_length _).2
    clear hnfr
    have hnto := HOK.out.to
    have Cto := hid (fun W => intR_any to hnto.1 hnto.2 W)
    have hIto : (bstr (Cd.enc (Cd.zig to))).size ≤ 10 := (Cd.enc_length _).2
    clear hnto
    obtain ⟨A1, hA1e⟩ : ∃ A1, bstr (Cd.enc kn) = A1 := ⟨_, rfl⟩
    obtain ⟨A2, hA2e⟩ : ∃ A2, bstr (Cd.text table) = A2 := ⟨_, rfl⟩
    obtain ⟨UW, hUWe⟩ : ∃ UW, bstr (Cd.enc wh.length) = UW := ⟨_, rfl⟩
    rw [hA1e] at CU hA1
    rw [hA2e] at CTX hA2
    rw [hUWe] at CUW hUW
    have HA1 := hid hA1e
    have HA2 := hid hA2e
    have HUW := hid hUWe
    clear hA1e hA2e hUWe
    obtain ⟨It, et⟩ : ∃ I, bstr (Cd.enc (Cd.zig t)) = I := ⟨_, rfl⟩
    rw [et] at Ct hIt
    have HIt := hid et
    clear et
    obtain ⟨Iv, ev⟩ : ∃ I, bstr (Cd.enc (Cd.zig v)) = I := ⟨_, rfl⟩
    rw [ev] at Cv hIv
    have HIv := hid ev
    clear ev
    obtain ⟨Ifr, efr⟩ : ∃ I, bstr (Cd.enc (Cd.zig fr)) = I := ⟨_, rfl⟩
    rw [efr] at Cfr hIfr
    have HIfr := hid efr
    clear efr
    obtain ⟨Ito, eto⟩ : ∃ I, bstr (Cd.enc (Cd.zig to)) = I := ⟨_, rfl⟩
    rw [eto] at Cto hIto
    have HIto := hid eto
    clear eto
    have z0 : ¬ 9223372036854775807 < A1.size + A2.size := by omega
    have z1 : ¬ 9223372036854775807 < A1.size + A2.size + K.size := by omega
    have z2 : ¬ 9223372036854775807 < A1.size + A2.size + K.size + It.size := by omega
    have z3 : ¬ 9223372036854775807 < A1.size + A2.size + K.size + It.size + Iv.size := by omega
    have z4 : ¬ 9223372036854775807 < A1.size + A2.size + K.size + It.size + Iv.size + Ifr.size := by omega
    have z5 : ¬ 9223372036854775807 < A1.size + A2.size + K.size + It.size + Iv.size + Ifr.size + Ito.size := by omega
    have z6 : ¬ 9223372036854775807 < A1.size + A2.size + K.size + It.size + Iv.size + Ifr.size + Ito.size + UW.size := by omega
    go_enter Try.func20, Try.ntmps20
    go_wp2_with fail
    refine (cr.out _ HK.out).mono ?_; rintro e w1 ⟨rfl, b⟩
    replace L := hid (hnext L.out b)
    replace BX := hid (BX.out.keep b)
    replace HK := hid (HK.out.below b)
    replace HW := hid (HW.out.below b)
    replace HC := hid (HC.out.below b)
    clear b
    clear c0 c1 c2 c3 c4 c5 c6 c7 c8 c9 c10
    obtain ⟨c0, c1, c2, c3, c4, c5, c6, c7, c8, c9, c10, cl⟩ := BX.out.cells
    simp only at c0 c1 c2 c3 c4 c5 c6 c7 c8 c9 c10
    clear cl
    go_wp2_with fail
    obtain ⟨w20, hw20⟩ : ∃ w20, (w1).drew = w20 := ⟨_, rfl⟩
    have hd20 : Below (w1).heap.size (w1) w20 := hw20 ▸ (Below.refl _ _).drew
    have mk20 : ∀ W, Below w20.heap.size w20 W → Below w20.heap.size w20 W ∧ W.cell? ⟨w.heap.size, 0, none⟩ = some (.int .i64 (kn : Int)) ∧ W.cell? ⟨w.heap.size, 1, none⟩ = some (.string table) ∧ W.cell? ⟨w.heap.size, 3, none⟩ = some (.int .i64 t) ∧ W.cell? ⟨w.heap.size, 4, none⟩ = some (.int .i64 v) ∧ W.cell? ⟨w.heap.size, 5, none⟩ = some (.int .i64 fr) ∧ W.cell? ⟨w.heap.size, 6, none⟩ = some (.int .i64 to) ∧ W.cell? ⟨w.heap.size, 7, none⟩ = some (.slice wa wh.length wc) := fun W h => ⟨h, hkeep (hkeep c0 hd20) h, hkeep (hkeep c1 hd20) h, hkeep (hkeep c3 hd20) h, hkeep (hkeep c4 hd20) h, hkeep (hkeep c5 hd20) h, hkeep (hkeep c6 hd20) h, hkeep (hkeep c7 hd20) h⟩
    clear c0 c1 c2 c3 c4 c5 c6 c7 c8 c9 c10
    refine wp_region_held_drew (S := (fun W => Below w20.heap.size w20 W ∧ W.cell? ⟨w.heap.size, 0, none⟩ = some (.int .i64 (kn : Int)) ∧ W.cell? ⟨w.heap.size, 1, none⟩ = some (.string table) ∧ W.cell? ⟨w.heap.size, 3, none⟩ = some (.int .i64 t) ∧ W.cell? ⟨w.heap.size, 4, none⟩ = some (.int .i64 v) ∧ W.cell? ⟨w.heap.size, 5, none⟩ = some (.int .i64 fr) ∧ W.cell? ⟨w.heap.size, 6, none⟩ = some (.int .i64 to) ∧ W.cell? ⟨w.heap.size, 7, none⟩ = some (.slice wa wh.length wc))) (by kernel_rfl) (by rw [hw20]; exact mk20 _ (Below.refl _ _)) (fun hS20 => ?_)
    rw [hw20] at hS20 ⊢
    clear hw20
    refine wT 0 hS20 ?_
    refine wT 1 hS20 ?_
    refine wT 2 hS20 ?_
    refine wT 4 hS20 ?_
    refine wT 5 hS20 ?_
    refine wT 8 hS20 ?_
    refine wT 10 hS20 ?_
    refine wT 11 hS20 ?_
    refine wT 14 hS20 ?_
    refine wT 15 hS20 ?_
    refine wT 18 hS20 ?_
    refine wT 19 hS20 ?_
    refine wT 20 hS20 ?_
    refine wT 23 hS20 ?_
    refine wT 24 hS20 ?_
    refine wT 25 hS20 ?_
    refine wT 28 hS20 ?_
    refine wT 29 hS20 ?_
    refine wT 30 hS20 ?_
    refine wT 31 hS20 ?_
    refine wpAnyH_ready (rs := [3]) (by kernel_rfl) (by simp) ?_
    refine wC (fun K hK => ?_) AllReadyH.nil
    go_simp
    refine (CU.out _).mono ?_; rintro e w21 ⟨rfl, hb21⟩
    go_wp2_with fail
    refine hK.out _ _ (mk20 _ (hnext hS20.1 hb21)) (fun hS21 => ?_)
    clear hK K
    (try simp only [Act.put, List.setIfInBounds_toArray, List.set_cons_zero, List.set_cons_succ])
    clear hb21 hS20
    refine wpAnyH_ready (rs := [6]) (by kernel_rfl) (by simp) ?_
    refine wC (fun K hK => ?_) AllReadyH.nil
    go_simp
    refine (CTX.out _).mono ?_; rintro e w22 ⟨rfl, hb22⟩
    go_wp2_with fail
    refine hK.out _ _ (mk20 _ (hnext hS21.1 hb22)) (fun hS22 => ?_)
    clear hK K
    (try simp only [Act.put, List.setIfInBounds_toArray, List.set_cons_zero, List.set_cons_succ])
    clear hb22 hS21
    refine wT 7 hS22 ?_
    refine wT 9 hS22 ?_
    refine wpAnyH_ready (rs := [12]) (by kernel_rfl) (by simp) ?_
    refine wC (fun K hK => ?_) AllReadyH.nil
    go_simp
    refine (Ct.out _).mono ?_; rintro e w23 ⟨rfl, hb23⟩
    go_wp2_with fail
    refine hK.out _ _ (mk20 _ (hnext hS22.1 hb23)) (fun hS23 => ?_)
    clear hK K
    (try simp only [Act.put, List.setIfInBounds_toArray, List.set_cons_zero, List.set_cons_succ])
    clear hb23 hS22
    refine wT 13 hS23 ?_
    refine wpAnyH_ready (rs := [16]) (by kernel_rfl) (by simp) ?_
    refine wC (fun K hK => ?_) AllReadyH.nil
    go_simp
    refine (Cv.out _).mono ?_; rintro e w24 ⟨rfl, hb24⟩
    go_wp2_with fail
    refine hK.out _ _ (mk20 _ (hnext hS23.1 hb24)) (fun hS24 => ?_)
    clear hK K
    (try simp only [Act.put, List.setIfInBounds_toArray, List.set_cons_zero, List.set_cons_succ])
    clear hb24 hS23
    refine wT 17 hS24 ?_
    refine wpAnyH_ready (rs := [21]) (by kernel_rfl) (by simp) ?_
    refine wC (fun K hK => ?_) AllReadyH.nil
    go_simp
    refine (Cfr.out _).mono ?_; rintro e w25 ⟨rfl, hb25⟩
    go_wp2_with fail
    refine hK.out _ _ (mk20 _ (hnext hS24.1 hb25)) (fun hS25 => ?_)
    clear hK K
    (try simp only [Act.put, List.setIfInBounds_toArray, List.set_cons_zero, List.set_cons_succ])
    clear hb25 hS24
    refine wT 22 hS25 ?_
    refine wpAnyH_ready (rs := [26]) (by kernel_rfl) (by simp) ?_
    refine wC (fun K hK => ?_) AllReadyH.nil
    go_simp
    refine (Cto.out _).mono ?_; rintro e w26 ⟨rfl, hb26⟩
    go_wp2_with fail
    refine hK.out _ _ (mk20 _ (hnext hS25.1 hb26)) (fun hS26 => ?_)
    clear hK K
    (try simp only [Act.put, List.setIfInBounds_toArray, List.set_cons_zero, List.set_cons_succ])
    clear hb26 hS25
    refine wT 27 hS26 ?_
    refine wpAnyH_ready (rs := [32]) (by kernel_rfl) (by simp) ?_
    refine wC (fun K hK => ?_) AllReadyH.nil
    go_simp
    refine (CUW.out _).mono ?_; rintro e w27 ⟨rfl, hb27⟩
    go_wp2_with fail
    refine hK.out _ _ (mk20 _ (hnext hS26.1 hb27)) (fun hS27 => ?_)
    clear hK K
    (try simp only [Act.put, List.setIfInBounds_toArray, List.set_cons_zero, List.set_cons_succ])
    clear hb27 hS26
    refine wT 33 hS27 ?_
    refine wT 34 hS27 ?_
    refine wpAnyH_done (by kernel_rfl) ?_ _
    have b := hnext hd20 hS27.1
    replace L := hid (hnext L.out b)
    replace BX := hid (BX.out.keep b)
    replace HK := hid (HK.out.below b)
    replace HW := hid (HW.out.below b)
    replace HC := hid (HC.out.below b)
    clear b
    clear hS27 hd20 mk20
    obtain ⟨c0, c1, c2, c3, c4, c5, c6, c7, c8, c9, c10, cl⟩ := BX.out.cells
    simp only at c0 c1 c2 c3 c4 c5 c6 c7 c8 c9 c10
    clear cl
    have HT : Hid (A1 ++ A2 ++ K ++ It ++ Iv ++ Ifr ++ Ito ++ UW = bstr (Qu.headL ⟨(kn : Int), table, key, t, v, fr, to, wh, cols, limit, desc⟩ ++ spotL ⟨(kn : Int), table, key, t, v, fr, to, wh, cols, limit, desc⟩ ++ Cd.enc wh.length)) := by
      show _ = _
      rw [← HA1.out, ← HA2.out, ← HKK.out, ← HUW.out, ← HIt.out, ← HIv.out, ← HIfr.out, ← HIto.out]
      simp only [bstr_append]
      congr 1
      simp [Qu.headL, spotL, numL, List.append_assoc]
    have hZl : (Qu.headL ⟨(kn : Int), table, key, t, v, fr, to, wh, cols, limit, desc⟩ ++ spotL ⟨(kn : Int), table, key, t, v, fr, to, wh, cols, limit, desc⟩ ++ Cd.enc wh.length).length ≤ 200000110 := by
      rw [← bstr_size, ← HT.out]
      simp only [ByteArray.size_append]; omega
    clear hA1 hA2 hKz hUW hIt hIv hIfr hIto z0 z1 z2 z3 z4 z5 z6 HA1 HA2 HKK HUW HIt HIv HIfr HIto
    generalize A1 ++ A2 ++ K ++ It ++ Iv ++ Ifr ++ Ito ++ UW = T at *
    obtain ⟨Z, hZ⟩ : ∃ Z, Qu.headL ⟨(kn : Int), table, key, t, v, fr, to, wh, cols, limit, desc⟩ ++ spotL ⟨(kn : Int), table, key, t, v, fr, to, wh, cols, limit, desc⟩ ++ Cd.enc wh.length = Z := ⟨_, rfl⟩
    rw [hZ] at HT hZl
    have HZZ := hid hZ
    clear hZ
    go_wp2_with fail
    go_loopw [5, 4] (fun i s wr => ∃ k : Nat, k ≤ wh.length ∧ i = .int .i64 (k : Int) ∧ s = .string (bstr (Z ++ (wh.take k).flatMap nodeL)) ∧ Hid (∀ j (hj : j < wh.length), j < k → (wh[j]).v.right = true) ∧ Below w27.heap.size w27 wr) (fun i _ _ => wh.length - (intOf i).toNat)
    case atStart => exact ⟨0, by omega, rfl, by rw [HT.out]; simp, fun j _ hj => absurd hj (Nat.not_lt_zero j), Below.refl _ _⟩
    case round =>
      obtain ⟨k, hkw, rfl, rfl, hall, b⟩ := hrel
      obtain ⟨w7, rfl⟩ : ∃ w7 : World, w7 = wr := ⟨_, rfl⟩
      have hk0 : (0 : Int) ≤ (k : Int) := by omega
      clear c0 c1 c2 c3 c4 c5 c6 c7 c8 c9 c10
      have LF := hid (hnext L.out b)
      have L7 := hid b
      replace L := hid (hnext L.out b)
      replace BX := hid (BX.out.keep b)
      replace HK := hid (HK.out.below b)
      replace HW := hid (HW.out.below b)
      replace HC := hid (HC.out.below b)
      clear b
      obtain ⟨c0, c1, c2, c3, c4, c5, c6, c7, c8, c9, c10, cl⟩ := BX.out.cells
      simp only at c0 c1 c2 c3 c4 c5 c6 c7 c8 c9 c10
      clear cl
      by_cases hkl : k < wh.length
      · have hkl' : (k : Int) < (wh.length : Int) := by omega
        obtain ⟨_, _, en, hnn⟩ := HW.out
        cases en
        obtain ⟨g, off, rfl, q0, q1, q2, q3, q4, q5⟩ := hnn k hkl
        have hnk := HOK.out.wh _ (List.getElem_mem hkl)
        have HNX := hid (node_next Z wh k hkl)
        have hXl : (Z ++ (wh.take k).flatMap nodeL).length ≤ 210000000 := by
          rw [List.length_append]
          have h2 := nodes_len (wh.take k)
          have h3 : (wh.take k).length ≤ 1000 := by rw [List.length_take]; have := HM.out; omega
          omega
        have HNO := hid (enc_no (q := ⟨(kn : Int), table, key, t, v, fr, to, wh, cols, limit, desc⟩) hkl)
        have HAL := hid (fun (h : (wh[k]).v.right = true) j (hj : j < wh.length) (hjk : j < k + 1) => (Nat.lt_succ_iff_lt_or_eq.1 hjk).elim (fun h2 => hall.out j hj h2) (fun h2 => (show (wh[j]).v.right = true by subst h2; exact h)))
        generalize hx : wh[k] = x at q0 q1 q2 q3 q4 q5 hnk HNX HAL
        have HNO2 : Hid (x.v.right = false → enc ⟨(kn : Int), table, key, t, v, fr, to, wh, cols, limit, desc⟩ = []) := fun h => HNO.out (by rw [hx]; exact h)
        clear hx hnn HNO
        obtain ⟨op, col, ⟨xk, xn, xb, xs⟩⟩ := x
        simp only at q0 q1 q2 q3 q4 q5
        obtain ⟨ho, hco, hvk⟩ := hnk
        have b8 := hba w7 (.cells #[.int .i64 op, .int .i64 col, .int .i64 xk, .int .i64 xn, .int .u64 (xb : Int), .string xs] 83)
        have L8a := hid (hnext L7.out b8)
        have NX := hid (heap_alloc_new w7 (.cells #[.int .i64 op, .int .i64 col, .int .i64 xk, .int .i64 xn, .int .u64 (xb : Int), .string xs] 83))
        clear b8
        obtain ⟨X, hX⟩ : ∃ X, Z ++ (wh.take k).flatMap nodeL = X := ⟨_, rfl⟩
        rw [hX] at HNX hXl
        rw [hX]
        clear hX
        have crw := fun (W : World) (h : VsAt W (.slice (some ⟨w7.heap.size + 1, 0, none⟩) 1 1) [⟨xk, xn, xb, xs⟩]) => rowR_any (.slice (some ⟨w7.heap.size + 1, 0, none⟩) 1 1) [⟨xk, xn, xb, xs⟩] W h (fun y hy => by rw [List.mem_singleton.1 hy]; exact hvk) (show 1 ≤ 1000000 by decide)
        have hv1 : VsAt ((w7.alloc (.cells #[.int .i64 op, .int .i64 col, .int .i64 xk, .int .i64 xn, .int .u64 (xb : Int), .string xs] 83)).alloc (.cells #[.int .i64 xk, .int .i64 xn, .int .u64 (xb : Int), .string xs] 36)) (.slice (some ⟨w7.heap.size + 1, 0, none⟩) 1 1) [⟨xk, xn, xb, xs⟩] := by
          have hh := heap_alloc_new (w7.alloc (.cells #[.int .i64 op, .int .i64 col, .int .i64 xk, .int .i64 xn, .int .u64 (xb : Int), .string xs] 83)) (.cells #[.int .i64 xk, .int .i64 xn, .int .u64 (xb : Int), .string xs] 36)
          rw [show (w7.alloc (.cells #[.int .i64 op, .int .i64 col, .int .i64 xk, .int .i64 xn, .int .u64 (xb : Int), .string xs] 83)).heap.size = w7.heap.size + 1 by simp] at hh
          exact vs_one (cell_of_row _ _ 0 _ _ _ hh) (cell_of_row _ _ 1 _ _ _ hh) (cell_of_row _ _ 2 _ _ _ hh) (cell_of_row _ _ 3 _ _ _ hh)
        have HV1 := hid hv1
        have b9 := hba (w7.alloc (.cells #[.int .i64 op, .int .i64 col, .int .i64 xk, .int .i64 xn, .int .u64 (xb : Int), .string xs] 83)) (.cells #[.int .i64 xk, .int .i64 xn, .int .u64 (xb : Int), .string xs] 36)
        have L8 := hid (hnext L8a.out b9)
        have NX2 := hid (keepBlock NX.out b9)
        clear hv1 b9 NX L8a
        have hrw : ([(⟨xk, xn, xb, xs⟩ : Cd.V)].all Cd.V.right) = Va.right xk xn xb xs := by simp [Cd.V.right]
        cases hr : Va.right xk xn xb xs with
        | false =>
          have pz := row_empty (hrw.trans hr)
          have r1 : ((bstr (Cd.row [⟨xk, xn, xb, xs⟩])).toList == []) = true := by rw [bempty]; exact decide_eq_true pz
          have r2 : (bstr (Cd.row [⟨xk, xn, xb, xs⟩])).toList.isEmpty = true := by rw [bempty']; exact decide_eq_true pz
          generalize bstr (Cd.row [⟨xk, xn, xb, xs⟩]) = R1 at *
          have CRW := hid crw
          have HR := hid (HNO2.out hr)
          clear crw hr hrw pz HNX HAL HNO2 hXl
          go_wp2_with fail
          refine (CRW.out _ HV1.out).mono ?_; rintro e w9 ⟨rfl, b⟩
          have LL := hid (hnext (hnext LF.out (hnext (hba w7 (.cells #[.int .i64 op, .int .i64 col, .int .i64 xk, .int .i64 xn, .int .u64 (xb : Int), .string xs] 83)) (hba (w7.alloc (.cells #[.int .i64 op, .int .i64 col, .int .i64 xk, .int .i64 xn, .int .u64 (xb : Int), .string xs] 83)) (.cells #[.int .i64 xk, .int .i64 xn, .int .u64 (xb : Int), .string xs] 36)))) b)
          clear b
          go_wp2_with fail
          go_ret
          rw [HR.out]
          exact ⟨rfl, LL.out⟩
        | true =>
          have pz := row_full (hrw.trans hr)
          have r1 : ((bstr (Cd.row [⟨xk, xn, xb, xs⟩])).toList == []) = false := by rw [bempty]; exact decide_eq_false pz
          have r2 : (bstr (Cd.row [⟨xk, xn, xb, xs⟩])).toList.isEmpty = false := by rw [bempty']; exact decide_eq_false pz
          have HA := hid (HAL.out hr)
          have CI1 := hid (fun W => intR_any op ho.1 ho.2 W)
          have CI2 := hid (fun W => intR_any col hco.1 hco.2 W)
          have HX : Hid (bstr X ++ bstr (Cd.enc (Cd.zig op)) ++ bstr (Cd.enc (Cd.zig col)) ++ bstr (Cd.row [⟨xk, xn, xb, xs⟩]) = bstr (X ++ nodeL ⟨op, col, ⟨xk, xn, xb, xs⟩⟩)) := by
            show _ = _
            rw [bstr_append, bstr_append, bstr_append]
            congr 1
            simp [nodeL, numL, List.append_assoc]
          have i1 : (bstr (Cd.enc (Cd.zig op))).size ≤ 10 := (Cd.enc_length _).2
          have i2 : (bstr (Cd.enc (Cd.zig col))).size ≤ 10 := (Cd.enc_length _).2
          have i3 : (bstr (Cd.row [⟨xk, xn, xb, xs⟩])).size ≤ 5010 := by have := row_length [(⟨xk, xn, xb, xs⟩ : Cd.V)]; rw [bstr_size]; simpa using this
          have i4 : (bstr X).size ≤ 210000000 := hXl
          generalize bstr (Cd.enc (Cd.zig op)) = I1 at *
          generalize bstr (Cd.enc (Cd.zig col)) = I2 at *
          generalize bstr (Cd.row [⟨xk, xn, xb, xs⟩]) = R1 at *
          generalize bstr X = XS at *
          have z4 : ¬ 9223372036854775807 < XS.size + I1.size := by omega
          have z5 : ¬ 9223372036854775807 < XS.size + I1.size + I2.size := by omega
          have z6 : ¬ 9223372036854775807 < XS.size + I1.size + I2.size + R1.size := by omega
          have CRW := hid crw
          clear crw hr hrw pz HAL HNO2 i1 i2 i3 i4 hXl ho hco hvk
          go_wp2_with fail
          refine (CRW.out _ HV1.out).mono ?_; rintro e w9 ⟨rfl, b⟩
          have L9 := hid (hnext L8.out b)
          obtain ⟨gx, hgx⟩ : ∃ gx, w7.heap.size = gx := ⟨_, rfl⟩
          rw [hgx] at NX2
          (try rw [hgx])
          have n0 := hkeep (cell_of_row _ gx 0 _ _ _ NX2.out) b
          have n1 := hkeep (cell_of_row _ gx 1 _ _ _ NX2.out) b
          have n2 := hkeep (cell_of_row _ gx 2 _ _ _ NX2.out) b
          have n3 := hkeep (cell_of_row _ gx 3 _ _ _ NX2.out) b
          have n4 := hkeep (cell_of_row _ gx 4 _ _ _ NX2.out) b
          have n5 := hkeep (cell_of_row _ gx 5 _ _ _ NX2.out) b
          clear b NX2 hgx HV1 CRW q0 q1 q2 q3 q4 q5
          clear c0 c1 c2 c3 c4 c5 c6 c7 c8 c9 c10
          go_wp2_with fail
          obtain ⟨w20, hw20⟩ : ∃ w20, (w9).drew = w20 := ⟨_, rfl⟩
          have hd20 : Below (w9).heap.size (w9) w20 := hw20 ▸ (Below.refl _ _).drew
          have mk20 : ∀ W, Below w20.heap.size w20 W → Below w20.heap.size w20 W ∧ W.cell? ⟨gx, 0, none⟩ = some (.int .i64 op) ∧ W.cell? ⟨gx, 1, none⟩ = some (.int .i64 col) ∧ W.cell? ⟨gx, 2, none⟩ = some (.int .i64 xk) ∧ W.cell? ⟨gx, 3, none⟩ = some (.int .i64 xn) ∧ W.cell? ⟨gx, 4, none⟩ = some (.int .u64 (xb : Int)) ∧ W.cell? ⟨gx, 5, none⟩ = some (.string xs) := fun W h => ⟨h, hkeep (hkeep n0 hd20) h, hkeep (hkeep n1 hd20) h, hkeep (hkeep n2 hd20) h, hkeep (hkeep n3 hd20) h, hkeep (hkeep n4 hd20) h, hkeep (hkeep n5 hd20) h⟩
          refine wp_region_held_drew (S := (fun W => Below w20.heap.size w20 W ∧ W.cell? ⟨gx, 0, none⟩ = some (.int .i64 op) ∧ W.cell? ⟨gx, 1, none⟩ = some (.int .i64 col) ∧ W.cell? ⟨gx, 2, none⟩ = some (.int .i64 xk) ∧ W.cell? ⟨gx, 3, none⟩ = some (.int .i64 xn) ∧ W.cell? ⟨gx, 4, none⟩ = some (.int .u64 (xb : Int)) ∧ W.cell? ⟨gx, 5, none⟩ = some (.string xs))) (by kernel_rfl) (by rw [hw20]; exact mk20 _ (Below.refl _ _)) (fun hS20 => ?_)
          rw [hw20] at hS20 ⊢
          clear hw20
          refine wT 0 hS20 ?_
          refine wT 1 hS20 ?_
          refine wT 2 hS20 ?_
          refine wT 5 hS20 ?_
          refine wT 6 hS20 ?_
          refine wT 9 hS20 ?_
          refine wpAnyH_ready (rs := [3]) (by kernel_rfl) (by simp) ?_
          refine wC (fun K hK => ?_) AllReadyH.nil
          go_simp
          refine (CI1.out _).mono ?_; rintro e w21 ⟨rfl, hb21⟩
          go_wp2_with fail
          refine hK.out _ _ (mk20 _ (hnext hS20.1 hb21)) (fun hS21 => ?_)
          clear hK K
          (try simp only [Act.put, List.setIfInBounds_toArray, List.set_cons_zero, List.set_cons_succ])
          clear hb21 hS20
          refine wT 4 hS21 ?_
          refine wpAnyH_ready (rs := [7]) (by kernel_rfl) (by simp) ?_
          refine wC (fun K hK => ?_) AllReadyH.nil
          go_simp
          refine (CI2.out _).mono ?_; rintro e w22 ⟨rfl, hb22⟩
          go_wp2_with fail
          refine hK.out _ _ (mk20 _ (hnext hS21.1 hb22)) (fun hS22 => ?_)
          clear hK K
          (try simp only [Act.put, List.setIfInBounds_toArray, List.set_cons_zero, List.set_cons_succ])
          clear hb22 hS21
          refine wT 8 hS22 ?_
          refine wT 10 hS22 ?_
          refine wT 11 hS22 ?_
          refine wpAnyH_done (by kernel_rfl) ?_ _
          have b := hnext hd20 hS22.1
          go_wp2_with fail
          go_roundw
          case rel => exact ⟨k + 1, by omega, by first | rfl | go_num, (by rw [HX.out]; exact congrArg (fun l => Value.string (bstr l)) HNX.out.symm), HA.out, hnext L9.out b⟩
          case measure => simp [intOf]; omega
      · obtain rfl : k = wh.length := by omega
        clear hkl
        have HALL : Hid (wh.all (fun x => x.v.right) = true) := by
          show _ = _
          rw [List.all_eq_true]
          intro x hx
          obtain ⟨j, hj, rfl⟩ := List.mem_iff_getElem.1 hx
          exact hall.out j hj hj
        have hY2 : (Z ++ wh.flatMap nodeL).length ≤ 210000000 := by
          rw [List.length_append]
          have h2 := nodes_len wh
          have h3 := HM.out
          omega
        rw [List.take_length]
        obtain ⟨Y2, hY2e⟩ : ∃ Y2, Z ++ wh.flatMap nodeL = Y2 := ⟨_, rfl⟩
        rw [hY2e] at hY2
        rw [hY2e]
        have HY2 := hid hY2e
        clear hY2e
        have CW2 := hid (fun W => uintR_nat cols.length (by omega) W)
        have wkc : IntKind.u64.wrap (cols.length : Int) = (cols.length : Int) := by rw [IntKind.wrap_u64]; omega
        have hUz : (bstr (Cd.enc cols.length)).size ≤ 10 := (Cd.enc_length _).2
        have hXz : (bstr Y2).size ≤ 210000000 := hY2
        have HZ2 : Hid (bstr Y2 ++ bstr (Cd.enc cols.length) = bstr (Y2 ++ Cd.enc cols.length)) := bstr_append _ _
        have hZl2 : (Y2 ++ Cd.enc cols.length).length ≤ 210000010 := by rw [List.length_append]; have h9 : (Cd.enc cols.length).length ≤ 10 := hUz; omega
        have z7 : ¬ 9223372036854775807 < (bstr Y2).size + (bstr (Cd.enc cols.length)).size := by omega
        obtain ⟨Z2, hZ2⟩ : ∃ Z2, Y2 ++ Cd.enc cols.length = Z2 := ⟨_, rfl⟩
        rw [hZ2] at HZ2 hZl2
        have HZZ2 := hid hZ2
        clear hZ2 hUz hXz hY2
        generalize bstr Y2 = YS2 at *
        generalize bstr (Cd.enc cols.length) = US2 at *
        obtain ⟨c0, c1, c2, c3, c4, c5, c6, c7, c8, c9, c10, cl⟩ := BX.out.cells
        simp only at c0 c1 c2 c3 c4 c5 c6 c7 c8 c9 c10
        clear cl
        go_wp2_with fail
        refine (CW2.out _).mono ?_; rintro e w9 ⟨rfl, b⟩
        replace L := hid (hnext L.out b)
        replace BX := hid (BX.out.keep b)
        replace HK := hid (HK.out.below b)
        replace HW := hid (HW.out.below b)
        replace HC := hid (HC.out.below b)
        clear b
        clear c0 c1 c2 c3 c4 c5 c6 c7 c8 c9 c10
        obtain ⟨c0, c1, c2, c3, c4, c5, c6, c7, c8, c9, c10, cl⟩ := BX.out.cells
        simp only at c0 c1 c2 c3 c4 c5 c6 c7 c8 c9 c10
        clear cl
        clear CW2
        go_wp2_with fail
        go_loopw [8, 4] (fun i s wr => ∃ k : Nat, k ≤ cols.length ∧ i = .int .i64 (k : Int) ∧ s = .string (bstr (Z2 ++ (cols.take k).flatMap numL)) ∧ Below w9.heap.size w9 wr) (fun i _ _ => cols.length - (intOf i).toNat)
        case atStart => exact ⟨0, by omega, rfl, by rw [HZ2.out]; simp, Below.refl _ _⟩
        case round =>
          obtain ⟨k, hkc, rfl, rfl, b⟩ := hrel
          obtain ⟨w10, rfl⟩ : ∃ w10 : World, w10 = wr := ⟨_, rfl⟩
          have hk0 : (0 : Int) ≤ (k : Int) := by omega
          clear z7
          clear c0 c1 c2 c3 c4 c5 c6 c7 c8 c9 c10
          have L10 := hid b
          replace L := hid (hnext L.out b)
          replace BX := hid (BX.out.keep b)
          replace HK := hid (HK.out.below b)
          replace HW := hid (HW.out.below b)
          replace HC := hid (HC.out.below b)
          clear b
          obtain ⟨c0, c1, c2, c3, c4, c5, c6, c7, c8, c9, c10, cl⟩ := BX.out.cells
          simp only at c0 c1 c2 c3 c4 c5 c6 c7 c8 c9 c10
          clear cl
          by_cases hkl : k < cols.length
          · have hkl' : (k : Int) < (cols.length : Int) := by omega
            obtain ⟨_, _, en, hnn⟩ := HC.out
            cases en
            obtain ⟨g, off, rfl, q0⟩ := hnn k hkl
            have hn := HOK.out.cols _ (List.getElem_mem hkl)
            have HNX := hid (spot_next Z2 cols k hkl)
            have hXl : (bstr (Z2 ++ (cols.take k).flatMap numL)).size ≤ 220000000 := by
              rw [bstr_size, List.length_append]
              have h2 := nums_len (cols.take k)
              have h3 : (cols.take k).length ≤ 1000 := by rw [List.length_take]; have := HM.out; omega
              omega
            generalize cols[k] = c at q0 hn HNX
            clear hnn
            obtain ⟨X, hX⟩ : ∃ X, Z2 ++ (cols.take k).flatMap numL = X := ⟨_, rfl⟩
            rw [hX] at HNX hXl
            rw [hX]
            clear hX
            have CI := hid (fun W => intR_any c hn.1 hn.2 W)
            have HX : Hid (bstr X ++ bstr (Cd.enc (Cd.zig c)) = bstr (X ++ numL c)) := bstr_append _ _
            have hz2 : (bstr (Cd.enc (Cd.zig c))).size ≤ 10 := (Cd.enc_length _).2
            have hadd : ¬ 9223372036854775807 < (bstr X).size + (bstr (Cd.enc (Cd.zig c))).size := by omega
            generalize bstr X = XS at *
            generalize bstr (Cd.enc (Cd.zig c)) = NS at *
            clear hn hz2 hXl
            go_wp2_with fail
            refine (CI.out _).mono ?_; rintro e w11 ⟨rfl, b⟩
            have L11 := hid (hnext L10.out b)
            clear b q0
            clear c0 c1 c2 c3 c4 c5 c6 c7 c8 c9 c10
            go_wp2_with fail
            go_roundw
            case rel => exact ⟨k + 1, by omega, by first | rfl | go_num, (by rw [HX.out]; exact congrArg (fun l => Value.string (bstr l)) HNX.out.symm), L11.out⟩
            case measure => simp [intOf]; omega
          · obtain rfl : k = cols.length := by omega
            clear hkl
            have j1 : (bstr (Z2 ++ cols.flatMap numL)).size ≤ 220000000 := by
              rw [bstr_size, List.length_append]
              have h2 := nums_len cols
              have h3 := HM.out
              omega
            rw [List.take_length]
            obtain ⟨Y3, hY3⟩ : ∃ Y3, Z2 ++ cols.flatMap numL = Y3 := ⟨_, rfl⟩
            rw [hY3] at j1
            rw [hY3]
            have HY3 := hid hY3
            clear hY3
            have hlm := HOK.out.limit
            have CIL := hid (fun W => intR_any limit hlm.1 hlm.2 W)
            have j2 : (bstr (Cd.enc (Cd.zig limit))).size ≤ 10 := (Cd.enc_length _).2
            clear hlm
            cases desc with
            | true =>
              have CUD := hid (fun W => uintR_nat 1 (by decide) W)
              have HFIN : Hid (bstr Y3 ++ bstr (Cd.enc (Cd.zig limit)) ++ bstr (Cd.enc 1) = bstr (enc ⟨(kn : Int), table, key, t, v, fr, to, wh, cols, limit, true⟩)) := by
                show _ = _
                rw [enc_yes (q := ⟨(kn : Int), table, key, t, v, fr, to, wh, cols, limit, true⟩) (Int.natCast_nonneg kn) HKR.out HM.out HALL.out, bstr_append, bstr_append]
                unfold encL whL colsL endL
                rw [← HY3.out, ← HZZ2.out, ← HY2.out, ← HZZ.out]
                congr 1
                simp [numL, List.append_assoc]
              have j3 : (bstr (Cd.enc 1)).size ≤ 10 := (Cd.enc_length 1).2
              generalize bstr Y3 = YS3 at *
              generalize bstr (Cd.enc (Cd.zig limit)) = IL at *
              generalize bstr (Cd.enc 1) = UD at *
              have z8 : ¬ 9223372036854775807 < YS3.size + IL.size := by omega
              have z9 : ¬ 9223372036854775807 < YS3.size + IL.size + UD.size := by omega
              clear j1 j2 j3
              go_wp2_with fail
              refine (CIL.out _).mono ?_; rintro e w12 ⟨rfl, b⟩
              replace L := hid (hnext L.out b)
              replace BX := hid (BX.out.keep b)
              replace HK := hid (HK.out.below b)
              replace HW := hid (HW.out.below b)
              replace HC := hid (HC.out.below b)
              clear b
              clear c0 c1 c2 c3 c4 c5 c6 c7 c8 c9 c10
              go_wp2_with fail
              refine (CUD.out _).mono ?_; rintro e w13 ⟨rfl, b⟩
              replace L := hid (hnext L.out b)
              replace BX := hid (BX.out.keep b)
              replace HK := hid (HK.out.below b)
              replace HW := hid (HW.out.below b)
              replace HC := hid (HC.out.below b)
              clear b
              go_wp2_with fail
              go_ret
              rw [HFIN.out]
              exact ⟨rfl, L.out⟩
            | false =>
              have CUD := hid (fun W => uintR_nat 0 (by decide) W)
              have HFIN : Hid (bstr Y3 ++ bstr (Cd.enc (Cd.zig limit)) ++ bstr (Cd.enc 0) = bstr (enc ⟨(kn : Int), table, key, t, v, fr, to, wh, cols, limit, false⟩)) := by
                show _ = _
                rw [enc_yes (q := ⟨(kn : Int), table, key, t, v, fr, to, wh, cols, limit, false⟩) (Int.natCast_nonneg kn) HKR.out HM.out HALL.out, bstr_append, bstr_append]
                unfold encL whL colsL endL
                rw [← HY3.out, ← HZZ2.out, ← HY2.out, ← HZZ.out]
                congr 1
                simp [numL, List.append_assoc]
              have j3 : (bstr (Cd.enc 0)).size ≤ 10 := (Cd.enc_length 0).2
              generalize bstr Y3 = YS3 at *
              generalize bstr (Cd.enc (Cd.zig limit)) = IL at *
              generalize bstr (Cd.enc 0) = UD at *
              have z8 : ¬ 9223372036854775807 < YS3.size + IL.size := by omega
              have z9 : ¬ 9223372036854775807 < YS3.size + IL.size + UD.size := by omega
              clear j1 j2 j3
              go_wp2_with fail
              refine (CIL.out _).mono ?_; rintro e w12 ⟨rfl, b⟩
              replace L := hid (hnext L.out b)
              replace BX := hid (BX.out.keep b)
              replace HK := hid (HK.out.below b)
              replace HW := hid (HW.out.below b)
              replace HC := hid (HC.out.below b)
              clear b
              clear c0 c1 c2 c3 c4 c5 c6 c7 c8 c9 c10
              go_wp2_with fail
              refine (CUD.out _).mono ?_; rintro e w13 ⟨rfl, b⟩
              replace L := hid (hnext L.out b)
              replace BX := hid (BX.out.keep b)
              replace HK := hid (HK.out.below b)
              replace HW := hid (HW.out.below b)
              replace HC := hid (HC.out.below b)
              clear b
              go_wp2_with fail
              go_ret
              rw [HFIN.out]
              exact ⟨rfl, L.out⟩
end Go.Proofs.Ytmcneelapghfcaa
