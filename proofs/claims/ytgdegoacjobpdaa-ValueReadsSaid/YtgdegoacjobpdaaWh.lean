/-
  value.whole: its contract. Condition: the text has at most 1000000 bytes, and one at least.
-/
import Derived.Test.YtgdegoacjobpdaaPr
namespace Go.Proofs.Ytgdegoacjobpdaa
open Go.RowKit

theorem wrap64_step (a b : Int) : IntKind.i64.wrap (IntKind.i64.wrap a + b) = wrap64 (wrap64 a + b) := by
  unfold wrap64
  rw [IntKind.wrap_i64, IntKind.wrap_i64]
set_option maxRecDepth 100000 in
set_option maxHeartbeats 3200000 in
theorem whole_any (l : List UInt8) (hl : l.length ≤ 1000000) (h0 : l ≠ []) (w : World) : Calls Try.prog 50 #[.string (bstr l)] w fun e w' => e = .returned (okV (Vl.whole l)) ∧ Below w.heap.size w w' := by
  cases l with
  | nil => exact absurd rfl h0
  | cons c0 r =>
    have hs : (bstr (c0 :: r)).size = r.length + 1 := rfl
    have hix : ∀ h : 0 < (bstr (c0 :: r)).size, (bstr (c0 :: r))[0]'h = c0 := fun _ => rfl
    by_cases hc0 : c0 = 45
    · subst hc0
      have e1 : (bstr (45 :: r)).extract 1 (r.length + 1) = bstr r := ba_eq (extract_drop (bstr (45 :: r)) 1)
      have HW : Hid (Vl.whS (45 :: r) = Vl.whF (-1) r 0) := rfl
      obtain ⟨l, hll⟩ : ∃ l, 45 :: r = l := ⟨_, rfl⟩
      rw [hll] at hs hix e1 HW ⊢
      have bz0 := BV.new w 0 0 0 ⟨#[]⟩
      have L0 := hba w (.cells #[.int .i64 0, .int .i64 0, .int .u64 0, .string ⟨#[]⟩] 24)
      have hsm : (bstr r).size = r.length := rfl
      have hconv := fun (w : World) => run_bytes_of_string (P := Try.prog) w 9 54 5 (bstr r) Try.underlying9 Try.underlying54 Try.underlying5
      rw [hsm] at hconv
      have hMl : r.length ≤ 1000000 := by simp at hl; omega
      obtain ⟨M, hM⟩ : ∃ M, r = M := ⟨_, rfl⟩
      rw [hM] at hconv hsm hMl HW e1 hs
      clear hM
      go_enter Try.func50, Try.ntmps50
      go_wp2_with fail
      have hzz : (w.alloc (.cells #[.int .i64 0, .int .i64 0, .int .u64 0, .string ⟨#[]⟩] 24)).heap.size = w.heap.size + 1 := by simp
      generalize w.alloc (.cells #[.int .i64 0, .int .i64 0, .int .u64 0, .string ⟨#[]⟩] 24) = w1 at *
      have hcap : M.length ≤ grownCap w1 M.length 0 5 := grownCap_ge _ _ _ _
      have HC := hid (fun j hj => cells_text w1 M _ hcap j hj)
      rw [hzz] at HC
      have hlay : Below w1.heap.size w1 (w1.alloc (.cells (bytesRow (bstr M) (grownCap w1 M.length 0 5)) 5 ((bytesRow (bstr M) (grownCap w1 M.length 0 5)).size, (bytesRow (bstr M) (grownCap w1 M.length 0 5)).size + 1))).drew := (hba _ _).drew
      have BZ := hid (bz0.keep hlay)
      have L1 := hid (hnext L0 hlay)
      clear hcap hconv hlay bz0 L0
      generalize (w1.alloc (.cells (bytesRow (bstr M) (grownCap w1 M.length 0 5)) 5 ((bytesRow (bstr M) (grownCap w1 M.length 0 5)).size, (bytesRow (bstr M) (grownCap w1 M.length 0 5)).size + 1))).drew = w2 at *
      generalize grownCap w1 M.length 0 5 = cap
      clear hzz
      go_loopw [16, 4] (fun i n wr => ∃ (k : Nat) (z : Int), k ≤ M.length ∧ i = .int .i64 (k : Int) ∧ n = .int .i64 z ∧ Hid (Vl.whF (-1) M 0 = Vl.whF (-1) (M.drop k) z) ∧ wr = w2) (fun i _ _ => M.length - (intOf i).toNat)
      case atStart => exact ⟨0, 0, by omega, rfl, rfl, rfl, rfl⟩
      case round =>
        obtain ⟨k, z, hk, rfl, rfl, hE, rfl⟩ := hrel
        have hk0 : (0 : Int) ≤ (k : Int) := by omega
        by_cases hkl : k < M.length
        · have hkl' : (k : Int) < (M.length : Int) := by omega
          have hc := HC.out k hkl
          have HD := hid (hE.out.trans (by rw [List.drop_eq_getElem_cons hkl]))
          generalize M[k]'hkl = c at hc HD
          have hcl := c.toNat_lt
          by_cases hcc : c < 48 ∨ 57 < c
          · have HR : Hid (Vl.whole l = (Vl.V0, false)) := by
              show _ = _
              unfold Vl.whole
              rw [HW.out, HD.out.trans (whF_no hcc _ _)]
            have h3 : (c.toNat : Int) < 48 ∨ (¬ (c.toNat : Int) < 48 ∧ (57 : Int) < (c.toNat : Int)) := by
              rcases hcc with h | h
              · have : c.toNat < 48 := UInt8.lt_iff_toNat_lt.1 h
                omega
              · have : 57 < c.toNat := UInt8.lt_iff_toNat_lt.1 h
                omega
            obtain ⟨z0, z1, z2, z3, zf0, zf1, zf2, zf3, zl⟩ := BZ.out.cells
            clear hcc HD hE
            rcases h3 with h3 | ⟨h3, h4⟩
            all_goals
              go_wp2_with fail
              refine bodyPost_ret (v := .tuple #[.agg #[.int .i64 0, .int .i64 0, .int .u64 0, .string ⟨#[]⟩], .bool false]) (by simp [results, Try.results50, go_sem, z0, z1, z2, z3]) rfl ?_
              rw [HR.out]
              exact ⟨rfl, (((L1.out.setCell (p := ⟨w.heap.size, 0, none⟩) (Nat.le_refl _) _).setCell (p := ⟨w.heap.size, 1, none⟩) (Nat.le_refl _) _).setCell (p := ⟨w.heap.size, 2, none⟩) (Nat.le_refl _) _).setCell (p := ⟨w.heap.size, 3, none⟩) (Nat.le_refl _) _⟩
          · have HN := hid (HD.out.trans (whF_next hcc _ _))
            have h3 : ¬ (c.toNat : Int) < 48 := fun h => hcc (.inl (UInt8.lt_iff_toNat_lt.2 (by show c.toNat < 48; omega)))
            have h4 : ¬ (57 : Int) < (c.toNat : Int) := fun h => hcc (.inr (UInt8.lt_iff_toNat_lt.2 (by show 57 < c.toNat; omega)))
            clear hcc HD hE
            obtain ⟨d, hd⟩ : ∃ d : Nat, c.toNat = d + 48 := ⟨c.toNat - 48, by omega⟩
            have w1 : IntKind.u8.wrap ((c.toNat : Int) - 48) = (d : Int) := by rw [IntKind.wrap_u8]; omega
            have w2' : IntKind.i64.wrap (d : Int) = (d : Int) := by rw [IntKind.wrap_i64]; omega
            have w3 : IntKind.i64.wrap (-(d : Int)) = -(d : Int) := by rw [IntKind.wrap_i64]; omega
            rw [show ((c.toNat : Int) - 48) = (d : Int) by omega] at HN
            go_wp2_with fail
            go_roundw
            case rel =>
              have h := HN.out
              simp only [Int.one_mul, Int.neg_mul] at h
              rw [wrap64_step] at h
              exact ⟨k + 1, _, by omega, by go_num, rfl, hid h, trivial⟩
            case measure => simp [intOf]; omega
        · obtain rfl : k = M.length := by omega
          have HR : Hid (Vl.whole l = (⟨2, z, 0, ⟨#[]⟩⟩, true)) := by
            show _ = _
            unfold Vl.whole
            rw [HW.out, hE.out, List.drop_length]; rfl
          obtain ⟨z0, z1, z2, z3, zf0, zf1, zf2, zf3, zl⟩ := BZ.out.cells
          clear hE
          go_wp2_with fail
          refine bodyPost_ret (v := .tuple #[.agg #[.int .i64 2, .int .i64 z, .int .u64 0, .string ⟨#[]⟩], .bool true]) (by simp [results, Try.results50, go_sem, z0, z1, z2, z3]) rfl ?_
          rw [HR.out]
          exact ⟨rfl, (((L1.out.setCell (p := ⟨w.heap.size, 0, none⟩) (Nat.le_refl _) _).setCell (p := ⟨w.heap.size, 1, none⟩) (Nat.le_refl _) _).setCell (p := ⟨w.heap.size, 2, none⟩) (Nat.le_refl _) _).setCell (p := ⟨w.heap.size, 3, none⟩) (Nat.le_refl _) _⟩
    · have e9 : ((c0.toNat : Int) == 45) = false := by
        rw [beq_eq_false_iff_ne]; intro h; exact hc0 (UInt8.toNat_inj.1 (by show c0.toNat = 45; omega))
      have HW : Hid (Vl.whS (c0 :: r) = Vl.whF 1 (c0 :: r) 0) := if_neg hc0
      obtain ⟨M, hll⟩ : ∃ M, c0 :: r = M := ⟨_, rfl⟩
      rw [hll] at hs hix HW ⊢
      have bz0 := BV.new w 0 0 0 ⟨#[]⟩
      have L0 := hba w (.cells #[.int .i64 0, .int .i64 0, .int .u64 0, .string ⟨#[]⟩] 24)
      have hsm : (bstr M).size = M.length := rfl
      have hconv := fun (w : World) => run_bytes_of_string (P := Try.prog) w 9 54 5 (bstr M) Try.underlying9 Try.underlying54 Try.underlying5
      rw [hsm] at hconv
      have hMl : M.length ≤ 1000000 := hll ▸ hl
      have hpos : (0 : Int) < (M.length : Int) := by rw [← hll, List.length_cons]; omega
      clear hs hll
      go_enter Try.func50, Try.ntmps50
      go_wp2_with fail
      have hzz : (w.alloc (.cells #[.int .i64 0, .int .i64 0, .int .u64 0, .string ⟨#[]⟩] 24)).heap.size = w.heap.size + 1 := by simp
      generalize w.alloc (.cells #[.int .i64 0, .int .i64 0, .int .u64 0, .string ⟨#[]⟩] 24) = w1 at *
      have hcap : M.length ≤ grownCap w1 M.length 0 5 := grownCap_ge _ _ _ _
      have HC := hid (fun j hj => cells_text w1 M _ hcap j hj)
      rw [hzz] at HC
      have hlay : Below w1.heap.size w1 (w1.alloc (.cells (bytesRow (bstr M) (grownCap w1 M.length 0 5)) 5 ((bytesRow (bstr M) (grownCap w1 M.length 0 5)).size, (bytesRow (bstr M) (grownCap w1 M.length 0 5)).size + 1))).drew := (hba _ _).drew
      have BZ := hid (bz0.keep hlay)
      have L1 := hid (hnext L0 hlay)
      clear hcap hconv hlay bz0 L0
      generalize (w1.alloc (.cells (bytesRow (bstr M) (grownCap w1 M.length 0 5)) 5 ((bytesRow (bstr M) (grownCap w1 M.length 0 5)).size, (bytesRow (bstr M) (grownCap w1 M.length 0 5)).size + 1))).drew = w2 at *
      generalize grownCap w1 M.length 0 5 = cap
      clear hzz
      go_loopw [16, 4] (fun i n wr => ∃ (k : Nat) (z : Int), k ≤ M.length ∧ i = .int .i64 (k : Int) ∧ n = .int .i64 z ∧ Hid (Vl.whF 1 M 0 = Vl.whF 1 (M.drop k) z) ∧ wr = w2) (fun i _ _ => M.length - (intOf i).toNat)
      case atStart => exact ⟨0, 0, by omega, rfl, rfl, rfl, rfl⟩
      case round =>
        obtain ⟨k, z, hk, rfl, rfl, hE, rfl⟩ := hrel
        have hk0 : (0 : Int) ≤ (k : Int) := by omega
        by_cases hkl : k < M.length
        · have hkl' : (k : Int) < (M.length : Int) := by omega
          have hc := HC.out k hkl
          have HD := hid (hE.out.trans (by rw [List.drop_eq_getElem_cons hkl]))
          generalize M[k]'hkl = c at hc HD
          have hcl := c.toNat_lt
          by_cases hcc : c < 48 ∨ 57 < c
          · have HR : Hid (Vl.whole M = (Vl.V0, false)) := by
              show _ = _
              unfold Vl.whole
              rw [HW.out, HD.out.trans (whF_no hcc _ _)]
            have h3 : (c.toNat : Int) < 48 ∨ (¬ (c.toNat : Int) < 48 ∧ (57 : Int) < (c.toNat : Int)) := by
              rcases hcc with h | h
              · have : c.toNat < 48 := UInt8.lt_iff_toNat_lt.1 h
                omega
              · have : 57 < c.toNat := UInt8.lt_iff_toNat_lt.1 h
                omega
            obtain ⟨z0, z1, z2, z3, zf0, zf1, zf2, zf3, zl⟩ := BZ.out.cells
            clear hcc HD hE
            rcases h3 with h3 | ⟨h3, h4⟩
            all_goals
              go_wp2_with fail
              refine bodyPost_ret (v := .tuple #[.agg #[.int .i64 0, .int .i64 0, .int .u64 0, .string ⟨#[]⟩], .bool false]) (by simp [results, Try.results50, go_sem, z0, z1, z2, z3]) rfl ?_
              rw [HR.out]
              exact ⟨rfl, (((L1.out.setCell (p := ⟨w.heap.size, 0, none⟩) (Nat.le_refl _) _).setCell (p := ⟨w.heap.size, 1, none⟩) (Nat.le_refl _) _).setCell (p := ⟨w.heap.size, 2, none⟩) (Nat.le_refl _) _).setCell (p := ⟨w.heap.size, 3, none⟩) (Nat.le_refl _) _⟩
          · have HN := hid (HD.out.trans (whF_next hcc _ _))
            have h3 : ¬ (c.toNat : Int) < 48 := fun h => hcc (.inl (UInt8.lt_iff_toNat_lt.2 (by show c.toNat < 48; omega)))
            have h4 : ¬ (57 : Int) < (c.toNat : Int) := fun h => hcc (.inr (UInt8.lt_iff_toNat_lt.2 (by show 57 < c.toNat; omega)))
            clear hcc HD hE
            obtain ⟨d, hd⟩ : ∃ d : Nat, c.toNat = d + 48 := ⟨c.toNat - 48, by omega⟩
            have w1 : IntKind.u8.wrap ((c.toNat : Int) - 48) = (d : Int) := by rw [IntKind.wrap_u8]; omega
            have w2' : IntKind.i64.wrap (d : Int) = (d : Int) := by rw [IntKind.wrap_i64]; omega
            have w3 : IntKind.i64.wrap (-(d : Int)) = -(d : Int) := by rw [IntKind.wrap_i64]; omega
            rw [show ((c.toNat : Int) - 48) = (d : Int) by omega] at HN
            go_wp2_with fail
            go_roundw
            case rel =>
              have h := HN.out
              simp only [Int.one_mul] at h
              rw [wrap64_step] at h
              exact ⟨k + 1, _, by omega, by go_num, rfl, hid h, trivial⟩
            case measure => simp [intOf]; omega
        · obtain rfl : k = M.length := by omega
          have HR : Hid (Vl.whole M = (⟨2, z, 0, ⟨#[]⟩⟩, true)) := by
            show _ = _
            unfold Vl.whole
            rw [HW.out, hE.out, List.drop_length]; rfl
          obtain ⟨z0, z1, z2, z3, zf0, zf1, zf2, zf3, zl⟩ := BZ.out.cells
          clear hE
          go_wp2_with fail
          refine bodyPost_ret (v := .tuple #[.agg #[.int .i64 2, .int .i64 z, .int .u64 0, .string ⟨#[]⟩], .bool true]) (by simp [results, Try.results50, go_sem, z0, z1, z2, z3]) rfl ?_
          rw [HR.out]
          exact ⟨rfl, (((L1.out.setCell (p := ⟨w.heap.size, 0, none⟩) (Nat.le_refl _) _).setCell (p := ⟨w.heap.size, 1, none⟩) (Nat.le_refl _) _).setCell (p := ⟨w.heap.size, 2, none⟩) (Nat.le_refl _) _).setCell (p := ⟨w.heap.size, 3, none⟩) (Nat.le_refl _) _⟩
end Go.Proofs.Ytgdegoacjobpdaa
