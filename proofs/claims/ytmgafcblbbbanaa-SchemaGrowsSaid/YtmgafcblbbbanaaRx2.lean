/-
  The reference's uint of a reader: its contract. Condition: the text has at most 1000000000 bytes.
-/
import Derived.Test.YtmgafcblbbbanaaRx
namespace Go.Proofs.Ytmgafcblbbbanaa
open Go.RowKit

/-- what a read of the reference's leaves: of what it tells, P is the value -/
def ToldX {α : Type} (Z : α → Prop) (P : α → Value) (g : Nat) (s : ByteArray) (r : Cd.R α) (w : World) (e : Ending) (w' : World) : Prop :=
  ∃ x, e = .returned (P x) ∧ Upd g w w' ∧ match r with
    | .ok (y, j) => x = y ∧ Rfx w' g s j 0 ∧ j ≤ s.size
    | .error er => Z x ∧ ∃ j, Rfx w' g s j er ∧ j ≤ s.size
theorem ToldX.mk_ok {α : Type} {Z : α → Prop} {P : α → Value} {g : Nat} {s : ByteArray} {r : Cd.R α} {w w' : World} {e : Ending} {x : α} {j : Nat} (hr : r = .ok (x, j)) (hu : Upd g w w') (he : e = .returned (P x)) (hR : Rfx w' g s j 0) (hj : j ≤ s.size) : ToldX Z P g s r w e w' := by
  subst hr; exact ⟨x, he, hu, rfl, hR, hj⟩
theorem ToldX.mk_err {α : Type} {Z : α → Prop} {P : α → Value} {g : Nat} {s : ByteArray} {r : Cd.R α} {w w' : World} {e : Ending} {x : Int} {j : Nat} (y : α) (hy : Z y) (hr : r = .error x) (hu : Upd g w w') (he : e = .returned (P y)) (hR : Rfx w' g s j x) (hj : j ≤ s.size) : ToldX Z P g s r w e w' := by
  subst hr; exact ⟨y, he, hu, hy, j, hR, hj⟩

set_option maxRecDepth 100000 in
set_option maxHeartbeats 6400000 in
theorem uintX_rd (g : Nat) (s : ByteArray) (i : Nat) (w : World) (hr : Rfx w g s i 0) (hi : i ≤ s.size) (hs : s.size ≤ 1000000000) :
    Calls Try.prog 61 #[.pointer (some ⟨g, 0, none⟩)] w (ToldX (fun n : Nat => n = 0) (fun n : Nat => .int .u64 (n : Int)) g s (Cd.uintR s.data.toList i) w) := by
  have hlen : s.data.toList.length = s.size := by simp
  have HL := hid hlen
  clear hlen
  go_enter Try.func61, Try.ntmps61
  go_wp2_with fail
  go_loopw [3, 4, 5] (fun n sc k wr => ∃ (f kk nn j : Nat), k = .int .i64 (kk : Int) ∧ kk + f = 9 ∧ sc = .int .u64 ((128 ^ kk : Nat) : Int) ∧ n = .int .u64 (nn : Int) ∧ Hid (nn < 128 ^ kk) ∧ Rfx wr g s j 0 ∧ j ≤ s.size ∧ Upd g w wr ∧ Hid (Cd.uintF s.data.toList (f + 1) kk nn j = Cd.uintR s.data.toList i)) (fun _ _ k _ => 10 - (intOf k).toNat)
  case atStart => exact ⟨9, 0, 0, i, rfl, rfl, rfl, rfl, by show _ < _; decide, hr, hi, Upd.refl _ _, rfl⟩
  case round =>
    obtain ⟨f, kk, nn, j, rfl, hkf, rfl, rfl, hnn, hrj, hj, hu, hE⟩ := hrel
    clear hr
    obtain ⟨w4, rfl⟩ : ∃ w4 : World, w4 = wr := ⟨_, rfl⟩
    by_cases hjs : j < s.size
    · have HN := hid (uintF_next s.data.toList f kk nn j (by rw [HL.out]; exact hjs))
      have hgc : s.data.toList[j]'(by rw [HL.out]; exact hjs) = s[j] := rfl
      rw [hgc] at HN
      clear hgc
      have hnext := hid (nextX_ok g s j w4 hrj hjs (by omega))
      have hcl := s[j].toNat_lt
      generalize s[j].toNat = c at HN hnext hcl
      rcases (show kk = 0 ∨ kk = 1 ∨ kk = 2 ∨ kk = 3 ∨ kk = 4 ∨ kk = 5 ∨ kk = 6 ∨ kk = 7 ∨ kk = 8 ∨ kk = 9 by omega) with rfl | rfl | rfl | rfl | rfl | rfl | rfl | rfl | rfl | rfl
      · by_cases h0 : c = 0
        · have e0 : ((c : Int) == 0) = true := by rw [beq_iff_eq]; omega
          have e1 : (c : Int) < 128 := by omega
          have HE : Hid (Cd.uintR s.data.toList i = .ok (nn + c * 128 ^ 0, j + 1)) := by show _ = _; rw [← hE.out, HN.out, if_neg (by omega), if_pos (by omega)]
          clear HN hE
          go_wp2_with fail
          refine (hnext.out).mono ?_; rintro e w5 ⟨rfl, hu5, hr5⟩
          have c2 := hr5.cells.2.2.1
          go_wp2_with fail
          go_ret
          exact ToldX.mk_ok HE.out (hu.trans hu5) (ret_eq (by have hnn := hnn.out; rw [show (128 : Nat) ^ 0 = 1 from by decide] at hnn ⊢; first | (rw [IntKind.wrap_u64]; omega) | omega)) hr5 (by omega)
        · skip
          by_cases h1 : c < 128
          · have e0 : ((c : Int) == 0) = false := by rw [beq_eq_false_iff_ne]; omega
            have e1 : (c : Int) < 128 := by omega
            have HE : Hid (Cd.uintR s.data.toList i = .ok (nn + c * 128 ^ 0, j + 1)) := by show _ = _; rw [← hE.out, HN.out, if_neg (by omega), if_pos (by omega)]
            clear HN hE
            go_wp2_with fail
            refine (hnext.out).mono ?_; rintro e w5 ⟨rfl, hu5, hr5⟩
            have c2 := hr5.cells.2.2.1
            go_wp2_with fail
            go_ret
            exact ToldX.mk_ok HE.out (hu.trans hu5) (ret_eq (by have hnn := hnn.out; rw [show (128 : Nat) ^ 0 = 1 from by decide] at hnn ⊢; first | (rw [IntKind.wrap_u64]; omega) | omega)) hr5 (by omega)
          · skip
            have e0 : ((c : Int) == 0) = false := by rw [beq_eq_false_iff_ne]; omega
            have e1 : ¬ (c : Int) < 128 := by omega
            have HE : Hid (Cd.uintF s.data.toList f 1 (nn + c % 128 * 128 ^ 0) (j + 1) = Cd.uintR s.data.toList i) := by show _ = _; rw [← hE.out, HN.out, if_neg (by omega), if_neg (by omega)]
            clear HN hE
            go_wp2_with fail
            refine (hnext.out).mono ?_; rintro e w5 ⟨rfl, hu5, hr5⟩
            have c2 := hr5.cells.2.2.1
            go_wp2_with fail
            go_roundw
            case rel => exact ⟨f - 1, 1, nn + c % 128 * 128 ^ 0, j + 1, rfl, by omega, by rw [show (128 : Nat) ^ 1 = 128 from by decide]; rfl, int_eq (by have hnn := hnn.out; rw [show (128 : Nat) ^ 0 = 1 from by decide] at hnn ⊢; first | (rw [IntKind.wrap_u64]; omega) | omega), by have hnn := hnn.out; show _ < _; rw [show (128 : Nat) ^ 0 = 1 from by decide] at hnn ⊢; rw [show (128 : Nat) ^ 1 = 128 from by decide]; omega, hr5, by omega, hu.trans hu5, by have := HE.out; rwa [show f - 1 + 1 = f from by omega]⟩
            case measure => simp [intOf]
      · by_cases h0 : c = 0
        · have e0 : ((c : Int) == 0) = true := by rw [beq_iff_eq]; omega
          have HE : Hid (Cd.uintR s.data.toList i = .error 7) := by show _ = _; rw [← hE.out, HN.out, if_pos (by omega)]
          have hfail := hid (fun W h => failX_new g s (j + 1) 7 W h)
          clear HN hE
          go_wp2_with fail
          refine (hnext.out).mono ?_; rintro e w5 ⟨rfl, hu5, hr5⟩
          have c2 := hr5.cells.2.2.1
          go_wp2_with fail
          refine (hfail.out _ hr5).mono ?_; rintro e w6 ⟨⟨v, rfl⟩, hu6, hr6⟩
          go_wp2_with fail
          go_ret
          exact ToldX.mk_err 0 rfl HE.out ((hu.trans hu5).trans hu6) rfl hr6 (by omega)
        · skip
          by_cases h1 : c < 128
          · have e0 : ((c : Int) == 0) = false := by rw [beq_eq_false_iff_ne]; omega
            have e1 : (c : Int) < 128 := by omega
            have HE : Hid (Cd.uintR s.data.toList i = .ok (nn + c * 128 ^ 1, j + 1)) := by show _ = _; rw [← hE.out, HN.out, if_neg (by omega), if_pos (by omega)]
            clear HN hE
            go_wp2_with fail
            refine (hnext.out).mono ?_; rintro e w5 ⟨rfl, hu5, hr5⟩
            have c2 := hr5.cells.2.2.1
            go_wp2_with fail
            go_ret
            exact ToldX.mk_ok HE.out (hu.trans hu5) (ret_eq (by have hnn := hnn.out; rw [show (128 : Nat) ^ 1 = 128 from by decide] at hnn ⊢; first | (rw [IntKind.wrap_u64]; omega) | omega)) hr5 (by omega)
          · skip
            have e0 : ((c : Int) == 0) = false := by rw [beq_eq_false_iff_ne]; omega
            have e1 : ¬ (c : Int) < 128 := by omega
            have HE : Hid (Cd.uintF s.data.toList f 2 (nn + c % 128 * 128 ^ 1) (j + 1) = Cd.uintR s.data.toList i) := by show _ = _; rw [← hE.out, HN.out, if_neg (by omega), if_neg (by omega)]
            clear HN hE
            go_wp2_with fail
            refine (hnext.out).mono ?_; rintro e w5 ⟨rfl, hu5, hr5⟩
            have c2 := hr5.cells.2.2.1
            go_wp2_with fail
            go_roundw
            case rel => exact ⟨f - 1, 2, nn + c % 128 * 128 ^ 1, j + 1, rfl, by omega, by rw [show (128 : Nat) ^ 2 = 16384 from by decide]; rfl, int_eq (by have hnn := hnn.out; rw [show (128 : Nat) ^ 1 = 128 from by decide] at hnn ⊢; first | (rw [IntKind.wrap_u64]; omega) | omega), by have hnn := hnn.out; show _ < _; rw [show (128 : Nat) ^ 1 = 128 from by decide] at hnn ⊢; rw [show (128 : Nat) ^ 2 = 16384 from by decide]; omega, hr5, by omega, hu.trans hu5, by have := HE.out; rwa [show f - 1 + 1 = f from by omega]⟩
            case measure => simp [intOf]
      · by_cases h0 : c = 0
        · have e0 : ((c : Int) == 0) = true := by rw [beq_iff_eq]; omega
          have HE : Hid (Cd.uintR s.data.toList i = .error 7) := by show _ = _; rw [← hE.out, HN.out, if_pos (by omega)]
          have hfail := hid (fun W h => failX_new g s (j + 1) 7 W h)
          clear HN hE
          go_wp2_with fail
          refine (hnext.out).mono ?_; rintro e w5 ⟨rfl, hu5, hr5⟩
          have c2 := hr5.cells.2.2.1
          go_wp2_with fail
          refine (hfail.out _ hr5).mono ?_; rintro e w6 ⟨⟨v, rfl⟩, hu6, hr6⟩
          go_wp2_with fail
          go_ret
          exact ToldX.mk_err 0 rfl HE.out ((hu.trans hu5).trans hu6) rfl hr6 (by omega)
        · skip
          by_cases h1 : c < 128
          · have e0 : ((c : Int) == 0) = false := by rw [beq_eq_false_iff_ne]; omega
            have e1 : (c : Int) < 128 := by omega
            have HE : Hid (Cd.uintR s.data.toList i = .ok (nn + c * 128 ^ 2, j + 1)) := by show _ = _; rw [← hE.out, HN.out, if_neg (by omega), if_pos (by omega)]
            clear HN hE
            go_wp2_with fail
            refine (hnext.out).mono ?_; rintro e w5 ⟨rfl, hu5, hr5⟩
            have c2 := hr5.cells.2.2.1
            go_wp2_with fail
            go_ret
            exact ToldX.mk_ok HE.out (hu.trans hu5) (ret_eq (by have hnn := hnn.out; rw [show (128 : Nat) ^ 2 = 16384 from by decide] at hnn ⊢; first | (rw [IntKind.wrap_u64]; omega) | omega)) hr5 (by omega)
          · skip
            have e0 : ((c : Int) == 0) = false := by rw [beq_eq_false_iff_ne]; omega
            have e1 : ¬ (c : Int) < 128 := by omega
            have HE : Hid (Cd.uintF s.data.toList f 3 (nn + c % 128 * 128 ^ 2) (j + 1) = Cd.uintR s.data.toList i) := by show _ = _; rw [← hE.out, HN.out, if_neg (by omega), if_neg (by omega)]
            clear HN hE
            go_wp2_with fail
            refine (hnext.out).mono ?_; rintro e w5 ⟨rfl, hu5, hr5⟩
            have c2 := hr5.cells.2.2.1
            go_wp2_with fail
            go_roundw
            case rel => exact ⟨f - 1, 3, nn + c % 128 * 128 ^ 2, j + 1, rfl, by omega, by rw [show (128 : Nat) ^ 3 = 2097152 from by decide]; rfl, int_eq (by have hnn := hnn.out; rw [show (128 : Nat) ^ 2 = 16384 from by decide] at hnn ⊢; first | (rw [IntKind.wrap_u64]; omega) | omega), by have hnn := hnn.out; show _ < _; rw [show (128 : Nat) ^ 2 = 16384 from by decide] at hnn ⊢; rw [show (128 : Nat) ^ 3 = 2097152 from by decide]; omega, hr5, by omega, hu.trans hu5, by have := HE.out; rwa [show f - 1 + 1 = f from by omega]⟩
            case measure => simp [intOf]
      · by_cases h0 : c = 0
        · have e0 : ((c : Int) == 0) = true := by rw [beq_iff_eq]; omega
          have HE : Hid (Cd.uintR s.data.toList i = .error 7) := by show _ = _; rw [← hE.out, HN.out, if_pos (by omega)]
          have hfail := hid (fun W h => failX_new g s (j + 1) 7 W h)
          clear HN hE
          go_wp2_with fail
          refine (hnext.out).mono ?_; rintro e w5 ⟨rfl, hu5, hr5⟩
          have c2 := hr5.cells.2.2.1
          go_wp2_with fail
          refine (hfail.out _ hr5).mono ?_; rintro e w6 ⟨⟨v, rfl⟩, hu6, hr6⟩
          go_wp2_with fail
          go_ret
          exact ToldX.mk_err 0 rfl HE.out ((hu.trans hu5).trans hu6) rfl hr6 (by omega)
        · skip
          by_cases h1 : c < 128
          · have e0 : ((c : Int) == 0) = false := by rw [beq_eq_false_iff_ne]; omega
            have e1 : (c : Int) < 128 := by omega
            have HE : Hid (Cd.uintR s.data.toList i = .ok (nn + c * 128 ^ 3, j + 1)) := by show _ = _; rw [← hE.out, HN.out, if_neg (by omega), if_pos (by omega)]
            clear HN hE
            go_wp2_with fail
            refine (hnext.out).mono ?_; rintro e w5 ⟨rfl, hu5, hr5⟩
            have c2 := hr5.cells.2.2.1
            go_wp2_with fail
            go_ret
            exact ToldX.mk_ok HE.out (hu.trans hu5) (ret_eq (by have hnn := hnn.out; rw [show (128 : Nat) ^ 3 = 2097152 from by decide] at hnn ⊢; first | (rw [IntKind.wrap_u64]; omega) | omega)) hr5 (by omega)
          · skip
            have e0 : ((c : Int) == 0) = false := by rw [beq_eq_false_iff_ne]; omega
            have e1 : ¬ (c : Int) < 128 := by omega
            have HE : Hid (Cd.uintF s.data.toList f 4 (nn + c % 128 * 128 ^ 3) (j + 1) = Cd.uintR s.data.toList i) := by show _ = _; rw [← hE.out, HN.out, if_neg (by omega), if_neg (by omega)]
            clear HN hE
            go_wp2_with fail
            refine (hnext.out).mono ?_; rintro e w5 ⟨rfl, hu5, hr5⟩
            have c2 := hr5.cells.2.2.1
            go_wp2_with fail
            go_roundw
            case rel => exact ⟨f - 1, 4, nn + c % 128 * 128 ^ 3, j + 1, rfl, by omega, by rw [show (128 : Nat) ^ 4 = 268435456 from by decide]; rfl, int_eq (by have hnn := hnn.out; rw [show (128 : Nat) ^ 3 = 2097152 from by decide] at hnn ⊢; first | (rw [IntKind.wrap_u64]; omega) | omega), by have hnn := hnn.out; show _ < _; rw [show (128 : Nat) ^ 3 = 2097152 from by decide] at hnn ⊢; rw [show (128 : Nat) ^ 4 = 268435456 from by decide]; omega, hr5, by omega, hu.trans hu5, by have := HE.out; rwa [show f - 1 + 1 = f from by omega]⟩
            case measure => simp [intOf]
      · by_cases h0 : c = 0
        · have e0 : ((c : Int) == 0) = true := by rw [beq_iff_eq]; omega
          have HE : Hid (Cd.uintR s.data.toList i = .error 7) := by show _ = _; rw [← hE.out, HN.out, if_pos (by omega)]
          have hfail := hid (fun W h => failX_new g s (j + 1) 7 W h)
          clear HN hE
          go_wp2_with fail
          refine (hnext.out).mono ?_; rintro e w5 ⟨rfl, hu5, hr5⟩
          have c2 := hr5.cells.2.2.1
          go_wp2_with fail
          refine (hfail.out _ hr5).mono ?_; rintro e w6 ⟨⟨v, rfl⟩, hu6, hr6⟩
          go_wp2_with fail
          go_ret
          exact ToldX.mk_err 0 rfl HE.out ((hu.trans hu5).trans hu6) rfl hr6 (by omega)
        · skip
          by_cases h1 : c < 128
          · have e0 : ((c : Int) == 0) = false := by rw [beq_eq_false_iff_ne]; omega
            have e1 : (c : Int) < 128 := by omega
            have HE : Hid (Cd.uintR s.data.toList i = .ok (nn + c * 128 ^ 4, j + 1)) := by show _ = _; rw [← hE.out, HN.out, if_neg (by omega), if_pos (by omega)]
            clear HN hE
            go_wp2_with fail
            refine (hnext.out).mono ?_; rintro e w5 ⟨rfl, hu5, hr5⟩
            have c2 := hr5.cells.2.2.1
            go_wp2_with fail
            go_ret
            exact ToldX.mk_ok HE.out (hu.trans hu5) (ret_eq (by have hnn := hnn.out; rw [show (128 : Nat) ^ 4 = 268435456 from by decide] at hnn ⊢; first | (rw [IntKind.wrap_u64]; omega) | omega)) hr5 (by omega)
          · skip
            have e0 : ((c : Int) == 0) = false := by rw [beq_eq_false_iff_ne]; omega
            have e1 : ¬ (c : Int) < 128 := by omega
            have HE : Hid (Cd.uintF s.data.toList f 5 (nn + c % 128 * 128 ^ 4) (j + 1) = Cd.uintR s.data.toList i) := by show _ = _; rw [← hE.out, HN.out, if_neg (by omega), if_neg (by omega)]
            clear HN hE
            go_wp2_with fail
            refine (hnext.out).mono ?_; rintro e w5 ⟨rfl, hu5, hr5⟩
            have c2 := hr5.cells.2.2.1
            go_wp2_with fail
            go_roundw
            case rel => exact ⟨f - 1, 5, nn + c % 128 * 128 ^ 4, j + 1, rfl, by omega, by rw [show (128 : Nat) ^ 5 = 34359738368 from by decide]; rfl, int_eq (by have hnn := hnn.out; rw [show (128 : Nat) ^ 4 = 268435456 from by decide] at hnn ⊢; first | (rw [IntKind.wrap_u64]; omega) | omega), by have hnn := hnn.out; show _ < _; rw [show (128 : Nat) ^ 4 = 268435456 from by decide] at hnn ⊢; rw [show (128 : Nat) ^ 5 = 34359738368 from by decide]; omega, hr5, by omega, hu.trans hu5, by have := HE.out; rwa [show f - 1 + 1 = f from by omega]⟩
            case measure => simp [intOf]
      · by_cases h0 : c = 0
        · have e0 : ((c : Int) == 0) = true := by rw [beq_iff_eq]; omega
          have HE : Hid (Cd.uintR s.data.toList i = .error 7) := by show _ = _; rw [← hE.out, HN.out, if_pos (by omega)]
          have hfail := hid (fun W h => failX_new g s (j + 1) 7 W h)
          clear HN hE
          go_wp2_with fail
          refine (hnext.out).mono ?_; rintro e w5 ⟨rfl, hu5, hr5⟩
          have c2 := hr5.cells.2.2.1
          go_wp2_with fail
          refine (hfail.out _ hr5).mono ?_; rintro e w6 ⟨⟨v, rfl⟩, hu6, hr6⟩
          go_wp2_with fail
          go_ret
          exact ToldX.mk_err 0 rfl HE.out ((hu.trans hu5).trans hu6) rfl hr6 (by omega)
        · skip
          by_cases h1 : c < 128
          · have e0 : ((c : Int) == 0) = false := by rw [beq_eq_false_iff_ne]; omega
            have e1 : (c : Int) < 128 := by omega
            have HE : Hid (Cd.uintR s.data.toList i = .ok (nn + c * 128 ^ 5, j + 1)) := by show _ = _; rw [← hE.out, HN.out, if_neg (by omega), if_pos (by omega)]
            clear HN hE
            go_wp2_with fail
            refine (hnext.out).mono ?_; rintro e w5 ⟨rfl, hu5, hr5⟩
            have c2 := hr5.cells.2.2.1
            go_wp2_with fail
            go_ret
            exact ToldX.mk_ok HE.out (hu.trans hu5) (ret_eq (by have hnn := hnn.out; rw [show (128 : Nat) ^ 5 = 34359738368 from by decide] at hnn ⊢; first | (rw [IntKind.wrap_u64]; omega) | omega)) hr5 (by omega)
          · skip
            have e0 : ((c : Int) == 0) = false := by rw [beq_eq_false_iff_ne]; omega
            have e1 : ¬ (c : Int) < 128 := by omega
            have HE : Hid (Cd.uintF s.data.toList f 6 (nn + c % 128 * 128 ^ 5) (j + 1) = Cd.uintR s.data.toList i) := by show _ = _; rw [← hE.out, HN.out, if_neg (by omega), if_neg (by omega)]
            clear HN hE
            go_wp2_with fail
            refine (hnext.out).mono ?_; rintro e w5 ⟨rfl, hu5, hr5⟩
            have c2 := hr5.cells.2.2.1
            go_wp2_with fail
            go_roundw
            case rel => exact ⟨f - 1, 6, nn + c % 128 * 128 ^ 5, j + 1, rfl, by omega, by rw [show (128 : Nat) ^ 6 = 4398046511104 from by decide]; rfl, int_eq (by have hnn := hnn.out; rw [show (128 : Nat) ^ 5 = 34359738368 from by decide] at hnn ⊢; first | (rw [IntKind.wrap_u64]; omega) | omega), by have hnn := hnn.out; show _ < _; rw [show (128 : Nat) ^ 5 = 34359738368 from by decide] at hnn ⊢; rw [show (128 : Nat) ^ 6 = 4398046511104 from by decide]; omega, hr5, by omega, hu.trans hu5, by have := HE.out; rwa [show f - 1 + 1 = f from by omega]⟩
            case measure => simp [intOf]
      · by_cases h0 : c = 0
        · have e0 : ((c : Int) == 0) = true := by rw [beq_iff_eq]; omega
          have HE : Hid (Cd.uintR s.data.toList i = .error 7) := by show _ = _; rw [← hE.out, HN.out, if_pos (by omega)]
          have hfail := hid (fun W h => failX_new g s (j + 1) 7 W h)
          clear HN hE
          go_wp2_with fail
          refine (hnext.out).mono ?_; rintro e w5 ⟨rfl, hu5, hr5⟩
          have c2 := hr5.cells.2.2.1
          go_wp2_with fail
          refine (hfail.out _ hr5).mono ?_; rintro e w6 ⟨⟨v, rfl⟩, hu6, hr6⟩
          go_wp2_with fail
          go_ret
          exact ToldX.mk_err 0 rfl HE.out ((hu.trans hu5).trans hu6) rfl hr6 (by omega)
        · skip
          by_cases h1 : c < 128
          · have e0 : ((c : Int) == 0) = false := by rw [beq_eq_false_iff_ne]; omega
            have e1 : (c : Int) < 128 := by omega
            have HE : Hid (Cd.uintR s.data.toList i = .ok (nn + c * 128 ^ 6, j + 1)) := by show _ = _; rw [← hE.out, HN.out, if_neg (by omega), if_pos (by omega)]
            clear HN hE
            go_wp2_with fail
            refine (hnext.out).mono ?_; rintro e w5 ⟨rfl, hu5, hr5⟩
            have c2 := hr5.cells.2.2.1
            go_wp2_with fail
            go_ret
            exact ToldX.mk_ok HE.out (hu.trans hu5) (ret_eq (by have hnn := hnn.out; rw [show (128 : Nat) ^ 6 = 4398046511104 from by decide] at hnn ⊢; first | (rw [IntKind.wrap_u64]; omega) | omega)) hr5 (by omega)
          · skip
            have e0 : ((c : Int) == 0) = false := by rw [beq_eq_false_iff_ne]; omega
            have e1 : ¬ (c : Int) < 128 := by omega
            have HE : Hid (Cd.uintF s.data.toList f 7 (nn + c % 128 * 128 ^ 6) (j + 1) = Cd.uintR s.data.toList i) := by show _ = _; rw [← hE.out, HN.out, if_neg (by omega), if_neg (by omega)]
            clear HN hE
            go_wp2_with fail
            refine (hnext.out).mono ?_; rintro e w5 ⟨rfl, hu5, hr5⟩
            have c2 := hr5.cells.2.2.1
            go_wp2_with fail
            go_roundw
            case rel => exact ⟨f - 1, 7, nn + c % 128 * 128 ^ 6, j + 1, rfl, by omega, by rw [show (128 : Nat) ^ 7 = 562949953421312 from by decide]; rfl, int_eq (by have hnn := hnn.out; rw [show (128 : Nat) ^ 6 = 4398046511104 from by decide] at hnn ⊢; first | (rw [IntKind.wrap_u64]; omega) | omega), by have hnn := hnn.out; show _ < _; rw [show (128 : Nat) ^ 6 = 4398046511104 from by decide] at hnn ⊢; rw [show (128 : Nat) ^ 7 = 562949953421312 from by decide]; omega, hr5, by omega, hu.trans hu5, by have := HE.out; rwa [show f - 1 + 1 = f from by omega]⟩
            case measure => simp [intOf]
      · by_cases h0 : c = 0
        · have e0 : ((c : Int) == 0) = true := by rw [beq_iff_eq]; omega
          have HE : Hid (Cd.uintR s.data.toList i = .error 7) := by show _ = _; rw [← hE.out, HN.out, if_pos (by omega)]
          have hfail := hid (fun W h => failX_new g s (j + 1) 7 W h)
          clear HN hE
          go_wp2_with fail
          refine (hnext.out).mono ?_; rintro e w5 ⟨rfl, hu5, hr5⟩
          have c2 := hr5.cells.2.2.1
          go_wp2_with fail
          refine (hfail.out _ hr5).mono ?_; rintro e w6 ⟨⟨v, rfl⟩, hu6, hr6⟩
          go_wp2_with fail
          go_ret
          exact ToldX.mk_err 0 rfl HE.out ((hu.trans hu5).trans hu6) rfl hr6 (by omega)
        · skip
          by_cases h1 : c < 128
          · have e0 : ((c : Int) == 0) = false := by rw [beq_eq_false_iff_ne]; omega
            have e1 : (c : Int) < 128 := by omega
            have HE : Hid (Cd.uintR s.data.toList i = .ok (nn + c * 128 ^ 7, j + 1)) := by show _ = _; rw [← hE.out, HN.out, if_neg (by omega), if_pos (by omega)]
            clear HN hE
            go_wp2_with fail
            refine (hnext.out).mono ?_; rintro e w5 ⟨rfl, hu5, hr5⟩
            have c2 := hr5.cells.2.2.1
            go_wp2_with fail
            go_ret
            exact ToldX.mk_ok HE.out (hu.trans hu5) (ret_eq (by have hnn := hnn.out; rw [show (128 : Nat) ^ 7 = 562949953421312 from by decide] at hnn ⊢; first | (rw [IntKind.wrap_u64]; omega) | omega)) hr5 (by omega)
          · skip
            have e0 : ((c : Int) == 0) = false := by rw [beq_eq_false_iff_ne]; omega
            have e1 : ¬ (c : Int) < 128 := by omega
            have HE : Hid (Cd.uintF s.data.toList f 8 (nn + c % 128 * 128 ^ 7) (j + 1) = Cd.uintR s.data.toList i) := by show _ = _; rw [← hE.out, HN.out, if_neg (by omega), if_neg (by omega)]
            clear HN hE
            go_wp2_with fail
            refine (hnext.out).mono ?_; rintro e w5 ⟨rfl, hu5, hr5⟩
            have c2 := hr5.cells.2.2.1
            go_wp2_with fail
            go_roundw
            case rel => exact ⟨f - 1, 8, nn + c % 128 * 128 ^ 7, j + 1, rfl, by omega, by rw [show (128 : Nat) ^ 8 = 72057594037927936 from by decide]; rfl, int_eq (by have hnn := hnn.out; rw [show (128 : Nat) ^ 7 = 562949953421312 from by decide] at hnn ⊢; first | (rw [IntKind.wrap_u64]; omega) | omega), by have hnn := hnn.out; show _ < _; rw [show (128 : Nat) ^ 7 = 562949953421312 from by decide] at hnn ⊢; rw [show (128 : Nat) ^ 8 = 72057594037927936 from by decide]; omega, hr5, by omega, hu.trans hu5, by have := HE.out; rwa [show f - 1 + 1 = f from by omega]⟩
            case measure => simp [intOf]
      · by_cases h0 : c = 0
        · have e0 : ((c : Int) == 0) = true := by rw [beq_iff_eq]; omega
          have HE : Hid (Cd.uintR s.data.toList i = .error 7) := by show _ = _; rw [← hE.out, HN.out, if_pos (by omega)]
          have hfail := hid (fun W h => failX_new g s (j + 1) 7 W h)
          clear HN hE
          go_wp2_with fail
          refine (hnext.out).mono ?_; rintro e w5 ⟨rfl, hu5, hr5⟩
          have c2 := hr5.cells.2.2.1
          go_wp2_with fail
          refine (hfail.out _ hr5).mono ?_; rintro e w6 ⟨⟨v, rfl⟩, hu6, hr6⟩
          go_wp2_with fail
          go_ret
          exact ToldX.mk_err 0 rfl HE.out ((hu.trans hu5).trans hu6) rfl hr6 (by omega)
        · skip
          by_cases h1 : c < 128
          · have e0 : ((c : Int) == 0) = false := by rw [beq_eq_false_iff_ne]; omega
            have e1 : (c : Int) < 128 := by omega
            have HE : Hid (Cd.uintR s.data.toList i = .ok (nn + c * 128 ^ 8, j + 1)) := by show _ = _; rw [← hE.out, HN.out, if_neg (by omega), if_pos (by omega)]
            clear HN hE
            go_wp2_with fail
            refine (hnext.out).mono ?_; rintro e w5 ⟨rfl, hu5, hr5⟩
            have c2 := hr5.cells.2.2.1
            go_wp2_with fail
            go_ret
            exact ToldX.mk_ok HE.out (hu.trans hu5) (ret_eq (by have hnn := hnn.out; rw [show (128 : Nat) ^ 8 = 72057594037927936 from by decide] at hnn ⊢; first | (rw [IntKind.wrap_u64]; omega) | omega)) hr5 (by omega)
          · skip
            have e0 : ((c : Int) == 0) = false := by rw [beq_eq_false_iff_ne]; omega
            have e1 : ¬ (c : Int) < 128 := by omega
            have HE : Hid (Cd.uintF s.data.toList f 9 (nn + c % 128 * 128 ^ 8) (j + 1) = Cd.uintR s.data.toList i) := by show _ = _; rw [← hE.out, HN.out, if_neg (by omega), if_neg (by omega)]
            clear HN hE
            go_wp2_with fail
            refine (hnext.out).mono ?_; rintro e w5 ⟨rfl, hu5, hr5⟩
            have c2 := hr5.cells.2.2.1
            go_wp2_with fail
            go_roundw
            case rel => exact ⟨f - 1, 9, nn + c % 128 * 128 ^ 8, j + 1, rfl, by omega, by rw [show (128 : Nat) ^ 9 = 9223372036854775808 from by decide]; rfl, int_eq (by have hnn := hnn.out; rw [show (128 : Nat) ^ 8 = 72057594037927936 from by decide] at hnn ⊢; first | (rw [IntKind.wrap_u64]; omega) | omega), by have hnn := hnn.out; show _ < _; rw [show (128 : Nat) ^ 8 = 72057594037927936 from by decide] at hnn ⊢; rw [show (128 : Nat) ^ 9 = 9223372036854775808 from by decide]; omega, hr5, by omega, hu.trans hu5, by have := HE.out; rwa [show f - 1 + 1 = f from by omega]⟩
            case measure => simp [intOf]
      · by_cases h0 : c = 0
        · have e0 : ((c : Int) == 0) = true := by rw [beq_iff_eq]; omega
          have e9 : decide ((1 : Int) < (c : Int)) = false := by simp; omega
          have HE : Hid (Cd.uintR s.data.toList i = .error 7) := by show _ = _; rw [← hE.out, HN.out, if_pos (by omega)]
          have hfail := hid (fun W h => failX_new g s (j + 1) 7 W h)
          clear HN hE
          go_wp2_with fail
          refine (hnext.out).mono ?_; rintro e w5 ⟨rfl, hu5, hr5⟩
          have c2 := hr5.cells.2.2.1
          go_wp2_with fail
          refine (hfail.out _ hr5).mono ?_; rintro e w6 ⟨⟨v, rfl⟩, hu6, hr6⟩
          go_wp2_with fail
          go_ret
          exact ToldX.mk_err 0 rfl HE.out ((hu.trans hu5).trans hu6) rfl hr6 (by omega)
        · skip
          by_cases h9 : 1 < c
          · have e0 : ((c : Int) == 0) = false := by rw [beq_eq_false_iff_ne]; omega
            have e9 : decide ((1 : Int) < (c : Int)) = true := by simp; omega
            have HE : Hid (Cd.uintR s.data.toList i = .error 7) := by show _ = _; rw [← hE.out, HN.out, if_pos (by omega)]
            have hfail := hid (fun W h => failX_new g s (j + 1) 7 W h)
            clear HN hE
            go_wp2_with fail
            refine (hnext.out).mono ?_; rintro e w5 ⟨rfl, hu5, hr5⟩
            have c2 := hr5.cells.2.2.1
            go_wp2_with fail
            refine (hfail.out _ hr5).mono ?_; rintro e w6 ⟨⟨v, rfl⟩, hu6, hr6⟩
            go_wp2_with fail
            go_ret
            exact ToldX.mk_err 0 rfl HE.out ((hu.trans hu5).trans hu6) rfl hr6 (by omega)
          · skip
            have e0 : ((c : Int) == 0) = false := by rw [beq_eq_false_iff_ne]; omega
            have e9 : decide ((1 : Int) < (c : Int)) = false := by simp; omega
            have e1 : (c : Int) < 128 := by omega
            have HE : Hid (Cd.uintR s.data.toList i = .ok (nn + c * 128 ^ 9, j + 1)) := by show _ = _; rw [← hE.out, HN.out, if_neg (by omega), if_pos (by omega)]
            clear HN hE
            go_wp2_with fail
            refine (hnext.out).mono ?_; rintro e w5 ⟨rfl, hu5, hr5⟩
            have c2 := hr5.cells.2.2.1
            go_wp2_with fail
            go_ret
            exact ToldX.mk_ok HE.out (hu.trans hu5) (ret_eq (by have hnn := hnn.out; rw [show (128 : Nat) ^ 9 = 9223372036854775808 from by decide] at hnn ⊢; first | (rw [IntKind.wrap_u64]; omega) | omega)) hr5 (by omega)
    · obtain rfl : j = s.size := by omega
      have hnext := hid (nextX_no g s s.size w4 hrj (Nat.le_refl _))
      have HE : Hid (Cd.uintR s.data.toList i = .error 8) := by show _ = _; rw [← hE.out, uintF_end _ _ _ _ _ (by rw [HL.out]; omega)]
      have hk9 : (kk : Int) < 10 := by omega
      clear hE
      go_wp2_with fail
      refine (hnext.out).mono ?_; rintro e w5 ⟨rfl, hu5, hr5⟩
      have c2 := hr5.cells.2.2.1
      go_wp2_with fail
      go_ret
      exact ToldX.mk_err 0 rfl HE.out (hu.trans hu5) rfl hr5 (Nat.le_refl _)
end Go.Proofs.Ytmgafcblbbbanaa
