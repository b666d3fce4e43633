/-
  The reference's hex, Digits, digit: their contracts. No condition.
-/
import Derived.Test.YtgdegoacjobpdaaSh
namespace Go.Proofs.Ytgdegoacjobpdaa
open Go.RowKit

set_option maxRecDepth 100000 in
set_option maxHeartbeats 1600000 in
theorem hexR_any (n0 m : Nat) (hn : n0 < 18446744073709551616) (hm : m ≤ 16) (w : World) : Calls Try.prog 39 #[.int .u64 (n0 : Int), .int .i64 (m : Int)] w fun e w' => e = .returned (.string (bstr (Vl.hexL m n0))) ∧ Below w.heap.size w w' := by
  go_enter Try.func39, Try.ntmps39
  go_wp2_with fail
  go_loopw [7, 6, 0] (fun i s n wr => ∃ k : Nat, k ≤ m ∧ i = .int .i64 (k : Int) ∧ s = .string (bstr (Vl.hexL k n0)) ∧ n = .int .u64 ((n0 / 16 ^ k : Nat) : Int) ∧ Below w.heap.size w wr) (fun i _ _ _ => m - (intOf i).toNat)
  case atStart => exact ⟨0, by omega, rfl, rfl, by simp, Below.refl _ _⟩
  case round =>
    obtain ⟨k, hk, rfl, rfl, rfl, hbel⟩ := hrel
    by_cases hkm : k < m
    · have hkm' : (k : Int) < (m : Int) := by omega
      have HF := hid (Vl.hexL_front k n0)
      have HQ : Hid (n0 / 16 ^ k / 16 = n0 / 16 ^ (k + 1)) := by show _ = _; rw [Nat.div_div_eq_div_mul, Nat.pow_succ]
      have hql : n0 / 16 ^ k ≤ n0 := Nat.div_le_self _ _
      have hz : (bstr (Vl.hexL k n0)).size = k := Vl.hexL_length k n0
      have HJ : ∀ c, bstr [c] ++ bstr (Vl.hexL k n0) = bstr (c :: Vl.hexL k n0) := fun c => bstr_append [c] _
      generalize Vl.hexL k n0 = x at HF hz HJ ⊢
      generalize n0 / 16 ^ k = q at HF HQ hql ⊢
      have hd := Nat.mod_lt q (show 16 > 0 by decide)
      have hxe := ext_one (⟨#[48, 49, 50, 51, 52, 53, 54, 55, 56, 57, 97, 98, 99, 100, 101, 102]⟩ : ByteArray) (q % 16) hd
      rw [Vl.hex_digit (q % 16) hd] at hxe
      have hr1 : Int.tmod (q : Int) 16 = ((q % 16 : Nat) : Int) := rfl
      have hr2 : Int.tdiv (q : Int) 16 = ((q / 16 : Nat) : Int) := rfl
      generalize q % 16 = d at hxe hd hr1 HF
      have hd0 : (d : Int) < 16 := by omega
      have hj := HJ (Vl.hexd d)
      have hz1 : (bstr [Vl.hexd d]).size = 1 := rfl
      clear HJ
      go_wp2_with fail
      go_roundw
      case rel => exact ⟨k + 1, by omega, by go_num, by rw [HF.out], by rw [← HQ.out]; rfl, hbel⟩
      case measure => simp [intOf]; omega
    · obtain rfl : k = m := by omega
      go_wp2_with fail
      go_ret
      exact ⟨rfl, hbel⟩
namespace Vl
theorem decI_one {n : Int} (h : n.natAbs < 10) : decI n = if n < 0 then [45, UInt8.ofNat (48 + n.natAbs)] else [UInt8.ofNat (48 + n.natAbs)] := by
  unfold decI
  by_cases h0 : n < 0
  · rw [if_pos h0, if_pos h0, show (-n).toNat = n.natAbs by omega, dec_one h]
  · rw [if_neg h0, if_neg h0, show n.toNat = n.natAbs by omega, dec_one h]
theorem decI_more {n : Int} (h : ¬ n.natAbs < 10) : decI n = decI (Int.tdiv n 10) ++ [UInt8.ofNat (48 + n.natAbs % 10)] := by
  obtain ⟨m, rfl | rfl⟩ : ∃ m : Nat, n = (m : Int) ∨ n = -(m : Int) := ⟨n.natAbs, by omega⟩
  · have e : Int.tdiv (m : Int) 10 = ((m / 10 : Nat) : Int) := rfl
    have h' : ¬ m < 10 := by omega
    rw [e]
    unfold decI
    rw [if_neg (by omega), if_neg (by omega), Int.toNat_natCast, Int.toNat_natCast, Int.natAbs_natCast, dec_more h']
  · have e : Int.tdiv (-(m : Int)) 10 = -((m / 10 : Nat) : Int) := by rw [Int.neg_tdiv]; rfl
    have h' : ¬ m < 10 := by omega
    rw [e]
    unfold decI
    rw [if_pos (by omega), if_pos (by omega), Int.neg_neg, Int.neg_neg, Int.toNat_natCast, Int.toNat_natCast, Int.natAbs_neg, Int.natAbs_natCast, dec_more h']; rfl
end Vl
set_option maxRecDepth 100000 in
set_option maxHeartbeats 1600000 in
theorem digitsR_any (m : Nat) : ∀ n : Int, n.natAbs = m → -9223372036854775808 ≤ n → n ≤ 9223372036854775807 → ∀ w : World, Calls Try.prog 38 #[.int .i64 n] w fun e w' => e = .returned (.string (bstr (Vl.decI n))) ∧ Below w.heap.size w w' := by
  induction m using Nat.strongRecOn with
  | ind m ih =>
    intro n hm h0 h1 w
    have hst : ∀ d : Nat, d < 10 → ∀ W, _ := fun d hd W => run_string_one (P := Try.prog) W 54 9 5 (.int .u8 (48 + (d : Int))) (UInt8.ofNat (48 + d)) (by unfold byteV; congr 1; have : (UInt8.ofNat (48 + d)).toNat = (48 + d) % 256 := UInt8.toNat_ofNat'; omega) Try.underlying54 Try.underlying5 Try.underlying9
    have hz : ∀ c : UInt8, (bstr [c]).size = 1 := fun _ => rfl
    have e1 : Int.tmod n 10 = if n < 0 then -((m % 10 : Nat) : Int) else ((m % 10 : Nat) : Int) := by
      split
      · obtain rfl : n = -(m : Int) := by omega
        rw [Int.neg_tmod]; rfl
      · obtain rfl : n = (m : Int) := by omega
        rfl
    by_cases h : m < 10
    · have HE := hid (Vl.decI_one (n := n) (by omega))
      have e2 : Int.tdiv n 10 = 0 := by
        by_cases hn : n < 0
        · obtain rfl : n = -(m : Int) := by omega
          rw [Int.neg_tdiv, show Int.tdiv (m : Int) 10 = ((m / 10 : Nat) : Int) from rfl]; omega
        · obtain rfl : n = (m : Int) := by omega
          rw [show Int.tdiv (m : Int) 10 = ((m / 10 : Nat) : Int) from rfl]; omega
      rw [hm] at HE
      rw [Nat.mod_eq_of_lt h] at e1
      have hs0 := hst m h
      clear hst ih
      generalize UInt8.ofNat (48 + m) = c at *
      have hz0 := hz c
      have hj : (⟨#[45]⟩ : ByteArray) ++ bstr [c] = bstr [45, c] := bstr_append [45] [c]
      by_cases hn : n < 0
      · rw [if_pos hn] at e1 HE
        by_cases hm0 : m = 0
        · omega
        have hm1 : -(m : Int) < 0 := by omega
        go_enter Try.func38, Try.ntmps38
        go_wp2_with fail
        go_ret
        rw [HE.out]
        exact ⟨rfl, hba _ _⟩
      · rw [if_neg hn] at e1 HE
        have hm1 : ¬ (m : Int) < 0 := by omega
        go_enter Try.func38, Try.ntmps38
        go_wp2_with fail
        go_ret
        rw [HE.out]
        exact ⟨rfl, hba _ _⟩
    · have HE := hid (Vl.decI_more (n := n) (by omega))
      rw [hm] at HE
      obtain ⟨q, hq⟩ : ∃ q, Int.tdiv n 10 = q := ⟨_, rfl⟩
      have hq' : q = if n < 0 then -((m / 10 : Nat) : Int) else ((m / 10 : Nat) : Int) := by
        rw [← hq]
        split
        · obtain rfl : n = -(m : Int) := by omega
          rw [Int.neg_tdiv]; rfl
        · obtain rfl : n = (m : Int) := by omega
          rfl
      have hqa : q.natAbs = m / 10 := by rw [hq']; split <;> omega
      have hq0 : (q == 0) = false := by rw [beq_eq_false_iff_ne]; intro e; rw [e] at hqa; have : m / 10 = 0 := hqa.symm; omega
      have qb0 : -922337203685477580 ≤ q := by rw [hq']; split <;> omega
      have qb1 : q ≤ 922337203685477580 := by rw [hq']; split <;> omega
      have c1 := hid (ih (m / 10) (by omega) q hqa (by omega) (by omega))
      have hz1 := Vl.decI_size (n := q) (by omega) (by omega)
      have hz2 : (bstr (Vl.decI q)).size ≤ 21 := hz1
      rw [hq] at HE
      have hd := Nat.mod_lt m (show 10 > 0 by decide)
      generalize m % 10 = d at e1 HE hd
      have hs0 := hst d hd
      clear hst ih hq' hqa hz1
      generalize UInt8.ofNat (48 + d) = c at *
      have hz0 := hz c
      have hj : bstr (Vl.decI q) ++ bstr [c] = bstr (Vl.decI q ++ [c]) := bstr_append _ [c]
      by_cases hn : n < 0
      · rw [if_pos hn] at e1
        by_cases hd0 : d = 0
        · subst hd0
          have e1' : Int.tmod n 10 = 0 := e1
          replace hs0 : ∀ W : World, _ := fun W => hs0 W
          rw [show (48 : Int) + ((0 : Nat) : Int) = 48 from rfl] at hs0
          clear e1
          go_enter Try.func38, Try.ntmps38
          go_wp2_with fail
          refine (c1.out _).mono ?_; rintro e w1 ⟨rfl, b1⟩
          go_wp2_with fail
          go_ret
          rw [HE.out]
          exact ⟨rfl, hnext (hba _ _) b1⟩
        · have hm1 : -(d : Int) < 0 := by omega
          go_enter Try.func38, Try.ntmps38
          go_wp2_with fail
          refine (c1.out _).mono ?_; rintro e w1 ⟨rfl, b1⟩
          go_wp2_with fail
          go_ret
          rw [HE.out]
          exact ⟨rfl, hnext (hba _ _) b1⟩
      · rw [if_neg hn] at e1
        have hm1 : ¬ (d : Int) < 0 := by omega
        go_enter Try.func38, Try.ntmps38
        go_wp2_with fail
        refine (c1.out _).mono ?_; rintro e w1 ⟨rfl, b1⟩
        go_wp2_with fail
        go_ret
        rw [HE.out]
        exact ⟨rfl, hnext (hba _ _) b1⟩
namespace Vl
/-- a digit's number; of what is none 0 -/
def digR (c : UInt8) : Nat := match dig c with | some d => d | none => 0
theorem digR_none {c : UInt8} (h : ∀ j, j < 16 → hexd j ≠ c) : digR c = 0 := by
  unfold digR
  cases hd : dig c with
  | none => rfl
  | some d => exact absurd (dig_eq hd) (h d (dig_lt hd))
theorem digR_some {c : UInt8} {k : Nat} (hk : k < 16) (h : hexd k = c) : digR c = k := by
  unfold digR
  rw [← h, dig_hexd k hk]
theorem digR_lt (c : UInt8) : digR c < 16 := by
  unfold digR
  cases hd : dig c with
  | none => decide
  | some d => exact dig_lt hd
end Vl
set_option maxRecDepth 100000 in
set_option maxHeartbeats 1600000 in
theorem digitR_any (c : UInt8) (w : World) : Calls Try.prog 51 #[.int .u8 (c.toNat : Int)] w fun e w' => e = .returned (.int .i64 ((Vl.digR c : Nat) : Int)) ∧ Below w.heap.size w w' := by
  go_enter Try.func51, Try.ntmps51
  go_wp2_with fail
  go_loopw [4] (fun i wr => ∃ k : Nat, k ≤ 16 ∧ i = .int .i64 (k : Int) ∧ Hid (∀ j, j < k → Vl.hexd j ≠ c) ∧ Below w.heap.size w wr) (fun i _ => 16 - (intOf i).toNat)
  case atStart => exact ⟨0, by omega, rfl, hid (fun j hj => absurd hj (Nat.not_lt_zero j)), Below.refl _ _⟩
  case round =>
    obtain ⟨k, hk, rfl, hno, hbel⟩ := hrel
    have hk0 : (0 : Int) ≤ (k : Int) := by omega
    by_cases hk2 : k < 16
    · have hk2' : (k : Int) < 16 := by omega
      have hdg := Vl.hex_digit k hk2
      by_cases he : Vl.hexd k = c
      · have HE := hid (Vl.digR_some hk2 he)
        rw [he] at hdg
        clear he hno
        go_wp2_with fail
        go_ret
        rw [HE.out]
        exact ⟨rfl, hbel⟩
      · have HN : Hid (∀ j, j < k + 1 → Vl.hexd j ≠ c) := fun j hj => if h : j < k then hno.out j h else by
          have : j = k := by omega
          subst this; exact he
        have e1 : (((Vl.hexd k).toNat : Int) == (c.toNat : Int)) = false := by
          rw [beq_eq_false_iff_ne]; intro h; exact he (UInt8.toNat_inj.1 (by omega))
        generalize Vl.hexd k = d at hdg e1
        clear he hno
        go_wp2_with fail
        go_roundw
        case rel => exact ⟨k + 1, by omega, by go_num, HN, hbel⟩
        case measure => simp [intOf]; omega
    · obtain rfl : k = 16 := by omega
      have HE := hid (Vl.digR_none hno.out)
      clear hno
      go_wp2_with fail
      go_ret
      rw [HE.out]
      exact ⟨rfl, hbel⟩
end Go.Proofs.Ytgdegoacjobpdaa
