/-
  The reference's Canon and Right of values: their contracts. Condition: the bits are below 2^64.
-/
import Derived.Test.YtimcmpcfnddioaaVaW
import Derived.Laws.Bits64b
namespace Go.Proofs.Ytimcmpcfnddioaa
open Go.RowKit

theorem and_sign (b : Nat) (hb : b < 18446744073709551616) : bits .and .u64 (b : Int) 9223372036854775807 = ((b % Va.SIGN : Nat) : Int) := by
  have h := bits_and_u64_nat b 9223372036854775807 hb (by decide)
  have e : b &&& 9223372036854775807 = b % 9223372036854775808 := Nat.and_two_pow_sub_one_eq_mod b 63
  rw [e] at h
  exact h

theorem canonR_any (b : Nat) (hb : b < 18446744073709551616) (w : World) : Calls Try.prog 45 #[.int .u64 (b : Int)] w fun e w' => e = .returned (.int .u64 (Va.canon b : Int)) ∧ w = w' := by
  have ha := and_sign b hb
  have hm : Hid (b % Va.SIGN < 9223372036854775808) := Nat.mod_lt _ (by decide)
  have hc : Hid (Va.canon b = if Va.INF < b % Va.SIGN then 9221120237041090560 else if b % Va.SIGN = 0 then 0 else b) := rfl
  have hi : Va.INF = 9218868437227405312 := rfl
  generalize b % Va.SIGN = m at ha hm hc
  have HB := hid hb
  clear hb
  by_cases h1 : Va.INF < m
  · have h1' : (9218868437227405312 : Int) < m := by omega
    have hcc : Hid (Va.canon b = 9221120237041090560) := by have := hc.out; rw [if_pos h1] at this; exact this
    clear h1 hi hc
    go_enter Try.func45, Try.ntmps45
    go_wp2
    go_ret
    exact ⟨by rw [hcc.out]; rfl, rfl⟩
  · have h1' : ¬ (9218868437227405312 : Int) < m := by omega
    by_cases h2 : m = 0
    · have hcc : Hid (Va.canon b = 0) := by have := hc.out; rw [if_neg h1, if_pos h2] at this; exact this
      subst h2
      rw [Int.natCast_zero] at ha
      clear h1 hi hc
      go_enter Try.func45, Try.ntmps45
      go_wp2
      go_ret
      exact ⟨by rw [hcc.out]; rfl, rfl⟩
    · have hcc : Hid (Va.canon b = b) := by have := hc.out; rw [if_neg h1, if_neg h2] at this; exact this
      have h2' : ((m : Int) == 0) = false := by rw [beq_eq_false_iff_ne]; omega
      clear h1 h2 hi hc
      go_enter Try.func45, Try.ntmps45
      go_wp2
      go_ret
      exact ⟨by rw [hcc.out]; rfl, rfl⟩

theorem bool_zero (n : Int) : (n == 0) = decide (n = 0) := by rw [Bool.eq_iff_iff]; simp
theorem bool_one (n : Int) : (n == 1) = decide (n = 1) := by rw [Bool.eq_iff_iff]; simp
theorem right_shape (k n : Int) (b : Nat) (s : ByteArray) : ∃ p1 p2 p3 p4 p5 p6, (n == 0) = p1 ∧ ((b : Int) == 0) = p2 ∧ s.toList.isEmpty = p3 ∧ (n == 1) = p4 ∧ ((Va.canon b : Int) == (b : Int)) = p5 ∧ decide ((s.size : Int) ≤ 4096) = p6 ∧
    ((k = 0 ∧ Va.right k n b s = (p1 && p2 && p3)) ∨ (k = 1 ∧ Va.right k n b s = ((p1 || p4) && p2 && p3)) ∨ (k = 2 ∧ Va.right k n b s = (p2 && p3)) ∨ (k = 3 ∧ Va.right k n b s = (p1 && p3 && p5)) ∨
     ((k = 4 ∨ k = 5) ∧ Va.right k n b s = (p1 && p2 && p6)) ∨ (k ≠ 0 ∧ k ≠ 1 ∧ k ≠ 2 ∧ k ≠ 3 ∧ k ≠ 4 ∧ k ≠ 5 ∧ Va.right k n b s = false)) := by
  refine ⟨_, _, _, _, _, _, rfl, rfl, rfl, rfl, rfl, rfl, ?_⟩
  have d0 : s.toList.isEmpty = (s.toList == (⟨#[]⟩ : ByteArray).toList) := by rw [show (⟨#[]⟩ : ByteArray).toList = [] from by rw [ByteArray.toList_eq]]; cases s.toList <;> rfl
  have d1 : s.toList.isEmpty = decide (s.size = 0) := by rw [d0, bytes_beq, Bool.eq_iff_iff, decide_eq_true_iff, decide_eq_true_iff]; exact empty_iff_size s
  have d2 : ((b : Int) == 0) = decide (b = 0) := by rw [Bool.eq_iff_iff, beq_iff_eq, decide_eq_true_iff]; omega
  have d5 : ((Va.canon b : Int) == (b : Int)) = decide (Va.canon b = b) := by rw [Bool.eq_iff_iff, beq_iff_eq, decide_eq_true_iff]; omega
  have d6 : decide ((s.size : Int) ≤ 4096) = decide (s.size ≤ 4096) := by rw [Bool.eq_iff_iff, decide_eq_true_iff, decide_eq_true_iff]; omega
  rw [d1, d2, d5, d6, bool_zero, bool_one]
  unfold Va.right
  by_cases h0 : k = 0
  · exact .inl ⟨h0, by rw [if_pos h0]⟩
  by_cases h1 : k = 1
  · exact .inr (.inl ⟨h1, by rw [if_neg h0, if_pos h1]⟩)
  by_cases h2 : k = 2
  · exact .inr (.inr (.inl ⟨h2, by rw [if_neg h0, if_neg h1, if_pos h2]⟩))
  by_cases h3 : k = 3
  · exact .inr (.inr (.inr (.inl ⟨h3, by rw [if_neg h0, if_neg h1, if_neg h2, if_pos h3]⟩)))
  by_cases h4 : k = 4 ∨ k = 5
  · exact .inr (.inr (.inr (.inr (.inl ⟨h4, by rw [if_neg h0, if_neg h1, if_neg h2, if_neg h3, if_pos h4]⟩))))
  · exact .inr (.inr (.inr (.inr (.inr ⟨h0, h1, h2, h3, fun h => h4 (.inl h), fun h => h4 (.inr h), by rw [if_neg h0, if_neg h1, if_neg h2, if_neg h3, if_neg h4]⟩))))

set_option maxRecDepth 100000 in
set_option maxHeartbeats 6400000 in
theorem rightR_any (k n : Int) (b : Nat) (s : ByteArray) (_hs : s.size ≤ maxLen) (hb : b < 18446744073709551616) (w : World) : Calls Try.prog 31 #[vv k n b s] w fun e w' => e = .returned (.bool (Va.right k n b s)) ∧ Below w.heap.size w w' := by
  have hcan := hid (fun w => canonR_any b hb w)
  obtain ⟨p1, p2, p3, p4, p5, p6, e1, e2, e3, e4, e5, e6, hc⟩ := right_shape k n b s
  have hB := hba w (.cells #[.int .i64 k, .int .i64 n, .int .u64 (b : Int), .string s] 39)
  unfold vv
  have HB := hid hb
  clear hb
  rcases hc with ⟨rfl, hv⟩ | ⟨rfl, hv⟩ | ⟨rfl, hv⟩ | ⟨rfl, hv⟩ | ⟨rfl | rfl, hv⟩ | ⟨k0, k1, k2, k3, k4, k5, hv⟩
  · have HV := hid hv
    clear hv e4 e5 e6
    cases p1 <;> cases p2 <;> cases p3
    all_goals
      go_enter Try.func31, Try.ntmps31
      go_wp2
      go_ret
      rw [HV.out]
      exact ⟨rfl, hB⟩
  · have HV := hid hv
    clear hv e5 e6
    cases p1 <;> cases p2 <;> cases p3 <;> cases p4
    all_goals
      go_enter Try.func31, Try.ntmps31
      go_wp2
      go_ret
      rw [HV.out]
      exact ⟨rfl, hB⟩
  · have HV := hid hv
    clear hv e1 e4 e5 e6
    cases p2 <;> cases p3
    all_goals
      go_enter Try.func31, Try.ntmps31
      go_wp2
      go_ret
      rw [HV.out]
      exact ⟨rfl, hB⟩
  · have HV := hid hv
    clear hv e2 e4 e6
    have hc0 : (w.alloc (.cells #[.int .i64 3, .int .i64 n, .int .u64 (b : Int), .string s] 39)).cell? ⟨w.heap.size, 0, none⟩ = some (.int .i64 3) := by simp
    cases p1 <;> cases p3 <;> cases p5
    all_goals
      go_enter Try.func31, Try.ntmps31
      go_wp2_with fail
      go_quiet ((go_at_call 45; exact Calls.quiet_of_same ((hcan.out _).mono fun _ _ h => ⟨h.1, h.2.symm⟩)))
      go_wp2
      go_ret
      rw [HV.out]
      exact ⟨rfl, hdrewN hB nq⟩
  · have HV := hid hv
    clear hv e3 e4 e5
    cases p1 <;> cases p2 <;> cases p6
    all_goals
      go_enter Try.func31, Try.ntmps31
      go_wp2
      go_ret
      rw [HV.out]
      exact ⟨rfl, hB⟩
  · have HV := hid hv
    clear hv e3 e4 e5
    cases p1 <;> cases p2 <;> cases p6
    all_goals
      go_enter Try.func31, Try.ntmps31
      go_wp2
      go_ret
      rw [HV.out]
      exact ⟨rfl, hB⟩
  · have HV := hid hv
    clear hv e1 e2 e3 e4 e5 e6
    go_enter Try.func31, Try.ntmps31
    go_wp2
    go_ret
    rw [HV.out]
    exact ⟨rfl, hB⟩
end Go.Proofs.Ytimcmpcfnddioaa
