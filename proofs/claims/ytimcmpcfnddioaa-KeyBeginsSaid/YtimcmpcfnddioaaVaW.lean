/-
  value.canonical, value.Right, and the reference's Canon and Right: their contracts. Condition: the bits are below 2^64.
-/
import Derived.Test.YtimcmpcfnddioaaRows
import Derived.Test.YtimcmpcfnddioaaBytes
import Derived.Test.YtimcmpcfnddioaaVa
import Derived.Test.YtimcmpcfnddioaaReg
import Derived.Laws.Cover2
import Derived.Laws.Externs
import Derived.Deep.QuietTactic
import Derived.BigQuiet
namespace Go.Proofs.Ytimcmpcfnddioaa
open Go.RowKit

/-- a value as it stands in memory -/
def vv (k n : Int) (b : Nat) (s : ByteArray) : Value := .agg #[.int .i64 k, .int .i64 n, .int .u64 (b : Int), .string s]

theorem run_frombits (b : Nat) (w : World) : (callFunc 52 #[.int .u64 (b : Int)]).run Try.prog w = .ok (.value (.float .f64 b)) w := by
  rw [run_callFunc_extern (e := Extern.MathFloatBits.float64frombits) Try.func52 (by kernel_rfl) (by kernel_rfl) (by kernel_rfl) (by kernel_rfl)]
  rfl
theorem run_bits (b : Nat) (w : World) : (callFunc 56 #[.float .f64 b]).run Try.prog w = .ok (.value (.int .u64 (b : Int))) w := by
  rw [run_callFunc_extern (e := Extern.MathFloatBits.float64bits) Try.func56 (by kernel_rfl) (by kernel_rfl) (by kernel_rfl) (by kernel_rfl)]
  rfl

theorem isnan_any (b : Nat) (w : World) : Calls Try.prog 54 #[.float .f64 b] w fun e w' => e = .returned (.bool (decide (Va.INF < b % Va.SIGN))) ∧ w = w' := by
  have h := Va.order_self b
  have h2 : (FloatKind.f64.format.order b b != some .eq) = decide (Va.INF < b % Va.SIGN) := by
    unfold bne; rw [h, decide_not, Bool.not_not]
  clear h
  generalize decide (Va.INF < b % Va.SIGN) = r at h2 ⊢
  go_enter Try.func54, Try.ntmps54
  go_wp2
  go_ret
  exact ⟨rfl, rfl⟩

theorem canonical_any (b : Nat) (w : World) : Calls Try.prog 51 #[.float .f64 b] w fun e w' => e = .returned (.int .u64 (Va.canon b : Int)) ∧ w = w' := by
  have hb := fun w => run_bits b w
  have hn := hid (fun w => isnan_any b w)
  by_cases h1 : Va.INF < b % Va.SIGN
  · have hc := hid (show Va.canon b = 9221120237041090560 by unfold Va.canon; rw [if_pos h1]; rfl)
    simp only [h1, decide_true] at hn
    clear h1
    go_enter Try.func51, Try.ntmps51
    go_wp2_with (go_at_call 54; refine (hn.out _).mono ?_; rintro e w1 ⟨rfl, rfl⟩)
    go_ret
    exact ⟨by rw [hc.out]; rfl, rfl⟩
  · have h0 := Va.order_zero b h1
    simp only [h1, decide_false] at hn
    by_cases h2 : b % Va.SIGN = 0
    · have hc := hid (show Va.canon b = 0 by unfold Va.canon; rw [if_neg h1, if_pos h2])
      simp only [h2, decide_true] at h0
      clear h1 h2
      go_enter Try.func51, Try.ntmps51
      go_wp2_with (go_at_call 54; refine (hn.out _).mono ?_; rintro e w1 ⟨rfl, rfl⟩)
      go_ret
      exact ⟨by rw [hc.out]; rfl, rfl⟩
    · have hc := hid (show Va.canon b = b by unfold Va.canon; rw [if_neg h1, if_neg h2])
      simp only [h2, decide_false] at h0
      clear h1 h2
      go_enter Try.func51, Try.ntmps51
      go_wp2_with (go_at_call 54; refine (hn.out _).mono ?_; rintro e w1 ⟨rfl, rfl⟩)
      go_ret
      exact ⟨by rw [hc.out]; rfl, rfl⟩

theorem Try.vHeld : Try.prog.stoodInHeld 39 = false := by kernel_rfl
theorem va_equalIn (k n : Int) (b : Nat) (s : ByteArray) (k' n' : Int) (b' : Nat) (s' : ByteArray) (w : World) :
    (Op.equalIn 10000 39 (vv k n b s) (vv k' n' b' s')).run Try.prog w = .ok (k == k' && (n == n' && ((b : Int) == (b' : Int) && decide (s = s')))) w := by
  unfold vv
  rw [run_equalIn_agg w 9999 39 _ _ (by kernel_rfl) Try.vHeld]
  rw [← bytes_beq]
  cases h1 : (k == k') <;> cases h2 : (n == n') <;> cases h3 : ((b : Int) == (b' : Int)) <;> cases h4 : (s.toList == s'.toList)
  all_goals
    go_simp
theorem va_eql (k n : Int) (b : Nat) (s : ByteArray) (k' n' : Int) (b' : Nat) (s' : ByteArray) (r : Bool) (h : (k == k' && (n == n' && ((b : Int) == (b' : Int) && decide (s = s')))) = r) (w : World) :
    (binOp .eql 39 (vv k n b s) (vv k' n' b' s')).run Try.prog w = .ok (.bool r) w := by
  subst h
  have h := va_equalIn k n b s k' n' b' s' w
  unfold vv at h ⊢
  simp [binOp, Op.equal, Op.maxDepth, h]
theorem va_neq (k n : Int) (b : Nat) (s : ByteArray) (k' n' : Int) (b' : Nat) (s' : ByteArray) (r : Bool) (h : (k == k' && (n == n' && ((b : Int) == (b' : Int) && decide (s = s')))) = r) (w : World) :
    (binOp .neq 39 (vv k n b s) (vv k' n' b' s')).run Try.prog w = .ok (.bool (!r)) w := by
  subst h
  have h := va_equalIn k n b s k' n' b' s' w
  unfold vv at h ⊢
  simp [binOp, Op.equal, Op.maxDepth, h]
theorem and_one_i64 (n : Int) : bits .and .i64 n 1 = n % 2 := by
  show IntKind.i64.wrap ((BitVec.ofInt 64 n &&& BitVec.ofInt 64 1).toNat : Int) = _
  rw [BitVec.toNat_and, BitVec.toNat_ofInt, show (BitVec.ofInt 64 1).toNat = 1 from rfl, Nat.and_one_is_mod, IntKind.wrap_i64]
  omega
theorem empty_iff_size (s : ByteArray) : s = ⟨#[]⟩ ↔ s.size = 0 := by
  constructor
  · rintro rfl; rfl
  · intro h
    apply ba_eq
    have : s.data.toList.length = 0 := by simpa using h
    rw [List.eq_nil_of_length_eq_zero this]

/-- the ways through Right: what it is held against, and whether they are the same -/
theorem right_ways (k n : Int) (b : Nat) (s : ByteArray) : ∃ (n' : Int) (b' : Nat) (s' : ByteArray) (r : Bool), (k == k && (n == n' && ((b : Int) == (b' : Int) && decide (s = s')))) = r ∧
    ((k = 0 ∧ n' = 0 ∧ b' = 0 ∧ s' = ⟨#[]⟩ ∧ (r = true → s.size ≤ 4096) ∧ Va.right k n b s = r) ∨
     (k = 1 ∧ n' = n % 2 ∧ b' = 0 ∧ s' = ⟨#[]⟩ ∧ (r = true → s.size ≤ 4096) ∧ Va.right k n b s = r) ∨
     (k = 2 ∧ n' = n ∧ b' = 0 ∧ s' = ⟨#[]⟩ ∧ (r = true → s.size ≤ 4096) ∧ Va.right k n b s = r) ∨
     (k = 3 ∧ n' = 0 ∧ b' = Va.canon b ∧ s' = ⟨#[]⟩ ∧ (r = true → s.size ≤ 4096) ∧ Va.right k n b s = r) ∨
     ((k = 4 ∨ k = 5) ∧ n' = 0 ∧ b' = 0 ∧ s = s' ∧ Va.right k n b s = (r && decide (s.size ≤ 4096))) ∨
     (k ≠ 0 ∧ k ≠ 1 ∧ k ≠ 2 ∧ k ≠ 3 ∧ k ≠ 4 ∧ k ≠ 5 ∧ Va.right k n b s = false)) := by
  unfold Va.right
  by_cases h0 : k = 0
  · refine ⟨_, _, _, _, rfl, .inl ⟨h0, rfl, rfl, rfl, ?_, ?_⟩⟩
    · intro h; simp only [Bool.and_eq_true, beq_iff_eq, decide_eq_true_iff, empty_iff_size] at h; omega
    · rw [if_pos h0, Bool.eq_iff_iff]; constructor <;> (intro h; simp only [Bool.and_eq_true, beq_iff_eq, decide_eq_true_iff, empty_iff_size] at h ⊢; (repeat' (refine And.intro ?_ ?_)) <;> first | exact trivial | omega)
  by_cases h1 : k = 1
  · refine ⟨_, _, _, _, rfl, .inr (.inl ⟨h1, rfl, rfl, rfl, ?_, ?_⟩)⟩
    · intro h; simp only [Bool.and_eq_true, beq_iff_eq, decide_eq_true_iff, empty_iff_size] at h; omega
    · rw [if_neg h0, if_pos h1, Bool.eq_iff_iff]; constructor <;> (intro h; simp only [Bool.and_eq_true, Bool.or_eq_true, beq_iff_eq, decide_eq_true_iff, empty_iff_size] at h ⊢; (repeat' (refine And.intro ?_ ?_)) <;> first | exact trivial | omega)
  by_cases h2 : k = 2
  · refine ⟨_, _, _, _, rfl, .inr (.inr (.inl ⟨h2, rfl, rfl, rfl, ?_, ?_⟩))⟩
    · intro h; simp only [Bool.and_eq_true, beq_iff_eq, decide_eq_true_iff, empty_iff_size] at h; omega
    · rw [if_neg h0, if_neg h1, if_pos h2, Bool.eq_iff_iff]; constructor <;> (intro h; simp only [Bool.and_eq_true, beq_iff_eq, decide_eq_true_iff, empty_iff_size] at h ⊢; (repeat' (refine And.intro ?_ ?_)) <;> first | exact trivial | omega)
  by_cases h3 : k = 3
  · refine ⟨_, _, _, _, rfl, .inr (.inr (.inr (.inl ⟨h3, rfl, rfl, rfl, ?_, ?_⟩)))⟩
    · intro h; simp only [Bool.and_eq_true, beq_iff_eq, decide_eq_true_iff, empty_iff_size] at h; omega
    · rw [if_neg h0, if_neg h1, if_neg h2, if_pos h3, Bool.eq_iff_iff]; constructor <;> (intro h; simp only [Bool.and_eq_true, beq_iff_eq, decide_eq_true_iff, empty_iff_size] at h ⊢; (repeat' (refine And.intro ?_ ?_)) <;> first | exact trivial | omega)
  by_cases h4 : k = 4 ∨ k = 5
  · refine ⟨_, _, _, _, rfl, .inr (.inr (.inr (.inr (.inl ⟨h4, rfl, rfl, rfl, ?_⟩))))⟩
    rw [if_neg h0, if_neg h1, if_neg h2, if_neg h3, if_pos h4, Bool.eq_iff_iff]; simp only [Bool.and_eq_true, beq_iff_eq, decide_eq_true_iff, true_and, and_true]; omega
  · refine ⟨0, 0, ⟨#[]⟩, _, rfl, .inr (.inr (.inr (.inr (.inr ⟨h0, h1, h2, h3, fun h => h4 (.inl h), fun h => h4 (.inr h), ?_⟩))))⟩
    rw [if_neg h0, if_neg h1, if_neg h2, if_neg h3, if_neg h4]

set_option maxRecDepth 100000 in
set_option maxHeartbeats 1600000 in
theorem right_any (k n : Int) (b : Nat) (s : ByteArray) (hs : s.size ≤ maxLen) (w : World) : Calls Try.prog 34 #[vv k n b s] w fun e w' => e = .returned (.bool (Va.right k n b s)) ∧ Below w.heap.size w w' := by
  unfold maxLen at hs
  obtain ⟨n', b', s', r, hr, hc⟩ := right_ways k n b s
  have hq := va_eql k n b s k n' b' s' r hr
  have hand := and_one_i64 n
  have hfr := fun w => run_frombits b w
  have hcan := hid (fun w => canonical_any b w)
  clear hr
  unfold vv at hq ⊢
  rcases hc with ⟨rfl, rfl, rfl, rfl, hlen, hv⟩ | ⟨rfl, rfl, rfl, rfl, hlen, hv⟩ | ⟨rfl, rfl, rfl, rfl, hlen, hv⟩ | ⟨rfl, rfl, rfl, rfl, hlen, hv⟩ | ⟨rfl | rfl, rfl, rfl, rfl, hv⟩ | ⟨k0, k1, k2, k3, k4, k5, hv⟩
  · have HV := hid hv
    clear hv
    rw [Int.natCast_zero] at hq
    cases r
    · clear hlen
      go_enter Try.func34, Try.ntmps34
      go_wp2
      go_ret
      rw [HV.out]
      exact ⟨rfl, ((Below.refl _ _).alloc (Nat.le_refl _) _).alloc (by simp) _⟩
    · have hl : (s.size : Int) ≤ 4096 := by have := hlen rfl; omega
      clear hlen
      go_enter Try.func34, Try.ntmps34
      go_wp2
      go_ret
      rw [HV.out]
      exact ⟨rfl, ((Below.refl _ _).alloc (Nat.le_refl _) _).alloc (by simp) _⟩
  · have HV := hid hv
    clear hv
    rw [Int.natCast_zero] at hq
    cases r
    · clear hlen
      go_enter Try.func34, Try.ntmps34
      go_wp2
      go_ret
      rw [HV.out]
      exact ⟨rfl, ((Below.refl _ _).alloc (Nat.le_refl _) _).alloc (by simp) _⟩
    · have hl : (s.size : Int) ≤ 4096 := by have := hlen rfl; omega
      clear hlen
      go_enter Try.func34, Try.ntmps34
      go_wp2
      go_ret
      rw [HV.out]
      exact ⟨rfl, ((Below.refl _ _).alloc (Nat.le_refl _) _).alloc (by simp) _⟩
  · have HV := hid hv
    clear hv
    rw [Int.natCast_zero] at hq
    cases r
    · clear hlen
      go_enter Try.func34, Try.ntmps34
      go_wp2
      go_ret
      rw [HV.out]
      exact ⟨rfl, ((Below.refl _ _).alloc (Nat.le_refl _) _).alloc (by simp) _⟩
    · have hl : (s.size : Int) ≤ 4096 := by have := hlen rfl; omega
      clear hlen
      go_enter Try.func34, Try.ntmps34
      go_wp2
      go_ret
      rw [HV.out]
      exact ⟨rfl, ((Below.refl _ _).alloc (Nat.le_refl _) _).alloc (by simp) _⟩
  · have HV := hid hv
    clear hv
    cases r
    · clear hlen
      go_enter Try.func34, Try.ntmps34
      go_wp2_with (go_at_call 51; refine (hcan.out _).mono ?_; rintro e w1 ⟨rfl, rfl⟩)
      go_ret
      rw [HV.out]
      exact ⟨rfl, ((Below.refl _ _).alloc (Nat.le_refl _) _).alloc (by simp) _⟩
    · have hl : (s.size : Int) ≤ 4096 := by have := hlen rfl; omega
      clear hlen
      go_enter Try.func34, Try.ntmps34
      go_wp2_with (go_at_call 51; refine (hcan.out _).mono ?_; rintro e w1 ⟨rfl, rfl⟩)
      go_ret
      rw [HV.out]
      exact ⟨rfl, ((Below.refl _ _).alloc (Nat.le_refl _) _).alloc (by simp) _⟩
  · rw [Int.natCast_zero] at hq
    cases r
    · have HV := hid hv
      clear hv
      go_enter Try.func34, Try.ntmps34
      go_wp2
      go_ret
      rw [HV.out]
      exact ⟨rfl, ((Below.refl _ _).alloc (Nat.le_refl _) _).alloc (by simp) _⟩
    · by_cases hl : s.size ≤ 4096
      · have HV := hid hv
        simp only [hl, decide_true, Bool.and_true] at HV
        have hl2 : (s.size : Int) ≤ 4096 := by omega
        clear hv hl
        go_enter Try.func34, Try.ntmps34
        go_wp2
        go_ret
        rw [HV.out]
        exact ⟨rfl, ((Below.refl _ _).alloc (Nat.le_refl _) _).alloc (by simp) _⟩
      · have HV := hid hv
        simp only [hl, decide_false, Bool.and_false] at HV
        have hl2 : ¬ (s.size : Int) ≤ 4096 := by omega
        clear hv hl
        go_enter Try.func34, Try.ntmps34
        go_wp2
        go_ret
        rw [HV.out]
        exact ⟨rfl, ((Below.refl _ _).alloc (Nat.le_refl _) _).alloc (by simp) _⟩
  · rw [Int.natCast_zero] at hq
    cases r
    · have HV := hid hv
      clear hv
      go_enter Try.func34, Try.ntmps34
      go_wp2
      go_ret
      rw [HV.out]
      exact ⟨rfl, ((Below.refl _ _).alloc (Nat.le_refl _) _).alloc (by simp) _⟩
    · by_cases hl : s.size ≤ 4096
      · have HV := hid hv
        simp only [hl, decide_true, Bool.and_true] at HV
        have hl2 : (s.size : Int) ≤ 4096 := by omega
        clear hv hl
        go_enter Try.func34, Try.ntmps34
        go_wp2
        go_ret
        rw [HV.out]
        exact ⟨rfl, ((Below.refl _ _).alloc (Nat.le_refl _) _).alloc (by simp) _⟩
      · have HV := hid hv
        simp only [hl, decide_false, Bool.and_false] at HV
        have hl2 : ¬ (s.size : Int) ≤ 4096 := by omega
        clear hv hl
        go_enter Try.func34, Try.ntmps34
        go_wp2
        go_ret
        rw [HV.out]
        exact ⟨rfl, ((Below.refl _ _).alloc (Nat.le_refl _) _).alloc (by simp) _⟩
  · have HV := hid hv
    clear hv hq
    go_enter Try.func34, Try.ntmps34
    go_wp2
    go_ret
    rw [HV.out]
    exact ⟨rfl, ((Below.refl _ _).alloc (Nat.le_refl _) _).alloc (by simp) _⟩
end Go.Proofs.Ytimcmpcfnddioaa
