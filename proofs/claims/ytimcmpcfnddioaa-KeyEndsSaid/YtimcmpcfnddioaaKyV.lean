/-
  Both Compares of values are the same, plainly; a float's bytes have the floats' order. No condition.
-/
import Derived.Test.YtimcmpcfnddioaaKyK
import Derived.Test.YtimcmpcfnddioaaFo
namespace Go.Proofs.Ytimcmpcfnddioaa
open Go.RowKit

namespace Ky
theorem canon_cases {b : Nat} (hb : b < 18446744073709551616) (h : Va.canon b = b) : b = 9221120237041090560 ∨ b ≤ 9218868437227405312 ∨ (9223372036854775808 < b ∧ b ≤ 18442240474082181120) := by
  unfold Va.canon Va.INF Va.SIGN Va.NAN at h
  split at h
  · omega
  · split at h <;> omega
theorem fl_sg {a b : Nat} (ha : ¬ Va.INF < a % Va.SIGN) (hb : ¬ Va.INF < b % Va.SIGN) : fl a b = ints (Va.sg a) (Va.sg b) := by
  unfold fl ints
  rw [Va.order_sg ha hb]
  rcases Int.lt_trichotomy (Va.sg a) (Va.sg b) with h | h | h
  · rw [Int.compare_eq_lt.2 h, if_pos h]
  · rw [Int.compare_eq_eq.2 h, if_neg (by omega), if_neg (by omega)]
  · rw [Int.compare_eq_gt.2 h, if_neg (by omega), if_pos h]
theorem sg_pos {b : Nat} (h : b ≤ 9218868437227405312) : Va.sg b = (Va.mag b : Int) := by
  unfold Va.sg Va.SIGN
  rw [if_neg (by omega), Nat.mod_eq_of_lt (by omega)]
theorem sg_neg {b : Nat} (h : 9223372036854775808 ≤ b) (h2 : b ≤ 18442240474082181120) : Va.sg b = -(Va.mag (b - 9223372036854775808) : Int) := by
  unfold Va.sg Va.SIGN
  rw [if_pos (by omega), show b % 9223372036854775808 = b - 9223372036854775808 by omega]
theorem ints_neg (a b : Int) : ints (-a) (-b) = ints b a := by
  unfold ints
  split <;> split <;> first | rfl | omega | (split <;> first | rfl | omega)
theorem ints_mag (r t : Nat) : ints (Va.mag r) (Va.mag t) = ints r t := by
  have h1 := @Va.mag_lt r t
  have h2 := @Va.mag_lt t r
  unfold ints
  simp only [Int.ofNat_lt, h1, h2]
theorem ints_lt {a b : Int} (h : a < b) : ints a b = -1 := if_pos h
theorem ints_gt {a b : Int} (h : b < a) : ints a b = 1 := by unfold ints; rw [if_neg (by omega), if_pos h]
theorem ints_self (a : Int) : ints a a = 0 := by unfold ints; rw [if_neg (by omega), if_neg (by omega)]
theorem ints_add (a b c : Int) : ints (a + c) (b + c) = ints a b := by
  unfold ints
  split <;> split <;> first | rfl | omega | (split <;> first | rfl | omega)
theorem ints_sub (a b c : Int) : ints (c - a) (c - b) = ints b a := by
  unfold ints
  split <;> split <;> first | rfl | omega | (split <;> first | rfl | omega)
theorem turned_pos {b : Nat} (h : b < 9223372036854775808) : (turned b : Int) = (b : Int) + 9223372036854775808 := by unfold turned; rw [if_pos h]; omega
theorem turned_neg {b : Nat} (h : 9223372036854775808 ≤ b) (h2 : b < 18446744073709551616) : (turned b : Int) = 18446744073709551615 - (b : Int) := by unfold turned; rw [if_neg (by omega)]; omega
theorem floats_turned {a b : Nat} (ha : a < 18446744073709551616) (hb : b < 18446744073709551616) (ca : Va.canon a = a) (cb : Va.canon b = b) : floats a b = ints (turned a) (turned b) := by
  have na : ∀ {c : Nat}, c ≤ 9218868437227405312 ∨ (9223372036854775808 < c ∧ c ≤ 18442240474082181120) → ¬ Va.INF < c % Va.SIGN := by
    intro c h
    unfold Va.INF Va.SIGN
    omega
  have nn : nan 9221120237041090560 = 1 := by decide
  have n0 : ∀ {c : Nat}, ¬ Va.INF < c % Va.SIGN → nan c = 0 := fun h => if_neg h
  rcases canon_cases ha ca with rfl | ha1
  · rcases canon_cases hb cb with rfl | hb1
    · rw [ints_self]; decide +kernel
    · unfold floats
      rw [nn, n0 (na hb1), if_neg (by decide), ints_gt (by decide), turned_pos (by decide)]
      rw [ints_gt]
      rcases hb1 with h | h
      · rw [turned_pos (by omega)]; omega
      · rw [turned_neg (by omega) (by omega)]; omega
  · rcases canon_cases hb cb with rfl | hb1
    · unfold floats
      rw [nn, n0 (na ha1), if_neg (by decide), ints_lt (by decide), turned_pos (b := 9221120237041090560) (by decide)]
      rw [ints_lt]
      rcases ha1 with h | h
      · rw [turned_pos (by omega)]; omega
      · rw [turned_neg (by omega) (by omega)]; omega
    · unfold floats
      rw [n0 (na ha1), n0 (na hb1), if_pos (by decide), fl_sg (na ha1) (na hb1)]
      rcases ha1 with h | h
      · rcases hb1 with h' | h'
        · rw [sg_pos h, sg_pos h', turned_pos (by omega), turned_pos (by omega), ints_add, ints_mag]
        · have hm := @Va.mag_pos (b - 9223372036854775808)
          rw [sg_pos h, sg_neg (by omega) h'.2, turned_pos (by omega), turned_neg (by omega) (by omega), ints_gt (by omega), ints_gt (by omega)]
      · rcases hb1 with h' | h'
        · have hm := @Va.mag_pos (a - 9223372036854775808)
          rw [sg_pos h', sg_neg (by omega) h.2, turned_pos (b := b) (by omega), turned_neg (by omega) (by omega), ints_lt (by omega), ints_lt (by omega)]
        · rw [sg_neg (by omega) h.2, sg_neg (by omega) h'.2, turned_neg (by omega) (by omega), turned_neg (by omega) (by omega), ints_neg, ints_mag, ints_sub]
          rw [show ((b - 9223372036854775808 : Nat) : Int) = (b : Int) + (-9223372036854775808) by omega, show ((a - 9223372036854775808 : Nat) : Int) = (a : Int) + (-9223372036854775808) by omega, ints_add]
theorem less_turned {a b : Nat} (ha : a < 18446744073709551616) (hb : b < 18446744073709551616) (ca : Va.canon a = a) (cb : Va.canon b = b) : less a b = decide (turned a < turned b) := by
  have h1 := canon_cases ha ca
  have h2 := canon_cases hb cb
  unfold less turned
  split
  · rw [Bool.eq_iff_iff, Bool.and_eq_true, decide_eq_true_eq, decide_eq_true_eq, decide_eq_true_eq]
    split <;> split <;> omega
  · split
    · split
      · rw [Bool.eq_iff_iff, decide_eq_true_eq, decide_eq_true_eq]; omega
      · rw [eq_comm, decide_eq_false_iff_not]; omega
    · split
      · rw [eq_comm, decide_eq_true_iff]; omega
      · rw [Bool.eq_iff_iff, decide_eq_true_eq, decide_eq_true_eq]; omega
theorem lessI_turned {a b : Nat} (ha : a < 18446744073709551616) (hb : b < 18446744073709551616) (ca : Va.canon a = a) (cb : Va.canon b = b) : lessI a b = ints (turned a) (turned b) := by
  unfold lessI ints
  rw [less_turned ha hb ca cb, less_turned hb ha cb ca]
  simp only [decide_eq_true_eq, Int.ofNat_lt]
theorem right_cases {k n : Int} {b : Nat} {s : ByteArray} (h : Va.right k n b s = true) : (k = 0 ∧ n = 0 ∧ b = 0 ∧ s = ⟨#[]⟩) ∨ (k = 1 ∧ (n = 0 ∨ n = 1) ∧ b = 0 ∧ s = ⟨#[]⟩) ∨ (k = 2 ∧ b = 0 ∧ s = ⟨#[]⟩) ∨ (k = 3 ∧ n = 0 ∧ Va.canon b = b ∧ s = ⟨#[]⟩) ∨ ((k = 4 ∨ k = 5) ∧ n = 0 ∧ b = 0 ∧ s.size ≤ 4096) := by
  unfold Va.right at h
  simp only [← empty_iff_size] at h
  by_cases h0 : k = 0
  · rw [if_pos h0] at h; simp only [Bool.and_eq_true, decide_eq_true_eq] at h; exact .inl ⟨h0, h.1.1, h.1.2, h.2⟩
  rw [if_neg h0] at h
  by_cases h1 : k = 1
  · rw [if_pos h1] at h; simp only [Bool.and_eq_true, Bool.or_eq_true, decide_eq_true_eq] at h; exact .inr (.inl ⟨h1, h.1.1, h.1.2, h.2⟩)
  rw [if_neg h1] at h
  by_cases h2 : k = 2
  · rw [if_pos h2] at h; simp only [Bool.and_eq_true, decide_eq_true_eq] at h; exact .inr (.inr (.inl ⟨h2, h.1, h.2⟩))
  rw [if_neg h2] at h
  by_cases h3 : k = 3
  · rw [if_pos h3] at h; simp only [Bool.and_eq_true, decide_eq_true_eq] at h; exact .inr (.inr (.inr (.inl ⟨h3, h.1.1, h.2, h.1.2⟩)))
  rw [if_neg h3] at h
  by_cases h4 : k = 4 ∨ k = 5
  · rw [if_pos h4] at h; simp only [Bool.and_eq_true, decide_eq_true_eq] at h; exact .inr (.inr (.inr (.inr ⟨h4, h.1.1, h.1.2, h.2⟩)))
  rw [if_neg h4] at h
  cases h
theorem strL_self (l : List UInt8) : strL l l = 0 := by
  have h := strL_app l [] []
  rw [List.append_nil] at h
  rw [h]; rfl
theorem cmp_eq (x y : Cd.V) (hx : x.b < 18446744073709551616) (hy : y.b < 18446744073709551616) : cmp x y = cmpR x y := by
  unfold cmp cmpR
  cases hrx : x.right
  · rfl
  cases hry : y.right
  · rfl
  have ht : ¬ (true = false) := by decide
  simp only [if_neg ht]
  by_cases hk : x.k = y.k
  · rw [if_pos hk, if_pos hk]
    by_cases h3 : x.k = 3
    · rw [if_pos h3, if_pos h3]
      have c1 : Va.canon x.b = x.b := by
        rcases right_cases hrx with h | h | h | h | h
        · omega
        · omega
        · omega
        · exact h.2.2.1
        · omega
      have c2 : Va.canon y.b = y.b := by
        rcases right_cases hry with h | h | h | h | h
        · omega
        · omega
        · omega
        · exact h.2.2.1
        · omega
      rw [floats_turned hx hy c1 c2, lessI_turned hx hy c1 c2]
    · rw [if_neg h3, if_neg h3]
      by_cases h4 : x.k = 4 ∨ x.k = 5
      · rw [if_pos h4]
        by_cases hs : x.s = y.s
        · have e1 : x.n = 0 := by rcases right_cases hrx with h | h | h | h | h <;> omega
          have e2 : y.n = 0 := by rcases right_cases hry with h | h | h | h | h <;> omega
          rw [if_pos hs, e1, e2, hs, strs_eq, strL_self]; rfl
        · rw [if_neg hs]
      · have e1 : x.s = ⟨#[]⟩ := by
          rcases right_cases hrx with h | h | h | h | h
          · exact h.2.2.2
          · exact h.2.2.2
          · exact h.2.2
          · exact h.2.2.2
          · exact absurd h.1 h4
        have e2 : y.s = ⟨#[]⟩ := by
          rcases right_cases hry with h | h | h | h | h
          · exact h.2.2.2
          · exact h.2.2.2
          · exact h.2.2
          · exact h.2.2.2
          · exact absurd (hk ▸ h.1) h4
        rw [if_neg h4, if_pos (by rw [e1, e2])]
  · rw [if_neg hk, if_neg hk]
theorem cmpL_congr {c d : Cd.V → Cd.V → Int} {l r : List Cd.V} (h : ∀ x ∈ l, ∀ y ∈ r, c x y = d x y) : cmpL c l r = cmpL d l r := by
  have hz : ∀ p ∈ l.zip r, c p.1 p.2 = d p.1 p.2 := by
    rintro ⟨x, y⟩ hp
    exact h x (List.of_mem_zip hp).1 y (List.of_mem_zip hp).2
  have hf : ∀ (q : List (Cd.V × Cd.V)), (∀ p ∈ q, c p.1 p.2 = d p.1 p.2) → q.find? (fun p => decide (c p.1 p.2 ≠ 0)) = q.find? (fun p => decide (d p.1 p.2 ≠ 0)) := by
    intro q hq
    induction q with
    | nil => rfl
    | cons p q ih =>
      rw [List.find?_cons, List.find?_cons, hq p (by simp), ih fun p hp => hq p (by simp [hp])]
  unfold cmpL
  rw [hf _ hz]
  cases hq : (l.zip r).find? (fun p => decide (d p.1 p.2 ≠ 0)) with
  | none => rfl
  | some p => exact hz p (List.mem_of_find?_eq_some hq)
theorem comp_eq (l r : List Cd.V) (h1 : ∀ x ∈ l, x.b < 18446744073709551616) (h2 : ∀ x ∈ r, x.b < 18446744073709551616) : comp cmp l r = comp cmpR l r := by
  unfold comp
  rw [cmpL_congr fun x hx y hy => cmp_eq x y (h1 x hx) (h2 y hy)]
end Ky
end Go.Proofs.Ytimcmpcfnddioaa
