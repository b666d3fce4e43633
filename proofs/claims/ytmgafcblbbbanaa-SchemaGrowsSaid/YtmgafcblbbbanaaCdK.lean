/-
  What is read is written as the bytes that were read; bytes that are cut off are not read. No program in sight. No condition.
-/
import Derived.Test.YtmgafcblbbbanaaCdB
namespace Go.Proofs.Ytmgafcblbbbanaa
namespace Cd

theorem drop_cons {l : List UInt8} {i : Nat} {c : UInt8} (h : l[i]? = some c) : l.drop i = c :: l.drop (i + 1) := by
  obtain ⟨hi, rfl⟩ := List.getElem?_eq_some_iff.1 h
  exact List.drop_eq_getElem_cons hi
theorem get_lt {l : List UInt8} {i : Nat} {c : UInt8} (h : l[i]? = some c) : i < l.length := (List.getElem?_eq_some_iff.1 h).1
theorem ofNat_self (c : UInt8) {n : Nat} (h : n = c.toNat) : UInt8.ofNat n = c := by
  subst h; simp
theorem uintF_inv (l : List UInt8) (f : Nat) : ∀ k acc i n j, f + k = 9 → uintF l (f + 1) k acc i = .ok (n, j) → ∃ m, n = acc + m * 128 ^ k ∧ m < 2 * 128 ^ f ∧ (k = 0 ∨ 0 < m) ∧ l.drop i = encF f m ++ l.drop j ∧ i < j ∧ j ≤ l.length := by
  induction f with
  | zero =>
    intro k acc i n j hk h
    unfold uintF at h
    cases hc : l[i]? with
    | none => rw [hc] at h; cases h
    | some c =>
      rw [hc] at h
      simp only at h
      have hb := c.toNat_lt
      by_cases h1 : (c.toNat = 0 ∧ 0 < k) ∨ (k = 9 ∧ 1 < c.toNat)
      · rw [if_pos h1] at h; cases h
      · rw [if_neg h1, if_pos (by omega)] at h
        injection h with h
        injection h with e1 e2
        subst e1 e2
        refine ⟨c.toNat, rfl, by omega, by omega, ?_, by omega, get_lt hc⟩
        rw [drop_cons hc]
        show _ = [UInt8.ofNat c.toNat] ++ _
        rw [ofNat_self c rfl]; rfl
  | succ f ih =>
    intro k acc i n j hk h
    unfold uintF at h
    cases hc : l[i]? with
    | none => rw [hc] at h; cases h
    | some c =>
      rw [hc] at h
      simp only at h
      have hb := c.toNat_lt
      have hp : 0 < 128 ^ f := Nat.pow_pos (by decide)
      by_cases h1 : (c.toNat = 0 ∧ 0 < k) ∨ (k = 9 ∧ 1 < c.toNat)
      · rw [if_pos h1] at h; cases h
      · rw [if_neg h1] at h
        by_cases h2 : c.toNat < 128
        · rw [if_pos h2] at h
          injection h with h
          injection h with e1 e2
          subst e1 e2
          refine ⟨c.toNat, rfl, by rw [Nat.pow_succ]; omega, by omega, ?_, by omega, get_lt hc⟩
          rw [drop_cons hc, encF_small _ h2, ofNat_self c rfl]; rfl
        · rw [if_neg h2] at h
          obtain ⟨m, e1, e2, e3, e4, e5, e6⟩ := ih (k + 1) _ (i + 1) n j (by omega) h
          have hm : 0 < m := by omega
          refine ⟨m * 128 + c.toNat % 128, ?_, by rw [Nat.pow_succ]; omega, by omega, ?_, by omega, e6⟩
          · rw [e1, Nat.pow_succ, Nat.add_mul, Nat.mul_comm (128 ^ k) 128, ← Nat.mul_assoc]; omega
          · rw [drop_cons hc, e4]
            rw [show encF (f + 1) (m * 128 + c.toNat % 128) = if m * 128 + c.toNat % 128 < 128 then _ else UInt8.ofNat ((m * 128 + c.toNat % 128) % 128 + 128) :: encF f ((m * 128 + c.toNat % 128) / 128) from rfl, if_neg (by omega), show (m * 128 + c.toNat % 128) % 128 + 128 = c.toNat by omega, show (m * 128 + c.toNat % 128) / 128 = m by omega, ofNat_self c rfl]
            rfl
theorem uint_inv {l : List UInt8} {i n j : Nat} (h : uintR l i = .ok (n, j)) : n < 18446744073709551616 ∧ l.drop i = enc n ++ l.drop j ∧ i < j ∧ j ≤ l.length := by
  obtain ⟨m, e1, e2, _, e4, e5, e6⟩ := uintF_inv l 9 0 0 i n j rfl h
  obtain rfl : n = m := by simpa using e1
  exact ⟨Nat.lt_of_lt_of_le e2 (by decide), e4, e5, e6⟩
theorem text_inv {s t : ByteArray} {most i j : Nat} (h : textR s most i = .ok (t, j)) : t.size ≤ most ∧ s.data.toList.drop i = text t ++ s.data.toList.drop j ∧ i < j ∧ j ≤ s.size := by
  unfold textR at h
  cases hu : uintR s.data.toList i with
  | error e => rw [hu] at h; cases h
  | ok p =>
    obtain ⟨n, j0⟩ := p
    rw [hu] at h
    simp only at h
    by_cases h1 : most < n
    · rw [if_pos h1] at h; cases h
    rw [if_neg h1] at h
    by_cases h2 : s.size < j0 + n
    · rw [if_pos h2] at h; cases h
    rw [if_neg h2] at h
    injection h with h
    injection h with e1 e2
    subst e1 e2
    obtain ⟨a, b, c, d⟩ := uint_inv hu
    have hd : (s.extract j0 (j0 + n)).data.toList = (s.data.toList.drop j0).take n := by
      rw [ByteArray.data_extract, Array.toList_extract]
      show List.take _ (List.drop _ _) = _
      rw [Nat.add_sub_cancel_left]
    have hsz : (s.extract j0 (j0 + n)).size = n := by rw [ByteArray.size_extract]; omega
    refine ⟨by omega, ?_, by omega, by omega⟩
    unfold text
    rw [b, hsz, hd, List.append_assoc]
    congr 1
    rw [← List.drop_drop, List.take_append_drop]
end Cd
end Go.Proofs.Ytmgafcblbbbanaa
