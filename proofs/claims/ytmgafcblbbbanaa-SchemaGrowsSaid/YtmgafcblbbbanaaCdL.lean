/-
  What is written is read as it was; lengths; no two numbers have the same bytes. No program in sight. No condition.
-/
import Derived.Test.YtmgafcblbbbanaaRdP
import Derived.Test.YtmgafcblbbbanaaCdI
namespace Go.Proofs.Ytmgafcblbbbanaa
namespace Cd

theorem get_drop {l r : List UInt8} {c : UInt8} {i : Nat} (h : l.drop i = c :: r) : l[i]? = some c ∧ l.drop (i + 1) = r := by
  constructor
  · have := congrArg List.head? h
    rwa [List.head?_drop] at this
  · rw [← List.drop_drop, h]; rfl
theorem pow_part (acc m p : Nat) : acc + m % 128 * p + m / 128 * (p * 128) = acc + m * p := by
  have e : m = m / 128 * 128 + m % 128 := by omega
  calc acc + m % 128 * p + m / 128 * (p * 128) = acc + (m / 128 * 128 + m % 128) * p := by rw [Nat.add_mul, Nat.mul_assoc, Nat.mul_comm p 128]; omega
    _ = acc + m * p := by rw [← e]
theorem uintF_enc (l t : List UInt8) (f : Nat) : ∀ k acc i m, f + k = 9 → m < 2 * 128 ^ f → (k = 0 ∨ 0 < m) → l.drop i = encF f m ++ t → uintF l (f + 1) k acc i = .ok (acc + m * 128 ^ k, i + (encF f m).length) ∧ l.drop (i + (encF f m).length) = t := by
  induction f with
  | zero =>
    intro k acc i m hk hm hp hd
    obtain ⟨h1, h2⟩ := get_drop hd
    have hm2 : m < 2 := by simpa using hm
    have hc : (UInt8.ofNat m).toNat = m := by rw [UInt8.toNat_ofNat']; omega
    refine ⟨?_, h2⟩
    unfold uintF
    rw [h1]
    simp only [hc]
    rw [if_neg (by omega), if_pos (by omega)]
    rfl
  | succ f ih =>
    intro k acc i m hk hm hp hd
    by_cases h128 : m < 128
    · rw [encF_small _ h128] at hd ⊢
      obtain ⟨h1, h2⟩ := get_drop hd
      have hc : (UInt8.ofNat m).toNat = m := by rw [UInt8.toNat_ofNat']; omega
      refine ⟨?_, h2⟩
      unfold uintF
      rw [h1]
      simp only [hc]
      rw [if_neg (by omega), if_pos h128]
      rfl
    · obtain ⟨f', hf, hlt, he⟩ := enc_next (by omega) hm
      obtain rfl : f = f' := by omega
      rw [he] at hd ⊢
      obtain ⟨h1, h2⟩ := get_drop hd
      have hc : (UInt8.ofNat (m % 128 + 128)).toNat = m % 128 + 128 := by rw [UInt8.toNat_ofNat']; omega
      obtain ⟨g1, g2⟩ := ih (k + 1) (acc + m % 128 * 128 ^ k) (i + 1) (m / 128) (by omega) hlt (.inr (by omega)) h2
      have hlen : i + (UInt8.ofNat (m % 128 + 128) :: encF f (m / 128)).length = i + 1 + (encF f (m / 128)).length := by rw [List.length_cons]; omega
      rw [hlen]
      refine ⟨?_, g2⟩
      unfold uintF
      rw [h1]
      simp only [hc]
      rw [if_neg (by omega), if_neg (by omega), show (m % 128 + 128) % 128 = m % 128 from by omega, g1, Nat.pow_succ, pow_part]
theorem uint_back {l t : List UInt8} {i n : Nat} (hn : n < 18446744073709551616) (h : l.drop i = enc n ++ t) : uintR l i = .ok (n, i + (enc n).length) ∧ l.drop (i + (enc n).length) = t := by
  have := uintF_enc l t 9 0 0 i n rfl (u64_bound hn) (.inl rfl) h
  simpa [uintR, enc] using this
theorem enc_inj {m n : Nat} (hm : m < 18446744073709551616) (hn : n < 18446744073709551616) (h : enc m = enc n) : m = n := by
  have h1 := (uint_back (l := enc m) (t := []) (i := 0) hm (by simp)).1
  have h2 := (uint_back (l := enc m) (t := []) (i := 0) hn (by simp [h])).1
  rw [h1] at h2
  injection h2 with h2
  injection h2
end Cd
theorem bstr_inj {a b : List UInt8} (h : bstr a = bstr b) : a = b := by
  have h2 : (bstr a).data.toList = (bstr b).data.toList := by rw [h]
  exact h2
end Go.Proofs.Ytmgafcblbbbanaa
