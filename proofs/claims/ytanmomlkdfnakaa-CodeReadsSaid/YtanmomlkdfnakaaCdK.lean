/-
  What is read is written as the bytes that were read; bytes that are cut off are not read. No program in sight. No condition.
-/
import Derived.Test.YtanmomlkdfnakaaCdB
namespace Go.Proofs.Ytanmomlkdfnakaa
namespace Cd

theorem drop_cons {l : List UInt8} {i : Nat} {c : UInt8} (h : l[i]? = some c) : l.drop i = c :: l.drop (i + 1) := by
  obtain ⟨hi, rfl⟩ := List.getElem?_eq_some_iff.1 h
  exact List.drop_eq_getElem_cons hi
theorem get_lt {l : List UInt8} {i : Nat} {c : UInt8} (h : l[i]? = some c) : i < l.length := (List.getElem?_eq_some_iff.1 h).1
theorem ofNat_self (c : UInt8) {n : Nat} (h : n = c.toNat) : UInt8.ofNat n = c := by
  subst h; simp
theorem uintF_inv (l : List UInt8) (f : Nat) : ∀ k acc i n j, f + k = 9 → uintF l (f + 1) k acc i = .ok (n, j) → ∃ m, n = acc + m * 128 ^ k ∧ m < 2 * 128 ^ f ∧ (k = 0 ∨ 0 < m) ∧ l.drop i = encF f m ++ l.drop j ∧ i < j ∧ j ≤ l.length := by
  induction f with
  | zero =>
    intro k acc i n j hk h
    unfold uintF at h
    cases hc : l[i]? with
    | none => rw [hc] at h; cases h
    | some c =>
      rw [hc] at h
      simp only at h
      have hb := c.toNat_lt
      by_cases h1 : (c.toNat = 0 ∧ 0 < k) ∨ (k = 9 ∧ 1 < c.toNat)
      · rw [if_pos h1] at h; cases h
      · rw [if_neg h1, if_pos (by omega)] at h
        injection h with h
        injection h with e1 e2
        subst e1 e2
        refine ⟨c.toNat, rfl, by omega, by omega, ?_, by omega, get_lt hc⟩
        rw [drop_cons hc]
        show _ = [UInt8.ofNat c.toNat] ++ _
        rw [ofNat_self c rfl]; rfl
  | succ f ih =>
    intro k acc i n j hk h
    unfold uintF at h
    cases hc : l[i]? with
    | none => rw [hc] at h; cases h
    | some c =>
      rw [hc] at h
      simp only at h
      have hb := c.toNat_lt
      have hp : 0 < 128 ^ f := Nat.pow_pos (by decide)
      by_cases h1 : (c.toNat = 0 ∧ 0 < k) ∨ (k = 9 ∧ 1 < c.toNat)
      · rw [if_pos h1] at h; cases h
      · rw [if_neg h1] at h
        by_cases h2 : c.toNat < 128
        · rw [if_pos h2] at h
          injection h with h
          injection h with e1 e2
          subst e1 e2
          refine ⟨c.toNat, rfl, by rw [Nat.pow_succ]; omega, by omega, ?_, by omega, get_lt hc⟩
          rw [drop_cons hc, encF_small _ h2, ofNat_self c rfl]; rfl
        · rw [if_neg h2] at h
          obtain ⟨m, e1, e2, e3, e4, e5, e6⟩ := ih (k + 1) _ (i + 1) n j (by omega) h
          have hm : 0 < m := by omega
          refine ⟨m * 128 + c.toNat % 128, ?_, by rw [Nat.pow_succ]; omega, by omega, ?_, by omega, e6⟩
          · rw [e1, Nat.pow_succ, Nat.add_mul, Nat.mul_comm (128 ^ k) 128, ← Nat.mul_assoc]; omega
          · rw [drop_cons hc, e4]
            rw [show encF (f + 1) (m * 128 + c.toNat % 128) = if m * 128 + c.toNat % 128 < 128 then _ else UInt8.ofNat ((m * 128 + c.toNat % 128) % 128 + 128) :: encF f ((m * 128 + c.toNat % 128) / 128) from rfl, if_neg (by omega), show (m * 128 + c.toNat % 128) % 128 + 128 = c.toNat by omega, show (m * 128 + c.toNat % 128) / 128 = m by omega, ofNat_self c rfl]
            rfl
theorem uint_inv {l : List UInt8} {i n j : Nat} (h : uintR l i = .ok (n, j)) : n < 18446744073709551616 ∧ l.drop i = enc n ++ l.drop j ∧ i < j ∧ j ≤ l.length := by
  obtain ⟨m, e1, e2, _, e4, e5, e6⟩ := uintF_inv l 9 0 0 i n j rfl h
  obtain rfl : n = m := by simpa using e1
  exact ⟨Nat.lt_of_lt_of_le e2 (by decide), e4, e5, e6⟩
theorem int_inv {l : List UInt8} {i j : Nat} {n : Int} (h : intR l i = .ok (n, j)) : (-9223372036854775808 ≤ n ∧ n ≤ 9223372036854775807) ∧ l.drop i = enc (zig n) ++ l.drop j ∧ i < j ∧ j ≤ l.length := by
  unfold intR at h
  cases hu : uintR l i with
  | error e => rw [hu] at h; cases h
  | ok p =>
    obtain ⟨u, j'⟩ := p
    rw [hu] at h
    injection h with h
    injection h with e1 e2
    subst e1 e2
    obtain ⟨a, b, c, d⟩ := uint_inv hu
    refine ⟨?_, by rw [unzig_zig]; exact b, c, d⟩
    unfold unzig
    split <;> omega
theorem text_inv {s t : ByteArray} {most i j : Nat} (h : textR s most i = .ok (t, j)) : t.size ≤ most ∧ s.data.toList.drop i = text t ++ s.data.toList.drop j ∧ i < j ∧ j ≤ s.size := by
  unfold textR at h
  cases hu : uintR s.data.toList i with
  | error e => rw [hu] at h; cases h
  | ok p =>
    obtain ⟨n, j0⟩ := p
    rw [hu] at h
    simp only at h
    by_cases h1 : most < n
    · rw [if_pos h1] at h; cases h
    rw [if_neg h1] at h
    by_cases h2 : s.size < j0 + n
    · rw [if_pos h2] at h; cases h
    rw [if_neg h2] at h
    injection h with h
    injection h with e1 e2
    subst e1 e2
    obtain ⟨a, b, c, d⟩ := uint_inv hu
    have hd : (s.extract j0 (j0 + n)).data.toList = (s.data.toList.drop j0).take n := by
      rw [ByteArray.data_extract, Array.toList_extract]
      show List.take _ (List.drop _ _) = _
      rw [Nat.add_sub_cancel_left]
    have hsz : (s.extract j0 (j0 + n)).size = n := by rw [ByteArray.size_extract]; omega
    refine ⟨by omega, ?_, by omega, by omega⟩
    unfold text
    rw [b, hsz, hd, List.append_assoc]
    congr 1
    rw [← List.drop_drop, List.take_append_drop]
theorem low_mod (f : Nat) : ∀ x y, low f (x + y * 256 ^ f) = low f x := by
  induction f with
  | zero => intro x y; rfl
  | succ f ih =>
    intro x y
    have e : x + y * 256 ^ (f + 1) = x + (y * 256) * 256 ^ f := by rw [Nat.pow_succ, Nat.mul_comm (256 ^ f) 256, Nat.mul_assoc]
    unfold low
    rw [e, ih, Nat.add_mul_div_right _ _ (Nat.pow_pos (by decide))]
    congr 1
    apply UInt8.toNat_inj.1
    rw [UInt8.toNat_ofNat', UInt8.toNat_ofNat']
    omega
theorem bits_inv (l : List UInt8) (f : Nat) : ∀ acc i b j, bitsF l f acc i = .ok (b, j) → j = i + f ∧ (0 < f → j ≤ l.length) ∧ ∃ x, x < 256 ^ f ∧ b = acc * 256 ^ f + x ∧ l.drop i = low f x ++ l.drop j := by
  induction f with
  | zero =>
    intro acc i b j h
    unfold bitsF at h
    injection h with h
    injection h with e1 e2
    subst e1 e2
    exact ⟨rfl, fun h => absurd h (by omega), 0, by simp, by simp, rfl⟩
  | succ f ih =>
    intro acc i b j h
    unfold bitsF at h
    cases hc : l[i]? with
    | none => rw [hc] at h; cases h
    | some c =>
      rw [hc] at h
      obtain ⟨e1, e2, x, e3, e4, e5⟩ := ih _ _ _ _ h
      have hb := c.toNat_lt
      have hi := get_lt hc
      have hp : 0 < 256 ^ f := Nat.pow_pos (by decide)
      refine ⟨by omega, fun _ => ?_, c.toNat * 256 ^ f + x, ?_, ?_, ?_⟩
      · by_cases hf : 0 < f
        · exact e2 hf
        · omega
      · rw [Nat.pow_succ, Nat.mul_comm (256 ^ f) 256]
        have : c.toNat * 256 ^ f ≤ 255 * 256 ^ f := Nat.mul_le_mul_right _ (by omega)
        omega
      · rw [e4, Nat.pow_succ, Nat.add_mul, Nat.mul_comm 256 acc, Nat.mul_assoc, Nat.mul_comm 256 (256 ^ f)]; omega
      · rw [drop_cons hc, e5]
        show _ = UInt8.ofNat ((c.toNat * 256 ^ f + x) / 256 ^ f) :: low f (c.toNat * 256 ^ f + x) ++ _
        rw [Nat.add_comm (c.toNat * 256 ^ f) x, low_mod, Nat.add_mul_div_right _ _ hp, Nat.div_eq_of_lt e3, Nat.zero_add, ofNat_self c rfl]
        rfl
theorem nil_size : (⟨#[]⟩ : ByteArray).size ≤ maxLen := by decide
theorem right_of {v : V} (h : v.right = true) : Va.right v.k v.n v.b v.s = true := h
theorem value_inv {s : ByteArray} {v : V} {i j : Nat} (h : valueR s i = .ok (v, j)) : v.right = true ∧ Vok v ∧ s.data.toList.drop i = v.bytes ++ s.data.toList.drop j ∧ i < j ∧ j ≤ s.size := by
  have hlen : s.data.toList.length = s.size := by simp
  unfold valueR at h
  cases hraw : rawR s i with
  | error e => rw [hraw] at h; cases h
  | ok p =>
    obtain ⟨v', j'⟩ := p
    rw [hraw] at h
    simp only at h
    cases hr : v'.right with
    | false => rw [hr] at h; cases h
    | true =>
      rw [hr] at h
      injection h with h
      injection h with e1 e2
      subst e1 e2
      refine ⟨hr, ?_⟩
      have hr2 := right_of hr
      unfold V.bytes
      rw [value_of hr2]
      unfold rawR nextR at hraw
      cases hc : s.data.toList[i]? with
      | none => rw [hc] at hraw; cases hraw
      | some c =>
        rw [hc] at hraw
        simp only at hraw
        have hi := get_lt hc
        rw [drop_cons hc]
        by_cases h1 : c.toNat = 1
        · rw [if_pos h1] at hraw
          cases hc2 : s.data.toList[i + 1]? with
          | none => rw [hc2] at hraw; cases hraw
          | some d =>
            rw [hc2] at hraw
            injection hraw with hraw
            injection hraw with e1 e2
            subst e1 e2
            have hd := d.toNat_lt
            have hi2 := get_lt hc2
            refine ⟨⟨by simp only; omega, by simp, nil_size⟩, ?_, by omega, by omega⟩
            rw [drop_cons hc2]
            show c :: d :: _ = UInt8.ofNat 1 :: ([UInt8.ofNat d.toNat] ++ _)
            rw [ofNat_self c h1.symm, ofNat_self d rfl]; rfl
        rw [if_neg h1] at hraw
        by_cases h2 : c.toNat = 2
        · rw [if_pos h2] at hraw
          cases hx : intR s.data.toList (i + 1) with
          | error e => rw [hx] at hraw; cases hraw
          | ok p =>
            obtain ⟨n, m⟩ := p
            rw [hx] at hraw
            injection hraw with hraw
            injection hraw with e1 e2
            subst e1 e2
            obtain ⟨a1, a2, a3, a4⟩ := int_inv hx
            refine ⟨⟨a1, by simp, nil_size⟩, ?_, by omega, by omega⟩
            rw [a2]
            show _ = UInt8.ofNat 2 :: (enc (zig n) ++ _)
            rw [ofNat_self c h2.symm]
        rw [if_neg h2] at hraw
        by_cases h3 : c.toNat = 3
        · rw [if_pos h3] at hraw
          cases hx : bitsF s.data.toList 8 0 (i + 1) with
          | error e => rw [hx] at hraw; cases hraw
          | ok p =>
            obtain ⟨n, m⟩ := p
            rw [hx] at hraw
            injection hraw with hraw
            injection hraw with e1 e2
            subst e1 e2
            obtain ⟨a1, a2, x, a3, a4, a5⟩ := bits_inv _ _ _ _ _ _ hx
            have ha := a2 (by omega)
            obtain rfl : n = x := by omega
            refine ⟨⟨by simp, a3, nil_size⟩, ?_, by omega, by omega⟩
            rw [a5]
            show _ = UInt8.ofNat 3 :: (low 8 n ++ _)
            rw [ofNat_self c h3.symm]
        rw [if_neg h3] at hraw
        by_cases h4 : c.toNat = 4 ∨ c.toNat = 5
        · rw [if_pos h4] at hraw
          cases hx : textR s 4096 (i + 1) with
          | error e => rw [hx] at hraw; cases hraw
          | ok p =>
            obtain ⟨n, m⟩ := p
            rw [hx] at hraw
            injection hraw with hraw
            injection hraw with e1 e2
            subst e1 e2
            obtain ⟨a1, a2, a3, a4⟩ := text_inv hx
            refine ⟨⟨by simp, by simp, by simp only [maxLen]; omega⟩, ?_, by omega, a4⟩
            rw [a2]
            rcases h4 with h4 | h4
            · rw [h4]
              show _ = UInt8.ofNat 4 :: (text n ++ _)
              rw [ofNat_self c h4.symm]
            · rw [h4]
              show _ = UInt8.ofNat 5 :: (text n ++ _)
              rw [ofNat_self c h4.symm]
        rw [if_neg h4] at hraw
        injection hraw with hraw
        injection hraw with e1 e2
        subst e1 e2
        have h0 : c.toNat = 0 := by
          rcases right_full hr2 with ⟨q, _⟩ | ⟨q, _⟩ | ⟨q, _⟩ | ⟨q, _⟩ | ⟨q, _⟩ <;> simp only at q <;> omega
        refine ⟨⟨by simp, by simp, nil_size⟩, ?_, by omega, by omega⟩
        rw [h0]
        show _ = UInt8.ofNat 0 :: ([] ++ _)
        rw [ofNat_self c h0.symm]; rfl
theorem rowF_inv (s : ByteArray) (f : Nat) : ∀ i l j, rowF s f i = .ok (l, j) → l.all V.right = true ∧ (∀ x ∈ l, Vok x) ∧ l.length = f ∧ s.data.toList.drop i = l.flatMap V.bytes ++ s.data.toList.drop j ∧ i ≤ j ∧ (i ≤ s.size → j ≤ s.size) := by
  induction f with
  | zero =>
    intro i l j h
    unfold rowF at h
    injection h with h
    injection h with e1 e2
    subst e1 e2
    exact ⟨rfl, fun x hx => absurd hx List.not_mem_nil, rfl, rfl, Nat.le_refl _, id⟩
  | succ f ih =>
    intro i l j h
    unfold rowF at h
    cases hv : valueR s i with
    | error e => rw [hv] at h; cases h
    | ok p =>
      obtain ⟨v, j1⟩ := p
      rw [hv] at h
      simp only at h
      cases hr : rowF s f j1 with
      | error e => rw [hr] at h; cases h
      | ok q =>
        obtain ⟨l', j2⟩ := q
        rw [hr] at h
        injection h with h
        injection h with e1 e2
        subst e1 e2
        obtain ⟨a1, a2, a3, a4, a5⟩ := value_inv hv
        obtain ⟨b1, b2, b3, b4, b5, b6⟩ := ih _ _ _ hr
        refine ⟨by rw [List.all_cons, a1, b1]; rfl, ?_, by rw [List.length_cons, b3], by rw [a3, b4, List.flatMap_cons, List.append_assoc], by omega, fun _ => b6 a5⟩
        intro x hx
        rcases List.mem_cons.1 hx with rfl | hx
        · exact a2
        · exact b2 x hx
theorem row_inv {s : ByteArray} {l : List V} {i j : Nat} (h : rowR s i = .ok (l, j)) : l.all V.right = true ∧ (∀ x ∈ l, Vok x) ∧ l.length ≤ 1000 ∧ s.data.toList.drop i = row l ++ s.data.toList.drop j ∧ i < j ∧ j ≤ s.size := by
  have hlen : s.data.toList.length = s.size := by simp
  unfold rowR at h
  cases hu : uintR s.data.toList i with
  | error e => rw [hu] at h; cases h
  | ok p =>
    obtain ⟨n, j0⟩ := p
    rw [hu] at h
    simp only at h
    by_cases h1 : 1000 < n
    · rw [if_pos h1] at h; cases h
    rw [if_neg h1] at h
    obtain ⟨a1, a2, a3, a4⟩ := uint_inv hu
    obtain ⟨b1, b2, b3, b4, b5, b6⟩ := rowF_inv _ _ _ _ _ h
    refine ⟨b1, b2, by omega, ?_, by omega, b6 (by omega)⟩
    rw [row_yes l b1, a2, b4, b3, List.append_assoc]
end Cd
end Go.Proofs.Ytanmomlkdfnakaa
