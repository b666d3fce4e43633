/-
  A value's text is read as it, and a text that is read is its text: plainly. No condition.
-/
import Derived.Test.YtgdegoacjobpdaaRe
namespace Go.Proofs.Ytgdegoacjobpdaa
open Go.RowKit

namespace Vl
theorem whF_app (sign : Int) (l : List UInt8) (c : UInt8) : ∀ z y : Int, whF sign l z = some y → whF sign (l ++ [c]) z = whF sign [c] y := by
  induction l with
  | nil => intro z y h; cases h; rfl
  | cons d l ih =>
    intro z y h
    by_cases hd : d < 48 ∨ 57 < d
    · rw [whF_no hd] at h; cases h
    · rw [List.cons_append, whF_next hd]
      rw [whF_next hd] at h
      exact ih _ _ h
theorem digit_nat : ∀ d : Nat, d < 10 → (UInt8.ofNat (48 + d)).toNat = 48 + d := by decide +kernel
theorem whF_digit (sign : Int) (d : Nat) (hd : d < 10) (z : Int) : whF sign [UInt8.ofNat (48 + d)] z = some (IntKind.i64.wrap (IntKind.i64.wrap (10 * z) + sign * (d : Int))) := by
  have e := digit_nat d hd
  have hn : ¬ (UInt8.ofNat (48 + d) < 48 ∨ 57 < UInt8.ofNat (48 + d)) := by
    rintro (h | h)
    · have : (UInt8.ofNat (48 + d)).toNat < 48 := UInt8.lt_iff_toNat_lt.1 h
      omega
    · have : 57 < (UInt8.ofNat (48 + d)).toNat := UInt8.lt_iff_toNat_lt.1 h
      omega
  rw [whF_next hn, e, show (((48 + d : Nat) : Int) - 48) = (d : Int) by omega]; rfl
theorem whF_dec (sign : Int) (hs : sign = 1 ∨ sign = -1) (m : Nat) : (sign = 1 → m ≤ 9223372036854775807) → (sign = -1 → m ≤ 9223372036854775808) → whF sign (dec m) 0 = some (sign * (m : Int)) := by
  induction m using Nat.strongRecOn with
  | ind m ih =>
    intro h1 h2
    by_cases hm : m < 10
    · rw [dec_one hm, whF_digit sign m hm]
      rcases hs with rfl | rfl
      · congr 1; rw [IntKind.wrap_i64, IntKind.wrap_i64]; omega
      · congr 1; rw [IntKind.wrap_i64, IntKind.wrap_i64]; omega
    · rw [dec_more hm, whF_app _ _ _ _ _ (ih (m / 10) (by omega) (fun h => by have := h1 h; omega) (fun h => by have := h2 h; omega)), whF_digit sign (m % 10) (by omega)]
      rcases hs with rfl | rfl
      · have := h1 rfl
        congr 1; rw [IntKind.wrap_i64, IntKind.wrap_i64]; omega
      · have := h2 rfl
        congr 1; rw [IntKind.wrap_i64, IntKind.wrap_i64]; omega
theorem dec_head (m : Nat) : ∃ d t, d < 10 ∧ dec m = UInt8.ofNat (48 + d) :: t := by
  induction m using Nat.strongRecOn with
  | ind m ih =>
    by_cases hm : m < 10
    · exact ⟨m, [], hm, dec_one hm⟩
    · obtain ⟨d, t, h1, h2⟩ := ih (m / 10) (by omega)
      exact ⟨d, t ++ [UInt8.ofNat (48 + m % 10)], h1, by rw [dec_more hm, h2]; rfl⟩
theorem whole_decI {n : Int} (h0 : -9223372036854775808 ≤ n) (h1 : n ≤ 9223372036854775807) : whole (decI n) = (⟨2, n, 0, ⟨#[]⟩⟩, true) := by
  unfold whole decI
  by_cases h : n < 0
  · rw [if_pos h]
    have e : whS (45 :: dec (-n).toNat) = some n := by
      show (if (45 : UInt8) = 45 then whF (-1) (dec (-n).toNat) 0 else whF 1 (45 :: dec (-n).toNat) 0) = some n
      rw [if_pos rfl, whF_dec (-1) (.inr rfl) _ (fun h => absurd h (by decide)) (fun _ => by omega)]
      congr 1; omega
    rw [e]
  · rw [if_neg h]
    obtain ⟨d, t, hd, e1⟩ := dec_head n.toNat
    have hne : UInt8.ofNat (48 + d) ≠ 45 := by
      intro h2
      have := digit_nat d hd
      rw [h2] at this
      have h3 : (45 : UInt8).toNat = 45 := rfl
      omega
    have e : whS (dec n.toNat) = some n := by
      rw [e1]
      show (if UInt8.ofNat (48 + d) = 45 then _ else whF 1 (UInt8.ofNat (48 + d) :: t) 0) = _
      rw [if_neg hne, ← e1, whF_dec 1 (.inl rfl) _ (fun _ => by omega) (fun h => absurd h (by decide))]
      congr 1; omega
    rw [e]
theorem numX_hex (k n : Nat) : ∀ m : Nat, m * 16 ^ k + n % 16 ^ k < 18446744073709551616 → numX (hexL k n) m = some (m * 16 ^ k + n % 16 ^ k) := by
  induction k with
  | zero => intro m h; show some m = _; congr 1; rw [Nat.pow_zero, Nat.mod_one]; omega
  | succ k ih =>
    intro m h
    have hd : n / 16 ^ k % 16 < 16 := Nat.mod_lt _ (by decide)
    rw [hexL_front, numX_next (dig_hexd _ hd)]
    rw [Nat.mod_pow_succ] at h ⊢
    rw [Nat.pow_succ] at h ⊢
    generalize n / 16 ^ k % 16 = d at *
    generalize n % 16 ^ k = q at *
    have hp : 0 < 16 ^ k := Nat.pow_pos (by decide)
    have e : (16 * m + d) * 16 ^ k + q = m * (16 ^ k * 16) + (q + 16 ^ k * d) := by
      rw [Nat.add_mul, Nat.mul_comm d, Nat.mul_comm 16 m, Nat.mul_assoc, Nat.mul_comm 16 (16 ^ k)]
      omega
    have hlt : 16 * m + d < 18446744073709551616 := by
      have : (16 * m + d) * 1 ≤ (16 * m + d) * 16 ^ k := Nat.mul_le_mul_left _ hp
      omega
    rw [Nat.mod_eq_of_lt hlt, ih _ (by omega), e]
theorem numX_hx (c : UInt8) : numX (hx c) 0 = some c.toNat := by
  have hc := c.toNat_lt
  unfold hx
  rw [numX_hex 2 c.toNat 0 (by omega)]
  congr 1; omega
theorem hx_two (c : UInt8) : ∃ a b, hx c = [a, b] := by
  have h := hexL_length 2 c.toNat
  unfold hx
  match hexL 2 c.toNat, h with
  | [a, b], _ => exact ⟨a, b, rfl⟩
theorem u8_back (c : UInt8) : UInt8.ofNat c.toNat = c := by simp
theorem prF_flat (s : List UInt8) : ∀ acc, prF acc (s.flatMap hx) = some (acc ++ s) := by
  induction s with
  | nil => intro acc; rw [List.append_nil]; rfl
  | cons c s ih =>
    intro acc
    obtain ⟨a, b, h⟩ := hx_two c
    have hn := numX_hx c
    rw [h] at hn
    rw [List.flatMap_cons, h]
    show prF acc (a :: b :: s.flatMap hx) = _
    rw [prF_next hn, ih, u8_back, List.append_assoc]; rfl
theorem hx_even (s : List UInt8) : (s.flatMap hx).length % 2 = 0 := by
  induction s with
  | nil => rfl
  | cons c s ih =>
    rw [List.flatMap_cons, List.length_append]
    have : (hx c).length = 2 := hexL_length 2 _
    omega
theorem pairs_flat (s : List UInt8) : pairs (s.flatMap hx) = (⟨4, 0, 0, bstr s⟩, true) := by
  unfold pairs
  rw [prF_flat, List.nil_append, decide_eq_true (hx_even s)]
theorem flat_last (s : List UInt8) : ∃ d r, s.flatMap quo ++ [34] = d :: r := by
  cases h : s.flatMap quo with
  | nil => exact ⟨34, [], rfl⟩
  | cons d r => exact ⟨d, r ++ [34], rfl⟩
theorem unq_flat (s : List UInt8) : ∀ acc, unq acc (s.flatMap quo ++ [34]) = some (acc ++ s, [34]) := by
  induction s with
  | nil => intro acc; rw [List.append_nil]; rfl
  | cons c s ih =>
    intro acc
    have hend : ∀ acc' : List UInt8, acc' = acc ++ [c] → unq acc' (s.flatMap quo ++ [34]) = some (acc ++ c :: s, [34]) := by
      intro acc' h
      rw [h, ih, List.append_assoc]; rfl
    rw [List.flatMap_cons, List.append_assoc]
    have hq : quo c = if c = 34 ∨ c = 92 then [92, c] else if c < 32 ∨ 126 < c then 92 :: 120 :: hexL 2 c.toNat else [c] := rfl
    rw [hq]
    by_cases h1 : c = 34 ∨ c = 92
    · rw [if_pos h1]
      have hc : c ≠ 120 := by rcases h1 with rfl | rfl <;> decide
      show unq acc (92 :: c :: (s.flatMap quo ++ [34])) = _
      rw [unq_esc _ _ _ hc]
      exact hend _ rfl
    · rw [if_neg h1]
      by_cases h2 : c < 32 ∨ 126 < c
      · rw [if_pos h2]
        obtain ⟨a, b, h⟩ := hx_two c
        have hn := numX_hx c
        rw [h] at hn
        have h' : hexL 2 c.toNat = [a, b] := h
        rw [h']
        show unq acc (92 :: 120 :: a :: b :: (s.flatMap quo ++ [34])) = _
        rw [unq_hex _ _ _ _ _ hn, u8_back]
        exact hend _ rfl
      · rw [if_neg h2]
        have hc : c ≠ 92 := fun e => h1 (.inr e)
        obtain ⟨d, r, e⟩ := flat_last s
        rw [e]
        show unq acc (c :: d :: r) = _
        rw [unq_byte _ _ _ _ hc, ← e]
        exact hend _ rfl
theorem unquoted_flat (s : List UInt8) : unquoted (s.flatMap quo ++ [34]) = (⟨5, 0, 0, bstr s⟩, true) := by
  unfold unquoted
  rw [unq_flat]; rfl
theorem txt_right {k n : Int} {b : Nat} {s : ByteArray} (h : Va.right k n b s = true) : txt k n b s = if k = 0 then [110, 117, 108, 108]
  else if k = 1 then (if n = 0 then [102, 97, 108, 115, 101] else [116, 114, 117, 101])
  else if k = 2 then decI n
  else if k = 3 then 102 :: hexL 16 b
  else if k = 4 then 120 :: s.data.toList.flatMap hx
  else 34 :: s.data.toList.flatMap quo ++ [34] := by
  unfold txt; rw [if_neg (by rw [h]; decide)]
theorem txt_odd {k n : Int} {b : Nat} {s : ByteArray} (h : Va.right k n b s = false) : txt k n b s = [] := if_pos h
theorem rd_num {c : UInt8} {r : List UInt8} (h : c ≠ 102 ∧ c ≠ 110 ∧ c ≠ 116 ∧ c ≠ 120 ∧ c ≠ 34) : rd (c :: r) = whole (c :: r) := by
  rw [rd_more (fun e => h.2.1 (List.cons.inj e).1) (fun e => h.1 (List.cons.inj e).1) (fun e => h.2.2.1 (List.cons.inj e).1), if_neg h.1, if_neg h.2.2.2.1, if_neg h.2.2.2.2]
theorem decI_head (n : Int) : ∃ c t, decI n = c :: t ∧ (c ≠ 102 ∧ c ≠ 110 ∧ c ≠ 116 ∧ c ≠ 120 ∧ c ≠ 34) := by
  unfold decI
  split
  · exact ⟨45, _, rfl, by decide⟩
  · obtain ⟨d, t, hd, e⟩ := dec_head n.toNat
    refine ⟨_, t, e, ?_⟩
    have := digit_nat d hd
    refine ⟨?_, ?_, ?_, ?_, ?_⟩ <;> (intro h; rw [h] at this; revert this; simp; omega)
theorem rd_txt {k n : Int} {b : Nat} {s : ByteArray} (h : Va.right k n b s = true) (h0 : -9223372036854775808 ≤ n) (h1 : n ≤ 9223372036854775807) (hb : b < 18446744073709551616) : rd (txt k n b s) = (⟨k, n, b, s⟩, true) := by
  rw [txt_right h]
  rcases Ky.right_cases h with ⟨rfl, rfl, rfl, rfl⟩ | ⟨rfl, hn, rfl, rfl⟩ | ⟨rfl, rfl, rfl⟩ | ⟨rfl, rfl, hc, rfl⟩ | ⟨hk, rfl, rfl, hs⟩
  · rfl
  · rcases hn with rfl | rfl <;> rfl
  · show rd (decI n) = _
    obtain ⟨c, t, e, hc⟩ := decI_head n
    rw [e, rd_num hc, ← e, whole_decI h0 h1]
  · show rd (102 :: hexL 16 b) = _
    have hl := hexL_length 16 b
    rw [rd_more (fun e => absurd (List.cons.inj e).1 (by decide)) (fun e => by have := congrArg List.length e; rw [List.length_cons, hl] at this; cases this) (fun e => absurd (List.cons.inj e).1 (by decide)), if_pos rfl, numX_hex 16 b 0 (by omega)]
    show ((⟨3, 0, 0 * 16 ^ 16 + b % 16 ^ 16, ⟨#[]⟩⟩ : Cd.V), true) = _
    rw [show 0 * 16 ^ 16 + b % 16 ^ 16 = b by omega]
  · rcases hk with rfl | rfl
    · show rd (120 :: s.data.toList.flatMap hx) = _
      rw [rd_more (fun e => absurd (List.cons.inj e).1 (by decide)) (fun e => absurd (List.cons.inj e).1 (by decide)) (fun e => absurd (List.cons.inj e).1 (by decide)), if_neg (by decide), if_pos rfl, pairs_flat, bstr_of]
    · show rd (34 :: (s.data.toList.flatMap quo ++ [34])) = _
      rw [rd_more (fun e => absurd (List.cons.inj e).1 (by decide)) (fun e => absurd (List.cons.inj e).1 (by decide)) (fun e => absurd (List.cons.inj e).1 (by decide)), if_neg (by decide), if_neg (by decide), if_pos rfl, unquoted_flat, bstr_of]
/-- a right value's text is read as it -/
theorem parse_txt {k n : Int} {b : Nat} {s : ByteArray} (h : Va.right k n b s = true) (h0 : -9223372036854775808 ≤ n) (h1 : n ≤ 9223372036854775807) (hb : b < 18446744073709551616) : parse (txt k n b s) = some ⟨k, n, b, s⟩ := by
  unfold parse
  rw [rd_txt h h0 h1 hb, if_pos ⟨rfl, rfl⟩]
theorem parse_none : parse [] = none := rfl
/-- a text that is read is its text -/
theorem parse_back {l : List UInt8} {v : Cd.V} (h : parse l = some v) : txt v.k v.n v.b v.s = l ∧ v.right = true ∧ (rd l).1 = v := by
  unfold parse at h
  by_cases hc : (rd l).2 = true ∧ txt (rd l).1.k (rd l).1.n (rd l).1.b (rd l).1.s = l
  · rw [if_pos hc] at h
    cases h
    refine ⟨hc.2, ?_, rfl⟩
    cases hr : (rd l).1.right with
    | true => rfl
    | false =>
      have e := hc.2
      rw [txt_odd hr] at e
      rw [← e] at hc
      exact absurd hc.1 (by decide)
  · rw [if_neg hc] at h; cases h
theorem dec_mono {m n : Nat} (h : m ≤ n) : (dec m).length ≤ (dec n).length := by
  induction n using Nat.strongRecOn generalizing m with
  | ind n ih =>
    by_cases hm : m < 10
    · rw [dec_one hm]
      obtain ⟨d, t, _, e⟩ := dec_head n
      rw [e]; simp
    · rw [dec_more hm, dec_more (n := n) (by omega), List.length_append, List.length_append]
      have := ih (n / 10) (by omega) (show m / 10 ≤ n / 10 by omega)
      simp; omega
theorem decI_mono {m n : Int} (h : (0 ≤ m ∧ m ≤ n) ∨ (m < 0 ∧ n ≤ m)) : (decI m).length ≤ (decI n).length := by
  unfold decI
  rcases h with ⟨h1, h2⟩ | ⟨h1, h2⟩
  · rw [if_neg (by omega), if_neg (by omega)]
    exact dec_mono (by omega)
  · rw [if_pos h1, if_pos (by omega), List.length_cons, List.length_cons]
    have := dec_mono (m := (-m).toNat) (n := (-n).toNat) (by omega)
    omega
end Vl
end Go.Proofs.Ytgdegoacjobpdaa
