/-
  Keys' bytes have the keys' order, none begins with another one's; what is next to bytes; what a key begins: plainly. No condition.
-/
import Derived.Test.YtimcmpcfnddioaaKyPe
import Derived.Test.YtimcmpcfnddioaaKyQ
namespace Go.Proofs.Ytimcmpcfnddioaa
open Go.RowKit

namespace Ky
theorem strL_same (c : UInt8) (l r : List UInt8) : strL (c :: l) (c :: r) = strL l r := strL_app [c] l r
theorem strL_lt {c d : UInt8} (h : c < d) (l r : List UInt8) : strL (c :: l) (d :: r) = -1 := by
  unfold strL Op.bytesLess
  rw [decide_eq_true h]; rfl
theorem strL_gt {c d : UInt8} (h : d < c) (l r : List UInt8) : strL (c :: l) (d :: r) = 1 := by
  have h1 := UInt8.lt_iff_toNat_lt.1 h
  have h2 : ¬ c < d := fun e => by have := UInt8.lt_iff_toNat_lt.1 e; omega
  have h3 : c ≠ d := fun e => by subst e; omega
  unfold strL Op.bytesLess
  rw [decide_eq_false h2, beq_eq_false_iff_ne.2 h3, if_neg (by simp), if_neg (fun e => h3 (List.cons.inj e).1)]
theorem strL_nil (d : UInt8) (r : List UInt8) : strL [] (d :: r) = -1 := rfl
theorem strL_cons (c : UInt8) (l : List UInt8) : strL (c :: l) [] = 1 := by
  unfold strL Op.bytesLess
  rw [if_neg (by decide), if_neg (by simp)]
theorem u8_tri (c d : UInt8) : c < d ∨ c = d ∨ d < c := by
  rcases Nat.lt_trichotomy c.toNat d.toNat with h | h | h
  · exact .inl (UInt8.lt_iff_toNat_lt.2 h)
  · exact .inr (.inl (UInt8.toNat_inj.1 h))
  · exact .inr (.inr (UInt8.lt_iff_toNat_lt.2 h))
theorem strL_neg (l : List UInt8) : ∀ r, strL l r = - strL r l := by
  induction l with
  | nil =>
    intro r
    cases r with
    | nil => rfl
    | cons d r => rw [strL_nil, strL_cons]
  | cons c l ih =>
    intro r
    cases r with
    | nil => rw [strL_nil, strL_cons]; rfl
    | cons d r =>
      rcases u8_tri c d with h | rfl | h
      · rw [strL_lt h, strL_gt h]
      · rw [strL_same, strL_same, ih]
      · rw [strL_lt h, strL_gt h]; rfl
theorem strL_zero (l : List UInt8) : ∀ r, strL l r = 0 → l = r := by
  induction l with
  | nil =>
    intro r h
    cases r with
    | nil => rfl
    | cons d r => rw [strL_nil] at h; cases h
  | cons c l ih =>
    intro r h
    cases r with
    | nil => rw [strL_cons] at h; cases h
    | cons d r =>
      rcases u8_tri c d with h1 | rfl | h1
      · rw [strL_lt h1] at h; cases h
      · rw [strL_same] at h; rw [ih r h]
      · rw [strL_gt h1] at h; cases h
/-- the first that is not 0 -/
def thn (c d : Int) : Int := if c = 0 then d else c
theorem thn_zero (d : Int) : thn 0 d = d := rfl
theorem thn_self (c : Int) : thn c 0 = c := by unfold thn; split <;> simp_all
theorem u8_digit (n : Nat) : (UInt8.ofNat n).toNat = n % 256 := rfl
theorem strL_low (k a b : Nat) (r s : List UInt8) : strL (Cd.low k a ++ r) (Cd.low k b ++ s) = thn (ints ((a % 256 ^ k : Nat) : Int) ((b % 256 ^ k : Nat) : Int)) (strL r s) := by
  induction k with
  | zero =>
    rw [Nat.pow_zero, Nat.mod_one, Nat.mod_one, ints_self, thn_zero]
    rfl
  | succ k ih =>
    show strL (UInt8.ofNat (a / 256 ^ k) :: (Cd.low k a ++ r)) (UInt8.ofNat (b / 256 ^ k) :: (Cd.low k b ++ s)) = _
    rw [Nat.mod_pow_succ, Nat.mod_pow_succ]
    have ha := Nat.mod_lt a (show 256 ^ k > 0 from Nat.pow_pos (by decide))
    have hb := Nat.mod_lt b (show 256 ^ k > 0 from Nat.pow_pos (by decide))
    have da := u8_digit (a / 256 ^ k)
    have db := u8_digit (b / 256 ^ k)
    generalize a % 256 ^ k = a0 at *
    generalize b % 256 ^ k = b0 at *
    generalize a / 256 ^ k % 256 = p at *
    generalize b / 256 ^ k % 256 = q at *
    generalize UInt8.ofNat (a / 256 ^ k) = c at *
    generalize UInt8.ofNat (b / 256 ^ k) = d at *
    generalize 256 ^ k = m at *
    rcases u8_tri c d with h | rfl | h
    · have h1 := UInt8.lt_iff_toNat_lt.1 h
      have h2 := Nat.mul_le_mul_left m (show p + 1 ≤ q by omega)
      rw [Nat.mul_add] at h2
      rw [strL_lt h, ints_lt (by omega)]; rfl
    · have : p = q := by omega
      subst this
      rw [strL_same, ih]
      rw [show ((a0 + m * p : Nat) : Int) = (a0 : Int) + ((m * p : Nat) : Int) by omega, show ((b0 + m * p : Nat) : Int) = (b0 : Int) + ((m * p : Nat) : Int) by omega, ints_add]
    · have h1 := UInt8.lt_iff_toNat_lt.1 h
      have h2 := Nat.mul_le_mul_left m (show q + 1 ≤ p by omega)
      rw [Nat.mul_add] at h2
      rw [strL_gt h, ints_gt (by omega)]; rfl
theorem strL_eight {a b : Nat} (ha : a < 18446744073709551616) (hb : b < 18446744073709551616) (r s : List UInt8) : strL (Cd.eight a ++ r) (Cd.eight b ++ s) = thn (ints (a : Int) (b : Int)) (strL r s) := by
  unfold Cd.eight
  rw [strL_low, Nat.mod_eq_of_lt (by omega), Nat.mod_eq_of_lt (by omega)]
theorem u8_pos {d : UInt8} (h : d ≠ 0) : (0 : UInt8) < d := by
  rcases u8_tri 0 d with h1 | h1 | h1
  · exact h1
  · exact absurd h1.symm h
  · have := UInt8.lt_iff_toNat_lt.1 h1
    exact absurd this (by show ¬ d.toNat < 0; omega)
theorem esc_zero (s : List UInt8) : esc (0 :: s) = 0 :: 255 :: esc s := rfl
theorem esc_byte {c : UInt8} (h : c ≠ 0) (s : List UInt8) : esc (c :: s) = c :: esc s := by
  rw [esc_cons]; unfold esc1; rw [if_neg h]; rfl
theorem strL_esc (s : List UInt8) : ∀ (t p q : List UInt8), strL (esc s ++ ([0, 1] ++ p)) (esc t ++ ([0, 1] ++ q)) = thn (strL s t) (strL p q) := by
  induction s with
  | nil =>
    intro t p q
    cases t with
    | nil => exact strL_app [0, 1] p q
    | cons d t =>
      rw [strL_nil]
      by_cases h : d = 0
      · subst h
        rw [esc_zero]
        show strL (0 :: 1 :: p) (0 :: 255 :: (esc t ++ ([0, 1] ++ q))) = -1
        rw [strL_same]; exact strL_lt (by decide) _ _
      · rw [esc_byte h]
        exact strL_lt (u8_pos h) _ _
  | cons c s ih =>
    intro t p q
    cases t with
    | nil =>
      rw [strL_cons]
      by_cases h : c = 0
      · subst h
        rw [esc_zero]
        show strL (0 :: 255 :: (esc s ++ ([0, 1] ++ p))) (0 :: 1 :: q) = 1
        rw [strL_same]; exact strL_gt (by decide) _ _
      · rw [esc_byte h]
        exact strL_gt (u8_pos h) _ _
    | cons d t =>
      rcases u8_tri c d with h | rfl | h
      · rw [strL_lt h]
        have hd : d ≠ 0 := fun e => by
          subst e
          have := UInt8.lt_iff_toNat_lt.1 h
          exact absurd this (by show ¬ c.toNat < 0; omega)
        rw [esc_byte hd]
        by_cases h0 : c = 0
        · subst h0; rw [esc_zero]; exact strL_lt h _ _
        · rw [esc_byte h0]; exact strL_lt h _ _
      · rw [strL_same, esc_cons, esc_cons, List.append_assoc, List.append_assoc, strL_app, ih]
      · rw [strL_gt h]
        have hc : c ≠ 0 := fun e => by
          subst e
          have := UInt8.lt_iff_toNat_lt.1 h
          exact absurd this (by show ¬ d.toNat < 0; omega)
        rw [esc_byte hc]
        by_cases h0 : d = 0
        · subst h0; rw [esc_zero]; exact strL_gt h _ _
        · rw [esc_byte h0]; exact strL_gt h _ _
theorem bytes_kind {x : Cd.V} (h : x.right = true) : ∃ c t, bytes x = c :: t ∧ (c.toNat : Int) = x.k + 1 := by
  obtain ⟨k, n, b, s⟩ := x
  have hrr : Va.right k n b s = true := h
  rcases right_cases hrr with ⟨rfl, _⟩ | ⟨rfl, _⟩ | ⟨rfl, _⟩ | ⟨rfl, _⟩ | ⟨rfl | rfl, _⟩
  · exact ⟨1, _, rfl, rfl⟩
  · exact ⟨2, _, rfl, rfl⟩
  · exact ⟨3, _, rfl, rfl⟩
  · exact ⟨4, _, rfl, rfl⟩
  · exact ⟨5, _, rfl, rfl⟩
  · exact ⟨6, _, rfl, rfl⟩
theorem cmp_right {x y : Cd.V} (h1 : x.right = true) (h2 : y.right = true) : cmp x y = if x.k = y.k then (if x.k = 3 then floats x.b y.b else if x.s = y.s then ints x.n y.n else strs x.s y.s) else ints x.k y.k := by
  unfold cmp
  rw [if_neg (by rw [h1]; decide), if_neg (by rw [h2]; decide)]
theorem strs_list (s t : ByteArray) : strs s t = strL s.data.toList t.data.toList := strs_eq s t
theorem text_cmp (s t : ByteArray) : (if s = t then ints 0 0 else strs s t) = strL s.data.toList t.data.toList := by
  by_cases h : s = t
  · rw [if_pos h, h, strL_self]; rfl
  · rw [if_neg h, strs_list]
theorem strL_bytes {x y : Cd.V} (hx : Fit x) (hy : Fit y) (p q : List UInt8) : strL (bytes x ++ p) (bytes y ++ q) = thn (cmp x y) (strL p q) := by
  rw [cmp_right hx.1 hy.1]
  by_cases hk : x.k = y.k
  · rw [if_pos hk]
    obtain ⟨hr, ⟨hn1, hn2⟩, hb⟩ := hx
    obtain ⟨hr', ⟨hn1', hn2'⟩, hb'⟩ := hy
    obtain ⟨k, n, b, s⟩ := x
    obtain ⟨k', n', b', s'⟩ := y
    simp only at hk hn1 hn2 hb hn1' hn2' hb' ⊢
    subst hk
    have hrr : Va.right k n b s = true := hr
    have hrr' : Va.right k n' b' s' = true := hr'
    rcases right_cases hrr with ⟨rfl, rfl, rfl, rfl⟩ | ⟨rfl, h1, rfl, rfl⟩ | ⟨rfl, rfl, rfl⟩ | ⟨rfl, rfl, hc, rfl⟩ | ⟨hk, rfl, rfl, hs⟩
    · rcases right_cases hrr' with ⟨_, rfl, rfl, rfl⟩ | ⟨h, _⟩ | ⟨h, _⟩ | ⟨h, _⟩ | ⟨h | h, _⟩
      · rw [if_neg (by decide), if_pos rfl, ints_self, thn_zero]; exact strL_app [1] p q
      all_goals cases h
    · rcases right_cases hrr' with ⟨h, _⟩ | ⟨_, h2, rfl, rfl⟩ | ⟨h, _⟩ | ⟨h, _⟩ | ⟨h | h, _⟩
      · cases h
      · rw [if_neg (by decide), if_pos rfl]
        rcases h1 with rfl | rfl
        · rcases h2 with rfl | rfl
          · exact strL_app [2, 0] p q
          · show strL (2 :: 0 :: p) (2 :: 1 :: q) = _
            rw [strL_same, strL_lt (by decide)]; rfl
        · rcases h2 with rfl | rfl
          · show strL (2 :: 1 :: p) (2 :: 0 :: q) = _
            rw [strL_same, strL_gt (by decide)]; rfl
          · exact strL_app [2, 1] p q
      all_goals cases h
    · rcases right_cases hrr' with ⟨h, _⟩ | ⟨h, _⟩ | ⟨_, rfl, rfl⟩ | ⟨h, _⟩ | ⟨h | h, _⟩
      · cases h
      · cases h
      · rw [if_neg (by decide), if_pos rfl]
        show strL (3 :: (Cd.eight (moved n) ++ p)) (3 :: (Cd.eight (moved n') ++ q)) = _
        rw [strL_same, strL_eight (moved_lt hn2) (moved_lt hn2')]
        congr 1
        unfold moved
        rw [show (((n + 9223372036854775808).toNat : Nat) : Int) = n + 9223372036854775808 by omega, show (((n' + 9223372036854775808).toNat : Nat) : Int) = n' + 9223372036854775808 by omega, ints_add]
      all_goals cases h
    · rcases right_cases hrr' with ⟨h, _⟩ | ⟨h, _⟩ | ⟨h, _⟩ | ⟨_, rfl, hc', rfl⟩ | ⟨h | h, _⟩
      · cases h
      · cases h
      · cases h
      · rw [if_pos rfl]
        show strL (4 :: (Cd.eight (turned b) ++ p)) (4 :: (Cd.eight (turned b') ++ q)) = _
        rw [strL_same, strL_eight (turned_lt hb) (turned_lt hb'), floats_turned hb hb' hc hc']
      all_goals cases h
    · have h3 : ¬ k = 3 := by omega
      have e' : n' = 0 := by rcases right_cases hrr' with h | h | h | h | h <;> omega
      subst e'
      rw [if_neg h3, text_cmp]
      rcases hk with rfl | rfl
      · show strL (5 :: (esc s.data.toList ++ [0, 1] ++ p)) (5 :: (esc s'.data.toList ++ [0, 1] ++ q)) = _
        rw [strL_same, List.append_assoc, List.append_assoc, strL_esc]
      · show strL (6 :: (esc s.data.toList ++ [0, 1] ++ p)) (6 :: (esc s'.data.toList ++ [0, 1] ++ q)) = _
        rw [strL_same, List.append_assoc, List.append_assoc, strL_esc]
  · rw [if_neg hk]
    obtain ⟨c, t, e1, e2⟩ := bytes_kind hx.1
    obtain ⟨d, u, e3, e4⟩ := bytes_kind hy.1
    rw [e1, e3]
    rcases u8_tri c d with h | rfl | h
    · have := UInt8.lt_iff_toNat_lt.1 h
      rw [ints_lt (by omega)]; exact strL_lt h _ _
    · exact absurd (by omega) hk
    · have := UInt8.lt_iff_toNat_lt.1 h
      rw [ints_gt (by omega)]; exact strL_gt h _ _
theorem cmp_bytes {x y : Cd.V} (hx : Fit x) (hy : Fit y) : cmp x y = strL (bytes x) (bytes y) := by
  have h := strL_bytes hx hy [] []
  rw [List.append_nil, List.append_nil] at h
  rw [h]; exact (thn_self _).symm
theorem cmp_neg {x y : Cd.V} (hx : Fit x) (hy : Fit y) : cmp x y = - cmp y x := by
  rw [cmp_bytes hx hy, cmp_bytes hy hx, strL_neg]
theorem bytes_inj {x y : Cd.V} (hx : Fit x) (hy : Fit y) {p q : List UInt8} (h : bytes x ++ p = bytes y ++ q) : x = y ∧ p = q := by
  have h1 := vl_bytes hx p
  rw [h, vl_bytes hy q] at h1
  simp only [Prod.mk.injEq, and_true] at h1
  exact ⟨h1.1.symm, h1.2.symm⟩
theorem cmp_zero {x y : Cd.V} (hx : Fit x) (hy : Fit y) (h : cmp x y = 0) : x = y := by
  rw [cmp_bytes hx hy] at h
  exact (bytes_inj hx hy (p := []) (q := []) (by rw [List.append_nil, List.append_nil, strL_zero _ _ h])).1
theorem cmp_self {x : Cd.V} (hx : Fit x) : cmp x x = 0 := by rw [cmp_bytes hx hx, strL_self]
theorem cmpL_cons (c : Cd.V → Cd.V → Int) (x y : Cd.V) (l r : List Cd.V) : cmpL c (x :: l) (y :: r) = thn (c x y) (cmpL c l r) := by
  unfold cmpL thn
  rw [List.zip_cons_cons, List.find?_cons]
  by_cases h : c x y = 0
  · rw [decide_eq_false (fun e => e h), if_pos h]
    cases hq : (l.zip r).find? (fun p => decide (c p.1 p.2 ≠ 0)) with
    | some p => rfl
    | none =>
      show ints ((l.length + 1 : Nat) : Int) ((r.length + 1 : Nat) : Int) = _
      rw [Int.natCast_add, Int.natCast_add, ints_add]
  · rw [decide_eq_true h, if_neg h]
theorem cmpL_nil (c : Cd.V → Cd.V → Int) (y : Cd.V) (r : List Cd.V) : cmpL c [] (y :: r) = -1 := by
  show ints ((0 : Nat) : Int) ((r.length + 1 : Nat) : Int) = -1
  exact ints_lt (by omega)
theorem cmpL_long (c : Cd.V → Cd.V → Int) (x : Cd.V) (l : List Cd.V) : cmpL c (x :: l) [] = 1 := by
  show ints ((l.length + 1 : Nat) : Int) ((0 : Nat) : Int) = 1
  exact ints_gt (by omega)
theorem flat_order (l : List Cd.V) : ∀ r : List Cd.V, (∀ x ∈ l, Fit x) → (∀ x ∈ r, Fit x) → strL (l.flatMap bytes ++ [0]) (r.flatMap bytes ++ [0]) = cmpL cmp l r := by
  induction l with
  | nil =>
    intro r _ hr
    cases r with
    | nil => rfl
    | cons y r =>
      obtain ⟨c, t, e, hc⟩ := bytes_head y
      rw [cmpL_nil, List.flatMap_cons, e]
      exact strL_lt (u8_pos hc) _ _
  | cons x l ih =>
    intro r hl hr
    cases r with
    | nil =>
      obtain ⟨c, t, e, hc⟩ := bytes_head x
      rw [cmpL_long, List.flatMap_cons, e]
      exact strL_gt (u8_pos hc) _ _
    | cons y r =>
      rw [cmpL_cons, List.flatMap_cons, List.flatMap_cons, List.append_assoc, List.append_assoc, strL_bytes (hl x (by simp)) (hr y (by simp)), ih r (fun z hz => hl z (by simp [hz])) (fun z hz => hr z (by simp [hz]))]
theorem of_order {l r : List Cd.V} (h1 : right l = true) (hk1 : ∀ x ∈ l, Vok x) (h2 : right r = true) (hk2 : ∀ x ∈ r, Vok x) : strs (bstr (of l)) (bstr (of r)) = comp cmp l r := by
  rw [strs_list, bstr_toList, bstr_toList, of_right h1, of_right h2, flat_order l r (fit_of h1 hk1) (fit_of h2 hk2)]
  unfold comp
  rw [if_neg (by rw [h1]; decide), if_neg (by rw [h2]; decide)]
theorem flat_ends (l : List Cd.V) : ∀ (r : List Cd.V) (u : List UInt8), (∀ x ∈ l, Fit x) → (∀ x ∈ r, Fit x) → l.flatMap bytes ++ [0] ++ u = r.flatMap bytes ++ [0] → l = r := by
  induction l with
  | nil =>
    intro r u _ hr h
    cases r with
    | nil => rfl
    | cons y r =>
      obtain ⟨c, t, e, hc⟩ := bytes_head y
      rw [List.flatMap_cons, e] at h
      exact absurd (List.cons.inj h).1.symm hc
  | cons x l ih =>
    intro r u hl hr h
    cases r with
    | nil =>
      obtain ⟨c, t, e, hc⟩ := bytes_head x
      rw [List.flatMap_cons, e] at h
      exact absurd (List.cons.inj h).1 hc
    | cons y r =>
      rw [List.flatMap_cons, List.flatMap_cons, List.append_assoc, List.append_assoc, List.append_assoc] at h
      obtain ⟨rfl, h2⟩ := bytes_inj (hl x (by simp)) (hr y (by simp)) h
      rw [← List.append_assoc] at h2
      rw [ih r u (fun z hz => hl z (by simp [hz])) (fun z hz => hr z (by simp [hz])) h2]
theorem of_ends {l r : List Cd.V} (h1 : right l = true) (hk1 : ∀ x ∈ l, Vok x) (h2 : right r = true) (hk2 : ∀ x ∈ r, Vok x) (h : (of r).take (of l).length = of l) : of l = of r := by
  have e : of l ++ (of r).drop (of l).length = of r := by
    conv => lhs; lhs; rw [← h]
    exact List.take_append_drop _ _
  rw [of_right h1, of_right h2] at e
  have := flat_ends l r _ (fit_of h1 hk1) (fit_of h2 hk2) e
  rw [this]
theorem strL_next (s : List UInt8) : strL s (s ++ [0]) = -1 := by
  have := strL_app s [] [0]
  rw [List.append_nil] at this
  rw [this]; rfl
theorem strL_between (s : List UInt8) : ∀ t, 0 ≤ strL s t ∨ strL (s ++ [0]) t ≤ 0 := by
  induction s with
  | nil =>
    intro t
    cases t with
    | nil => exact .inl (by decide)
    | cons d t =>
      refine .inr ?_
      show strL [0] (d :: t) ≤ 0
      by_cases h : d = 0
      · subst h
        rw [strL_same]
        cases t with
        | nil => decide
        | cons e t => rw [strL_nil]; decide
      · rw [strL_lt (u8_pos h)]; decide
  | cons c s ih =>
    intro t
    cases t with
    | nil => rw [strL_cons]; exact .inl (by decide)
    | cons d t =>
      rcases u8_tri c d with h | rfl | h
      · refine .inr ?_
        rw [List.cons_append, strL_lt h]; decide
      · rw [List.cons_append, strL_same, strL_same]; exact ih t
      · rw [strL_gt h]; exact .inl (by decide)
theorem strs_next (s : ByteArray) : strs s (s ++ ⟨#[0]⟩) = -1 := by
  rw [strs_list, ByteArray.data_append, Array.toList_append]
  exact strL_next _
theorem strs_between (s t : ByteArray) : 0 ≤ strs s t ∨ strs (s ++ ⟨#[0]⟩) t ≤ 0 := by
  rw [strs_list, strs_list, ByteArray.data_append, Array.toList_append]
  exact strL_between _ _
theorem pre_cons (x y : Cd.V) (l r : List Cd.V) : pre (x :: l) (y :: r) = (sameAt (x, y) && pre l r) := by
  unfold pre
  rw [List.zip_cons_cons, List.all_cons, List.length_cons, List.length_cons, show decide (l.length + 1 ≤ r.length + 1) = decide (l.length ≤ r.length) by simp]
  cases sameAt (x, y) <;> cases decide (l.length ≤ r.length) <;> rfl
theorem pre_nil (r : List Cd.V) : pre [] r = true := by unfold pre; simp
theorem pre_app (l r : List Cd.V) (h : ∀ x ∈ l, Fit x) : pre l (l ++ r) = true := by
  induction l with
  | nil => exact pre_nil _
  | cons x l ih =>
    rw [List.cons_append, pre_cons, ih fun y hy => h y (by simp [hy])]
    unfold sameAt
    rw [(h x (by simp)).1]; simp
theorem cmpL_app (l r : List Cd.V) (h : ∀ x ∈ l, Fit x) : cmpL cmp l (l ++ r) ≤ 0 := by
  induction l with
  | nil =>
    cases r with
    | nil => decide
    | cons y r => rw [List.nil_append, cmpL_nil]; decide
  | cons x l ih =>
    rw [List.cons_append, cmpL_cons, cmp_self (h x (by simp))]
    exact ih fun y hy => h y (by simp [hy])
theorem pre_between (l : List Cd.V) : ∀ (r c : List Cd.V), (∀ x ∈ l, Fit x) → (∀ x ∈ c, Fit x) → cmpL cmp l c ≤ 0 → cmpL cmp c (l ++ r) ≤ 0 → pre l c = true := by
  induction l with
  | nil => intro r c _ _ _ _; exact pre_nil _
  | cons x l ih =>
    intro r c hl hc h1 h2
    cases c with
    | nil => rw [cmpL_long] at h1; exact absurd h1 (by decide)
    | cons y c =>
      rw [cmpL_cons] at h1
      rw [List.cons_append, cmpL_cons] at h2
      have hx := hl x (by simp)
      have hy := hc y (by simp)
      have hn := cmp_neg hx hy
      have h0 : cmp x y = 0 := by
        unfold thn at h1 h2
        split at h1
        · assumption
        · split at h2
          · omega
          · omega
      have h0' : cmp y x = 0 := by omega
      rw [h0, thn_zero] at h1
      rw [h0', thn_zero] at h2
      have e := cmp_zero hx hy h0
      subst e
      rw [pre_cons, ih r c (fun z hz => hl z (by simp [hz])) (fun z hz => hc z (by simp [hz])) h1 h2]
      unfold sameAt
      rw [hx.1]; simp
theorem comp_right (c : Cd.V → Cd.V → Int) {l r : List Cd.V} (h1 : right l = true) (h2 : right r = true) : comp c l r = cmpL c l r := by
  unfold comp
  rw [if_neg (by rw [h1]; decide), if_neg (by rw [h2]; decide)]
theorem right_app {l r : List Cd.V} (h1 : right l = true) (h2 : right r = true) (h : l.length + r.length ≤ 8) : right (l ++ r) = true := by
  have a := (right_inv h1).1
  have b := (right_inv h2).1
  unfold right
  rw [Bool.and_eq_true, decide_eq_true_eq, List.all_eq_true, List.length_append]
  refine ⟨fun x hx => ?_, h⟩
  rcases List.mem_append.1 hx with hx | hx
  · exact a x hx
  · exact b x hx
end Ky
end Go.Proofs.Ytimcmpcfnddioaa
