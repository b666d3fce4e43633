/-
  A key's bytes are read as it, and bytes that are read are its bytes: plainly, for both Parses. No condition.
-/
import Derived.Test.YtimcmpcfnddioaaKyPd
import Derived.Test.YtimcmpcfnddioaaKyV
namespace Go.Proofs.Ytimcmpcfnddioaa
open Go.RowKit

namespace Ky
/-- a right value that can stand in memory -/
def Fit (x : Cd.V) : Prop := x.right = true ∧ (-9223372036854775808 ≤ x.n ∧ x.n ≤ 9223372036854775807) ∧ x.b < 18446744073709551616
theorem Fit.vok {x : Cd.V} (h : Fit x) : Vok x := by
  refine ⟨h.2.1, h.2.2, ?_⟩
  unfold maxLen
  rcases right_cases h.1 with h | h | h | h | h
  · rw [h.2.2.2]; decide
  · rw [h.2.2.2]; decide
  · rw [h.2.2]; decide
  · rw [h.2.2.2]; decide
  · have := h.2.2.2; omega
/-- the number of bytes behind a number -/
def numF (m : Nat) (l : List UInt8) : Nat := l.foldl (fun n c => 256 * n + c.toNat) m
theorem numF_eq (l : List UInt8) : ∀ m, numF m l = m * 256 ^ l.length + num l := by
  induction l with
  | nil => intro m; show m = m * 1 + 0; omega
  | cons c l ih =>
    intro m
    show numF (256 * m + c.toNat) l = _ + numF (256 * 0 + c.toNat) l
    rw [ih, ih (256 * 0 + c.toNat), List.length_cons, Nat.pow_succ, Nat.add_mul, Nat.add_mul]
    have : 256 * m * 256 ^ l.length = m * (256 ^ l.length * 256) := by rw [Nat.mul_comm 256 m, Nat.mul_assoc, Nat.mul_comm 256]
    omega
theorem num_cons (c : UInt8) (l : List UInt8) : num (c :: l) = c.toNat * 256 ^ l.length + num l := by
  show numF (256 * 0 + c.toNat) l = _
  rw [numF_eq]
  simp
theorem num_low (k b : Nat) : num (Cd.low k b) = b % 256 ^ k := by
  induction k with
  | zero => show 0 = b % 1; omega
  | succ k ih =>
    show num (UInt8.ofNat (b / 256 ^ k) :: Cd.low k b) = _
    rw [num_cons, Cd.low_length, ih, Nat.mod_pow_succ]
    have : (UInt8.ofNat (b / 256 ^ k)).toNat = b / 256 ^ k % 256 := rfl
    rw [this, Nat.mul_comm (256 ^ k)]
    omega
theorem low_mod (k b c : Nat) : Cd.low k (c * 256 ^ k + b) = Cd.low k b := by
  induction k generalizing c with
  | zero => rfl
  | succ k ih =>
    show UInt8.ofNat _ :: Cd.low k _ = UInt8.ofNat _ :: Cd.low k _
    have e : c * 256 ^ (k + 1) + b = (c * 256) * 256 ^ k + b := by rw [Nat.pow_succ, Nat.mul_comm (256 ^ k), Nat.mul_assoc]
    rw [e, ih]
    congr 1
    apply UInt8.toNat_inj.1
    show _ % 256 = _ % 256
    rw [Nat.mul_comm (c * 256), Nat.mul_add_div (Nat.pow_pos (by decide)), Nat.mul_comm c, Nat.mul_add_mod]
theorem low_num (l : List UInt8) : Cd.low l.length (num l) = l := by
  induction l with
  | nil => rfl
  | cons c l ih =>
    rw [num_cons]
    show UInt8.ofNat ((c.toNat * 256 ^ l.length + num l) / 256 ^ l.length) :: Cd.low l.length (c.toNat * 256 ^ l.length + num l) = _
    rw [low_mod, ih]
    congr 1
    have h := num_lt l l.length (Nat.le_refl _)
    rw [List.take_length] at h
    rw [Nat.mul_comm, Nat.mul_add_div (Nat.pow_pos (by decide)), Nat.div_eq_of_lt h, Nat.add_zero]
    exact UInt8.toNat_inj.1 (by show c.toNat % 256 = _; have := c.toNat_lt; omega)
theorem eight_length (b : Nat) : (Cd.eight b).length = 8 := Cd.low_length 8 b
theorem num_eight (b : Nat) (h : b < 18446744073709551616) : num (Cd.eight b) = b := by
  unfold Cd.eight
  rw [num_low, Nat.mod_eq_of_lt (by omega)]
theorem eight_num (t : List UInt8) (h : t.length = 8) : Cd.eight (num t) = t := by
  unfold Cd.eight
  rw [← h]; exact low_num t
theorem num_lt8 (t : List UInt8) (h : t.length = 8) : num t < 18446744073709551616 := by
  have h1 := num_lt t t.length (Nat.le_refl _)
  rw [List.take_length, h] at h1
  exact h1
theorem unmoved_moved {n : Int} (h0 : -9223372036854775808 ≤ n) : unmoved (moved n) = n := by unfold unmoved moved; omega
theorem moved_unmoved (m : Nat) : moved (unmoved m) = m := by unfold unmoved moved; omega
theorem tk_ok {n : Nat} {l : List UInt8} {b : Bool} (h : n ≤ l.length) : tk n l b = (l.take n, l.drop n, b) := if_neg (by omega)
theorem tk_no {n : Nat} {l : List UInt8} {b : Bool} (h : l.length < n) : tk n l b = (List.replicate n 0, l, true) := if_pos h
theorem tk_app (t r : List UInt8) (b : Bool) : tk t.length (t ++ r) b = (t, r, b) := by
  rw [tk_ok (by simp), List.take_left, List.drop_left]
theorem esc_cons (c : UInt8) (s : List UInt8) : esc (c :: s) = esc1 c ++ esc s := rfl
theorem tx_esc (s : List UInt8) : ∀ (acc r : List UInt8), tx acc (esc s ++ ([0, 1] ++ r)) = (acc ++ s, r, false) := by
  induction s with
  | nil => intro acc r; rw [List.append_nil]; exact tx_end acc r
  | cons c s ih =>
    intro acc r
    rw [esc_cons, List.append_assoc]
    unfold esc1
    by_cases h : c = 0
    · subst h
      rw [if_pos rfl]
      show tx acc (0 :: 255 :: (esc s ++ ([0, 1] ++ r))) = _
      rw [tx_zero, ih, List.append_assoc]; rfl
    · rw [if_neg h]
      show tx acc (c :: (esc s ++ ([0, 1] ++ r))) = _
      rw [tx_byte _ _ _ h, ih, List.append_assoc]; rfl
theorem tx_back (acc s t r : List UInt8) (h : tx acc s = (t, r, false)) : ∃ u, t = acc ++ u ∧ s = esc u ++ ([0, 1] ++ r) := by
  match s with
  | [] => rw [tx_no] at h; cases h
  | [c] =>
    by_cases hc : c = 0
    · subst hc; rw [tx_short] at h; cases h
    · rw [tx_byte _ _ _ hc, tx_no] at h; cases h
  | c :: d :: s =>
    by_cases hc : c = 0
    · subst hc
      by_cases h1 : d = 1
      · subst h1; rw [tx_end] at h; cases h; exact ⟨[], by simp, rfl⟩
      · by_cases h2 : d = 255
        · subst h2
          rw [tx_zero] at h
          obtain ⟨u, rfl, e2⟩ := tx_back _ _ _ _ h
          exact ⟨0 :: u, by simp, by rw [e2, esc_cons]; rfl⟩
        · rw [tx_bad _ _ _ h1 h2] at h; cases h
    · rw [tx_byte _ _ _ hc] at h
      obtain ⟨u, rfl, e2⟩ := tx_back _ _ _ _ h
      exact ⟨c :: u, by simp, by rw [e2, esc_cons]; unfold esc1; rw [if_neg hc]; rfl⟩
termination_by s.length
theorem gt_esc (s : List UInt8) : ∀ r : List UInt8, gt (esc s ++ ([0, 1] ++ r)) = s := by
  induction s with
  | nil => intro r; exact gt_end r
  | cons c s ih =>
    intro r
    rw [esc_cons, List.append_assoc]
    unfold esc1
    by_cases h : c = 0
    · subst h
      rw [if_pos rfl]
      show gt (0 :: 255 :: (esc s ++ ([0, 1] ++ r))) = _
      rw [gt_zero _ _ (by decide), ih]
    · rw [if_neg h]
      show gt (c :: (esc s ++ ([0, 1] ++ r))) = _
      rw [gt_byte _ _ h, ih]
theorem fin_right {c : UInt8} {r r2 : List UInt8} {x : Cd.V} (h : raw ((c.toNat : Int) - 1) r false = (x, r2, false)) (hx : x.right = true) : vl (c :: r) = (x, r2, false) := by
  show fin c r false = _
  rw [fin_of h, hx]; rfl
theorem V_eq {k n : Int} {b : Nat} {s : ByteArray} {k' n' : Int} {b' : Nat} {s' : ByteArray} (h1 : k = k') (h2 : n = n') (h3 : b = b') (h4 : s = s') : (⟨k, n, b, s⟩ : Cd.V) = ⟨k', n', b', s'⟩ := by subst h1 h2 h3 h4; rfl
theorem vl_bytes {x : Cd.V} (h : Fit x) (r : List UInt8) : vl (bytes x ++ r) = (x, r, false) := by
  obtain ⟨hr, ⟨hn1, hn2⟩, hb⟩ := h
  obtain ⟨k, n, b, s⟩ := x
  simp only at hn1 hn2 hb
  have hrr : Va.right k n b s = true := hr
  rcases right_cases hrr with ⟨rfl, rfl, rfl, rfl⟩ | ⟨rfl, h1, rfl, rfl⟩ | ⟨rfl, rfl, rfl⟩ | ⟨rfl, rfl, hc, rfl⟩ | ⟨hk, rfl, rfl, hs⟩
  · show vl (1 :: r) = _
    exact fin_right (c := 1) rfl hr
  · rcases h1 with rfl | rfl
    · show vl (2 :: 0 :: r) = _
      exact fin_right (c := 2) rfl hr
    · show vl (2 :: 1 :: r) = _
      exact fin_right (c := 2) rfl hr
  · show vl (3 :: (Cd.eight (moved n) ++ r)) = _
    refine fin_right (c := 3) ?_ hr
    show ((⟨2, unmoved (num (tk 8 (Cd.eight (moved n) ++ r) false).1), 0, ⟨#[]⟩⟩ : Cd.V), (tk 8 (Cd.eight (moved n) ++ r) false).2) = _
    have h8 := tk_app (Cd.eight (moved n)) r false
    rw [eight_length] at h8
    rw [h8, num_eight _ (moved_lt hn2), unmoved_moved hn1]
  · show vl (4 :: (Cd.eight (turned b) ++ r)) = _
    refine fin_right (c := 4) ?_ hr
    show ((⟨3, 0, straight (num (tk 8 (Cd.eight (turned b) ++ r) false).1), ⟨#[]⟩⟩ : Cd.V), (tk 8 (Cd.eight (turned b) ++ r) false).2) = _
    have h8 := tk_app (Cd.eight (turned b)) r false
    rw [eight_length] at h8
    rw [h8, num_eight _ (turned_lt hb), straight_turned hb]
  · rcases hk with rfl | rfl
    · rw [show bytes ⟨4, 0, 0, s⟩ ++ r = 5 :: (esc s.data.toList ++ [0, 1] ++ r) from rfl]
      refine fin_right (c := 5) ?_ hr
      show ((⟨4, 0, 0, bstr (tx [] (esc s.data.toList ++ [0, 1] ++ r)).1⟩ : Cd.V), (tx [] (esc s.data.toList ++ [0, 1] ++ r)).2) = _
      rw [List.append_assoc, tx_esc, List.nil_append, bstr_of]
    · rw [show bytes ⟨5, 0, 0, s⟩ ++ r = 6 :: (esc s.data.toList ++ [0, 1] ++ r) from rfl]
      refine fin_right (c := 6) ?_ hr
      show ((⟨5, 0, 0, bstr (tx [] (esc s.data.toList ++ [0, 1] ++ r)).1⟩ : Cd.V), (tx [] (esc s.data.toList ++ [0, 1] ++ r)).2) = _
      rw [List.append_assoc, tx_esc, List.nil_append, bstr_of]
theorem guess_bytes {x : Cd.V} (h : Fit x) {c : UInt8} {t r : List UInt8} (e : c :: t = bytes x ++ r) : guess ((c.toNat : Int) - 1) t = x := by
  obtain ⟨hr, ⟨hn1, hn2⟩, hb⟩ := h
  obtain ⟨k, n, b, s⟩ := x
  simp only at hn1 hn2 hb
  have hrr : Va.right k n b s = true := hr
  rcases right_cases hrr with ⟨rfl, rfl, rfl, rfl⟩ | ⟨rfl, h1, rfl, rfl⟩ | ⟨rfl, rfl, rfl⟩ | ⟨rfl, rfl, hc, rfl⟩ | ⟨hk, rfl, rfl, hs⟩
  · have e2 : c :: t = 1 :: r := e
    obtain ⟨rfl, rfl⟩ := List.cons.inj e2
    rfl
  · rcases h1 with rfl | rfl
    · have e2 : c :: t = 2 :: 0 :: r := e
      obtain ⟨rfl, rfl⟩ := List.cons.inj e2
      rfl
    · have e2 : c :: t = 2 :: 1 :: r := e
      obtain ⟨rfl, rfl⟩ := List.cons.inj e2
      rfl
  · have e2 : c :: t = 3 :: (Cd.eight (moved n) ++ r) := e
    obtain ⟨rfl, rfl⟩ := List.cons.inj e2
    show (⟨2, unmoved (num ((Cd.eight (moved n) ++ r).take 8)), 0, ⟨#[]⟩⟩ : Cd.V) = _
    have h8 : (Cd.eight (moved n) ++ r).take 8 = Cd.eight (moved n) := by rw [← eight_length (moved n)]; exact List.take_left
    rw [h8, num_eight _ (moved_lt hn2), unmoved_moved hn1]
  · have e2 : c :: t = 4 :: (Cd.eight (turned b) ++ r) := e
    obtain ⟨rfl, rfl⟩ := List.cons.inj e2
    show (⟨3, 0, straight (num ((Cd.eight (turned b) ++ r).take 8)), ⟨#[]⟩⟩ : Cd.V) = _
    have h8 : (Cd.eight (turned b) ++ r).take 8 = Cd.eight (turned b) := by rw [← eight_length (turned b)]; exact List.take_left
    rw [h8, num_eight _ (turned_lt hb), straight_turned hb]
  · rcases hk with rfl | rfl
    · have e2 : c :: t = 5 :: (esc s.data.toList ++ [0, 1] ++ r) := e
      obtain ⟨rfl, rfl⟩ := List.cons.inj e2
      show (⟨4, 0, 0, bstr (gt (esc s.data.toList ++ [0, 1] ++ r))⟩ : Cd.V) = _
      rw [List.append_assoc, gt_esc, bstr_of]
    · have e2 : c :: t = 6 :: (esc s.data.toList ++ [0, 1] ++ r) := e
      obtain ⟨rfl, rfl⟩ := List.cons.inj e2
      show (⟨5, 0, 0, bstr (gt (esc s.data.toList ++ [0, 1] ++ r))⟩ : Cd.V) = _
      rw [List.append_assoc, gt_esc, bstr_of]
theorem fin_back {c : UInt8} {r r2 : List UInt8} {b : Bool} {x : Cd.V} (h : fin c r b = (x, r2, false)) : raw ((c.toNat : Int) - 1) r b = (x, r2, false) ∧ x.right = true := by
  unfold fin at h
  generalize raw ((c.toNat : Int) - 1) r b = q at h
  obtain ⟨a, p, d⟩ := q
  simp only [Prod.mk.injEq, Bool.or_eq_false_iff, Bool.not_eq_false'] at h
  obtain ⟨rfl, rfl, rfl, h4⟩ := h
  exact ⟨rfl, h4⟩
theorem tk_back {n : Nat} {l t r : List UInt8} (h : tk n l false = (t, r, false)) : l = t ++ r ∧ t.length = n := by
  by_cases hl : l.length < n
  · rw [tk_no hl] at h; cases h
  · rw [tk_ok (by omega)] at h
    simp only [Prod.mk.injEq, and_true] at h
    obtain ⟨rfl, rfl⟩ := h
    exact ⟨(List.take_append_drop n l).symm, by rw [List.length_take]; omega⟩
theorem vl_back {l r : List UInt8} {x : Cd.V} (h : vl l = (x, r, false)) : Fit x ∧ l = bytes x ++ r := by
  cases l with
  | nil =>
    have h' : fin 0 [] true = (x, r, false) := h
    have := (fin_back h').1
    cases this
  | cons c l =>
    have h' : fin c l false = (x, r, false) := h
    obtain ⟨h1, hr⟩ := fin_back h'
    have z0 : (-9223372036854775808 : Int) ≤ 0 ∧ (0 : Int) ≤ 9223372036854775807 := ⟨by decide, by decide⟩
    by_cases h2 : c = 2
    · subst h2
      rcases hq : tk 1 l false with ⟨t, r2, b2⟩
      have h1' : ((⟨1, (num (tk 1 l false).1 : Int), 0, ⟨#[]⟩⟩ : Cd.V), (tk 1 l false).2) = (x, r, false) := h1
      rw [hq] at h1'
      simp only [Prod.mk.injEq] at h1'
      obtain ⟨rfl, rfl, rfl⟩ := h1'
      obtain ⟨rfl, ht⟩ := tk_back hq
      obtain ⟨d, rfl, hd⟩ := num_one t ht
      have hrr : Va.right 1 (num [d] : Int) 0 ⟨#[]⟩ = true := hr
      have hn : (num [d] : Int) = 0 ∨ (num [d] : Int) = 1 := by
        rcases right_cases hrr with h | h | h | h | h
        · omega
        · exact h.2.1
        · omega
        · omega
        · omega
      have hdl := d.toNat_lt
      refine ⟨⟨hr, ⟨by show _ ≤ (num [d] : Int); omega, by show (num [d] : Int) ≤ _; omega⟩, by show 0 < _; decide⟩, ?_⟩
      show 2 :: d :: r2 = [2, UInt8.ofNat (num [d] : Int).toNat] ++ r2
      have : UInt8.ofNat (num [d] : Int).toNat = d := UInt8.toNat_inj.1 (by show (num [d] : Int).toNat % 256 = _; rw [hd]; omega)
      rw [this]; rfl
    by_cases h3 : c = 3
    · subst h3
      rcases hq : tk 8 l false with ⟨t, r2, b2⟩
      have h1' : ((⟨2, unmoved (num (tk 8 l false).1), 0, ⟨#[]⟩⟩ : Cd.V), (tk 8 l false).2) = (x, r, false) := h1
      rw [hq] at h1'
      simp only [Prod.mk.injEq] at h1'
      obtain ⟨rfl, rfl, rfl⟩ := h1'
      obtain ⟨rfl, ht⟩ := tk_back hq
      have hlt := num_lt8 t ht
      refine ⟨⟨hr, ⟨by show _ ≤ unmoved (num t); unfold unmoved; omega, by show unmoved (num t) ≤ _; unfold unmoved; omega⟩, by show 0 < _; decide⟩, ?_⟩
      show 3 :: (t ++ r2) = 3 :: Cd.eight (moved (unmoved (num t))) ++ r2
      rw [moved_unmoved, eight_num t ht]; rfl
    by_cases h4 : c = 4
    · subst h4
      rcases hq : tk 8 l false with ⟨t, r2, b2⟩
      have h1' : ((⟨3, 0, straight (num (tk 8 l false).1), ⟨#[]⟩⟩ : Cd.V), (tk 8 l false).2) = (x, r, false) := h1
      rw [hq] at h1'
      simp only [Prod.mk.injEq] at h1'
      obtain ⟨rfl, rfl, rfl⟩ := h1'
      obtain ⟨rfl, ht⟩ := tk_back hq
      have hlt := num_lt8 t ht
      refine ⟨⟨hr, z0, by show straight (num t) < _; rw [straight_num]; split <;> omega⟩, ?_⟩
      show 4 :: (t ++ r2) = 4 :: Cd.eight (turned (straight (num t))) ++ r2
      rw [turned_straight hlt, eight_num t ht]; rfl
    by_cases h5 : c = 5
    · subst h5
      rcases hq : tx [] l with ⟨t, r2, b2⟩
      have h1' : ((⟨4, 0, 0, bstr (tx [] l).1⟩ : Cd.V), (tx [] l).2) = (x, r, false) := h1
      rw [hq] at h1'
      simp only [Prod.mk.injEq] at h1'
      obtain ⟨rfl, rfl, rfl⟩ := h1'
      obtain ⟨u, e1, e2⟩ := tx_back _ _ _ _ hq
      rw [List.nil_append] at e1
      subst e1 e2
      refine ⟨⟨hr, z0, by show 0 < _; decide⟩, ?_⟩
      show 5 :: (esc t ++ ([0, 1] ++ r2)) = 5 :: (esc (bstr t).data.toList ++ [0, 1] ++ r2)
      rw [bstr_toList, List.append_assoc]
    by_cases h6 : c = 6
    · subst h6
      rcases hq : tx [] l with ⟨t, r2, b2⟩
      have h1' : ((⟨5, 0, 0, bstr (tx [] l).1⟩ : Cd.V), (tx [] l).2) = (x, r, false) := h1
      rw [hq] at h1'
      simp only [Prod.mk.injEq] at h1'
      obtain ⟨rfl, rfl, rfl⟩ := h1'
      obtain ⟨u, e1, e2⟩ := tx_back _ _ _ _ hq
      rw [List.nil_append] at e1
      subst e1 e2
      refine ⟨⟨hr, z0, by show 0 < _; decide⟩, ?_⟩
      show 6 :: (esc t ++ ([0, 1] ++ r2)) = 6 :: (esc (bstr t).data.toList ++ [0, 1] ++ r2)
      rw [bstr_toList, List.append_assoc]
    have hn : ∀ d : UInt8, c ≠ d → c.toNat ≠ d.toNat := fun d h e => h (UInt8.toNat_inj.1 e)
    have n2 := hn 2 h2
    have n3 := hn 3 h3
    have n4 := hn 4 h4
    have n5 := hn 5 h5
    have n6 := hn 6 h6
    simp only [show (2 : UInt8).toNat = 2 from rfl, show (3 : UInt8).toNat = 3 from rfl, show (4 : UInt8).toNat = 4 from rfl, show (5 : UInt8).toNat = 5 from rfl, show (6 : UInt8).toNat = 6 from rfl] at n2 n3 n4 n5 n6
    unfold raw at h1
    rw [if_neg (by omega), if_neg (by omega), if_neg (by omega), if_neg (by omega)] at h1
    simp only [Prod.mk.injEq, and_true] at h1
    obtain ⟨rfl, rfl⟩ := h1
    have hrr : Va.right ((c.toNat : Int) - 1) 0 0 ⟨#[]⟩ = true := hr
    have hk : (c.toNat : Int) - 1 = 0 := by
      rcases right_cases hrr with h | h | h | h | h <;> omega
    have hc : c = 1 := UInt8.toNat_inj.1 (by show c.toNat = 1; omega)
    subst hc
    exact ⟨⟨hr, z0, by show 0 < _; decide⟩, rfl⟩
theorem bytes_head (x : Cd.V) : ∃ c t, bytes x = c :: t ∧ c ≠ 0 := by
  unfold bytes one
  split
  · exact ⟨_, _, rfl, by decide⟩
  · split
    · exact ⟨_, _, rfl, by decide⟩
    · split
      · exact ⟨_, _, rfl, by decide⟩
      · split
        · exact ⟨_, _, rfl, by decide⟩
        · split
          · exact ⟨_, _, rfl, by decide⟩
          · exact ⟨_, _, rfl, by decide⟩
theorem pk_of (l : List Cd.V) : ∀ (f : Nat) (l0 : List Cd.V), (∀ x ∈ l, Fit x) → l0.length + l.length ≤ 8 → l.length < f → pk f l0 (l.flatMap bytes ++ [0]) false = some (l0 ++ l) := by
  induction l with
  | nil =>
    intro f l0 _ _ hf
    obtain ⟨f, rfl⟩ : ∃ g, f = g + 1 := ⟨f - 1, by simp at hf; omega⟩
    rw [List.append_nil]; exact pk_end f l0
  | cons x l ih =>
    intro f l0 hx hl hf
    obtain ⟨f, rfl⟩ : ∃ g, f = g + 1 := ⟨f - 1, by simp at hf; omega⟩
    simp only [List.length_cons] at hl hf
    obtain ⟨c, t, ht, hc⟩ := bytes_head x
    rw [List.flatMap_cons, List.append_assoc, pk_next _ _ _ (by rw [ht]; intro e; exact hc (List.cons.inj e).1), vl_bytes (hx x (by simp)), decide_eq_false (by omega)]
    show pk f (l0 ++ [x]) (l.flatMap bytes ++ [0]) false = _
    rw [ih f (l0 ++ [x]) (fun y hy => hx y (by simp [hy])) (by simp; omega) (by omega), List.append_assoc]; rfl
theorem pk_back (f : Nat) : ∀ (l0 l : List Cd.V) (r : List UInt8) (b : Bool), pk f l0 r b = some l → b = false ∧ ∃ l1, l = l0 ++ l1 ∧ r = l1.flatMap bytes ++ [0] ∧ (∀ x ∈ l1, Fit x) ∧ (l0.length ≤ 8 → l.length ≤ 8) := by
  induction f with
  | zero => intro l0 l r b h; cases h
  | succ f ih =>
    intro l0 l r b h
    cases b with
    | true => rw [pk_bad] at h; cases h
    | false =>
      refine ⟨rfl, ?_⟩
      by_cases hr : r = [0]
      · subst hr
        rw [pk_end] at h
        cases h
        exact ⟨[], by simp, rfl, (fun x hx => by cases hx), id⟩
      · rw [pk_next _ _ _ hr] at h
        obtain ⟨hb, l1, rfl, e2, h3, h4⟩ := ih _ _ _ _ h
        rw [Bool.or_eq_false_iff] at hb
        rcases hq : vl r with ⟨x, r2, b2⟩
        rw [hq] at hb e2 h4
        simp only [decide_eq_false_iff_not] at hb e2 h4
        obtain ⟨rfl, hb2⟩ := hb
        obtain ⟨hf, hr2⟩ := vl_back hq
        refine ⟨x :: l1, by simp, ?_, ?_, ?_⟩
        · rw [hr2, e2, List.flatMap_cons, List.append_assoc]
        · intro y hy
          rcases List.mem_cons.1 hy with rfl | hy
          · exact hf
          · exact h3 y hy
        · intro _
          have := h4 (by simp; omega)
          simpa using this
theorem gp_of (l : List Cd.V) : ∀ (f : Nat) (l0 : List Cd.V), (∀ x ∈ l, Fit x) → l0.length + l.length ≤ 8 → l.length < f → gp f l0 (l.flatMap bytes ++ [0]) = some (l0 ++ l) := by
  induction l with
  | nil =>
    intro f l0 _ _ hf
    obtain ⟨f, rfl⟩ : ∃ g, f = g + 1 := ⟨f - 1, by simp at hf; omega⟩
    rw [List.append_nil]; rfl
  | cons x l ih =>
    intro f l0 hx hl hf
    obtain ⟨f, rfl⟩ : ∃ g, f = g + 1 := ⟨f - 1, by simp at hf; omega⟩
    simp only [List.length_cons] at hl hf
    obtain ⟨c, t, ht, hc⟩ := bytes_head x
    have hfx := hx x (by simp)
    have ec : c :: (t ++ (l.flatMap bytes ++ [0])) = bytes x ++ (l.flatMap bytes ++ [0]) := by rw [ht]; rfl
    have hg := guess_bytes hfx ec
    rw [List.flatMap_cons, List.append_assoc, ← ec]
    show (if c = 0 then _ else if (guess ((c.toNat : Int) - 1) (t ++ (l.flatMap bytes ++ [0]))).right = false ∨ l0.length = 8 then none else if _ then _ else none) = _
    rw [if_neg hc, hg, if_neg (by rw [hfx.1]; simp; omega)]
    rw [ec, List.take_left, List.drop_left, if_pos]
    · rw [ih f (l0 ++ [x]) (fun y hy => hx y (by simp [hy])) (by simp; omega) (by omega), List.append_assoc]; rfl
    · refine ⟨?_, rfl⟩
      have := congrArg List.length ec
      simp only [List.length_cons, List.length_append] at this ⊢
      omega
theorem gp_back (f : Nat) : ∀ (l0 l : List Cd.V) (r : List UInt8), r.length ≤ 1000000 → gp f l0 r = some l → ∃ l1, l = l0 ++ l1 ∧ r = l1.flatMap bytes ++ [0] ∧ (∀ x ∈ l1, Fit x) ∧ (l0.length ≤ 8 → l.length ≤ 8) := by
  induction f with
  | zero => intro l0 l r _ h; cases h
  | succ f ih =>
    intro l0 l r hl h
    cases r with
    | nil => cases h
    | cons c r =>
      have h' : (if c = 0 then (if r = [] then some l0 else none)
        else if (guess ((c.toNat : Int) - 1) r).right = false ∨ l0.length = 8 then none
        else if (Ky.bytes (guess ((c.toNat : Int) - 1) r)).length ≤ r.length + 1 ∧ (c :: r).take (Ky.bytes (guess ((c.toNat : Int) - 1) r)).length = Ky.bytes (guess ((c.toNat : Int) - 1) r)
        then gp f (l0 ++ [guess ((c.toNat : Int) - 1) r]) ((c :: r).drop (Ky.bytes (guess ((c.toNat : Int) - 1) r)).length) else none) = some l := h
      by_cases hc : c = 0
      · rw [if_pos hc] at h'
        by_cases hr : r = []
        · rw [if_pos hr] at h'
          cases h'
          subst hc hr
          exact ⟨[], by simp, rfl, (fun x hx => by cases hx), id⟩
        · rw [if_neg hr] at h'; cases h'
      · rw [if_neg hc] at h'
        have hok := guess_ok c r (by simp at hl; omega)
        generalize guess ((c.toNat : Int) - 1) r = x at h' hok
        by_cases h1 : x.right = false ∨ l0.length = 8
        · rw [if_pos h1] at h'; cases h'
        · rw [if_neg h1] at h'
          by_cases h2 : (Ky.bytes x).length ≤ r.length + 1 ∧ (c :: r).take (Ky.bytes x).length = Ky.bytes x
          · rw [if_pos h2] at h'
            obtain ⟨l1, rfl, e2, h3, h4⟩ := ih _ _ _ (by rw [List.length_drop]; omega) h'
            have hr : x.right = true := by cases hx : x.right with | true => rfl | false => exact absurd (Or.inl hx) h1
            refine ⟨x :: l1, by simp, ?_, ?_, ?_⟩
            · rw [List.flatMap_cons, List.append_assoc, ← e2, ← h2.2, List.length_take]
              rw [Nat.min_eq_left (by simpa using h2.1)]
              exact (List.take_append_drop _ _).symm
            · intro y hy
              rcases List.mem_cons.1 hy with rfl | hy
              · exact ⟨hr, ⟨hok.2.1, hok.2.2.1⟩, hok.2.2.2⟩
              · exact h3 y hy
            · intro h8
              have := h4 (by simp; omega)
              simpa using this
          · rw [if_neg h2] at h'; cases h'
theorem right_of {l : List Cd.V} (h1 : ∀ x ∈ l, Fit x) (h2 : l.length ≤ 8) : right l = true := by
  unfold right
  rw [Bool.and_eq_true, decide_eq_true_eq, List.all_eq_true]
  exact ⟨fun x hx => (h1 x hx).1, h2⟩
theorem fit_of {l : List Cd.V} (h : right l = true) (hok : ∀ x ∈ l, Vok x) : ∀ x ∈ l, Fit x := fun x hx => ⟨(right_inv h).1 x hx, (hok x hx).1, (hok x hx).2.1⟩
theorem of_right {l : List Cd.V} (h : right l = true) : of l = l.flatMap bytes ++ [0] := if_pos h
theorem parse_of {l : List Cd.V} (h : right l = true) (hok : ∀ x ∈ l, Vok x) : parse (of l) = some l := by
  rw [of_right h]
  exact pk_of l 11 [] (fit_of h hok) (by simpa using (right_inv h).2) (by have := (right_inv h).2; omega)
theorem parseR_of {l : List Cd.V} (h : right l = true) (hok : ∀ x ∈ l, Vok x) : parseR (of l) = some l := by
  rw [of_right h]
  exact gp_of l 10 [] (fit_of h hok) (by simpa using (right_inv h).2) (by have := (right_inv h).2; omega)
theorem parse_back {s : List UInt8} {l : List Cd.V} (h : parse s = some l) : right l = true ∧ (∀ x ∈ l, Vok x) ∧ of l = s := by
  obtain ⟨_, l1, e1, rfl, h3, h4⟩ := pk_back _ _ _ _ _ h
  rw [List.nil_append] at e1
  subst e1
  have hr := right_of (l := l) h3 (by simpa using h4 (by simp))
  exact ⟨hr, fun x hx => (h3 x (by simpa using hx)).vok, of_right hr⟩
theorem parseR_back {s : List UInt8} {l : List Cd.V} (hs : s.length ≤ 1000000) (h : parseR s = some l) : right l = true ∧ (∀ x ∈ l, Vok x) ∧ of l = s := by
  obtain ⟨l1, e1, rfl, h3, h4⟩ := gp_back _ _ _ _ hs h
  rw [List.nil_append] at e1
  subst e1
  have hr := right_of (l := l) h3 (by simpa using h4 (by simp))
  exact ⟨hr, fun x hx => (h3 x (by simpa using hx)).vok, of_right hr⟩
theorem parse_eq {s : List UInt8} (hs : s.length ≤ 1000000) : parse s = parseR s := by
  cases h : parse s with
  | none =>
    cases h2 : parseR s with
    | none => rfl
    | some l =>
      obtain ⟨a, b, rfl⟩ := parseR_back hs h2
      rw [parse_of a b] at h; cases h
  | some l =>
    obtain ⟨a, b, rfl⟩ := parse_back h
    exact (parseR_of a b).symm
theorem of_inj {l r : List Cd.V} (h1 : right l = true) (hk1 : ∀ x ∈ l, Vok x) (h2 : right r = true) (hk2 : ∀ x ∈ r, Vok x) (h : of l = of r) : l = r := by
  have a := parse_of h1 hk1
  rw [h, parse_of h2 hk2] at a
  cases a; rfl
end Ky
end Go.Proofs.Ytimcmpcfnddioaa
