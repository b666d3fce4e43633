/-
  The order of floats, by their bits. No program in sight. No condition.
-/
import Derived.Test.YtimcmpcfnddioaaVa
namespace Go.Proofs.Ytimcmpcfnddioaa
namespace Va

/-- what bits without a sign stand for, in units of the least place -/
def mag (r : Nat) : Nat := if r < 4503599627370496 then r else (4503599627370496 + r % 4503599627370496) * 2 ^ (r / 4503599627370496 - 1)
theorem mag_step (r : Nat) : mag r < mag (r + 1) := by
  unfold mag
  by_cases h1 : r + 1 < 4503599627370496
  · rw [if_pos h1, if_pos (by omega)]; omega
  · by_cases h2 : r + 1 = 4503599627370496
    · rw [if_neg h1, if_pos (by omega), h2]; omega
    · rw [if_neg h1, if_neg (by omega)]
      generalize hq : r / 4503599627370496 = q
      generalize hf : r % 4503599627370496 = f
      by_cases h3 : f + 1 < 4503599627370496
      · rw [show (r + 1) / 4503599627370496 = q by omega, show (r + 1) % 4503599627370496 = f + 1 by omega]
        exact Nat.mul_lt_mul_of_pos_right (by omega) (Nat.two_pow_pos _)
      · rw [show (r + 1) / 4503599627370496 = q + 1 by omega, show (r + 1) % 4503599627370496 = 0 by omega, show q + 1 - 1 = (q - 1) + 1 by omega, Nat.pow_succ]
        have hp := Nat.two_pow_pos (q - 1)
        generalize 2 ^ (q - 1) = p at hp
        rw [Nat.mul_comm p 2, ← Nat.mul_assoc]
        exact Nat.mul_lt_mul_of_pos_right (by omega) hp
theorem mag_add (r k : Nat) : mag r < mag (r + (k + 1)) := by
  induction k with
  | zero => exact mag_step r
  | succ k ih => exact Nat.lt_trans ih (mag_step _)
theorem mag_mono {r t : Nat} (h : r < t) : mag r < mag t := by
  have := mag_add r (t - r - 1)
  rw [show r + (t - r - 1 + 1) = t by omega] at this
  exact this
theorem mag_lt {r t : Nat} : mag r < mag t ↔ r < t := by
  constructor
  · intro h
    rcases Nat.lt_trichotomy r t with h1 | h1 | h1
    · exact h1
    · subst h1; omega
    · have := mag_mono h1; omega
  · exact mag_mono
theorem mag_zero : mag 0 = 0 := rfl
theorem mag_pos {r : Nat} : 0 < mag r ↔ 0 < r := by
  have h := @mag_lt 0 r
  rwa [mag_zero] at h
/-- the number that bits stand for, in units of the least place; of an infinity one that is above all others -/
def sg (b : Nat) : Int := if b / SIGN % 2 = 1 then -(mag (b % SIGN) : Int) else (mag (b % SIGN) : Int)
def val (s : Bool) (m : Nat) : Int := if s then -(m : Int) else (m : Int)
theorem signed_val (s : Bool) (m k : Nat) : Ieee.signed s m k = val s (m * 2 ^ k) := by
  unfold Ieee.signed val
  rw [Nat.shiftLeft_eq]
theorem val_mul (s : Bool) (m c : Nat) : val s (m * c) = val s m * (c : Int) := by
  unfold val
  cases s
  · simp
  · simp [Int.neg_mul]
theorem sg_val (b : Nat) : sg b = val (b / SIGN % 2 == 1) (mag (b % SIGN)) := by
  unfold sg val
  by_cases h : b / SIGN % 2 = 1
  · rw [if_pos h, h]; rfl
  · rw [if_neg h, if_neg (by simpa using h)]
theorem read_fin {b : Nat} (h : b % SIGN < INF) : ∃ m k : Nat, Ieee.double.read b = .number (b / SIGN % 2 == 1) m (Ieee.double.leastPlace + (k : Nat)) ∧ m * 2 ^ k = mag (b % SIGN) := by
  unfold Ieee.Format.read
  rw [sw, bin, infr]
  by_cases h1 : b % SIGN < 4503599627370496
  · simp only [if_pos h1]
    refine ⟨_, 0, by rw [Int.natCast_zero, Int.add_zero], ?_⟩
    unfold mag
    rw [if_pos h1]; omega
  · simp only [if_neg h1, if_pos h]
    refine ⟨_, _, rfl, ?_⟩
    unfold mag
    rw [if_neg h1]
theorem read_infs {b : Nat} (h : b % SIGN = INF) : Ieee.double.read b = .infinity (b / SIGN % 2 == 1) := by
  unfold Ieee.Format.read
  rw [sw, bin, infr]
  dsimp only
  have hi : INF = 9218868437227405312 := rfl
  rw [if_neg (by omega), if_neg (by omega), if_pos h]
theorem compare_mul (x y : Int) (c : Nat) (hc : 0 < c) : compare (x * (c : Int)) (y * (c : Int)) = compare x y := by
  have hc' : (0 : Int) < (c : Int) := by omega
  rcases Int.lt_trichotomy x y with h | h | h
  · rw [Int.compare_eq_lt.2 h, Int.compare_eq_lt.2 (Int.mul_lt_mul_of_pos_right h hc')]
  · subst h; rw [Int.compare_eq_eq.2 rfl, Int.compare_eq_eq.2 rfl]
  · rw [Int.compare_eq_gt.2 h, Int.compare_eq_gt.2 (Int.mul_lt_mul_of_pos_right h hc')]
theorem signed_compare (s t : Bool) (m n k l : Nat) (p : Int) : compare (Ieee.signed s m (p + k - min (p + k) (p + l)).toNat) (Ieee.signed t n (p + l - min (p + k) (p + l)).toNat) = compare (val s (m * 2 ^ k)) (val t (n * 2 ^ l)) := by
  rw [signed_val, signed_val, ← compare_mul _ _ (2 ^ (min k l)) (Nat.two_pow_pos _), ← val_mul, ← val_mul, Nat.mul_assoc, Nat.mul_assoc, ← Nat.pow_add, ← Nat.pow_add,
    show (p + k - min (p + k) (p + l)).toNat + min k l = k by omega, show (p + l - min (p + k) (p + l)).toNat + min k l = l by omega]
theorem order_sg {a b : Nat} (ha : ¬ INF < a % SIGN) (hb : ¬ INF < b % SIGN) : FloatKind.f64.format.order a b = some (compare (sg a) (sg b)) := by
  show (Ieee.double.read a).order (Ieee.double.read b) = _
  rw [sg_val, sg_val]
  have key : ∀ {r : Nat} (s t : Bool), r < INF → val t (mag r) < (mag INF : Int) ∧ -(mag INF : Int) < val t (mag r) := by
    intro r s t h
    have h2 := mag_mono h
    unfold val
    constructor <;> split <;> omega
  rcases Nat.lt_or_ge (a % SIGN) INF with h | h
  · obtain ⟨m, k, e, em⟩ := read_fin h
    rcases Nat.lt_or_ge (b % SIGN) INF with h' | h'
    · obtain ⟨n, l, e', en⟩ := read_fin h'
      rw [e, e']
      simp only [Ieee.Datum.order]
      rw [signed_compare, em, en]
    · have hbe : b % SIGN = INF := by omega
      rw [e, read_infs hbe, hbe]
      simp only [Ieee.Datum.order]
      obtain ⟨k1, k2⟩ := key true (a / SIGN % 2 == 1) h
      generalize val (a / SIGN % 2 == 1) (mag (a % SIGN)) = x at k1 k2
      generalize (b / SIGN % 2 == 1) = t
      cases t
      · rw [show val false (mag INF) = (mag INF : Int) from rfl, Int.compare_eq_lt.2 k1]; rfl
      · rw [show val true (mag INF) = -(mag INF : Int) from rfl, Int.compare_eq_gt.2 k2]; rfl
  · have hae : a % SIGN = INF := by omega
    rcases Nat.lt_or_ge (b % SIGN) INF with h' | h'
    · obtain ⟨n, l, e', en⟩ := read_fin h'
      rw [e', read_infs hae, hae]
      simp only [Ieee.Datum.order]
      obtain ⟨k1, k2⟩ := key true (b / SIGN % 2 == 1) h'
      generalize val (b / SIGN % 2 == 1) (mag (b % SIGN)) = x at k1 k2
      generalize (a / SIGN % 2 == 1) = t
      cases t
      · rw [show val false (mag INF) = (mag INF : Int) from rfl, Int.compare_eq_gt.2 k1]; rfl
      · rw [show val true (mag INF) = -(mag INF : Int) from rfl, Int.compare_eq_lt.2 k2]; rfl
    · have hbe : b % SIGN = INF := by omega
      rw [read_infs hbe, read_infs hae, hae, hbe]
      simp only [Ieee.Datum.order]
      have hp : 0 < mag INF := mag_pos.2 (by decide)
      generalize (a / SIGN % 2 == 1) = s
      generalize (b / SIGN % 2 == 1) = t
      generalize mag INF = i at hp
      cases s <;> cases t
      · rw [Int.compare_eq_eq.2 rfl]; rfl
      · rw [show val false i = (i : Int) from rfl, show val true i = -(i : Int) from rfl, Int.compare_eq_gt.2 (by omega)]; rfl
      · rw [show val false i = (i : Int) from rfl, show val true i = -(i : Int) from rfl, Int.compare_eq_lt.2 (by omega)]; rfl
      · rw [Int.compare_eq_eq.2 rfl]; rfl
end Va
end Go.Proofs.Ytimcmpcfnddioaa
