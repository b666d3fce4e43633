/-
  Values, plainly: which are right; a float's bits. No program in sight. No condition.
-/
import GoSem.Core.Float
namespace Go.Proofs.Ytimcmpcfnddioaa
namespace Va

def NAN : Nat := 9221120237041090560
def INF : Nat := 9218868437227405312
def SIGN : Nat := 9223372036854775808
/-- canonical bits -/
def canon (b : Nat) : Nat := if INF < b % SIGN then NAN else if b % SIGN = 0 then 0 else b

theorem sw : Ieee.double.signWeight = SIGN := by decide
theorem bin : Ieee.double.binade = 4503599627370496 := by decide
theorem infr : Ieee.double.infRung = INF := by decide

theorem read_nan {b : Nat} (h : INF < b % SIGN) : ∃ s t, Ieee.double.read b = .nan s t := by
  unfold Ieee.Format.read
  rw [sw, bin, infr]
  dsimp only
  have hi : INF = 9218868437227405312 := rfl
  rw [if_neg (by omega), if_neg (by omega), if_neg (by omega)]
  exact ⟨_, _, rfl⟩
theorem read_inf {b : Nat} (h : b % SIGN = INF) : ∃ s, Ieee.double.read b = .infinity s := by
  unfold Ieee.Format.read
  rw [sw, bin, infr]
  dsimp only
  have hi : INF = 9218868437227405312 := rfl
  rw [if_neg (by omega), if_neg (by omega), if_pos h]
  exact ⟨_, rfl⟩
theorem read_num {b : Nat} (h : b % SIGN < INF) : ∃ s m k, Ieee.double.read b = .number s m (Ieee.double.leastPlace + (k : Nat)) ∧ (m = 0 ↔ b % SIGN = 0) ∧ (m = 0 → k = 0) := by
  unfold Ieee.Format.read
  rw [sw, bin, infr]
  by_cases h1 : b % SIGN < 4503599627370496
  · rw [if_pos h1]
    exact ⟨_, _, 0, by rw [Int.natCast_zero, Int.add_zero], Iff.rfl, fun _ => rfl⟩
  · rw [if_neg h1, if_pos h]
    refine ⟨_, _, _, rfl, ?_, ?_⟩
    · omega
    · omega

theorem order_self (b : Nat) : (FloatKind.f64.format.order b b == some .eq) = decide (¬ INF < b % SIGN) := by
  show ((Ieee.double.read b).order (Ieee.double.read b) == some .eq) = _
  rcases Nat.lt_trichotomy (b % SIGN) INF with h | h | h
  · obtain ⟨s, m, k, e, _⟩ := read_num h
    rw [e]
    simp only [Ieee.Datum.order]
    rw [decide_eq_true (by omega)]
    simp
  · obtain ⟨s, e⟩ := read_inf h
    rw [e]
    simp only [Ieee.Datum.order]
    rw [decide_eq_true (by omega)]
    simp
  · obtain ⟨s, t, e⟩ := read_nan h
    rw [e]
    simp only [Ieee.Datum.order]
    rw [decide_eq_false (by omega)]
    rfl
theorem signed_zero {s : Bool} {m k : Nat} : Ieee.signed s m k = 0 ↔ m = 0 := by
  unfold Ieee.signed
  rw [Nat.shiftLeft_eq]
  have h2 : 0 < 2 ^ k := Nat.two_pow_pos k
  constructor
  · intro h
    have h3 : m * 2 ^ k = 0 := by split at h <;> omega
    rcases Nat.mul_eq_zero.1 h3 with h4 | h4
    · exact h4
    · omega
  · rintro rfl
    simp
theorem read_zero : Ieee.double.read 0 = .number false 0 Ieee.double.leastPlace := by decide
theorem order_zero (b : Nat) (hb : ¬ INF < b % SIGN) : (FloatKind.f64.format.order b 0 == some .eq) = decide (b % SIGN = 0) := by
  show ((Ieee.double.read b).order (Ieee.double.read 0) == some .eq) = _
  rw [read_zero]
  rcases Nat.lt_trichotomy (b % SIGN) INF with h | h | h
  · obtain ⟨s, m, k, e, e2, _⟩ := read_num h
    rw [e]
    simp only [Ieee.Datum.order]
    generalize hx : Ieee.signed s m _ = x
    generalize hy : Ieee.signed false 0 _ = y
    have hy0 : y = 0 := by rw [← hy]; exact signed_zero.2 rfl
    subst hy0
    have hx0 : x = 0 ↔ m = 0 := by rw [← hx]; exact signed_zero
    rw [← hx0] at e2
    rw [Bool.eq_iff_iff, decide_eq_true_iff, ← e2]
    simp
  · obtain ⟨s, e⟩ := read_inf h
    rw [e]
    simp only [Ieee.Datum.order]
    rw [decide_eq_false (by rw [h]; decide)]
    cases s <;> rfl
  · omega

/-- which values are right: its kind, number, bits, text -/
def right (k n : Int) (b : Nat) (s : ByteArray) : Bool :=
  if k = 0 then decide (n = 0) && decide (b = 0) && decide (s.size = 0)
  else if k = 1 then (decide (n = 0) || decide (n = 1)) && decide (b = 0) && decide (s.size = 0)
  else if k = 2 then decide (b = 0) && decide (s.size = 0)
  else if k = 3 then decide (n = 0) && decide (s.size = 0) && decide (canon b = b)
  else if k = 4 ∨ k = 5 then decide (n = 0) && decide (b = 0) && decide (s.size ≤ 4096)
  else false
end Va
end Go.Proofs.Ytimcmpcfnddioaa
