/-
  THE PLAIN LAW OF THE SUM: the table's way and the bit's way are one; the sum is linear, and each step of it can be turned back. No condition. No Go in sight.
-/
import Derived.WalkKit
namespace Go.Proofs.Ytfockiaommiohaa.Crc

def poly : BitVec 32 := 0xedb88320#32
def step (x : BitVec 32) : BitVec 32 := if x.getLsbD 0 then (x >>> 1) ^^^ poly else x >>> 1
def steps : Nat → BitVec 32 → BitVec 32
  | 0, x => x
  | k + 1, x => step (steps k x)
def tab (i : Nat) : BitVec 32 := steps 8 (BitVec.ofNat 32 i)
def upd (n : BitVec 32) (b : UInt8) : BitVec 32 := tab ((n.toNat % 256) ^^^ b.toNat) ^^^ (n >>> 8)
def updR (n : BitVec 32) (b : UInt8) : BitVec 32 := steps 8 (n ^^^ BitVec.ofNat 32 b.toNat)
def run (n : BitVec 32) (l : List UInt8) : BitVec 32 := l.foldl upd n
def more (sum : BitVec 32) (l : List UInt8) : BitVec 32 := ~~~ (run (~~~ sum) l)
def sumOf (l : List UInt8) : BitVec 32 := more 0#32 l

theorem step_odd {x : BitVec 32} (h : x.getLsbD 0 = true) : step x = (x >>> 1) ^^^ poly := by unfold step; rw [if_pos h]
theorem step_even {x : BitVec 32} (h : x.getLsbD 0 = false) : step x = x >>> 1 := by unfold step; rw [if_neg (by rw [h]; decide)]

theorem step_xor (x y : BitVec 32) : step (x ^^^ y) = step x ^^^ step y := by
  have hxy : (x ^^^ y).getLsbD 0 = (x.getLsbD 0 ^^ y.getLsbD 0) := BitVec.getLsbD_xor
  cases hx : x.getLsbD 0 <;> cases hy : y.getLsbD 0 <;> rw [hx, hy] at hxy
  · rw [step_even hx, step_even hy, step_even hxy, BitVec.ushiftRight_xor_distrib]
  · rw [step_even hx, step_odd hy, step_odd hxy, BitVec.ushiftRight_xor_distrib, BitVec.xor_assoc]
  · rw [step_odd hx, step_even hy, step_odd hxy, BitVec.ushiftRight_xor_distrib]; ac_rfl
  · rw [step_odd hx, step_odd hy, step_even hxy, BitVec.ushiftRight_xor_distrib]
    rw [show x >>> 1 ^^^ poly ^^^ (y >>> 1 ^^^ poly) = x >>> 1 ^^^ y >>> 1 ^^^ (poly ^^^ poly) from by ac_rfl]; simp

theorem steps_xor (k : Nat) (x y : BitVec 32) : steps k (x ^^^ y) = steps k x ^^^ steps k y := by
  induction k with
  | zero => rfl
  | succ k ih => simp only [steps, ih, step_xor]

theorem step_shift (n : BitVec 32) (j : Nat) (hj : j < 8) : step ((n >>> 8) <<< (j + 1)) = (n >>> 8) <<< j := by
  rw [step_even (by simp)]
  apply BitVec.eq_of_getLsbD_eq
  intro i hi
  simp only [BitVec.getLsbD_ushiftRight, BitVec.getLsbD_shiftLeft]
  by_cases h1 : i < j
  · have e : 1 + i < j + 1 := by omega
    simp [e, h1]
  · by_cases h2 : i < 31
    · have e1 : 1 + i < 32 := by omega
      have e2 : ¬ 1 + i < j + 1 := by omega
      simp [e1, e2, h1, hi, show 8 + (1 + i - (j + 1)) = 8 + (i - j) from by omega]
    · have e1 : ¬ 1 + i < 32 := by omega
      simp [e1, h1, hi]
      exact BitVec.getLsbD_of_ge _ _ (by omega)

theorem steps_shift (n : BitVec 32) : steps 8 ((n >>> 8) <<< 8) = n >>> 8 := by
  simp only [steps]
  rw [step_shift n 7 (by omega), step_shift n 6 (by omega), step_shift n 5 (by omega), step_shift n 4 (by omega), step_shift n 3 (by omega), step_shift n 2 (by omega), step_shift n 1 (by omega), step_shift n 0 (by omega)]
  simp

/-- what lies below, and what lies above -/
theorem split8 (n : BitVec 32) : n = ((n >>> 8) <<< 8) ^^^ BitVec.ofNat 32 (n.toNat % 256) := by
  apply BitVec.eq_of_getLsbD_eq
  intro i hi
  simp only [BitVec.getLsbD_xor, BitVec.getLsbD_shiftLeft, BitVec.getLsbD_ushiftRight, BitVec.getLsbD_ofNat, hi, decide_true, Bool.true_and]
  rw [show (256 : Nat) = 2 ^ 8 from rfl, Nat.testBit_mod_two_pow]
  by_cases h : i < 8
  · simp [h]; rfl
  · simp [h, show 8 + (i - 8) = i from by omega]

theorem ofNat_xor (a b : Nat) : BitVec.ofNat 32 (a ^^^ b) = BitVec.ofNat 32 a ^^^ BitVec.ofNat 32 b := by
  apply BitVec.eq_of_getLsbD_eq
  intro i hi
  simp [hi]

/-- THE TABLE'S WAY IS THE BITS' WAY -/
theorem upd_eq (n : BitVec 32) (b : UInt8) : upd n b = updR n b := by
  unfold upd updR tab
  conv => rhs; rw [split8 n]
  rw [BitVec.xor_assoc, steps_xor, steps_shift, ← ofNat_xor, BitVec.xor_comm]

/-- the sum's byte k, the lowest first -/
def bt (n : BitVec 32) (k : Nat) : UInt8 := UInt8.ofNat ((n >>> (8 * k)).toNat % 256)
def le (n : BitVec 32) (k : Nat) : List UInt8 := (List.range k).map (bt n)
def put (l : List UInt8) : List UInt8 := l ++ le (sumOf l) 4
def take (l : List UInt8) : List UInt8 × Bool := if l.length < 4 ∨ put (l.take (l.length - 4)) ≠ l then ([], false) else (l.take (l.length - 4), true)
theorem le_succ (n : BitVec 32) (k : Nat) : le n (k + 1) = le n k ++ [bt n k] := by unfold le; rw [List.range_succ, List.map_append]; rfl
theorem le_length (n : BitVec 32) (k : Nat) : (le n k).length = k := by simp [le]
theorem put_length (l : List UInt8) : (put l).length = l.length + 4 := by simp [put, le_length]

end Go.Proofs.Ytfockiaommiohaa.Crc
