/-
  THE PLAIN LAW OF THE SUM: the table's way and the bit's way are one; the sum is linear, and each step of it can be turned back. No condition. No Go in sight.
-/
import Derived.WalkKit
namespace Go.Proofs.Ytfockiaommiohaa.Crc

def poly : BitVec 32 := 0xedb88320#32
def step (x : BitVec 32) : BitVec 32 := if x.getLsbD 0 then (x >>> 1) ^^^ poly else x >>> 1
def steps : Nat → BitVec 32 → BitVec 32
  | 0, x => x
  | k + 1, x => step (steps k x)
def tab (i : Nat) : BitVec 32 := steps 8 (BitVec.ofNat 32 i)
def upd (n : BitVec 32) (b : UInt8) : BitVec 32 := tab ((n.toNat % 256) ^^^ b.toNat) ^^^ (n >>> 8)
def updR (n : BitVec 32) (b : UInt8) : BitVec 32 := steps 8 (n ^^^ BitVec.ofNat 32 b.toNat)
def run (n : BitVec 32) (l : List UInt8) : BitVec 32 := l.foldl upd n
def more (sum : BitVec 32) (l : List UInt8) : BitVec 32 := ~~~ (run (~~~ sum) l)
def sumOf (l : List UInt8) : BitVec 32 := more 0#32 l

theorem step_odd {x : BitVec 32} (h : x.getLsbD 0 = true) : step x = (x >>> 1) ^^^ poly := by unfold step; rw [if_pos h]
theorem step_even {x : BitVec 32} (h : x.getLsbD 0 = false) : step x = x >>> 1 := by unfold step; rw [if_neg (by rw [h]; decide)]

theorem step_xor (x y : BitVec 32) : step (x ^^^ y) = step x ^^^ step y := by
  have hxy : (x ^^^ y).getLsbD 0 = (x.getLsbD 0 ^^ y.getLsbD 0) := BitVec.getLsbD_xor
  cases hx : x.getLsbD 0 <;> cases hy : y.getLsbD 0 <;> rw [hx, hy] at hxy
  · rw [step_even hx, step_even hy, step_even hxy, BitVec.ushiftRight_xor_distrib]
  · rw [step_even hx, step_odd hy, step_odd hxy, BitVec.ushiftRight_xor_distrib, BitVec.xor_assoc]
  · rw [step_odd hx, step_even hy, step_odd hxy, BitVec.ushiftRight_xor_distrib]; ac_rfl
  · rw [step_odd hx, step_odd hy, step_even hxy, BitVec.ushiftRight_xor_distrib]
    rw [show x >>> 1 ^^^ poly ^^^ (y >>> 1 ^^^ poly) = x >>> 1 ^^^ y >>> 1 ^^^ (poly ^^^ poly) from by ac_rfl]; simp

theorem steps_xor (k : Nat) (x y : BitVec 32) : steps k (x ^^^ y) = steps k x ^^^ steps k y := by
  induction k with
  | zero => rfl
  | succ k ih => simp only [steps, ih, step_xor]

theorem step_shift (n : BitVec 32) (j : Nat) (hj : j < 8) : step ((n >>> 8) <<< (j + 1)) = (n >>> 8) <<< j := by
  rw [step_even (by simp)]
  apply BitVec.eq_of_getLsbD_eq
  intro i hi
  simp only [BitVec.getLsbD_ushiftRight, BitVec.getLsbD_shiftLeft]
  by_cases h1 : i < j
  · have e : 1 + i < j + 1 := by omega
    simp [e, h1]
  · by_cases h2 : i < 31
    · have e1 : 1 + i < 32 := by omega
      have e2 : ¬ 1 + i < j + 1 := by omega
      simp [e1, e2, h1, hi, show 8 + (1 + i - (j + 1)) = 8 + (i - j) from by omega]
    · have e1 : ¬ 1 + i < 32 := by omega
      simp [e1, h1, hi]
      exact BitVec.getLsbD_of_ge _ _ (by omega)

theorem steps_shift (n : BitVec 32) : steps 8 ((n >>> 8) <<< 8) = n >>> 8 := by
  simp only [steps]
  rw [step_shift n 7 (by omega), step_shift n 6 (by omega), step_shift n 5 (by omega), step_shift n 4 (by omega), step_shift n 3 (by omega), step_shift n 2 (by omega), step_shift n 1 (by omega), step_shift n 0 (by omega)]
  simp

/-- what lies below, and what lies above -/
theorem split8 (n : BitVec 32) : n = ((n >>> 8) <<< 8) ^^^ BitVec.ofNat 32 (n.toNat % 256) := by
  apply BitVec.eq_of_getLsbD_eq
  intro i hi
  simp only [BitVec.getLsbD_xor, BitVec.getLsbD_shiftLeft, BitVec.getLsbD_ushiftRight, BitVec.getLsbD_ofNat, hi, decide_true, Bool.true_and]
  rw [show (256 : Nat) = 2 ^ 8 from rfl, Nat.testBit_mod_two_pow]
  by_cases h : i < 8
  · simp [h]; rfl
  · simp [h, show 8 + (i - 8) = i from by omega]

theorem ofNat_xor (a b : Nat) : BitVec.ofNat 32 (a ^^^ b) = BitVec.ofNat 32 a ^^^ BitVec.ofNat 32 b := by
  apply BitVec.eq_of_getLsbD_eq
  intro i hi
  simp [hi]

/-- THE TABLE'S WAY IS THE BITS' WAY -/
theorem upd_eq (n : BitVec 32) (b : UInt8) : upd n b = updR n b := by
  unfold upd updR tab
  conv => rhs; rw [split8 n]
  rw [BitVec.xor_assoc, steps_xor, steps_shift, ← ofNat_xor, BitVec.xor_comm]

/-- the sum's byte k, the lowest first -/
def bt (n : BitVec 32) (k : Nat) : UInt8 := UInt8.ofNat ((n >>> (8 * k)).toNat % 256)
def le (n : BitVec 32) (k : Nat) : List UInt8 := (List.range k).map (bt n)
def put (l : List UInt8) : List UInt8 := l ++ le (sumOf l) 4
def take (l : List UInt8) : List UInt8 × Bool := if l.length < 4 ∨ put (l.take (l.length - 4)) ≠ l then ([], false) else (l.take (l.length - 4), true)
theorem le_succ (n : BitVec 32) (k : Nat) : le n (k + 1) = le n k ++ [bt n k] := by unfold le; rw [List.range_succ, List.map_append]; rfl
theorem le_length (n : BitVec 32) (k : Nat) : (le n k).length = k := by simp [le]
theorem put_length (l : List UInt8) : (put l).length = l.length + 4 := by simp [put, le_length]

/-! ### a step can be turned back -/
theorem step_zero {x : BitVec 32} (h : step x = 0#32) : x = 0#32 := by
  cases hx : x.getLsbD 0
  · rw [step_even hx] at h
    apply BitVec.eq_of_getLsbD_eq
    intro i hi
    cases i with
    | zero => rw [hx]; simp
    | succ i =>
      have := congrArg (fun y : BitVec 32 => y.getLsbD i) h
      simp only [BitVec.getLsbD_ushiftRight] at this
      rw [show 1 + i = i + 1 from by omega] at this
      rw [this]; simp
  · rw [step_odd hx] at h
    have := congrArg (fun y : BitVec 32 => y.getLsbD 31) h
    simp only [BitVec.getLsbD_xor, BitVec.getLsbD_ushiftRight] at this
    rw [BitVec.getLsbD_of_ge x (1 + 31) (by omega)] at this
    exact absurd this (by decide)
theorem xor_zero_eq {x y : BitVec 32} (h : x ^^^ y = 0#32) : x = y := by
  have : x ^^^ y ^^^ y = 0#32 ^^^ y := by rw [h]
  simpa [BitVec.xor_assoc] using this
theorem step_inj {x y : BitVec 32} (h : step x = step y) : x = y := by
  refine xor_zero_eq (step_zero ?_)
  rw [step_xor, h]; simp
theorem steps_inj {k : Nat} {x y : BitVec 32} (h : steps k x = steps k y) : x = y := by
  induction k with
  | zero => exact h
  | succ k ih => exact ih (step_inj h)
theorem xor_right {x y z : BitVec 32} (h : x ^^^ z = y ^^^ z) : x = y := by
  have : x ^^^ z ^^^ z = y ^^^ z ^^^ z := by rw [h]
  simpa [BitVec.xor_assoc] using this
theorem xor_left {x y z : BitVec 32} (h : z ^^^ x = z ^^^ y) : x = y := by
  rw [BitVec.xor_comm z x, BitVec.xor_comm z y] at h
  exact xor_right h
theorem upd_inj {n m : BitVec 32} {b : UInt8} (h : upd n b = upd m b) : n = m := by
  rw [upd_eq, upd_eq] at h
  exact xor_right (steps_inj h)
theorem upd_byte {n : BitVec 32} {a b : UInt8} (h : upd n a = upd n b) : a = b := by
  rw [upd_eq, upd_eq] at h
  have := congrArg BitVec.toNat (xor_left (steps_inj h))
  simp only [BitVec.toNat_ofNat] at this
  have ha := a.toNat_lt
  have hb := b.toNat_lt
  apply UInt8.toNat_inj.1
  omega
theorem run_append (n : BitVec 32) (l r : List UInt8) : run n (l ++ r) = run (run n l) r := by unfold run; rw [List.foldl_append]
theorem run_inj {n m : BitVec 32} {l : List UInt8} (h : run n l = run m l) : n = m := by
  induction l generalizing n m with
  | nil => exact h
  | cons b l ih => exact upd_inj (ih h)
theorem not_inj {x y : BitVec 32} (h : ~~~ x = ~~~ y) : x = y := by rw [← BitVec.not_not (b := x), h, BitVec.not_not]
/-- one byte another one: another sum -/
theorem sum_byte {p q : List UInt8} {a b : UInt8} (h : sumOf (p ++ [a] ++ q) = sumOf (p ++ [b] ++ q)) : a = b := by
  unfold sumOf more at h
  have h1 := not_inj h
  rw [run_append, run_append _ (p ++ [b]) q] at h1
  have h2 := run_inj h1
  rw [run_append, run_append _ p [b]] at h2
  exact upd_byte h2

theorem pair_sum (l : List UInt8) (a b : UInt8) : sumOf (l ++ [a]) = sumOf (l ++ [b]) ↔ a = b := by
  constructor
  · intro h
    exact sum_byte (p := l) (q := []) (by simpa using h)
  · rintro rfl; rfl
theorem pair_put (l : List UInt8) (a b : UInt8) : put (l ++ [a]) = put (l ++ [b]) ↔ a = b := by
  constructor
  · intro h
    unfold put at h
    have h1 := (List.append_inj h (by simp)).1
    simpa using h1
  · rintro rfl; rfl

theorem bt_val (n : BitVec 32) (k : Nat) : (bt n k).toNat = n.toNat / 2 ^ (8 * k) % 256 := by
  unfold bt
  rw [UInt8.toNat_ofNat', BitVec.toNat_ushiftRight, Nat.shiftRight_eq_div_pow]
  omega
theorem le_inj {n m : BitVec 32} (h : le n 4 = le m 4) : n = m := by
  have hk : ∀ k, k < 4 → bt n k = bt m k := by
    intro k hk
    have := congrArg (fun l : List UInt8 => l[k]?) h
    simp only [le, List.getElem?_map, List.getElem?_range hk, Option.map_some, Option.some.injEq] at this
    exact this
  have e0 := congrArg UInt8.toNat (hk 0 (by omega))
  have e1 := congrArg UInt8.toNat (hk 1 (by omega))
  have e2 := congrArg UInt8.toNat (hk 2 (by omega))
  have e3 := congrArg UInt8.toNat (hk 3 (by omega))
  rw [bt_val, bt_val] at e0 e1 e2 e3
  simp only [Nat.mul_zero, Nat.pow_zero, Nat.div_one, Nat.reduceMul, Nat.reducePow] at e0 e1 e2 e3
  have hn := n.isLt
  have hm := m.isLt
  apply BitVec.eq_of_toNat_eq
  omega

theorem take_put (l : List UInt8) : take (put l) = (l, true) := by
  unfold take
  have e : (put l).take ((put l).length - 4) = l := by
    rw [put_length]
    unfold put
    simp
  rw [if_neg, e]
  rw [e]
  intro h
  rcases h with h | h
  · rw [put_length] at h; omega
  · exact h rfl
theorem take_cases (l : List UInt8) : (take l = ([], false) ∧ (4 ≤ l.length → put (l.take (l.length - 4)) ≠ l)) ∨ (take l = (l.take (l.length - 4), true) ∧ 4 ≤ l.length ∧ put (l.take (l.length - 4)) = l) := by
  unfold take
  by_cases h : l.length < 4 ∨ put (l.take (l.length - 4)) ≠ l
  · rw [if_pos h]
    exact .inl ⟨rfl, fun h4 => by rcases h with h | h; omega; exact h⟩
  · rw [if_neg h]
    exact .inr ⟨rfl, by omega, Classical.byContradiction fun h1 => h (.inr h1)⟩
/-- one byte of a text with its sum is another one -/
theorem take_bent (l : List UInt8) (k : Nat) (hk : k < l.length + 4) (c : UInt8) (hc : c ≠ (put l)[k]'(by rw [put_length]; exact hk)) :
    (take ((put l).take k ++ [c] ++ (put l).drop (k + 1))).2 = false := by
  have hpl := put_length l
  have hlen : ((put l).take k ++ [c] ++ (put l).drop (k + 1)).length = l.length + 4 := by simp [hpl]; omega
  rcases take_cases ((put l).take k ++ [c] ++ (put l).drop (k + 1)) with ⟨h, _⟩ | ⟨_, _, h⟩
  · rw [h]
  · exfalso
    rw [hlen, show l.length + 4 - 4 = l.length from by omega] at h
    by_cases hkl : k < l.length
    · have hsplit : l = l.take k ++ [l[k]] ++ l.drop (k + 1) := by simp
      have hput : (put l)[k]'(by rw [hpl]; exact hk) = l[k] := by unfold put; rw [List.getElem_append_left]
      have ht : ((put l).take k ++ [c] ++ (put l).drop (k + 1)).take l.length = l.take k ++ [c] ++ l.drop (k + 1) := by
        have e1 : (put l).take k = l.take k := by unfold put; rw [List.take_append_of_le_length (by omega)]
        have e2 : (put l).drop (k + 1) = l.drop (k + 1) ++ le (sumOf l) 4 := by unfold put; rw [List.drop_append_of_le_length (by omega)]
        rw [e1, e2, ← List.append_assoc]
        rw [List.take_append_of_le_length (by simp; omega), List.take_of_length_le (by simp; omega)]
      rw [ht] at h
      have e2 : (put l).drop (k + 1) = l.drop (k + 1) ++ le (sumOf l) 4 := by unfold put; rw [List.drop_append_of_le_length (by omega)]
      have e1 : (put l).take k = l.take k := by unfold put; rw [List.take_append_of_le_length (by omega)]
      rw [e1, e2, ← List.append_assoc] at h
      rw [put] at h
      have h2 := le_inj (List.append_inj_right h rfl)
      rw [hsplit] at h2
      have hs : ∀ m : List UInt8, m = l.take k ++ [l[k]] ++ l.drop (k + 1) → sumOf (l.take k ++ [c] ++ l.drop (k + 1)) = sumOf m → c = l[k] := by
        intro m hm hh
        rw [hm] at hh
        exact sum_byte hh
      exact hc (by rw [hput]; exact hs l hsplit (by rw [← hsplit] at h2; exact h2))
    · have ht : ((put l).take k ++ [c] ++ (put l).drop (k + 1)).take l.length = l := by
        rw [List.append_assoc, List.take_append_of_le_length (by simp [hpl]; omega), List.take_take, Nat.min_eq_left (by omega)]
        unfold put
        simp
      rw [ht] at h
      have hsplit : put l = (put l).take k ++ [(put l)[k]'(by rw [hpl]; exact hk)] ++ (put l).drop (k + 1) := by simp
      have h3 : (put l).take k ++ [(put l)[k]'(by rw [hpl]; exact hk)] ++ (put l).drop (k + 1) = (put l).take k ++ [c] ++ (put l).drop (k + 1) := hsplit.symm.trans h
      rw [List.append_cancel_right_eq, List.append_cancel_left_eq] at h3
      simp only [List.cons.injEq, and_true] at h3
      exact hc h3.symm

/-- the sum of bytes that are laid over one another -/
theorem run_mix (l : List (UInt8 × UInt8)) (n m z : BitVec 32) : run (n ^^^ m ^^^ z) (l.map fun p => p.1 ^^^ p.2) = run n (l.map (·.1)) ^^^ run m (l.map (·.2)) ^^^ run z (l.map fun _ => 0) := by
  induction l generalizing n m z with
  | nil => rfl
  | cons p l ih =>
    have e : upd (n ^^^ m ^^^ z) (p.1 ^^^ p.2) = upd n p.1 ^^^ upd m p.2 ^^^ upd z 0 := by
      rw [upd_eq, upd_eq, upd_eq, upd_eq]
      unfold updR
      rw [← steps_xor, ← steps_xor]
      congr 1
      rw [UInt8.toNat_xor, ofNat_xor]
      show _ = n ^^^ _ ^^^ (m ^^^ _) ^^^ (z ^^^ BitVec.ofNat 32 0)
      rw [BitVec.xor_zero]
      ac_rfl
    show run (upd (n ^^^ m ^^^ z) (p.1 ^^^ p.2)) _ = _
    rw [e, ih]; rfl
theorem sum_mix (l : List (UInt8 × UInt8)) : sumOf (l.map fun p => p.1 ^^^ p.2) = sumOf (l.map (·.1)) ^^^ sumOf (l.map (·.2)) ^^^ sumOf (l.map fun _ => 0) := by
  unfold sumOf more
  have h := run_mix l (~~~ 0#32) (~~~ 0#32) (~~~ 0#32)
  rw [show (~~~ 0#32 ^^^ ~~~ 0#32 ^^^ ~~~ 0#32 : BitVec 32) = ~~~ 0#32 from by decide] at h
  rw [h]
  generalize run (~~~ 0#32) (l.map (·.1)) = a
  generalize run (~~~ 0#32) (l.map (·.2)) = b
  generalize run (~~~ 0#32) (l.map fun _ => 0) = c
  rw [← BitVec.allOnes_xor, ← BitVec.allOnes_xor, ← BitVec.allOnes_xor, ← BitVec.allOnes_xor]
  rw [show BitVec.allOnes 32 ^^^ a ^^^ (BitVec.allOnes 32 ^^^ b) ^^^ (BitVec.allOnes 32 ^^^ c) = (BitVec.allOnes 32 ^^^ BitVec.allOnes 32) ^^^ BitVec.allOnes 32 ^^^ (a ^^^ b ^^^ c) from by ac_rfl, BitVec.xor_self, BitVec.zero_xor]

end Go.Proofs.Ytfockiaommiohaa.Crc
