/-
  Contracts and laws of the layers below, put together: Pure Table More Put. Conditions: where they are named.
-/
import Derived.WalkKit
import Derived.Test.YtmmegicaeaifaaaRows
import Derived.Test.YtmmegicaeaifaaaFa
import Derived.WalkSpells
import Derived.WalkLawsBesides
import Derived.Handy

namespace Go.Proofs.Ytmmegicaeaifaaa.Crc

def poly : BitVec 32 := 0xedb88320#32
def step (x : BitVec 32) : BitVec 32 := if x.getLsbD 0 then (x >>> 1) ^^^ poly else x >>> 1
def steps : Nat → BitVec 32 → BitVec 32
  | 0, x => x
  | k + 1, x => step (steps k x)
def tab (i : Nat) : BitVec 32 := steps 8 (BitVec.ofNat 32 i)
def upd (n : BitVec 32) (b : UInt8) : BitVec 32 := tab ((n.toNat % 256) ^^^ b.toNat) ^^^ (n >>> 8)
def updR (n : BitVec 32) (b : UInt8) : BitVec 32 := steps 8 (n ^^^ BitVec.ofNat 32 b.toNat)
def run (n : BitVec 32) (l : List UInt8) : BitVec 32 := l.foldl upd n
def more (sum : BitVec 32) (l : List UInt8) : BitVec 32 := ~~~ (run (~~~ sum) l)
def sumOf (l : List UInt8) : BitVec 32 := more 0#32 l

theorem step_odd {x : BitVec 32} (h : x.getLsbD 0 = true) : step x = (x >>> 1) ^^^ poly := by unfold step; rw [if_pos h]
theorem step_even {x : BitVec 32} (h : x.getLsbD 0 = false) : step x = x >>> 1 := by unfold step; rw [if_neg (by rw [h]; decide)]

theorem step_xor (x y : BitVec 32) : step (x ^^^ y) = step x ^^^ step y := by
  have hxy : (x ^^^ y).getLsbD 0 = (x.getLsbD 0 ^^ y.getLsbD 0) := BitVec.getLsbD_xor
  cases hx : x.getLsbD 0 <;> cases hy : y.getLsbD 0 <;> rw [hx, hy] at hxy
  · rw [step_even hx, step_even hy, step_even hxy, BitVec.ushiftRight_xor_distrib]
  · rw [step_even hx, step_odd hy, step_odd hxy, BitVec.ushiftRight_xor_distrib, BitVec.xor_assoc]
  · rw [step_odd hx, step_even hy, step_odd hxy, BitVec.ushiftRight_xor_distrib]; ac_rfl
  · rw [step_odd hx, step_odd hy, step_even hxy, BitVec.ushiftRight_xor_distrib]
    rw [show x >>> 1 ^^^ poly ^^^ (y >>> 1 ^^^ poly) = x >>> 1 ^^^ y >>> 1 ^^^ (poly ^^^ poly) from by ac_rfl]; simp

theorem steps_xor (k : Nat) (x y : BitVec 32) : steps k (x ^^^ y) = steps k x ^^^ steps k y := by
  induction k with
  | zero => rfl
  | succ k ih => simp only [steps, ih, step_xor]

theorem step_shift (n : BitVec 32) (j : Nat) (hj : j < 8) : step ((n >>> 8) <<< (j + 1)) = (n >>> 8) <<< j := by
  rw [step_even (by simp)]
  apply BitVec.eq_of_getLsbD_eq
  intro i hi
  simp only [BitVec.getLsbD_ushiftRight, BitVec.getLsbD_shiftLeft]
  by_cases h1 : i < j
  · have e : 1 + i < j + 1 := by omega
    simp [e, h1]
  · by_cases h2 : i < 31
    · have e1 : 1 + i < 32 := by omega
      have e2 : ¬ 1 + i < j + 1 := by omega
      simp [e1, e2, h1, hi, show 8 + (1 + i - (j + 1)) = 8 + (i - j) from by omega]
    · have e1 : ¬ 1 + i < 32 := by omega
      simp [e1, h1, hi]
      exact BitVec.getLsbD_of_ge _ _ (by omega)

theorem steps_shift (n : BitVec 32) : steps 8 ((n >>> 8) <<< 8) = n >>> 8 := by
  simp only [steps]
  rw [step_shift n 7 (by omega), step_shift n 6 (by omega), step_shift n 5 (by omega), step_shift n 4 (by omega), step_shift n 3 (by omega), step_shift n 2 (by omega), step_shift n 1 (by omega), step_shift n 0 (by omega)]
  simp

/-- what lies below, and what lies above -/
theorem split8 (n : BitVec 32) : n = ((n >>> 8) <<< 8) ^^^ BitVec.ofNat 32 (n.toNat % 256) := by
  apply BitVec.eq_of_getLsbD_eq
  intro i hi
  simp only [BitVec.getLsbD_xor, BitVec.getLsbD_shiftLeft, BitVec.getLsbD_ushiftRight, BitVec.getLsbD_ofNat, hi, decide_true, Bool.true_and]
  rw [show (256 : Nat) = 2 ^ 8 from rfl, Nat.testBit_mod_two_pow]
  by_cases h : i < 8
  · simp [h]; rfl
  · simp [h, show 8 + (i - 8) = i from by omega]

theorem ofNat_xor (a b : Nat) : BitVec.ofNat 32 (a ^^^ b) = BitVec.ofNat 32 a ^^^ BitVec.ofNat 32 b := by
  apply BitVec.eq_of_getLsbD_eq
  intro i hi
  simp [hi]

/-- THE TABLE'S WAY IS THE BITS' WAY -/
theorem upd_eq (n : BitVec 32) (b : UInt8) : upd n b = updR n b := by
  unfold upd updR tab
  conv => rhs; rw [split8 n]
  rw [BitVec.xor_assoc, steps_xor, steps_shift, ← ofNat_xor, BitVec.xor_comm]

/-- the sum's byte k, the lowest first -/
def bt (n : BitVec 32) (k : Nat) : UInt8 := UInt8.ofNat ((n >>> (8 * k)).toNat % 256)
def le (n : BitVec 32) (k : Nat) : List UInt8 := (List.range k).map (bt n)
def put (l : List UInt8) : List UInt8 := l ++ le (sumOf l) 4
def take (l : List UInt8) : List UInt8 × Bool := if l.length < 4 ∨ put (l.take (l.length - 4)) ≠ l then ([], false) else (l.take (l.length - 4), true)
theorem le_succ (n : BitVec 32) (k : Nat) : le n (k + 1) = le n k ++ [bt n k] := by unfold le; rw [List.range_succ, List.map_append]; rfl
theorem le_length (n : BitVec 32) (k : Nat) : (le n k).length = k := by simp [le]
theorem put_length (l : List UInt8) : (put l).length = l.length + 4 := by simp [put, le_length]

/-! ### a step can be turned back -/
theorem step_zero {x : BitVec 32} (h : step x = 0#32) : x = 0#32 := by
  cases hx : x.getLsbD 0
  · rw [step_even hx] at h
    apply BitVec.eq_of_getLsbD_eq
    intro i hi
    cases i with
    | zero => rw [hx]; simp
    | succ i =>
      have := congrArg (fun y : BitVec 32 => y.getLsbD i) h
      simp only [BitVec.getLsbD_ushiftRight] at this
      rw [show 1 + i = i + 1 from by omega] at this
      rw [this]; simp
  · rw [step_odd hx] at h
    have := congrArg (fun y : BitVec 32 => y.getLsbD 31) h
    simp only [BitVec.getLsbD_xor, BitVec.getLsbD_ushiftRight] at this
    rw [BitVec.getLsbD_of_ge x (1 + 31) (by omega)] at this
    exact absurd this (by decide)
theorem xor_zero_eq {x y : BitVec 32} (h : x ^^^ y = 0#32) : x = y := by
  have : x ^^^ y ^^^ y = 0#32 ^^^ y := by rw [h]
  simpa [BitVec.xor_assoc] using this
theorem step_inj {x y : BitVec 32} (h : step x = step y) : x = y := by
  refine xor_zero_eq (step_zero ?_)
  rw [step_xor, h]; simp
theorem steps_inj {k : Nat} {x y : BitVec 32} (h : steps k x = steps k y) : x = y := by
  induction k with
  | zero => exact h
  | succ k ih => exact ih (step_inj h)
theorem xor_right {x y z : BitVec 32} (h : x ^^^ z = y ^^^ z) : x = y := by
  have : x ^^^ z ^^^ z = y ^^^ z ^^^ z := by rw [h]
  simpa [BitVec.xor_assoc] using this
theorem xor_left {x y z : BitVec 32} (h : z ^^^ x = z ^^^ y) : x = y := by
  rw [BitVec.xor_comm z x, BitVec.xor_comm z y] at h
  exact xor_right h
theorem upd_inj {n m : BitVec 32} {b : UInt8} (h : upd n b = upd m b) : n = m := by
  rw [upd_eq, upd_eq] at h
  exact xor_right (steps_inj h)
theorem upd_byte {n : BitVec 32} {a b : UInt8} (h : upd n a = upd n b) : a = b := by
  rw [upd_eq, upd_eq] at h
  have := congrArg BitVec.toNat (xor_left (steps_inj h))
  simp only [BitVec.toNat_ofNat] at this
  have ha := a.toNat_lt
  have hb := b.toNat_lt
  apply UInt8.toNat_inj.1
  omega
theorem run_append (n : BitVec 32) (l r : List UInt8) : run n (l ++ r) = run (run n l) r := by unfold run; rw [List.foldl_append]
theorem run_inj {n m : BitVec 32} {l : List UInt8} (h : run n l = run m l) : n = m := by
  induction l generalizing n m with
  | nil => exact h
  | cons b l ih => exact upd_inj (ih h)
theorem not_inj {x y : BitVec 32} (h : ~~~ x = ~~~ y) : x = y := by rw [← BitVec.not_not (b := x), h, BitVec.not_not]
/-- one byte another one: another sum -/
theorem sum_byte {p q : List UInt8} {a b : UInt8} (h : sumOf (p ++ [a] ++ q) = sumOf (p ++ [b] ++ q)) : a = b := by
  unfold sumOf more at h
  have h1 := not_inj h
  rw [run_append, run_append _ (p ++ [b]) q] at h1
  have h2 := run_inj h1
  rw [run_append, run_append _ p [b]] at h2
  exact upd_byte h2

theorem pair_put (l : List UInt8) (a b : UInt8) : put (l ++ [a]) = put (l ++ [b]) ↔ a = b := by
  constructor
  · intro h
    unfold put at h
    have h1 := (List.append_inj h (by simp)).1
    simpa using h1
  · rintro rfl; rfl

theorem bt_val (n : BitVec 32) (k : Nat) : (bt n k).toNat = n.toNat / 2 ^ (8 * k) % 256 := by
  unfold bt
  rw [UInt8.toNat_ofNat', BitVec.toNat_ushiftRight, Nat.shiftRight_eq_div_pow]
  omega
theorem le_inj {n m : BitVec 32} (h : le n 4 = le m 4) : n = m := by
  have hk : ∀ k, k < 4 → bt n k = bt m k := by
    intro k hk
    have := congrArg (fun l : List UInt8 => l[k]?) h
    simp only [le, List.getElem?_map, List.getElem?_range hk, Option.map_some, Option.some.injEq] at this
    exact this
  have e0 := congrArg UInt8.toNat (hk 0 (by omega))
  have e1 := congrArg UInt8.toNat (hk 1 (by omega))
  have e2 := congrArg UInt8.toNat (hk 2 (by omega))
  have e3 := congrArg UInt8.toNat (hk 3 (by omega))
  rw [bt_val, bt_val] at e0 e1 e2 e3
  simp only [Nat.mul_zero, Nat.pow_zero, Nat.div_one, Nat.reduceMul, Nat.reducePow] at e0 e1 e2 e3
  have hn := n.isLt
  have hm := m.isLt
  apply BitVec.eq_of_toNat_eq
  omega

theorem take_put (l : List UInt8) : take (put l) = (l, true) := by
  unfold take
  have e : (put l).take ((put l).length - 4) = l := by
    rw [put_length]
    unfold put
    simp
  rw [if_neg, e]
  rw [e]
  intro h
  rcases h with h | h
  · rw [put_length] at h; omega
  · exact h rfl
theorem take_cases (l : List UInt8) : (take l = ([], false) ∧ (4 ≤ l.length → put (l.take (l.length - 4)) ≠ l)) ∨ (take l = (l.take (l.length - 4), true) ∧ 4 ≤ l.length ∧ put (l.take (l.length - 4)) = l) := by
  unfold take
  by_cases h : l.length < 4 ∨ put (l.take (l.length - 4)) ≠ l
  · rw [if_pos h]
    exact .inl ⟨rfl, fun h4 => by rcases h with h | h; omega; exact h⟩
  · rw [if_neg h]
    exact .inr ⟨rfl, by omega, Classical.byContradiction fun h1 => h (.inr h1)⟩
/-- one byte of a text with its sum is another one -/
theorem take_bent (l : List UInt8) (k : Nat) (hk : k < l.length + 4) (c : UInt8) (hc : c ≠ (put l)[k]'(by rw [put_length]; exact hk)) :
    (take ((put l).take k ++ [c] ++ (put l).drop (k + 1))).2 = false := by
  have hpl := put_length l
  have hlen : ((put l).take k ++ [c] ++ (put l).drop (k + 1)).length = l.length + 4 := by simp [hpl]; omega
  rcases take_cases ((put l).take k ++ [c] ++ (put l).drop (k + 1)) with ⟨h, _⟩ | ⟨_, _, h⟩
  · rw [h]
  · exfalso
    rw [hlen, show l.length + 4 - 4 = l.length from by omega] at h
    by_cases hkl : k < l.length
    · have hsplit : l = l.take k ++ [l[k]] ++ l.drop (k + 1) := by simp
      have hput : (put l)[k]'(by rw [hpl]; exact hk) = l[k] := by unfold put; rw [List.getElem_append_left]
      have ht : ((put l).take k ++ [c] ++ (put l).drop (k + 1)).take l.length = l.take k ++ [c] ++ l.drop (k + 1) := by
        have e1 : (put l).take k = l.take k := by unfold put; rw [List.take_append_of_le_length (by omega)]
        have e2 : (put l).drop (k + 1) = l.drop (k + 1) ++ le (sumOf l) 4 := by unfold put; rw [List.drop_append_of_le_length (by omega)]
        rw [e1, e2, ← List.append_assoc]
        rw [List.take_append_of_le_length (by simp; omega), List.take_of_length_le (by simp; omega)]
      rw [ht] at h
      have e2 : (put l).drop (k + 1) = l.drop (k + 1) ++ le (sumOf l) 4 := by unfold put; rw [List.drop_append_of_le_length (by omega)]
      have e1 : (put l).take k = l.take k := by unfold put; rw [List.take_append_of_le_length (by omega)]
      rw [e1, e2, ← List.append_assoc] at h
      rw [put] at h
      have h2 := le_inj (List.append_inj_right h rfl)
      rw [hsplit] at h2
      have hs : ∀ m : List UInt8, m = l.take k ++ [l[k]] ++ l.drop (k + 1) → sumOf (l.take k ++ [c] ++ l.drop (k + 1)) = sumOf m → c = l[k] := by
        intro m hm hh
        rw [hm] at hh
        exact sum_byte hh
      exact hc (by rw [hput]; exact hs l hsplit (by rw [← hsplit] at h2; exact h2))
    · have ht : ((put l).take k ++ [c] ++ (put l).drop (k + 1)).take l.length = l := by
        rw [List.append_assoc, List.take_append_of_le_length (by simp [hpl]; omega), List.take_take, Nat.min_eq_left (by omega)]
        unfold put
        simp
      rw [ht] at h
      have hsplit : put l = (put l).take k ++ [(put l)[k]'(by rw [hpl]; exact hk)] ++ (put l).drop (k + 1) := by simp
      have h3 : (put l).take k ++ [(put l)[k]'(by rw [hpl]; exact hk)] ++ (put l).drop (k + 1) = (put l).take k ++ [c] ++ (put l).drop (k + 1) := hsplit.symm.trans h
      rw [List.append_cancel_right_eq, List.append_cancel_left_eq] at h3
      simp only [List.cons.injEq, and_true] at h3
      exact hc h3.symm

end Go.Proofs.Ytmmegicaeaifaaa.Crc

namespace Go.Proofs.Ytmmegicaeaifaaa
open Go.RowKit

def Z256 : Array Value := Array.replicate 256 (.int .u32 0)
/-- the table after k rounds -/
def T256 (k : Nat) : Array Value := (Array.range 256).map fun i => .int .u32 (if i < k then ((Crc.tab i).toNat : Int) else 0)
theorem T256_zero : T256 0 = Z256 := by
  unfold T256 Z256
  apply Array.ext
  · simp
  · intro i _ _; simp
theorem T256_size (k : Nat) : (T256 k).size = 256 := by simp [T256]
theorem T256_get (k i : Nat) (h : i < 256) : (T256 k)[i]? = some (.int .u32 (if i < k then ((Crc.tab i).toNat : Int) else 0)) := by
  unfold T256
  rw [Array.getElem?_map, Array.getElem?_range, if_pos h]; rfl
theorem T256_set (k : Nat) : (T256 k).setIfInBounds k (.int .u32 ((Crc.tab k).toNat : Int)) = T256 (k + 1) := by
  apply Array.ext
  · simp [T256]
  · intro i h1 h2
    have hi : i < 256 := by simpa [T256] using h2
    have e1 := T256_get (k + 1) i hi
    rw [Array.getElem?_eq_getElem h2] at e1
    have e2 := T256_get k i hi
    rw [Array.getElem?_eq_getElem (by simpa [T256] using hi)] at e2
    simp only [Option.some.injEq] at e1 e2
    rw [e1, Array.getElem_setIfInBounds (by simpa [T256] using hi)]
    by_cases h : k = i
    · subst h; simp
    · rw [if_neg h, e2]
      by_cases h3 : i < k
      · rw [if_pos h3, if_pos (by omega)]
      · rw [if_neg h3, if_neg (by omega)]

theorem Try.zero37 (w : World) : (zeroValue 115).run Try.prog w = .ok (.agg Z256) w := by kernel_rfl

theorem and_one (x : BitVec 32) (b : Bool) (h : x.getLsbD 0 = b) : bits .and .u32 (x.toNat : Int) 1 = (b.toNat : Int) := by
  have h1 := u32_and_nat x.toNat 1 x.isLt (by decide)
  rw [nat_mask1] at h1
  rw [show (1 : Int) = ((1 : Nat) : Int) from rfl, h1]
  have h2 : x.getLsbD 0 = decide (x.toNat % 2 = 1) := by
    unfold BitVec.getLsbD
    rw [Nat.testBit_zero]
  rw [h2] at h
  subst h
  by_cases e : x.toNat % 2 = 1
  · simp [e]
  · simp [e]; omega
theorem shr_one (x : BitVec 32) : ((x >>> 1).toNat : Int) = (x.toNat : Int) / 2 := by
  simp [BitVec.toNat_ushiftRight, Nat.shiftRight_eq_div_pow]
theorem odd_step (x : BitVec 32) (h : x.getLsbD 0 = true) : bits .xor .u32 ((x.toNat : Int) / 2) 3988292384 = ((Crc.step x).toNat : Int) := by
  rw [Crc.step_odd h, BitVec.toNat_xor, ← shr_one, show (3988292384 : Int) = ((Crc.poly.toNat : Nat) : Int) from rfl]
  exact u32_xor_nat _ _ (x >>> 1).isLt (by decide)
theorem even_step (x : BitVec 32) (h : x.getLsbD 0 = false) : (x.toNat : Int) / 2 = ((Crc.step x).toNat : Int) := by
  rw [Crc.step_even h, shr_one]

theorem odd_of (x : BitVec 32) (h : 0 < bits .and .u32 (x.toNat : Int) 1) : bits .xor .u32 ((x.toNat : Int) / 2) 3988292384 = ((Crc.step x).toNat : Int) := by
  cases hb : x.getLsbD 0
  · rw [and_one x _ hb] at h; simp at h
  · exact odd_step x hb
theorem even_of (x : BitVec 32) (h : bits .and .u32 (x.toNat : Int) 1 ≤ 0) : (x.toNat : Int) / 2 = ((Crc.step x).toNat : Int) := by
  cases hb : x.getLsbD 0
  · exact even_step x hb
  · rw [and_one x _ hb] at h; simp at h

theorem Try.size37 : (Try.prog.info? 115).map (·.size) = some (T256 256).size := by rw [T256_size]; kernel_rfl
theorem T256_one : ((T256 256).all fun x => x.oneCell') = true := by
  rw [Array.all_eq_true]
  intro i h
  have h' : i < 256 := by rw [T256_size] at h; exact h
  have e := T256_get 256 i h'
  rw [Array.getElem?_eq_getElem h] at e
  simp only [Option.some.injEq] at e
  rw [e]; rfl
set_option maxRecDepth 100000 in
set_option maxHeartbeats 400000 in
theorem table_any (w : World) :
    Calls Try.prog 101 #[] w fun e w' => e = .returned (.agg (T256 256)) ∧ Below w.heap.size w w' := by
  have hz := Try.zero37
  go_enter Try.func101, Try.ntmps101
  go_wp2
  rw [← T256_zero]
  go_loopw [5] (fun i wr => ∃ k : Nat, k ≤ 256 ∧ i = .int .i64 k ∧ wr = (w.alloc (.cells (T256 0) 115)).alloc (.cells (T256 k) 115)) (fun i _ => 256 - (intOf i).toNat)
  case atStart => exact ⟨0, by omega, rfl, rfl⟩
  case round =>
    obtain ⟨k, hk, rfl, rfl⟩ := hrel
    by_cases hlt : k < 256
    · have hT := T256_get k k hlt
      have hTs := T256_size k
      have HT := hid (T256_set k)
      go_wp2
      go_loop [10, 3] (fun i n => ∃ j : Nat, j ≤ 8 ∧ i = .int .i64 j ∧ n = .int .u32 ((Crc.steps j (BitVec.ofNat 32 k)).toNat : Int)) (fun i _ => 8 - (intOf i).toNat)
      case atStart => exact ⟨0, by omega, rfl, by simp [Crc.steps]; omega⟩
      case round =>
        obtain ⟨j, hj, rfl, rfl⟩ := hrel
        by_cases hlj : j < 8
        · have hxb := (Crc.steps j (BitVec.ofNat 32 k)).isLt
          go_wp2
          · have h0 : 0 < bits .and .u32 ((Crc.steps j (BitVec.ofNat 32 k)).toNat : Int) 1 := by assumption
            go_round
            case rel => exact ⟨j + 1, by omega, by go_num, int_eq (odd_of _ h0)⟩
            case measure => simp [intOf]; omega
          · have h0 : bits .and .u32 ((Crc.steps j (BitVec.ofNat 32 k)).toNat : Int) 1 ≤ 0 := by assumption
            go_round
            case rel => exact ⟨j + 1, by omega, by go_num, int_eq (even_of _ h0)⟩
            case measure => simp [intOf]; omega
        · have hj8 : j = 8 := by omega
          subst hj8
          go_wp2
          go_roundw
          case rel => exact ⟨k + 1, by omega, by go_num, by rw [← HT.out]; rfl⟩
          case measure => simp [intOf]; omega
    · have hk8 : k = 256 := by omega
      subst hk8
      have hsz := hid Try.size37
      have hone := hid T256_one
      go_wp2_with (first
        | (refine wpList_load_row rfl 115 _ rfl (w.heap.size + 1) rfl 115 (T256 256) (0, 0) _ (heap_alloc2_new _ _ _) Try.underlying115 rfl hsz.out ?_)
        | (refine wpList_store_row rfl 115 _ _ rfl w.heap.size (T256 256) rfl rfl 115 (T256 0) (heap_alloc2_old _ _ _) hsz.out (by rw [T256_size, T256_size]) hone.out ?_))
      refine bodyPost_ret (results_cell_row rfl _ _ w.heap.size 115 (T256 256) (0, 0) _ rfl ?_ Try.underlying115 rfl hsz.out) rfl ⟨rfl, ?_⟩
      · exact setRow_heap _ _ _ _ _ _ (heap_alloc2_old _ _ _)
      · exact ((Below.refl _ _).alloc (Nat.le_refl _) _).alloc (by simp) _ |>.trans (below_row (Nat.le_refl _) _)
end Go.Proofs.Ytmmegicaeaifaaa

namespace Go.Proofs.Ytmmegicaeaifaaa
open Go.RowKit

theorem not_u32 (n : BitVec 32) : bits .xor .u32 IntKind.u32.max (n.toNat : Int) = ((~~~ n).toNat : Int) := by
  have h := u32_xor_nat (BitVec.allOnes 32).toNat n.toNat (BitVec.allOnes 32).isLt n.isLt
  rw [← BitVec.allOnes_xor, BitVec.toNat_xor, ← h]; rfl
theorem idx_eq (a b : Nat) (hb : b < 256) : bits .xor .u8 ((a : Int) % 256) (b : Int) = (((a % 256) ^^^ b : Nat) : Int) := by
  rw [← u8_xor_nat (a % 256) b (by omega) hb]
  congr 1
theorem xor_lt (a b : Nat) (ha : a < 256) (hb : b < 256) : a ^^^ b < 256 := Nat.xor_lt_two_pow (n := 8) ha hb
theorem run_snoc (n : BitVec 32) (s : ByteArray) (k : Nat) (h : k < s.size) : Crc.run n (s.data.toList.take (k + 1)) = Crc.upd (Crc.run n (s.data.toList.take k)) s[k] := by
  rw [List.take_succ_eq_append_getElem (by simpa using h)]
  unfold Crc.run
  rw [List.foldl_append]; rfl
theorem upd_val (x : BitVec 32) (b : UInt8) (ix : Nat) (h : (x.toNat % 256) ^^^ b.toNat = ix) : bits .xor .u32 ((Crc.tab ix).toNat : Int) ((x.toNat : Int) / 256) = ((Crc.upd x b).toNat : Int) := by
  subst h
  unfold Crc.upd
  rw [BitVec.toNat_xor, ← u32_xor_nat _ _ (BitVec.isLt _) (BitVec.isLt _)]
  congr 1
  rw [BitVec.toNat_ushiftRight, Nat.shiftRight_eq_div_pow]; rfl
theorem sub_u32 (n : BitVec 32) : 4294967295 - (n.toNat : Int) = ((~~~ n).toNat : Int) := by
  have := n.isLt
  rw [BitVec.toNat_not]
  omega
theorem xor_byte (x : BitVec 32) (b : UInt8) : bits .xor .u32 (x.toNat : Int) ((b.toNat : Int) % 4294967296) = ((x ^^^ BitVec.ofNat 32 b.toNat).toNat : Int) := by
  have hb := b.toNat_lt
  rw [BitVec.toNat_xor, ← u32_xor_nat _ _ (BitVec.isLt _) (BitVec.isLt _)]
  congr 1
theorem low_bit (x : BitVec 32) : x.getLsbD 0 = decide (x.toNat % 2 = 1) := by
  unfold BitVec.getLsbD
  rw [Nat.testBit_zero]
theorem odd_mod (x : BitVec 32) (h : (x.toNat : Int) % 2 = 1) : bits .xor .u32 ((x.toNat : Int) / 2) 3988292384 = ((Crc.step x).toNat : Int) :=
  odd_step x (by rw [low_bit]; exact decide_eq_true (by omega))
theorem even_mod (x : BitVec 32) (h : ¬ (x.toNat : Int) % 2 = 1) : (x.toNat : Int) / 2 = ((Crc.step x).toNat : Int) :=
  even_step x (by rw [low_bit]; exact decide_eq_false (by omega))
set_option maxRecDepth 100000 in
set_option maxHeartbeats 400000 in
theorem more_any (n : BitVec 32) (s : ByteArray) (w : World) (hs : s.size ≤ 9223372036854775807) :
    Calls Try.prog 83 #[.int .u32 (n.toNat : Int), .string s] w fun e w' => e = .returned (.int .u32 ((Crc.more n s.data.toList).toNat : Int)) ∧ Below w.heap.size w w' := by
  have hz := Try.zero37
  have hsz := hid Try.size37
  have hone := hid T256_one
  go_enter Try.func83, Try.ntmps83
  go_wp2_with (first
    | (go_at_call 101; refine (table_any _).mono ?_; rintro e w1 ⟨rfl, hb1⟩)
    | (refine wpList_store_row rfl 115 _ _ rfl _ (T256 256) rfl rfl 115 Z256 (heap_alloc_new _ _) hsz.out (by rw [T256_size]; rfl) hone.out ?_))
  have hcell : ∀ i, i < 256 → ((w1.alloc (Obj.cells Z256 115)).setRow w1.heap.size (T256 256)).cell? ⟨w1.heap.size, i, none⟩ = some (.int .u32 ((Crc.tab i).toNat : Int)) := fun i hi => by
    rw [cell_of_row _ _ _ _ _ _ (setRow_heap _ _ _ _ _ _ (heap_alloc_new _ _)), T256_get 256 i hi, if_pos hi]
  have hbel : Below w.heap.size w ((w1.alloc (Obj.cells Z256 115)).setRow w1.heap.size (T256 256)) := (hb1.alloc hb1.size _).trans (below_row hb1.size _)
  generalize (w1.alloc (Obj.cells Z256 115)).setRow w1.heap.size (T256 256) = W2 at hcell hbel ⊢
  clear hb1
  have HC := hid hcell
  clear hcell
  go_loop [13, 6] (fun i x => ∃ k : Nat, k ≤ s.size ∧ i = .int .i64 k ∧ x = .int .u32 ((Crc.run (~~~ n) (s.data.toList.take k)).toNat : Int)) (fun i _ => s.size - (intOf i).toNat)
  case atStart => exact ⟨0, by omega, rfl, int_eq (not_u32 n)⟩
  case round =>
    obtain ⟨k, hk, rfl, rfl⟩ := hrel
    by_cases hlt : k < s.size
    · have hxb := (Crc.run (~~~ n) (s.data.toList.take k)).isLt
      have HS := hid (run_snoc (~~~ n) s k hlt)
      generalize Crc.run (~~~ n) (s.data.toList.take k) = x at hxb HS
      have hidx := idx_eq x.toNat s[k].toNat s[k].toNat_lt
      have hlix := xor_lt (x.toNat % 256) s[k].toNat (by omega) s[k].toNat_lt
      have hci := HC.out _ hlix
      generalize hg : (x.toNat % 256) ^^^ s[k].toNat = ix at hidx hlix hci
      have HG := hid hg
      clear hg
      go_wp2
      go_round
      case rel => exact ⟨k + 1, by omega, by go_num, int_eq (by rw [HS.out]; exact upd_val x s[k] ix HG.out)⟩
      case measure => simp [intOf]; omega
    · have hk8 : k = s.size := by omega
      subst hk8
      go_wp2
      go_ret
      exact ⟨ret_eq (by rw [not_u32, List.take_of_length_le (by simp)]; rfl), hbel⟩

theorem of_any (s : ByteArray) (w : World) (hs : s.size ≤ 9223372036854775807) :
    Calls Try.prog 65 #[.string s] w fun e w' => e = .returned (.int .u32 ((Crc.sumOf s.data.toList).toNat : Int)) ∧ Below w.heap.size w w' := by
  go_enter Try.func65, Try.ntmps65
  go_wp2_with (go_at_call 83; refine (more_any 0#32 _ _ hs).mono ?_; rintro e w1 ⟨rfl, hb1⟩)
  go_ret
  exact ⟨rfl, hb1⟩

set_option maxRecDepth 100000 in
set_option maxHeartbeats 400000 in
theorem moreR_any (n : BitVec 32) (s : ByteArray) (w : World) (hs : s.size ≤ 9223372036854775807) :
    Calls Try.prog 84 #[.int .u32 (n.toNat : Int), .string s] w fun e w' => e = .returned (.int .u32 ((Crc.more n s.data.toList).toNat : Int)) ∧ w = w' := by
  have hnb := n.isLt
  go_enter Try.func84, Try.ntmps84
  go_wp2
  go_loop [6, 5] (fun i x => ∃ k : Nat, k ≤ s.size ∧ i = .int .i64 k ∧ x = .int .u32 ((Crc.run (~~~ n) (s.data.toList.take k)).toNat : Int)) (fun i _ => s.size - (intOf i).toNat)
  case atStart => exact ⟨0, by omega, rfl, int_eq (sub_u32 n)⟩
  case round =>
    obtain ⟨k, hk, rfl, rfl⟩ := hrel
    by_cases hlt : k < s.size
    · have hxb := (Crc.run (~~~ n) (s.data.toList.take k)).isLt
      have HS := hid (run_snoc (~~~ n) s k hlt)
      generalize Crc.run (~~~ n) (s.data.toList.take k) = x at hxb HS
      go_wp2
      go_loop [7, 5] (fun i y => ∃ j : Nat, j ≤ 8 ∧ i = .int .i64 j ∧ y = .int .u32 ((Crc.steps j (x ^^^ BitVec.ofNat 32 s[k].toNat)).toNat : Int)) (fun i _ => 8 - (intOf i).toNat)
      case atStart => exact ⟨0, by omega, rfl, int_eq (xor_byte x s[k])⟩
      case round =>
        obtain ⟨j, hj, rfl, rfl⟩ := hrel
        by_cases hlj : j < 8
        · have hyb := (Crc.steps j (x ^^^ BitVec.ofNat 32 s[k].toNat)).isLt
          have HT := hid (show Crc.steps (j + 1) (x ^^^ BitVec.ofNat 32 s[k].toNat) = Crc.step (Crc.steps j (x ^^^ BitVec.ofNat 32 s[k].toNat)) from rfl)
          generalize Crc.steps j (x ^^^ BitVec.ofNat 32 s[k].toNat) = y at hyb HT
          by_cases hodd : (y.toNat : Int) % 2 = 1
          · have hob : (((y.toNat : Int) % 2) == 1) = true := beq_iff_eq.2 hodd
            go_wp2
            go_round
            case rel => exact ⟨j + 1, by omega, by go_num, int_eq (by rw [HT.out]; exact odd_mod y hodd)⟩
            case measure => simp [intOf]; omega
          · have hob : (((y.toNat : Int) % 2) == 1) = false := beq_eq_false_iff_ne.2 hodd
            go_wp2
            go_round
            case rel => exact ⟨j + 1, by omega, by go_num, int_eq (by rw [HT.out]; exact even_mod y hodd)⟩
            case measure => simp [intOf]; omega
        · have hj8 : j = 8 := by omega
          subst hj8
          go_wp2
          go_round
          case rel => exact ⟨k + 1, by omega, by go_num, int_eq (by rw [HS.out, Crc.upd_eq]; rfl)⟩
          case measure => simp [intOf]; omega
    · have hk8 : k = s.size := by omega
      subst hk8
      go_wp2
      go_ret
      exact ⟨ret_eq (by rw [sub_u32, List.take_of_length_le (by simp)]; rfl), rfl⟩

theorem ofR_any (s : ByteArray) (w : World) (hs : s.size ≤ 9223372036854775807) :
    Calls Try.prog 67 #[.string s] w fun e w' => e = .returned (.int .u32 ((Crc.sumOf s.data.toList).toNat : Int)) ∧ w = w' := by
  go_enter Try.func67, Try.ntmps67
  go_wp2_with (go_at_call 84; refine (moreR_any 0#32 _ _ hs).mono ?_; rintro e w1 ⟨rfl, rfl⟩)
  go_ret
  exact ⟨rfl, rfl⟩
end Go.Proofs.Ytmmegicaeaifaaa

namespace Go.Proofs.Ytmmegicaeaifaaa
open Go.RowKit

theorem Try.info5 : (Try.prog.info? 5).map (fun i => (i.zero, i.size, i.bytes)) = some (some (.int .u8 0), 1, 1) := by kernel_rfl

theorem low_val (n : BitVec 32) (k : Nat) : Value.int .u8 (((n >>> (8 * k)).toNat : Int) % 256) = byteV (Crc.bt n k) := by
  unfold byteV Crc.bt
  refine int_eq ?_
  rw [UInt8.toNat_ofNat']
  omega
theorem shr_val (n : BitVec 32) (k : Nat) : ((n >>> (8 * k)).toNat : Int) / 256 = ((n >>> (8 * (k + 1))).toNat : Int) := by
  rw [BitVec.toNat_ushiftRight, BitVec.toNat_ushiftRight, Nat.shiftRight_eq_div_pow, Nat.shiftRight_eq_div_pow, show 8 * (k + 1) = 8 * k + 8 from by omega, Nat.pow_add, ← Nat.div_div_eq_div_mul]
  omega

set_option maxRecDepth 100000 in
set_option maxHeartbeats 400000 in
theorem put_any (s : ByteArray) (w : World) (hs : s.size ≤ 100000000) :
    Calls Try.prog 44 #[.string s] w fun e w' => e = .returned (.string (bstr (Crc.put s.data.toList))) ∧ Below w.heap.size w w' := by
  obtain ⟨i0, hi, hz0, hz1, hz2⟩ := info_parts Try.info5
  have hconv := fun (w : World) => run_bytes_of_string (P := Try.prog) w 9 51 5 s Try.underlying9 Try.underlying51 Try.underlying5
  go_enter Try.func44, Try.ntmps44
  go_wp2_with (go_at_call 65; refine (of_any _ _ (by omega)).mono ?_; rintro e w1 ⟨rfl, hb1⟩)
  have hcap : s.size ≤ grownCap w s.size 0 5 := grownCap_ge _ _ _ _
  have hB0 := (BytesAt.of_string w w.heap.size 5 s _ (Nat.le_refl _) hcap).below hb1 (Nat.le_refl _)
  have hb0 : Below w.heap.size w w1 := (((Below.refl w.heap.size w).alloc (Nat.le_refl _) _).drew).trans (hb1.mono (by simp))
  clear hb1 hconv
  go_loopw [5, 3, 4] (fun i b n wr => ∃ k : Nat, k ≤ 4 ∧ i = .int .i64 k ∧ n = .int .u32 ((Crc.sumOf s.data.toList >>> (8 * k)).toNat : Int) ∧ BytesAt wr w.heap.size b (s.data.toList ++ Crc.le (Crc.sumOf s.data.toList) k) ∧ Below w.heap.size w wr) (fun i _ _ _ => 4 - (intOf i).toNat)
  case atStart => exact ⟨0, by omega, rfl, by simp, by simpa [Crc.le] using hB0, hb0⟩
  case round =>
    obtain ⟨k, hk, rfl, rfl, hB, hbel⟩ := hrel
    by_cases hlt : k < 4
    · have hsz := hbel.size
      have HL := hid (low_val (Crc.sumOf s.data.toList) k)
      have HR := hid (shr_val (Crc.sumOf s.data.toList) k)
      generalize Crc.sumOf s.data.toList >>> (8 * k) = x at HL HR ⊢
      have hnb := x.isLt
      have hlen : (s.data.toList ++ Crc.le (Crc.sumOf s.data.toList) k).length = s.size + k := by simp [Crc.le_length]
      have HL2 := hid hlen
      clear hlen
      go_wp2_with (first | (at_builtin; refine wpList_append_bytes _ rfl _ _ 51 rfl 5 i0 (.int .u8 0) Try.underlying51 hi hz0 hz1 hz2 rfl w.heap.size _ _ rfl (hB.alloc _) ⟨_, 0, none⟩ 1 1 [Crc.bt (Crc.sumOf s.data.toList) k] rfl rfl ?c1 ?c2 ?c3 ?_))
      case c1 => exact cell_one_byte _ _ _ _ HL.out
      case c2 => simp; omega
      case c3 => rw [HL2.out]; omega
      · intro v' w' hB' hgr
        have hbel' := (hbel.alloc hbel.size _).grown hgr (by simp; omega) (fun q hq => hB.block _ hq)
        rw [← Crc.le_succ] at hB'
        clear hgr
        go_wp2
        go_roundw
        case rel => exact ⟨k + 1, by omega, by go_num, int_eq HR.out, hB', hbel'⟩
        case measure => simp [intOf]; omega
    · have hk8 : k = 4 := by omega
      subst hk8
      have hst := run_string_of_bytes (P := Try.prog) wr w.heap.size 51 9 5 _ _ Try.underlying51 Try.underlying5 Try.underlying9 hB
      go_wp2
      go_ret
      exact ⟨rfl, hbel⟩

set_option maxRecDepth 100000 in
set_option maxHeartbeats 400000 in
theorem putR_any (s : ByteArray) (w : World) (hs : s.size ≤ 100000000) :
    Calls Try.prog 46 #[.string s] w fun e w' => e = .returned (.string (bstr (Crc.put s.data.toList))) ∧ Below w.heap.size w w' := by
  go_enter Try.func46, Try.ntmps46
  go_wp2_with (go_at_call 67; refine (ofR_any _ _ (by omega)).mono ?_; rintro e w1 ⟨rfl, rfl⟩)
  go_loopw [5, 4, 3] (fun i t n wr => ∃ k : Nat, k ≤ 4 ∧ i = .int .i64 k ∧ n = .int .u32 ((Crc.sumOf s.data.toList >>> (8 * k)).toNat : Int) ∧ t = .string (bstr (s.data.toList ++ Crc.le (Crc.sumOf s.data.toList) k)) ∧ Below w.heap.size w wr) (fun i _ _ _ => 4 - (intOf i).toNat)
  case atStart => exact ⟨0, by omega, rfl, by simp, by simp [Crc.le, bstr_of], Below.refl _ _⟩
  case round =>
    obtain ⟨k, hk, rfl, rfl, rfl, hbel⟩ := hrel
    by_cases hlt : k < 4
    · have HL := hid (low_val (Crc.sumOf s.data.toList) k)
      have HR := hid (shr_val (Crc.sumOf s.data.toList) k)
      generalize Crc.sumOf s.data.toList >>> (8 * k) = x at HL HR ⊢
      have hnb := x.isLt
      have hst := fun W => run_string_one (P := Try.prog) W 51 9 5 _ (Crc.bt (Crc.sumOf s.data.toList) k) HL.out Try.underlying51 Try.underlying5 Try.underlying9
      have hsz : (bstr (s.data.toList ++ Crc.le (Crc.sumOf s.data.toList) k)).size ≤ 100000004 := by rw [bstr_size]; simp [Crc.le_length]; omega
      generalize hT : bstr (s.data.toList ++ Crc.le (Crc.sumOf s.data.toList) k) = T at hsz ⊢
      have HT := hid hT
      clear hT
      have h1 : (bstr [Crc.bt (Crc.sumOf s.data.toList) k]).size = 1 := rfl
      go_wp2
      go_roundw
      case rel => exact ⟨k + 1, by omega, by go_num, int_eq HR.out, str_eq (by rw [← HT.out, Crc.le_succ, bstr_append, List.append_assoc]), hbel.alloc hbel.size _⟩
      case measure => simp [intOf]; omega
    · have hk8 : k = 4 := by omega
      subst hk8
      go_wp2
      go_ret
      exact ⟨rfl, hbel⟩

theorem take_yes {l : List UInt8} (h1 : 4 ≤ l.length) (h2 : Crc.put (l.take (l.length - 4)) = l) : Crc.take l = (l.take (l.length - 4), true) := by
  unfold Crc.take
  rw [if_neg (by intro h; rcases h with h | h; omega; exact h h2)]
theorem take_no {l : List UInt8} (h : l.length < 4 ∨ ¬ Crc.put (l.take (l.length - 4)) = l) : Crc.take l = ([], false) := by
  unfold Crc.take
  rw [if_pos h]
theorem take_test (s : ByteArray) (h4 : 4 ≤ s.size) (b : Bool) (h : (!(bstr (Crc.put (s.data.toList.take (s.size - 4)))).toList == s.toList) = b) : Crc.take s.data.toList = if b then ([], false) else (s.data.toList.take (s.size - 4), true) := by
  rw [bytes_beq] at h
  have hl : s.data.toList.length = s.size := by simp
  by_cases e : bstr (Crc.put (s.data.toList.take (s.size - 4))) = s
  · simp only [e, decide_true, Bool.not_true] at h
    subst h
    rw [take_yes (by omega) (by rw [hl]; conv => rhs; rw [← e]
                                rfl), hl]; rfl
  · simp only [e, decide_false, Bool.not_false] at h
    subst h
    rw [take_no (.inr (by rw [hl]; intro h; exact e (ba_eq (by rw [bstr_toList]; exact h))))]; rfl

set_option maxRecDepth 100000 in
set_option maxHeartbeats 400000 in
theorem take_any (s : ByteArray) (w : World) (hs : s.size ≤ 100000000) :
    Calls Try.prog 48 #[.string s] w fun e w' => e = .returned (.tuple #[.string (bstr (Crc.take s.data.toList).1), .bool (Crc.take s.data.toList).2]) ∧ Below w.heap.size w w' := by
  by_cases h4 : s.size < 4
  · have HF := hid (take_no (l := s.data.toList) (.inl (by simpa using h4)))
    go_enter Try.func48, Try.ntmps48
    go_wp2
    go_ret2
    rw [HF.out]
    exact ⟨rfl, Below.refl _ _⟩
  · go_enter Try.func48, Try.ntmps48
    go_wp2_with (go_at_call 44; refine (put_any _ _ (by simp; omega)).mono ?_; rintro e w1 ⟨rfl, hb1⟩)
    · have h0 : (s.size : Int) - 4 < 0 ∨ (!(bstr (Crc.put (List.take (s.size - 4) s.data.toList))).toList == s.toList) = true := by assumption
      have HF := take_test s (by omega) true (by rcases h0 with h | h; omega; exact h)
      go_ret2
      rw [HF]
      exact ⟨rfl, hb1⟩
    · have h0 : 0 ≤ (s.size : Int) - 4 ∧ (!(bstr (Crc.put (List.take (s.size - 4) s.data.toList))).toList == s.toList) = false := by assumption
      have HF := take_test s (by omega) false h0.2
      go_ret2
      rw [HF, extract_bstr]
      exact ⟨rfl, hb1⟩

set_option maxRecDepth 100000 in
set_option maxHeartbeats 400000 in
theorem takeR_any (s : ByteArray) (w : World) (hs : s.size ≤ 100000000) :
    Calls Try.prog 49 #[.string s] w fun e w' => e = .returned (.tuple #[.string (bstr (Crc.take s.data.toList).1), .bool (Crc.take s.data.toList).2]) ∧ Below w.heap.size w w' := by
  by_cases h4 : s.size < 4
  · have HF := hid (take_no (l := s.data.toList) (.inl (by simpa using h4)))
    go_enter Try.func49, Try.ntmps49
    go_wp2
    go_ret2
    rw [HF.out]
    exact ⟨rfl, Below.refl _ _⟩
  · go_enter Try.func49, Try.ntmps49
    go_wp2_with (go_at_call 46; refine (putR_any _ _ (by simp; omega)).mono ?_; rintro e w1 ⟨rfl, hb1⟩)
    · have h0 : (s.size : Int) < 4 ∨ (!(bstr (Crc.put (List.take (s.size - 4) s.data.toList))).toList == s.toList) = true := by assumption
      have HF := take_test s (by omega) true (by rcases h0 with h | h; omega; exact h)
      go_ret2
      rw [HF]
      exact ⟨rfl, hb1⟩
    · have h0 : 4 ≤ (s.size : Int) ∧ (!(bstr (Crc.put (List.take (s.size - 4) s.data.toList))).toList == s.toList) = false := by assumption
      have HF := take_test s (by omega) false h0.2
      go_ret2
      rw [HF, extract_bstr]
      exact ⟨rfl, hb1⟩
end Go.Proofs.Ytmmegicaeaifaaa
