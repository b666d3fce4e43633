/-
  value's digit, number, quoted: their contracts. Condition: number's text has at most 1000000 bytes.
-/
import Derived.Test.YtgdegoacjobpdaaDe
namespace Go.Proofs.Ytgdegoacjobpdaa
open Go.RowKit

namespace Vl
/-- a digit's number -/
def dig (c : UInt8) : Option Nat := (List.range 16).find? fun k => hexd k == c
def digI (c : UInt8) : Int := match dig c with | some d => (d : Int) | none => -1
theorem dig_hexd : ∀ d, d < 16 → dig (hexd d) = some d := by decide +kernel
theorem dig_lt {c : UInt8} {d : Nat} (h : dig c = some d) : d < 16 := by
  have := List.mem_of_find?_eq_some h
  simpa using this
theorem dig_eq {c : UInt8} {d : Nat} (h : dig c = some d) : hexd d = c := by
  have := List.find?_some h
  simpa using this
theorem digI_none {c : UInt8} (h : ∀ j, j < 16 → hexd j ≠ c) : digI c = -1 := by
  unfold digI
  cases hd : dig c with
  | none => rfl
  | some d => exact absurd (dig_eq hd) (h d (dig_lt hd))
theorem digI_some {c : UInt8} {k : Nat} (hk : k < 16) (h : hexd k = c) : digI c = (k : Int) := by
  unfold digI
  rw [← h, dig_hexd k hk]
/-- the number of digits of base 16 -/
def numX : List UInt8 → Nat → Option Nat
  | [], n => some n
  | c :: r, n => match dig c with
    | none => none
    | some d => numX r ((16 * n + d) % 18446744073709551616)
theorem numX_no {c : UInt8} (h : dig c = none) (r : List UInt8) (n : Nat) : numX (c :: r) n = none := by
  show (match dig c with | none => none | some d => _) = _
  rw [h]
theorem numX_next {c : UInt8} {d : Nat} (h : dig c = some d) (r : List UInt8) (n : Nat) : numX (c :: r) n = numX r ((16 * n + d) % 18446744073709551616) := by
  show (match dig c with | none => none | some d => _) = _
  rw [h]
/-- a text's byte as it is shown -/
def quo (c : UInt8) : List UInt8 := if c = 34 ∨ c = 92 then [92, c] else if c < 32 ∨ 126 < c then 92 :: 120 :: hexL 2 c.toNat else [c]
end Vl
set_option maxRecDepth 100000 in
set_option maxHeartbeats 1600000 in
theorem digit_any (c : UInt8) (w : World) : Calls Try.prog 53 #[.int .u8 (c.toNat : Int)] w fun e w' => e = .returned (.int .i64 (Vl.digI c)) ∧ Below w.heap.size w w' := by
  go_enter Try.func53, Try.ntmps53
  go_wp2_with fail
  go_loopw [4] (fun i wr => ∃ k : Nat, k ≤ 16 ∧ i = .int .i64 (k : Int) ∧ Hid (∀ j, j < k → Vl.hexd j ≠ c) ∧ Below w.heap.size w wr) (fun i _ => 16 - (intOf i).toNat)
  case atStart => exact ⟨0, by omega, rfl, hid (fun j hj => absurd hj (Nat.not_lt_zero j)), Below.refl _ _⟩
  case round =>
    obtain ⟨k, hk, rfl, hno, hbel⟩ := hrel
    have hk0 : (0 : Int) ≤ (k : Int) := by omega
    by_cases hk2 : k < 16
    · have hk2' : (k : Int) < 16 := by omega
      have hdg := Vl.hex_digit k hk2
      by_cases he : Vl.hexd k = c
      · have HE := hid (Vl.digI_some hk2 he)
        rw [he] at hdg
        clear he hno
        go_wp2_with fail
        go_ret
        rw [HE.out]
        exact ⟨rfl, hbel⟩
      · have HN : Hid (∀ j, j < k + 1 → Vl.hexd j ≠ c) := fun j hj => if h : j < k then hno.out j h else by
          have : j = k := by omega
          subst this; exact he
        have e1 : (((Vl.hexd k).toNat : Int) == (c.toNat : Int)) = false := by
          rw [beq_eq_false_iff_ne]; intro h; exact he (UInt8.toNat_inj.1 (by omega))
        generalize Vl.hexd k = d at hdg e1
        clear he hno
        go_wp2_with fail
        go_roundw
        case rel => exact ⟨k + 1, by omega, by go_num, HN, hbel⟩
        case measure => simp [intOf]; omega
    · obtain rfl : k = 16 := by omega
      have HE := hid (Vl.digI_none hno.out)
      clear hno
      go_wp2_with fail
      go_ret
      rw [HE.out]
      exact ⟨rfl, hbel⟩
set_option maxRecDepth 100000 in
set_option maxHeartbeats 1600000 in
theorem show1_any (c : UInt8) (w : World) : Calls Try.prog 36 #[.int .u8 (c.toNat : Int)] w fun e w' => e = .returned (.string (bstr (Vl.hexL 2 c.toNat))) ∧ Below w.heap.size w w' := by
  have hc := c.toNat_lt
  have h := hid (fun W => hex_any c.toNat 2 (by omega) (by decide) W)
  have e1 : IntKind.u64.wrap (c.toNat : Int) = (c.toNat : Int) := by rw [IntKind.wrap_u64]; omega
  go_enter Try.func36, Try.ntmps36
  go_wp2_with fail
  refine (h.out _).mono ?_; rintro e w1 ⟨rfl, b1⟩
  go_wp2_with fail
  go_ret
  exact ⟨rfl, b1⟩
set_option maxRecDepth 100000 in
set_option maxHeartbeats 1600000 in
theorem quoted_any (c : UInt8) (w : World) : Calls Try.prog 37 #[.int .u8 (c.toNat : Int)] w fun e w' => e = .returned (.string (bstr (Vl.quo c))) ∧ Below w.heap.size w w' := by
  have hcl := c.toNat_lt
  have hst := fun W => run_string_one (P := Try.prog) W 54 9 5 (.int .u8 (c.toNat : Int)) c rfl Try.underlying54 Try.underlying5 Try.underlying9
  have hz1 : (bstr [c]).size = 1 := rfl
  by_cases h1 : c = 34 ∨ c = 92
  · have HE : Hid (Vl.quo c = [92, c]) := if_pos h1
    have hj : (⟨#[92]⟩ : ByteArray) ++ bstr [c] = bstr [92, c] := bstr_append [92] [c]
    have h3 : ((c.toNat : Int) == 34) = true ∨ (((c.toNat : Int) == 34) = false ∧ ((c.toNat : Int) == 92) = true) := by
      rcases h1 with rfl | rfl
      · exact .inl rfl
      · exact .inr ⟨rfl, rfl⟩
    clear h1
    rcases h3 with h3 | ⟨h3, h4⟩
    all_goals
      go_enter Try.func37, Try.ntmps37
      go_wp2_with fail
      go_ret
      rw [HE.out]
      exact ⟨rfl, hba _ _⟩
  · have n1 : ((c.toNat : Int) == 34) = false := by
      rw [beq_eq_false_iff_ne]; intro h; exact h1 (.inl (UInt8.toNat_inj.1 (by show c.toNat = 34; omega)))
    have n2 : ((c.toNat : Int) == 92) = false := by
      rw [beq_eq_false_iff_ne]; intro h; exact h1 (.inr (UInt8.toNat_inj.1 (by show c.toNat = 92; omega)))
    by_cases h2 : c < 32 ∨ 126 < c
    · have HE : Hid (Vl.quo c = 92 :: 120 :: Vl.hexL 2 c.toNat) := by show _ = _; unfold Vl.quo; rw [if_neg h1, if_pos h2]
      have h := hid (fun W => hex_any c.toNat 2 (by omega) (by decide) W)
      have hz2 : (bstr (Vl.hexL 2 c.toNat)).size = 2 := Vl.hexL_length 2 _
      have hj : (⟨#[92, 120]⟩ : ByteArray) ++ bstr (Vl.hexL 2 c.toNat) = bstr (92 :: 120 :: Vl.hexL 2 c.toNat) := bstr_append [92, 120] _
      have e1 : IntKind.u64.wrap (c.toNat : Int) = (c.toNat : Int) := by rw [IntKind.wrap_u64]; omega
      have h3 : (c.toNat : Int) < 32 ∨ (¬ (c.toNat : Int) < 32 ∧ (126 : Int) < (c.toNat : Int)) := by
        rcases h2 with h | h
        · have := UInt8.lt_iff_toNat_lt.1 h
          exact .inl (by show (c.toNat : Int) < 32; have : c.toNat < 32 := this; omega)
        · have : 126 < c.toNat := UInt8.lt_iff_toNat_lt.1 h
          omega
      generalize Vl.hexL 2 c.toNat = x at *
      clear h1 h2
      rcases h3 with h3 | ⟨h3, h4⟩
      all_goals
        go_enter Try.func37, Try.ntmps37
        go_wp2_with fail
        refine (h.out _).mono ?_; rintro e w1 ⟨rfl, b1⟩
        go_wp2_with fail
        go_ret
        rw [HE.out]
        exact ⟨rfl, b1⟩
    · have HE : Hid (Vl.quo c = [c]) := by show _ = _; unfold Vl.quo; rw [if_neg h1, if_neg h2]
      have h3 : ¬ (c.toNat : Int) < 32 := fun h => h2 (.inl (UInt8.lt_iff_toNat_lt.2 (by show c.toNat < 32; omega)))
      have h4 : ¬ (126 : Int) < (c.toNat : Int) := fun h => h2 (.inr (UInt8.lt_iff_toNat_lt.2 (by show 126 < c.toNat; omega)))
      clear h1 h2
      go_enter Try.func37, Try.ntmps37
      go_wp2_with fail
      go_ret
      rw [HE.out]
      exact ⟨rfl, hba _ _⟩
end Go.Proofs.Ytgdegoacjobpdaa
