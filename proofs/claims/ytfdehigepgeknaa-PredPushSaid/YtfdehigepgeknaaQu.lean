/-
  value's digit, number, quoted: their contracts. Condition: number's text has at most 1000000 bytes.
-/
import Derived.Test.YtfdehigepgeknaaDe
namespace Go.Proofs.Ytfdehigepgeknaa
open Go.RowKit

namespace Vl
/-- a text's byte as it is shown -/
def quo (c : UInt8) : List UInt8 := if c = 34 ∨ c = 92 then [92, c] else if c < 32 ∨ 126 < c then 92 :: 120 :: hexL 2 c.toNat else [c]
end Vl
set_option maxRecDepth 100000 in
set_option maxHeartbeats 1600000 in
theorem show1_any (c : UInt8) (w : World) : Calls Try.prog 54 #[.int .u8 (c.toNat : Int)] w fun e w' => e = .returned (.string (bstr (Vl.hexL 2 c.toNat))) ∧ Below w.heap.size w w' := by
  have hc := c.toNat_lt
  have h := hid (fun W => hex_any c.toNat 2 (by omega) (by decide) W)
  have e1 : IntKind.u64.wrap (c.toNat : Int) = (c.toNat : Int) := by rw [IntKind.wrap_u64]; omega
  go_enter Try.func54, Try.ntmps54
  go_wp2_with fail
  refine (h.out _).mono ?_; rintro e w1 ⟨rfl, b1⟩
  go_wp2_with fail
  go_ret
  exact ⟨rfl, b1⟩
set_option maxRecDepth 100000 in
set_option maxHeartbeats 1600000 in
theorem quoted_any (c : UInt8) (w : World) : Calls Try.prog 55 #[.int .u8 (c.toNat : Int)] w fun e w' => e = .returned (.string (bstr (Vl.quo c))) ∧ Below w.heap.size w w' := by
  have hcl := c.toNat_lt
  have hst := fun W => run_string_one (P := Try.prog) W 88 9 5 (.int .u8 (c.toNat : Int)) c rfl Try.underlying88 Try.underlying5 Try.underlying9
  have hz1 : (bstr [c]).size = 1 := rfl
  by_cases h1 : c = 34 ∨ c = 92
  · have HE : Hid (Vl.quo c = [92, c]) := if_pos h1
    have hj : (⟨#[92]⟩ : ByteArray) ++ bstr [c] = bstr [92, c] := bstr_append [92] [c]
    have h3 : ((c.toNat : Int) == 34) = true ∨ (((c.toNat : Int) == 34) = false ∧ ((c.toNat : Int) == 92) = true) := by
      rcases h1 with rfl | rfl
      · exact .inl rfl
      · exact .inr ⟨rfl, rfl⟩
    clear h1
    rcases h3 with h3 | ⟨h3, h4⟩
    all_goals
      go_enter Try.func55, Try.ntmps55
      go_wp2_with fail
      go_ret
      rw [HE.out]
      exact ⟨rfl, hba _ _⟩
  · have n1 : ((c.toNat : Int) == 34) = false := by
      rw [beq_eq_false_iff_ne]; intro h; exact h1 (.inl (UInt8.toNat_inj.1 (by show c.toNat = 34; omega)))
    have n2 : ((c.toNat : Int) == 92) = false := by
      rw [beq_eq_false_iff_ne]; intro h; exact h1 (.inr (UInt8.toNat_inj.1 (by show c.toNat = 92; omega)))
    by_cases h2 : c < 32 ∨ 126 < c
    · have HE : Hid (Vl.quo c = 92 :: 120 :: Vl.hexL 2 c.toNat) := by show _ = _; unfold Vl.quo; rw [if_neg h1, if_pos h2]
      have h := hid (fun W => hex_any c.toNat 2 (by omega) (by decide) W)
      have hz2 : (bstr (Vl.hexL 2 c.toNat)).size = 2 := Vl.hexL_length 2 _
      have hj : (⟨#[92, 120]⟩ : ByteArray) ++ bstr (Vl.hexL 2 c.toNat) = bstr (92 :: 120 :: Vl.hexL 2 c.toNat) := bstr_append [92, 120] _
      have e1 : IntKind.u64.wrap (c.toNat : Int) = (c.toNat : Int) := by rw [IntKind.wrap_u64]; omega
      have h3 : (c.toNat : Int) < 32 ∨ (¬ (c.toNat : Int) < 32 ∧ (126 : Int) < (c.toNat : Int)) := by
        rcases h2 with h | h
        · have := UInt8.lt_iff_toNat_lt.1 h
          exact .inl (by show (c.toNat : Int) < 32; have : c.toNat < 32 := this; omega)
        · have : 126 < c.toNat := UInt8.lt_iff_toNat_lt.1 h
          omega
      generalize Vl.hexL 2 c.toNat = x at *
      clear h1 h2
      rcases h3 with h3 | ⟨h3, h4⟩
      all_goals
        go_enter Try.func55, Try.ntmps55
        go_wp2_with fail
        refine (h.out _).mono ?_; rintro e w1 ⟨rfl, b1⟩
        go_wp2_with fail
        go_ret
        rw [HE.out]
        exact ⟨rfl, b1⟩
    · have HE : Hid (Vl.quo c = [c]) := by show _ = _; unfold Vl.quo; rw [if_neg h1, if_neg h2]
      have h3 : ¬ (c.toNat : Int) < 32 := fun h => h2 (.inl (UInt8.lt_iff_toNat_lt.2 (by show c.toNat < 32; omega)))
      have h4 : ¬ (126 : Int) < (c.toNat : Int) := fun h => h2 (.inr (UInt8.lt_iff_toNat_lt.2 (by show 126 < c.toNat; omega)))
      clear h1 h2
      go_enter Try.func55, Try.ntmps55
      go_wp2_with fail
      go_ret
      rw [HE.out]
      exact ⟨rfl, hba _ _⟩
end Go.Proofs.Ytfdehigepgeknaa
