/-
  ValueReads answers true at any text. No condition.
-/
import Derived.Test.YtgdegoacjobpdaaVq
import Derived.Test.YtgdegoacjobpdaaGy
namespace Go.Proofs.Ytgdegoacjobpdaa
open Go.RowKit

set_option maxRecDepth 100000 in
set_option maxHeartbeats 12800000 in
theorem valueReads_walk (s : ByteArray) (w : World) (hs : s.size ≤ maxLen) :
    Calls Try.prog 4 #[.string s] w fun e w' => e = .returned (.bool true) ∧ Below w.heap.size w w' := by
  obtain ⟨l, rfl⟩ : ∃ l, s = bstr l := ⟨s.data.toList, (bstr_of s).symm⟩
  have hsl : (bstr l).size = l.length := rfl
  have L := hid (Below.refl w.heap.size w)
  have hs0 : l.length ≤ 9223372036854775807 := by unfold maxLen at hs; exact hs
  clear hs
  by_cases ys : 300 < l.length
  · have ys' : (300 : Int) < (l.length : Int) := by omega
    go_enter Try.func4, Try.ntmps4
    go_wp2_with fail
    refine (known_any _).mono ?_; rintro e w1 ⟨rfl, b1⟩
    go_wp2
    go_ret
    exact ⟨rfl, hnext L.out b1⟩
  · have ys' : ¬ (300 : Int) < (l.length : Int) := by omega
    have cp0 := fun W => parse_any l (by omega) W
    have cq0 := fun W => parseR_any l (by omega) W
    cases hq : Vl.parse l with
    | none =>
      rw [hq] at cp0 cq0
      unfold parV Vl.V0 vvV vv at cp0 cq0
      have cp := hid cp0
      have cq := hid cq0
      clear cp0 cq0 hq
      have qv : ∀ w, (binOp .eql 24 (.agg #[.int .i64 0, .int .i64 0, .int .u64 0, .string ⟨#[]⟩]) (.agg #[.int .i64 0, .int .i64 0, .int .u64 0, .string ⟨#[]⟩])).run Try.prog w = .ok (.bool true) w := fun w => va_eql 0 0 0 ⟨#[]⟩ 0 0 0 ⟨#[]⟩ true ((v_beq ⟨0, 0, 0, ⟨#[]⟩⟩ ⟨0, 0, 0, ⟨#[]⟩⟩).trans (decide_eq_true rfl)) w
      go_enter Try.func4, Try.ntmps4
      go_wp2_with fail
      refine (cp.out _).mono ?_; rintro e w1 ⟨rfl, b1⟩
      have L1 := hid (hnext L.out b1)
      clear b1
      go_wp2_with fail
      have hb := hba w1 (.cells #[.int .i64 0, .int .i64 0, .int .u64 0, .string ⟨#[]⟩] 24)
      have N0 := BV.new w1 0 0 0 ⟨#[]⟩
      change BV (World.alloc w1 (.cells #[.int .i64 0, .int .i64 0, .int .u64 0, .string ⟨#[]⟩] 24)) _ _ _ _ _ at N0
      have L1n := hid (hnext L1.out hb)
      obtain ⟨gA, hgA⟩ : ∃ g, w1.heap.size = g := ⟨_, rfl⟩
      rw [hgA] at N0 ⊢
      have A0 := hid N0
      clear hb hgA N0
      generalize World.alloc w1 (.cells #[.int .i64 0, .int .i64 0, .int .u64 0, .string ⟨#[]⟩] 24) = w2 at *
      obtain ⟨Ac0_2, Ac1_2, Ac2_2, Ac3_2, Af0_2, Af1_2, Af2_2, Af3_2, Al_2⟩ := A0.out.cells
      refine (cq.out _).mono ?_; rintro e w3 ⟨rfl, b3⟩
      clear Ac0_2 Ac1_2 Ac2_2 Ac3_2 Af0_2 Af1_2 Af2_2 Af3_2 Al_2
      have A3 := hid (A0.out.keep b3)
      have L3 := hid (hnext L1n.out b3)
      clear b3
      obtain ⟨Ac0_3, Ac1_3, Ac2_3, Ac3_3, Af0_3, Af1_3, Af2_3, Af3_3, Al_3⟩ := A3.out.cells
      go_wp2_with fail
      refine (known_any _).mono ?_; rintro e w9 ⟨rfl, b9⟩
      go_wp2
      go_ret
      exact ⟨rfl, hnext (hnext L3.out (hba _ _)) b9⟩
    | some x =>
      obtain ⟨bk, bn, bb, bs⟩ := x
      rw [hq] at cp0 cq0
      unfold parV vvV vv at cp0 cq0
      have cp := hid cp0
      have cq := hid cq0
      clear cp0 cq0 hq
      have qv : ∀ w, (binOp .eql 24 (.agg #[.int .i64 bk, .int .i64 bn, .int .u64 (bb : Int), .string bs]) (.agg #[.int .i64 bk, .int .i64 bn, .int .u64 (bb : Int), .string bs])).run Try.prog w = .ok (.bool true) w := fun w => va_eql bk bn bb bs bk bn bb bs true ((v_beq ⟨bk, bn, bb, bs⟩ ⟨bk, bn, bb, bs⟩).trans (decide_eq_true rfl)) w
      go_enter Try.func4, Try.ntmps4
      go_wp2_with fail
      refine (cp.out _).mono ?_; rintro e w1 ⟨rfl, b1⟩
      have L1 := hid (hnext L.out b1)
      clear b1
      go_wp2_with fail
      have hb := hba w1 (.cells #[.int .i64 bk, .int .i64 bn, .int .u64 (bb : Int), .string bs] 24)
      have N0 := BV.new w1 bk bn bb bs
      change BV (World.alloc w1 (.cells #[.int .i64 bk, .int .i64 bn, .int .u64 (bb : Int), .string bs] 24)) _ _ _ _ _ at N0
      have L1n := hid (hnext L1.out hb)
      obtain ⟨gA, hgA⟩ : ∃ g, w1.heap.size = g := ⟨_, rfl⟩
      rw [hgA] at N0 ⊢
      have A0 := hid N0
      clear hb hgA N0
      generalize World.alloc w1 (.cells #[.int .i64 bk, .int .i64 bn, .int .u64 (bb : Int), .string bs] 24) = w2 at *
      obtain ⟨Ac0_2, Ac1_2, Ac2_2, Ac3_2, Af0_2, Af1_2, Af2_2, Af3_2, Al_2⟩ := A0.out.cells
      refine (cq.out _).mono ?_; rintro e w3 ⟨rfl, b3⟩
      clear Ac0_2 Ac1_2 Ac2_2 Ac3_2 Af0_2 Af1_2 Af2_2 Af3_2 Al_2
      have A3 := hid (A0.out.keep b3)
      have L3 := hid (hnext L1n.out b3)
      clear b3
      obtain ⟨Ac0_3, Ac1_3, Ac2_3, Ac3_3, Af0_3, Af1_3, Af2_3, Af3_3, Al_3⟩ := A3.out.cells
      go_wp2_with fail
      refine (known_any _).mono ?_; rintro e w9 ⟨rfl, b9⟩
      go_wp2
      go_ret
      exact ⟨rfl, hnext (hnext L3.out (hba _ _)) b9⟩
end Go.Proofs.Ytgdegoacjobpdaa
