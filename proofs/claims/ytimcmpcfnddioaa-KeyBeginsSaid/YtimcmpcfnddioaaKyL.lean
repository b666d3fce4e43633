/-
  The reference's less: its contract. No condition.
-/
import Derived.Test.YtimcmpcfnddioaaKyB
namespace Go.Proofs.Ytimcmpcfnddioaa
open Go.RowKit

/-- is a float below another one, by canonical bits? -/
def Ky.less (a b : Nat) : Bool :=
  if a = 9221120237041090560 ∨ b = 9221120237041090560 then decide (a ≠ 9221120237041090560) && decide (b = 9221120237041090560)
  else if a < 9223372036854775808 then (if b < 9223372036854775808 then decide (a < b) else false)
  else if b < 9223372036854775808 then true else decide (b < a)
set_option maxRecDepth 100000 in
set_option maxHeartbeats 1600000 in
theorem lessR_any (a b : Nat) (ha : a < 18446744073709551616) (hb : b < 18446744073709551616) (w : World) : Calls Try.prog 44 #[.int .u64 (a : Int), .int .u64 (b : Int)] w fun e w' => e = .returned (.bool (Ky.less a b)) ∧ w = w' := by
  have ta := and_top a ha
  have tb := and_top b hb
  by_cases ha1 : a = 9221120237041090560
  · by_cases hb1 : b = 9221120237041090560
    · have na : ((a : Int) == 9221120237041090560) = true := by rw [beq_iff_eq]; omega
      have ma : ((a : Int) != 9221120237041090560) = false := by rw [bne_eq_false_iff_eq]; omega
      have nb : ((b : Int) == 9221120237041090560) = true := by rw [beq_iff_eq]; omega
      have mb : ((b : Int) != 9221120237041090560) = false := by rw [bne_eq_false_iff_eq]; omega
      have HE : Hid (Ky.less a b = false) := by show _ = _; unfold Ky.less; rw [if_pos (by omega)]; simp; try omega
      clear ha hb
      go_enter Try.func44, Try.ntmps44
      go_wp2_with fail
      go_ret
      rw [HE.out]
      exact ⟨rfl, rfl⟩
    · by_cases hb2 : b < 9223372036854775808
      · have na : ((a : Int) == 9221120237041090560) = true := by rw [beq_iff_eq]; omega
        have ma : ((a : Int) != 9221120237041090560) = false := by rw [bne_eq_false_iff_eq]; omega
        have nb : ((b : Int) == 9221120237041090560) = false := by rw [beq_eq_false_iff_ne]; omega
        have mb : ((b : Int) != 9221120237041090560) = true := by rw [bne_iff_ne]; omega
        rw [if_pos hb2] at tb
        have HE : Hid (Ky.less a b = false) := by show _ = _; unfold Ky.less; rw [if_pos (by omega)]; simp; try omega
        clear ha hb
        go_enter Try.func44, Try.ntmps44
        go_wp2_with fail
        go_ret
        rw [HE.out]
        exact ⟨rfl, rfl⟩
      · have na : ((a : Int) == 9221120237041090560) = true := by rw [beq_iff_eq]; omega
        have ma : ((a : Int) != 9221120237041090560) = false := by rw [bne_eq_false_iff_eq]; omega
        have nb : ((b : Int) == 9221120237041090560) = false := by rw [beq_eq_false_iff_ne]; omega
        have mb : ((b : Int) != 9221120237041090560) = true := by rw [bne_iff_ne]; omega
        rw [if_neg hb2] at tb
        have HE : Hid (Ky.less a b = false) := by show _ = _; unfold Ky.less; rw [if_pos (by omega)]; simp; try omega
        clear ha hb
        go_enter Try.func44, Try.ntmps44
        go_wp2_with fail
        go_ret
        rw [HE.out]
        exact ⟨rfl, rfl⟩
  · by_cases ha2 : a < 9223372036854775808
    · by_cases hb1 : b = 9221120237041090560
      · have na : ((a : Int) == 9221120237041090560) = false := by rw [beq_eq_false_iff_ne]; omega
        have ma : ((a : Int) != 9221120237041090560) = true := by rw [bne_iff_ne]; omega
        rw [if_pos ha2] at ta
        have nb : ((b : Int) == 9221120237041090560) = true := by rw [beq_iff_eq]; omega
        have mb : ((b : Int) != 9221120237041090560) = false := by rw [bne_eq_false_iff_eq]; omega
        have HE : Hid (Ky.less a b = true) := by show _ = _; unfold Ky.less; rw [if_pos (by omega)]; simp; try omega
        clear ha hb
        go_enter Try.func44, Try.ntmps44
        go_wp2_with fail
        go_ret
        rw [HE.out]
        exact ⟨rfl, rfl⟩
      · by_cases hb2 : b < 9223372036854775808
        · have na : ((a : Int) == 9221120237041090560) = false := by rw [beq_eq_false_iff_ne]; omega
          have ma : ((a : Int) != 9221120237041090560) = true := by rw [bne_iff_ne]; omega
          rw [if_pos ha2] at ta
          have nb : ((b : Int) == 9221120237041090560) = false := by rw [beq_eq_false_iff_ne]; omega
          have mb : ((b : Int) != 9221120237041090560) = true := by rw [bne_iff_ne]; omega
          rw [if_pos hb2] at tb
          have HE : Hid (Ky.less a b = decide (a < b)) := by show _ = _; unfold Ky.less; rw [if_neg (by omega)]; rw [if_pos ha2, if_pos hb2]
          go_enter Try.func44, Try.ntmps44
          go_wp2_with fail
          go_ret
          rw [HE.out]
          exact ⟨rfl, rfl⟩
        · have na : ((a : Int) == 9221120237041090560) = false := by rw [beq_eq_false_iff_ne]; omega
          have ma : ((a : Int) != 9221120237041090560) = true := by rw [bne_iff_ne]; omega
          rw [if_pos ha2] at ta
          have nb : ((b : Int) == 9221120237041090560) = false := by rw [beq_eq_false_iff_ne]; omega
          have mb : ((b : Int) != 9221120237041090560) = true := by rw [bne_iff_ne]; omega
          rw [if_neg hb2] at tb
          have HE : Hid (Ky.less a b = false) := by show _ = _; unfold Ky.less; rw [if_neg (by omega)]; rw [if_pos ha2, if_neg hb2]
          go_enter Try.func44, Try.ntmps44
          go_wp2_with fail
          go_ret
          rw [HE.out]
          exact ⟨rfl, rfl⟩
    · by_cases hb1 : b = 9221120237041090560
      · have na : ((a : Int) == 9221120237041090560) = false := by rw [beq_eq_false_iff_ne]; omega
        have ma : ((a : Int) != 9221120237041090560) = true := by rw [bne_iff_ne]; omega
        rw [if_neg ha2] at ta
        have nb : ((b : Int) == 9221120237041090560) = true := by rw [beq_iff_eq]; omega
        have mb : ((b : Int) != 9221120237041090560) = false := by rw [bne_eq_false_iff_eq]; omega
        have HE : Hid (Ky.less a b = true) := by show _ = _; unfold Ky.less; rw [if_pos (by omega)]; simp; try omega
        clear ha hb
        go_enter Try.func44, Try.ntmps44
        go_wp2_with fail
        go_ret
        rw [HE.out]
        exact ⟨rfl, rfl⟩
      · by_cases hb2 : b < 9223372036854775808
        · have na : ((a : Int) == 9221120237041090560) = false := by rw [beq_eq_false_iff_ne]; omega
          have ma : ((a : Int) != 9221120237041090560) = true := by rw [bne_iff_ne]; omega
          rw [if_neg ha2] at ta
          have nb : ((b : Int) == 9221120237041090560) = false := by rw [beq_eq_false_iff_ne]; omega
          have mb : ((b : Int) != 9221120237041090560) = true := by rw [bne_iff_ne]; omega
          rw [if_pos hb2] at tb
          have HE : Hid (Ky.less a b = true) := by show _ = _; unfold Ky.less; rw [if_neg (by omega)]; rw [if_neg ha2, if_pos hb2]
          go_enter Try.func44, Try.ntmps44
          go_wp2_with fail
          go_ret
          rw [HE.out]
          exact ⟨rfl, rfl⟩
        · have na : ((a : Int) == 9221120237041090560) = false := by rw [beq_eq_false_iff_ne]; omega
          have ma : ((a : Int) != 9221120237041090560) = true := by rw [bne_iff_ne]; omega
          rw [if_neg ha2] at ta
          have nb : ((b : Int) == 9221120237041090560) = false := by rw [beq_eq_false_iff_ne]; omega
          have mb : ((b : Int) != 9221120237041090560) = true := by rw [bne_iff_ne]; omega
          rw [if_neg hb2] at tb
          have HE : Hid (Ky.less a b = decide (b < a)) := by show _ = _; unfold Ky.less; rw [if_neg (by omega)]; rw [if_neg ha2, if_neg hb2]
          go_enter Try.func44, Try.ntmps44
          go_wp2_with fail
          go_ret
          rw [HE.out]
          exact ⟨rfl, rfl⟩
end Go.Proofs.Ytimcmpcfnddioaa
