/-
  The reference's eight: its contract. Condition: the text has at most 1000000 bytes.
-/
import Derived.Test.YtimcmpcfnddioaaKyPa
namespace Go.Proofs.Ytimcmpcfnddioaa
open Go.RowKit

set_option maxRecDepth 100000 in
set_option maxHeartbeats 1600000 in
theorem eight_any (l : List UInt8) (hl : l.length ≤ 1000000) (w : World) :
    Calls Try.prog 50 #[.string (bstr l)] w fun e w' => e = .returned (.int .u64 (Ky.num (l.take 8) : Int)) ∧ Below w.heap.size w w' := by
  have hs : (bstr l).size = l.length := rfl
  go_enter Try.func50, Try.ntmps50
  go_wp2_with fail
  go_loopw [4, 3] (fun i n wr => ∃ k nn : Nat, k ≤ 8 ∧ k ≤ l.length ∧ i = .int .i64 (k : Int) ∧ n = .int .u64 (nn : Int) ∧ Hid (nn = Ky.num (l.take k)) ∧ Hid (nn < 256 ^ k) ∧ Below w.heap.size w wr) (fun i _ _ => 8 - (intOf i).toNat)
  case atStart => exact ⟨0, 0, by omega, by omega, rfl, rfl, rfl, by show _ < _; decide, Below.refl _ _⟩
  case round =>
    obtain ⟨k, nn, hk, hkl, rfl, rfl, hnn, hlt, hbel⟩ := hrel
    by_cases hk8 : k < 8
    · have hk8' : (k : Int) < 8 := by omega
      have hk0 : (0 : Int) ≤ (k : Int) := by omega
      by_cases hk2 : k < l.length
      · have hk2' : (k : Int) < (l.length : Int) := by omega
        have HN := hid (Ky.num_next l k hk2)
        rw [← hnn.out] at HN
        have hb7 : nn < 72057594037927936 := Nat.lt_of_lt_of_le hlt.out (Nat.le_trans (Nat.pow_le_pow_right (by decide) (show k ≤ 7 by omega)) (by decide))
        have hdl := (l[k]'hk2).toNat_lt
        have hidx : (bstr l)[k]'(by show k < l.toArray.size; simpa using hk2) = l[k]'hk2 := rfl
        generalize hd : (l[k]'hk2).toNat = d at HN hdl
        have HB2 : Hid (256 * nn + d < 256 ^ (k + 1)) := by have := hlt.out; show _ < _; rw [Nat.pow_succ]; omega
        have e1 : IntKind.u64.wrap (256 * (nn : Int)) = ((256 * nn : Nat) : Int) := by rw [IntKind.wrap_u64]; omega
        have e2 : IntKind.u64.wrap (((256 * nn : Nat) : Int) + (d : Int)) = ((256 * nn + d : Nat) : Int) := by rw [IntKind.wrap_u64]; omega
        clear hnn hlt
        go_wp2_with fail
        go_roundw
        case rel => exact ⟨k + 1, 256 * nn + d, by omega, by omega, by go_num, by simp, HN.out.symm, HB2, by first | exact hbel | exact hdrewN hbel _⟩
        case measure => simp [intOf]; omega
      · have hk2' : ¬ (k : Int) < (l.length : Int) := by omega
        have HE : Hid (Ky.num (l.take 8) = nn) := by show _ = _; rw [hnn.out, List.take_of_length_le (by omega), List.take_of_length_le (by omega)]
        clear hnn hlt
        go_wp2_with fail
        go_ret
        rw [HE.out]
        exact ⟨rfl, hbel⟩
    · obtain rfl : k = 8 := by omega
      have HE : Hid (Ky.num (l.take 8) = nn) := hnn.out.symm
      clear hnn hlt
      go_wp2_with fail
      go_ret
      rw [HE.out]
      exact ⟨rfl, hbel⟩
end Go.Proofs.Ytimcmpcfnddioaa
