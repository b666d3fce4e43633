/-
  Keys plainly; which rows can be one: the contracts of both. Condition: the texts have at most 2^63 - 1 bytes, the row at most 1000000 values.
-/
import Derived.Test.YtimcmpcfnddioaaRo
import Derived.Test.YtimcmpcfnddioaaVaR
import Derived.Test.YtimcmpcfnddioaaZig
import Derived.Test.YtimcmpcfnddioaaCdB
import Derived.Test.YtimcmpcfnddioaaOp
import Derived.Test.YtimcmpcfnddioaaLift
namespace Go.Proofs.Ytimcmpcfnddioaa
open Go.RowKit

namespace Ky
/-- can a row be a key? -/
def right (l : List Cd.V) : Bool := l.all Cd.V.right && decide (l.length ≤ 8)
theorem right_no {l : List Cd.V} {k : Nat} (hk : k < l.length) (h : l[k].right = false) : right l = false := by
  unfold right
  have : l.all Cd.V.right = false := by
    rw [List.all_eq_false]
    exact ⟨l[k], List.getElem_mem hk, by rw [h]; decide⟩
  rw [this]; rfl
theorem right_at {l : List Cd.V} (h : l.all Cd.V.right = true) : right l = decide (l.length ≤ 8) := by unfold right; rw [h]; rfl
theorem all_next {l : List Cd.V} {k : Nat} (hk : k < l.length) (h0 : (l.take k).all Cd.V.right = true) (h : l[k].right = true) : (l.take (k + 1)).all Cd.V.right = true := by
  rw [take_next l k hk, List.all_append, h0]; simp [h]
end Ky
/-- what texts a row has -/
def Rok (l : List Cd.V) : Prop := ∀ x ∈ l, x.s.size ≤ maxLen
set_option maxRecDepth 100000 in
set_option maxHeartbeats 1600000 in
theorem kright_any (v : Value) (l : List Cd.V) (w : World) (hv : VsAt w v l) (hok : Rok l) (hl : l.length ≤ maxLen) : Calls Try.prog 24 #[v] w fun e w' => e = .returned (.bool (Ky.right l)) ∧ Below w.heap.size w w' := by
  obtain ⟨adr, cap, rfl, hc⟩ := hv
  have HC := hid hc
  have HOK := hid hok
  unfold maxLen at hl
  clear hc hok
  go_enter Try.func24, Try.ntmps24
  go_wp2_with fail
  go_loopw [7] (fun i wr => ∃ k : Nat, k ≤ l.length ∧ i = .int .i64 (k : Int) ∧ Hid ((l.take k).all Cd.V.right = true) ∧ Below w.heap.size w wr) (fun i _ => l.length - (intOf i).toNat)
  case atStart => exact ⟨0, by omega, rfl, rfl, Below.refl _ _⟩
  case round =>
    obtain ⟨k, hk, rfl, hall, hbel⟩ := hrel
    obtain ⟨w4, rfl⟩ : ∃ w4 : World, w4 = wr := ⟨_, rfl⟩
    by_cases hlk : k < l.length
    · obtain ⟨g, off, rfl, q0, q1, q2, q3⟩ := HC.out k hlk
      have HA := hid (Ky.all_next hlk hall.out)
      have HN := hid (Ky.right_no hlk)
      have hs := HOK.out l[k] (List.getElem_mem hlk)
      generalize l[k] = x at q0 q1 q2 q3 HA HN hs
      obtain ⟨xk, xn, xb, xs⟩ := x
      simp only at q0 q1 q2 q3 hs
      replace q0 := hkeep q0 hbel
      replace q1 := hkeep q1 hbel
      replace q2 := hkeep q2 hbel
      replace q3 := hkeep q3 hbel
      have hlk' : (k : Int) < l.length := by omega
      have hR := fun W => right_any xk xn xb xs hs W
      unfold vv at hR
      cases hr : Va.right xk xn xb xs
      · rw [hr] at hR
        have HR := hid hR
        have HNN := hid (HN.out hr)
        clear hR hr
        go_wp2_with fail
        refine (HR.out _).mono ?_; rintro e w5 ⟨rfl, hb5⟩
        have hB5 := hnext (hbel.alloc hbel.size _) hb5
        go_wp2_with fail
        go_ret
        rw [HNN.out]
        exact ⟨rfl, hB5⟩
      · rw [hr] at hR
        have HR := hid hR
        have HAA := hid (HA.out hr)
        clear hR hr
        go_wp2_with fail
        refine (HR.out _).mono ?_; rintro e w5 ⟨rfl, hb5⟩
        have hB5 := hnext (hbel.alloc hbel.size _) hb5
        go_wp2_with fail
        go_roundw
        case rel => exact ⟨k + 1, by omega, by go_num, HAA, hB5⟩
        case measure => simp [intOf]; omega
    · obtain rfl : k = l.length := by omega
      have HE : Hid (Ky.right l = decide (((l.length : Nat) : Int) ≤ 8)) := by
        have h := hall.out
        rw [List.take_length] at h
        show _ = _
        rw [Ky.right_at h, Bool.eq_iff_iff]; simp; omega
      clear hall
      go_wp2_with fail
      go_ret
      rw [HE.out]
      exact ⟨rfl, hbel⟩
set_option maxRecDepth 100000 in
set_option maxHeartbeats 1600000 in
theorem krightR_any (v : Value) (l : List Cd.V) (w : World) (hv : VsAt w v l) (hok : Rok l) (hob : ∀ x ∈ l, x.b < 18446744073709551616) (hl : l.length ≤ maxLen) : Calls Try.prog 22 #[v] w fun e w' => e = .returned (.bool (Ky.right l)) ∧ Below w.heap.size w w' := by
  obtain ⟨adr, cap, rfl, hc⟩ := hv
  have HC := hid hc
  have HOK := hid hok
  have HOB := hid hob
  unfold maxLen at hl
  clear hc hok hob
  go_enter Try.func22, Try.ntmps22
  go_wp2_with fail
  go_loopw [3] (fun i wr => ∃ k : Nat, k ≤ l.length ∧ i = .int .i64 (k : Int) ∧ Hid ((l.take k).all Cd.V.right = true) ∧ Below w.heap.size w wr) (fun i _ => l.length - (intOf i).toNat)
  case atStart => exact ⟨0, by omega, rfl, rfl, Below.refl _ _⟩
  case round =>
    obtain ⟨k, hk, rfl, hall, hbel⟩ := hrel
    obtain ⟨w4, rfl⟩ : ∃ w4 : World, w4 = wr := ⟨_, rfl⟩
    by_cases hlk : k < l.length
    · obtain ⟨g, off, rfl, q0, q1, q2, q3⟩ := HC.out k hlk
      have HA := hid (Ky.all_next hlk hall.out)
      have HN := hid (Ky.right_no hlk)
      have hs := HOK.out l[k] (List.getElem_mem hlk)
      have hb := HOB.out l[k] (List.getElem_mem hlk)
      generalize l[k] = x at q0 q1 q2 q3 HA HN hs hb
      obtain ⟨xk, xn, xb, xs⟩ := x
      simp only at q0 q1 q2 q3 hs hb
      replace q0 := hkeep q0 hbel
      replace q1 := hkeep q1 hbel
      replace q2 := hkeep q2 hbel
      replace q3 := hkeep q3 hbel
      have hlk' : (k : Int) < l.length := by omega
      have hk0 : (0 : Int) ≤ (k : Int) := by omega
      have hR := fun W => rightR_any xk xn xb xs hs hb W
      unfold vv at hR
      cases hr : Va.right xk xn xb xs
      · rw [hr] at hR
        have HR := hid hR
        have HNN := hid (HN.out hr)
        clear hR hr
        go_wp2_with fail
        refine (HR.out _).mono ?_; rintro e w5 ⟨rfl, hb5⟩
        have hB5 := hnext hbel hb5
        go_wp2_with fail
        go_ret
        rw [HNN.out]
        exact ⟨rfl, hB5⟩
      · rw [hr] at hR
        have HR := hid hR
        have HAA := hid (HA.out hr)
        clear hR hr
        go_wp2_with fail
        refine (HR.out _).mono ?_; rintro e w5 ⟨rfl, hb5⟩
        have hB5 := hnext hbel hb5
        go_wp2_with fail
        go_roundw
        case rel => exact ⟨k + 1, by omega, by go_num, HAA, hB5⟩
        case measure => simp [intOf]; omega
    · obtain rfl : k = l.length := by omega
      have HE : Hid (Ky.right l = decide (((l.length : Nat) : Int) ≤ 8)) := by
        have h := hall.out
        rw [List.take_length] at h
        show _ = _
        rw [Ky.right_at h, Bool.eq_iff_iff]; simp; omega
      clear hall
      go_wp2_with fail
      go_ret
      rw [HE.out]
      exact ⟨rfl, hbel⟩
end Go.Proofs.Ytimcmpcfnddioaa
