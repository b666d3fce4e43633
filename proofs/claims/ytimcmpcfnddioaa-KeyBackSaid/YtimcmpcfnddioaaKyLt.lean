/-
  'light' of the statements of the keys: its contract. No condition.
-/
import Derived.Test.YtimcmpcfnddioaaKyW
namespace Go.Proofs.Ytimcmpcfnddioaa
open Go.RowKit

namespace Ky
/-- does a text ask little? -/
def small (n : Nat) : Bool := decide (n ≤ 300) || (decide (4096 ≤ n) && decide (n ≤ 4200))
/-- does a row ask little? -/
def light (l : List Cd.V) : Bool := decide (l.length ≤ 20) && l.all fun v => small v.s.size
theorem light_no {l : List Cd.V} {k : Nat} (hk : k < l.length) (h : small l[k].s.size = false) : light l = false := by
  have h1 : (l.all fun v => small v.s.size) = false := by
    rw [List.all_eq_false]
    exact ⟨l[k], List.getElem_mem hk, by rw [h]; decide⟩
  unfold light
  rw [h1]
  simp
theorem light_next {l : List Cd.V} {k : Nat} (hk : k < l.length) (h0 : ((l.take k).all fun v => small v.s.size) = true) (h : small l[k].s.size = true) : ((l.take (k + 1)).all fun v => small v.s.size) = true := by
  rw [take_next l k hk, List.all_append, h0]; simp [h]
theorem light_yes {l : List Cd.V} (h : light l = true) : l.length ≤ 20 ∧ ∀ x ∈ l, x.s.size ≤ 4200 := by
  unfold light at h
  simp only [Bool.and_eq_true, decide_eq_true_eq, List.all_eq_true] at h
  refine ⟨h.1, fun x hx => ?_⟩
  have := h.2 x hx
  unfold small at this
  simp only [Bool.or_eq_true, Bool.and_eq_true, decide_eq_true_eq] at this
  omega
end Ky
set_option maxRecDepth 100000 in
set_option maxHeartbeats 3200000 in
theorem light_any (v : Value) (l : List Cd.V) (w : World) (h : VsAt w v l) (hl : l.length ≤ maxLen) :
    Calls Try.prog 10 #[v] w fun e w' => e = .returned (.bool (Ky.light l)) ∧ w' = w := by
  obtain ⟨adr, cap, rfl, hc⟩ := h
  have HC := hid hc
  unfold maxLen at hl
  clear hc
  by_cases h20 : 20 < l.length
  · have HE : Hid (Ky.light l = false) := by show _ = _; unfold Ky.light; rw [decide_eq_false (by omega)]; rfl
    have h20' : (20 : Int) < (l.length : Int) := by omega
    go_enter Try.func10, Try.ntmps10
    go_wp2_with fail
    go_ret
    rw [HE.out]
    exact ⟨rfl, rfl⟩
  · have h20' : ¬ (20 : Int) < (l.length : Int) := by omega
    go_enter Try.func10, Try.ntmps10
    go_wp2_with fail
    go_loop [3] (fun q => ∃ k : Nat, k ≤ l.length ∧ q = .int .i64 (k : Int) ∧ Hid (((l.take k).all fun v => Ky.small v.s.size) = true)) (fun q => l.length - (intOf q).toNat)
    case atStart => exact ⟨0, by omega, rfl, rfl⟩
    case round =>
      obtain ⟨k, hk, rfl, hup⟩ := hrel
      have hk0 : (0 : Int) ≤ (k : Int) := by omega
      by_cases hlk : k < l.length
      · have hlk' : (k : Int) < (l.length : Int) := by omega
        obtain ⟨g, off, rfl, _, _, _, p3⟩ := HC.out k hlk
        have HNO := hid (Ky.light_no hlk)
        have HYES := hid (fun h => Ky.light_next hlk hup.out h)
        generalize l[k] = x at p3 HNO HYES
        obtain ⟨n, hn⟩ : ∃ n, x.s.size = n := ⟨_, rfl⟩
        rw [hn] at HNO HYES
        by_cases h1 : n ≤ 300
        · have q1 : decide ((300 : Int) < (x.s.size : Int)) = false := decide_eq_false (by omega)
          have q3 : decide ((4200 : Int) < (x.s.size : Int)) = false := decide_eq_false (by omega)
          have HT := hid (HYES.out (by unfold Ky.small; rw [decide_eq_true h1]; rfl))
          clear HNO HYES
          go_wp2_with fail
          go_round
          case rel => exact ⟨k + 1, hlk, by go_num, HT⟩
          case measure => simp [intOf]; omega
        · have q1 : decide ((300 : Int) < (x.s.size : Int)) = true := decide_eq_true (by omega)
          by_cases h2 : n < 4096
          · have q2 : decide ((x.s.size : Int) < 4096) = true := decide_eq_true (by omega)
            have HR := hid (HNO.out (by unfold Ky.small; rw [decide_eq_false (by omega), decide_eq_false (by omega)]; rfl))
            clear HNO HYES
            go_wp2_with fail
            go_ret
            rw [HR.out]
            exact ⟨rfl, rfl⟩
          · have q2 : decide ((x.s.size : Int) < 4096) = false := decide_eq_false (by omega)
            by_cases h3 : n ≤ 4200
            · have q3 : decide ((4200 : Int) < (x.s.size : Int)) = false := decide_eq_false (by omega)
              have HT := hid (HYES.out (by unfold Ky.small; rw [decide_eq_true (p := 4096 ≤ n) (by omega), decide_eq_true h3]; simp))
              clear HNO HYES
              go_wp2_with fail
              go_round
              case rel => exact ⟨k + 1, hlk, by go_num, HT⟩
              case measure => simp [intOf]; omega
            · have q3 : decide ((4200 : Int) < (x.s.size : Int)) = true := decide_eq_true (by omega)
              have HR := hid (HNO.out (by unfold Ky.small; rw [decide_eq_false h1, decide_eq_false h3]; simp))
              clear HNO HYES
              go_wp2_with fail
              go_ret
              rw [HR.out]
              exact ⟨rfl, rfl⟩
      · obtain rfl : k = l.length := by omega
        have HE : Hid (Ky.light l = true) := by
          have := hup.out
          rw [List.take_length] at this
          show _ = _
          unfold Ky.light; rw [decide_eq_true (by omega), this]; rfl
        go_wp2_with fail
        go_ret
        rw [HE.out]
        exact ⟨rfl, rfl⟩
end Go.Proofs.Ytimcmpcfnddioaa
