/-
  The reference's Rows, and what a row must be for the statements: their contracts. Condition: at most 1000000 values.
-/
import Derived.Test.YtimcmpcfnddioaaTr
namespace Go.Proofs.Ytimcmpcfnddioaa
open Go.RowKit

instance vDec : DecidableEq Cd.V := fun a b => decidable_of_iff (a.k = b.k ∧ a.n = b.n ∧ a.b = b.b ∧ a.s = b.s) (by
  cases a; cases b; simp)
theorem v_beq (a b : Cd.V) : (a.k == b.k && (a.n == b.n && ((a.b : Int) == (b.b : Int) && decide (a.s = b.s)))) = decide (a = b) := by
  rw [Bool.eq_iff_iff]
  cases a; cases b
  simp
  intros; omega
theorem take_eq_next {l r : List Cd.V} (h : l.length = r.length) (k : Nat) (hk : k < l.length) (h0 : l.take k = r.take k) : l.take (k + 1) = r.take (k + 1) ↔ l[k] = r[k]'(by omega) := by
  have e := take_next r k (by omega)
  rw [take_next l k hk, e, h0, List.append_cancel_left_eq]
  simp
theorem take_ne {l r : List Cd.V} (h : l.length = r.length) (k : Nat) (hk : k < l.length) (h0 : l[k] ≠ r[k]'(by omega)) : l ≠ r := by
  rintro rfl; exact h0 rfl

set_option maxRecDepth 100000 in
set_option maxHeartbeats 1600000 in
theorem rows_any (v1 v2 : Value) (l r : List Cd.V) (w : World) (h1 : VsAt w v1 l) (h2 : VsAt w v2 r) (hl : l.length ≤ 1000000) (hr : r.length ≤ 1000000) :
    Calls Try.prog 21 #[v1, v2] w fun e w' => e = .returned (.bool (decide (l = r))) ∧ Below w.heap.size w w' := by
  obtain ⟨adr, cap, rfl, hc⟩ := h1
  obtain ⟨adr2, cap2, rfl, hc2⟩ := h2
  have HC := hid hc
  have HC2 := hid hc2
  clear hc hc2
  by_cases hlen : l.length = r.length
  · have e1 : (((l.length : Int)) != (r.length : Int)) = false := by rw [bne_eq_false_iff_eq]; omega
    have HLEN := hid hlen
    have hlr : (r.length : Int) = (l.length : Int) := by omega
    have e2 : (((l.length : Int)) != (l.length : Int)) = false := by rw [bne_eq_false_iff_eq]
    rw [← hlen]
    clear hlr e1 hlen
    go_enter Try.func21, Try.ntmps21
    go_wp2_with fail
    go_loopw [5] (fun i wr => ∃ k : Nat, k ≤ l.length ∧ i = .int .i64 (k : Int) ∧ Hid (l.take k = r.take k) ∧ Below w.heap.size w wr) (fun i _ => l.length - (intOf i).toNat)
    case atStart => exact ⟨0, by omega, rfl, rfl, Below.refl _ _⟩
    case round =>
      obtain ⟨k, hk, rfl, htk, hbel⟩ := hrel
      obtain ⟨w4, rfl⟩ : ∃ w4 : World, w4 = wr := ⟨_, rfl⟩
      by_cases hlk : k < l.length
      · obtain ⟨g, off, rfl, q0, q1, q2, q3⟩ := HC.out k hlk
        obtain ⟨g2, off2, rfl, p0, p1, p2, p3⟩ := HC2.out k (by have := HLEN.out; omega)
        have HN := hid (take_eq_next HLEN.out k hlk htk.out)
        have HX := hid (take_ne HLEN.out k hlk)
        have hq := va_neq l[k].k l[k].n l[k].b l[k].s (r[k]'(by have := HLEN.out; omega)).k (r[k]'(by have := HLEN.out; omega)).n (r[k]'(by have := HLEN.out; omega)).b (r[k]'(by have := HLEN.out; omega)).s _ (v_beq _ _)
        generalize l[k] = x at q0 q1 q2 q3 HN HX hq
        generalize r[k]'(by have := HLEN.out; omega) = y at p0 p1 p2 p3 HN HX hq
        replace q0 := hkeep q0 hbel
        replace q1 := hkeep q1 hbel
        replace q2 := hkeep q2 hbel
        replace q3 := hkeep q3 hbel
        replace p0 := hkeep p0 hbel
        replace p1 := hkeep p1 hbel
        replace p2 := hkeep p2 hbel
        replace p3 := hkeep p3 hbel
        have hlk' : (k : Int) < l.length := by omega
        have hk0 : (0 : Int) ≤ (k : Int) := by omega
        unfold vv at hq
        by_cases hxy : x = y
        · have HT := hid (HN.out.2 hxy)
          rw [decide_eq_true hxy] at hq
          clear hxy
          go_wp2_with fail
          go_quiet (fail)
          go_wp2_with fail
          go_roundw
          case rel => exact ⟨k + 1, by omega, by go_num, HT, hdrewN hbel _⟩
          case measure => simp [intOf]; omega
        · have HNE := hid (HX.out hxy)
          rw [decide_eq_false hxy] at hq
          clear hxy
          go_wp2_with fail
          go_quiet (fail)
          go_wp2_with fail
          go_ret
          rw [decide_eq_false HNE.out]
          exact ⟨rfl, hdrewN hbel _⟩
      · obtain rfl : k = l.length := by omega
        have HE := hid (show l = r by have h := htk.out; rw [List.take_length, HLEN.out, List.take_length] at h; exact h)
        go_wp2_with fail
        go_ret
        rw [decide_eq_true HE.out]
        exact ⟨rfl, hbel⟩
  · have e1 : (((l.length : Int)) != (r.length : Int)) = true := by rw [bne_iff_ne]; omega
    have HE := hid (show l ≠ r by rintro rfl; exact hlen rfl)
    clear hlen
    go_enter Try.func21, Try.ntmps21
    go_wp2
    go_ret
    rw [decide_eq_false HE.out]
    exact ⟨rfl, Below.refl _ _⟩

end Go.Proofs.Ytimcmpcfnddioaa
