/-
  code's int and text of a reader: their contracts. Condition: the text has at most 1000000000 bytes.
-/
import Derived.Test.YtmgafcblbbbanaaRd
namespace Go.Proofs.Ytmgafcblbbbanaa
open Go.RowKit

theorem uintF_lt (l : List UInt8) (f : Nat) : ∀ k n i m j, k + f = 9 → n < 128 ^ k → Cd.uintF l (f + 1) k n i = .ok (m, j) → m < 18446744073709551616 := by
  induction f with
  | zero =>
    intro k n i m j hk hn h
    by_cases hi : i < l.length
    · rw [uintF_next l 0 k n i hi] at h
      generalize l[i].toNat = c at h
      split at h
      · cases h
      · rename_i hb
        rw [if_pos (by omega)] at h
        have e : n + c * 128 ^ k = m := by simpa using congrArg (fun r : Cd.R Nat => match r with | .ok x => x.1 | .error _ => 0) h
        obtain rfl : k = 9 := by omega
        have h9 : (128 : Nat) ^ 9 = 9223372036854775808 := by decide
        rw [h9] at hn e
        have : c ≤ 1 := by omega
        omega
    · rw [uintF_end l 0 k n i (by omega)] at h
      cases h
  | succ f ih =>
    intro k n i m j hk hn h
    by_cases hi : i < l.length
    · rw [uintF_next l (f + 1) k n i hi] at h
      have hc := l[i].toNat_lt
      generalize l[i].toNat = c at h hc
      split at h
      · cases h
      · rename_i hb
        split at h
        · rename_i h1
          have e : n + c * 128 ^ k = m := by simpa using congrArg (fun r : Cd.R Nat => match r with | .ok x => x.1 | .error _ => 0) h
          have hp : 128 ^ (k + 1) ≤ 128 ^ 9 := Nat.pow_le_pow_right (by decide) (by omega)
          have h9 : (128 : Nat) ^ 9 = 9223372036854775808 := by decide
          rw [Nat.pow_succ, h9] at hp
          generalize 128 ^ k = p at hn e hp
          have h2 : c * p ≤ 127 * p := Nat.mul_le_mul_right p (by omega)
          omega
        · refine ih (k + 1) _ _ m j (by omega) ?_ h
          rw [Nat.pow_succ]
          generalize 128 ^ k = p at hn
          have h2 : c % 128 * p ≤ 127 * p := Nat.mul_le_mul_right p (by omega)
          omega
    · rw [uintF_end l (f + 1) k n i (by omega)] at h
      cases h
theorem uintR_lt {l : List UInt8} {i m j : Nat} (h : Cd.uintR l i = .ok (m, j)) : m < 18446744073709551616 := uintF_lt l 9 0 0 i m j rfl (by decide) h

set_option maxRecDepth 100000 in
set_option maxHeartbeats 1600000 in
theorem text_rd (most : Nat) (hm : most ≤ 1000000) (g : Nat) (s : ByteArray) (i : Nat) (er : Int) (w : World) (hr : Rdr w g s i er) (hi : i ≤ s.size) (hs : s.size ≤ 1000000000) :
    Calls Try.prog 48 #[.pointer (some ⟨g, 0, none⟩), .int .u64 (most : Int)] w (Told (fun t : ByteArray => .string t) g s er (Cd.textR s most i) w) := by
  have h := hid (uint_rd g s i er w hr hi hs)
  have hI : Hid (Cd.textR s most i = match Cd.uintR s.data.toList i with | .error e => .error e | .ok (n, j) => if most < n then .error 19 else if s.size < j + n then .error 8 else .ok (s.extract j (j + n), j + n)) := rfl
  cases hres : Cd.uintR s.data.toList i with
  | error x =>
    rw [hres] at h hI
    have hE : Hid (Cd.textR s most i = .error x) := hI
    clear hI hr
    go_enter Try.func48, Try.ntmps48
    go_wp2_with fail
    refine (h.out).mono ?_; rintro e w1 ⟨hu, rfl, j, hR, hj⟩
    go_wp2_with fail
    exact ⟨rfl, Told.mk_err hE.out hu rfl hR hj⟩
  | ok p =>
    obtain ⟨n, j⟩ := p
    have hlt := uintR_lt hres
    rw [hres] at h hI
    have hI2 : Hid (Cd.textR s most i = if most < n then .error 19 else if s.size < j + n then .error 8 else .ok (s.extract j (j + n), j + n)) := hI
    clear hI hr
    by_cases h1 : most < n
    · have hE : Hid (Cd.textR s most i = .error 19) := by show _ = _; rw [hI2.out, if_pos h1]
      have h1' : (most : Int) < (n : Int) := by omega
      go_enter Try.func48, Try.ntmps48
      go_wp2_with fail
      refine (h.out).mono ?_; rintro e w1 ⟨hu, rfl, hR, hj⟩
      go_wp2_with fail
      exact ⟨rfl, Told.mk_err hE.out hu rfl hR hj⟩
    · have h1' : ¬ (most : Int) < (n : Int) := by omega
      have hE0 := hid (show Cd.textR s most i = if s.size < j + n then .error 8 else .ok (s.extract j (j + n), j + n) by rw [hI2.out, if_neg h1])
      clear hI2
      go_enter Try.func48, Try.ntmps48
      go_wp2_with fail
      refine (h.out).mono ?_; rintro e w1 ⟨hu, rfl, hR, hj⟩
      obtain ⟨d, hd⟩ : ∃ d : Nat, s.size - j = d := ⟨_, rfl⟩
      obtain ⟨c0, c1, c2, f1, f2, hg⟩ := hR.cells
      have hw1 : IntKind.i64.wrap ((s.size : Int) - (j : Int)) = (d : Int) := by rw [IntKind.wrap_i64]; omega
      have hw2 : IntKind.u64.wrap (d : Int) = (d : Int) := by rw [IntKind.wrap_u64]; omega
      have HU := hid hu
      have HR := hid hR
      clear hu hR h
      by_cases h2 : s.size < j + n
      · have hE : Hid (Cd.textR s most i = .error 8) := by show _ = _; rw [hE0.out, if_pos h2]
        have h2' : decide ((d : Int) < (n : Int)) = true := by simp; omega
        go_wp2_with fail
        go_quiet (fail)
        go_wp2_with fail
        exact ⟨rfl, Told.mk_err hE.out (HU.out.trans (Upd.of (hdrewN (Below.refl _ _) nq))) rfl HR.out hj⟩
      · have hE : Hid (Cd.textR s most i = .ok (s.extract j (j + n), j + n)) := by show _ = _; rw [hE0.out, if_neg h2]
        have h2' : decide ((d : Int) < (n : Int)) = false := by simp; omega
        go_wp2_with fail
        go_quiet (fail)
        go_wp2_with fail
        have hr3 : Rdr ((w1.drewN nq).setCell ⟨g, 1, none⟩ (.int .i64 ((j : Int) + (n : Int)))) g s (j + n) er := Rdr.setAt (w := w1.drewN nq) HR.out _
        have hu3 : Upd g w ((w1.drewN nq).setCell ⟨g, 1, none⟩ (.int .i64 ((j : Int) + (n : Int)))) := HU.out.trans ((Upd.of (hdrewN (Below.refl _ _) nq)).trans (Upd.set g 1 _ _))
        generalize (w1.drewN nq).setCell ⟨g, 1, none⟩ (.int .i64 ((j : Int) + (n : Int))) = w3 at *
        clear c0 c1 c2 f1 f2 hw1 hw2 h2'
        have c0 := hr3.cells.1
        have c1 : w3.cell? ⟨g, 1, none⟩ = some (.int .i64 ((j : Int) + (n : Int))) := hr3.cells.2.1
        have hw3 : IntKind.i64.wrap (n : Int) = (n : Int) := IntWalk.i64_in _ (by omega)
        have hw4 : (j : Int) + (n : Int) - (n : Int) = (j : Int) := by omega
        have hw5 : IntKind.i64.wrap (j : Int) = (j : Int) := IntWalk.i64_in _ (by omega)
        have hw6 : IntKind.i64.wrap ((j : Int) + (n : Int) - (n : Int)) = (j : Int) := by rw [hw4]; exact hw5
        have hw7 : ((j : Int) + (n : Int)).toNat = j + n := by omega
        have hi0 : (0 : Int) ≤ (j : Int) := by omega
        have hi1 : (j : Int) ≤ (j : Int) + (n : Int) := by omega
        have hi2 : (j : Int) + (n : Int) ≤ (s.size : Int) := by omega
        have hR3 := hid hr3
        have hU3 := hid hu3
        clear hr3 hu3 HR HU
        go_quiet (fail)
        go_wp2_with fail
        go_ret
        exact Told.mk_ok hE.out (hU3.out.trans (Upd.of (hdrewN (Below.refl _ _) _))) rfl hR3.out (by omega)
end Go.Proofs.Ytmgafcblbbbanaa
