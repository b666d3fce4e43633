/-
  End, whole, Same of conditions: their contracts. Condition: at most 1000000 nodes.
-/
import Derived.Test.YtfdehigepgeknaaPe
namespace Go.Proofs.Ytfdehigepgeknaa
open Go.RowKit Pd

namespace Pd
/-- the place behind so many conditions -/
def endK (l : List N) (k : Nat) (j : Int) : Int := if k = 0 then j else if j < 0 then -1 else match ends k (l.drop j.toNat) with | some n => j + (n : Int) | none => -1
theorem endK_one (l : List N) (i : Int) : endI l i = endK l 1 i := rfl
theorem endK_neg {l : List N} {k : Nat} {j : Int} (h : j < 0) : endK l (k + 1) j = -1 := by unfold endK; rw [if_neg (by omega), if_pos h]
theorem endK_far {l : List N} {k : Nat} {j : Int} (h : (l.length : Int) ≤ j) : endK l (k + 1) j = -1 := by
  unfold endK
  rw [if_neg (by omega), if_neg (by omega), List.drop_of_length_le (by omega)]; rfl
theorem endK_bad {l : List N} {k j : Nat} (h : j < l.length) (hp : parts l[j].op < 0) : endK l (k + 1) (j : Int) = -1 := by
  unfold endK
  rw [if_neg (by omega), if_neg (by omega), Int.toNat_natCast, List.drop_eq_getElem_cons h]
  unfold ends
  rw [if_pos hp]
theorem ends_zero (l : List N) : ends 0 l = some 0 := by cases l <;> rfl
theorem endK_next {l : List N} {k j p : Nat} (h : j < l.length) (hp : parts l[j].op = (p : Int)) : endK l (k + 1) (j : Int) = endK l (k + p) ((j + 1 : Nat) : Int) := by
  unfold endK
  rw [if_neg (by omega), if_neg (by omega), Int.toNat_natCast, List.drop_eq_getElem_cons h]
  have e : ends (k + 1) (l[j] :: l.drop (j + 1)) = (ends (k + p) (l.drop (j + 1))).map (· + 1) := by
    rw [ends, if_neg (by omega), hp, Int.toNat_natCast]
  rw [e]
  by_cases hk : k + p = 0
  · rw [if_pos hk, hk, ends_zero]
    show (match (some 0).map (· + 1) with | some n => (j : Int) + (n : Int) | none => -1) = _
    show (j : Int) + ((0 + 1 : Nat) : Int) = _
    omega
  · rw [if_neg hk, if_neg (by omega), Int.toNat_natCast]
    cases ends (k + p) (l.drop (j + 1)) with
    | none => rfl
    | some n => show (j : Int) + ((n + 1 : Nat) : Int) = ((j + 1 : Nat) : Int) + (n : Int); omega
end Pd
set_option maxRecDepth 100000 in
set_option maxHeartbeats 3200000 in
theorem end_any (v : Value) (l : List N) (i : Int) (w : World) (hv : NsAt w v l) (hl : l.length ≤ 1000000) (hi : i ≤ 9223372036854775807) : Calls Try.prog 19 #[v, .int .i64 i] w fun e w' => e = .returned (.int .i64 (endI l i)) ∧ w = w' := by
  obtain ⟨adr, cap, rfl, hc⟩ := hv
  have HC := hid hc
  clear hc
  have HE0 := hid (endK_one l i)
  go_enter Try.func19, Try.ntmps19
  go_wp2_with fail
  go_loopw [5, 1] (fun kv jv wr => ∃ (k : Nat) (j : Int), kv = .int .i64 (k : Int) ∧ jv = .int .i64 j ∧ Hid (endI l i = endK l k j) ∧ Hid (k ≤ 1 ∨ (0 ≤ j ∧ (k : Int) ≤ j + 1)) ∧ Hid (j ≤ 9223372036854775807) ∧ wr = w) (fun _ jv _ => l.length - (intOf jv).toNat)
  case atStart => exact ⟨1, i, rfl, rfl, HE0.out, .inl (Nat.le_refl _), hi, rfl⟩
  case round =>
    obtain ⟨k, j, rfl, rfl, hE, hB, hJ, rfl⟩ := hrel
    cases k with
    | zero =>
      have HR : Hid (endI l i = j) := hE.out.trans (if_pos rfl)
      clear hE
      go_wp2_with fail
      go_ret
      rw [HR.out]
      exact ⟨rfl, rfl⟩
    | succ k =>
      have hk0 : (0 : Int) < ((k + 1 : Nat) : Int) := by omega
      obtain ⟨K, hK⟩ : ∃ K : Int, ((k + 1 : Nat) : Int) = K := ⟨_, rfl⟩
      rw [hK] at hk0 ⊢
      by_cases h1 : j < 0
      · have HR : Hid (endI l i = -1) := hE.out.trans (endK_neg h1)
        clear hE
        go_wp2_with fail
        go_ret
        rw [HR.out]
        exact ⟨rfl, rfl⟩
      · by_cases h2 : (l.length : Int) ≤ j
        · have HR : Hid (endI l i = -1) := hE.out.trans (endK_far h2)
          clear hE
          go_wp2_with fail
          go_ret
          rw [HR.out]
          exact ⟨rfl, rfl⟩
        · obtain ⟨m, rfl⟩ : ∃ m : Nat, j = (m : Int) := ⟨j.toNat, by omega⟩
          have hm : m < l.length := by omega
          have hm' : (m : Int) < (l.length : Int) := by omega
          have hm0 : (0 : Int) ≤ (m : Int) := by omega
          clear h1
          obtain ⟨g, off, rfl, q0, _, _, _, _, _⟩ := HC.out m hm
          have HX := hid (endK_bad (k := k) hm)
          have HN := hid (fun p => endK_next (k := k) (p := p) hm)
          generalize l[m].op = op at q0 HX HN
          have cp := hid (fun W => parts_any op W)
          rcases parts_cases op with ⟨hp, _⟩ | hp
          · have HR : Hid (endI l i = -1) := hE.out.trans (HX.out (by omega))
            rw [hp] at cp
            clear hE HX HN
            go_wp2_with fail
            refine (cp.out _).mono ?_; rintro e w1 ⟨rfl, rfl⟩
            go_wp2_with fail
            go_ret
            rw [HR.out]
            exact ⟨rfl, rfl⟩
          · obtain ⟨p, hpp, hp2⟩ : ∃ p : Nat, parts op = (p : Int) ∧ p ≤ 2 := by
              rcases hp with ⟨h, _⟩ | ⟨h, _⟩ | ⟨h, _⟩
              · exact ⟨0, h, by omega⟩
              · exact ⟨2, h, by omega⟩
              · exact ⟨1, h, by omega⟩
            have HR := hid (hE.out.trans (HN.out p hpp))
            rw [hpp] at cp
            have hne : ((p : Int) == -1) = false := by rw [beq_eq_false_iff_ne]; omega
            have hkb : (k : Int) ≤ 1000000 := by have := hB.out; omega
            have w1 : IntKind.i64.wrap (K + (p : Int)) = K + (p : Int) := by rw [IntKind.wrap_i64]; omega
            have w2 : IntKind.i64.wrap (K + (p : Int) - 1) = ((k + p : Nat) : Int) := by rw [IntKind.wrap_i64]; omega
            have hB2 : Hid (k + p ≤ 1 ∨ (0 ≤ ((m + 1 : Nat) : Int) ∧ ((k + p : Nat) : Int) ≤ ((m + 1 : Nat) : Int) + 1)) := by have := hB.out; show _ ∨ _; omega
            have hKb : K ≤ 1000001 := by omega
            have hp2' : (p : Int) ≤ 2 := by omega
            clear hE HX HN hp hB
            go_wp2_with fail
            refine (cp.out _).mono ?_; rintro e w1 ⟨rfl, rfl⟩
            go_wp2_with fail
            refine (cp.out _).mono ?_; rintro e w1 ⟨rfl, rfl⟩
            go_wp2_with fail
            go_roundw
            case rel => exact ⟨k + p, ((m + 1 : Nat) : Int), by first | rfl | go_num | (congr 1; omega), by first | rfl | go_num, HR.out, hB2.out, by show _ ≤ _; omega, trivial⟩
            case measure => simp [intOf]; omega
set_option maxRecDepth 100000 in
set_option maxHeartbeats 3200000 in
theorem whole_any (v : Value) (l : List N) (w : World) (hv : NsAt w v l) (hl : l.length ≤ 1000000) : Calls Try.prog 22 #[v] w fun e w' => e = .returned (.bool (whole l)) ∧ w = w' := by
  have ce := hid (end_any v l 0 w hv hl (by decide))
  obtain ⟨adr, cap, rfl⟩ := hv.slc
  clear hv
  by_cases h1 : 0 < l.length
  · have h1' : (0 : Int) < (l.length : Int) := by omega
    by_cases h2 : l.length ≤ 40
    · have h2' : (l.length : Int) ≤ 40 := by omega
      have HE : Hid (whole l = decide (endI l 0 = (l.length : Int))) := by
        show _ = _
        unfold whole
        rw [decide_eq_true h1, decide_eq_true h2, Bool.true_and, Bool.true_and, decide_eq_decide]
        unfold endI
        rw [if_neg (by omega), show (0 : Int).toNat = 0 from rfl, List.drop_zero]
        cases ends 1 l with
        | none => constructor
                  · intro h; cases h
                  · intro h; exact absurd h (by show ¬ (-1 : Int) = _; omega)
        | some n => constructor
                    · intro h; cases h; show (0 : Int) + (l.length : Int) = _; omega
                    · intro h
                      have h' : (0 : Int) + (n : Int) = (l.length : Int) := h
                      rw [show n = l.length by omega]
      generalize endI l 0 = z at ce HE
      have hb : (z == (l.length : Int)) = decide (z = (l.length : Int)) := by rw [Bool.eq_iff_iff]; simp
      generalize decide (z = (l.length : Int)) = r at hb HE
      go_enter Try.func22, Try.ntmps22
      go_wp2_with fail
      refine ce.out.mono ?_; rintro e w1 ⟨rfl, rfl⟩
      go_wp2_with fail
      go_ret
      rw [HE.out]
      exact ⟨rfl, rfl⟩
    · have h2' : ¬ (l.length : Int) ≤ 40 := by omega
      have HE : Hid (whole l = false) := by show _ = _; unfold whole; rw [decide_eq_false h2, Bool.false_and, Bool.and_false]
      go_enter Try.func22, Try.ntmps22
      go_wp2_with fail
      go_ret
      rw [HE.out]
      exact ⟨rfl, rfl⟩
  · have h1' : ¬ (0 : Int) < (l.length : Int) := by omega
    have HE : Hid (whole l = false) := by show _ = _; unfold whole; rw [decide_eq_false h1, Bool.false_and]
    go_enter Try.func22, Try.ntmps22
    go_wp2_with fail
    go_ret
    rw [HE.out]
    exact ⟨rfl, rfl⟩
end Go.Proofs.Ytfdehigepgeknaa
