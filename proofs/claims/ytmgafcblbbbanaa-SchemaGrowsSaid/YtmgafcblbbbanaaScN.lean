/-
  Name of schema, and the reference's: their contracts. Condition: the text has at most 2^63 - 1 bytes.
-/
import Derived.Test.YtmgafcblbbbanaaSc
import Derived.Test.YtmgafcblbbbanaaReg
import Derived.Test.YtmgafcblbbbanaaMe
import Derived.Laws.RangeAny
namespace Go.Proofs.Ytmgafcblbbbanaa
open Go.RowKit

/-- where a byte lies, of those that a name asks for -/
theorem okAt_cases (i c : Nat) : (Sc.okAt i c = true ∧ ((97 ≤ c ∧ c ≤ 122) ∨ c = 95 ∨ (48 ≤ c ∧ c ≤ 57 ∧ i ≠ 0))) ∨
    (Sc.okAt i c = false ∧ (c < 48 ∨ (57 < c ∧ c < 95) ∨ c = 96 ∨ 122 < c ∨ (48 ≤ c ∧ c ≤ 57 ∧ i = 0))) := by
  unfold Sc.okAt Sc.letter Sc.digit
  by_cases h1 : 97 ≤ c ∧ c ≤ 122
  · exact .inl ⟨by simp [h1], .inl h1⟩
  by_cases h2 : c = 95
  · exact .inl ⟨by simp [h2], .inr (.inl h2)⟩
  by_cases h3 : 48 ≤ c ∧ c ≤ 57
  · by_cases h4 : i = 0
    · exact .inr ⟨by simp [h1, h2, h4], .inr (.inr (.inr (.inr ⟨h3.1, h3.2, h4⟩)))⟩
    · exact .inl ⟨by simp [h3, h4], .inr (.inr ⟨h3.1, h3.2, h4⟩)⟩
  · exact .inr ⟨by simp [h1, h2, h3], by omega⟩
theorem below_iter (w : World) (s : ByteArray) (p : Nat) : Below w.heap.size w (w.iter s p) := hba w _

set_option maxRecDepth 100000 in
set_option maxHeartbeats 3200000 in
theorem name_any (s : ByteArray) (hs : s.size ≤ maxLen) (w : World) : Calls Try.prog 13 #[.string s] w fun e w' => e = .returned (.bool (Sc.nameB s)) ∧ Below w.heap.size w w' := by
  unfold maxLen at hs
  go_enter Try.func13, Try.ntmps13
  go_wp2_with fail
  go_loopw [3, 4, 5, 6] (fun a b c d wr => ∃ p : Nat, p ≤ s.size ∧ wr = w.iter s p ∧ Hid (Sc.nameTo s p = true)) (fun _ _ _ _ wr => s.size - wr.iterPos w.heap.size)
  case atStart => exact ⟨0, by omega, rfl, rfl⟩
  case round =>
    obtain ⟨p, hp, rfl, hN⟩ := hrel
    by_cases hlt : p < s.size
    · have hp0 : (0 : Int) ≤ (p : Int) := by omega
      by_cases ha : s[p].toNat < 128
      · have hnx : ∀ ty, (Instr.next (.pointer (some ⟨w.heap.size, 0, none⟩)) true ty).run Try.prog (w.iter s p) = _ := fun ty => run_next_ascii w s p ty hlt ha
        have hno : Hid (Sc.okAt p s[p].toNat = false → Sc.nameB s = false) := Sc.name_no hlt
        have hyes : Hid (Sc.okAt p s[p].toNat = true → Sc.nameTo s (p + 1) = true) := fun h => by rw [Sc.nameTo_succ s p hlt, hN.out, h]; rfl
        have hcc := okAt_cases p s[p].toNat
        generalize s[p].toNat = c at hnx hno hyes hcc ha
        rcases hcc with ⟨hok, hcs⟩ | ⟨hok, hcs⟩
        · have HT := hid (hyes.out hok)
          clear hok hno hyes hN
          have fin : p + 1 ≤ s.size := hlt
          rcases hcs with h1 | h1 | h1
          · have h2 : (97 : Int) ≤ (c : Int) := by omega
            have h3 : (c : Int) ≤ 122 := by omega
            go_wp2_with fail
            go_roundw
            case rel => exact ⟨p + 1, fin, rfl, HT⟩
            case measure => simp; omega
          · subst h1
            go_wp2_with fail
            go_roundw
            case rel => exact ⟨p + 1, fin, rfl, HT⟩
            case measure => simp; omega
          · have h2 : (48 : Int) ≤ (c : Int) := by omega
            have h3 : (c : Int) ≤ 57 := by omega
            have h4 : ((c : Int) == 95) = false := by rw [beq_eq_false_iff_ne]; omega
            have h5 : ((p : Int) == 0) = false := by rw [beq_eq_false_iff_ne]; omega
            go_wp2_with fail
            go_roundw
            case rel => exact ⟨p + 1, fin, rfl, HT⟩
            case measure => simp; omega
        · have HF := hid (hno.out hok)
          clear hok hno hyes hN
          have h4 : ((c : Int) == 95) = false := by rw [beq_eq_false_iff_ne]; omega
          rcases hcs with h1 | h1 | h1 | h1 | h1
          · have h2 : (c : Int) < 48 := by omega
            go_wp2_with fail
            go_ret
            rw [HF.out]
            exact ⟨rfl, below_iter _ _ _⟩
          · have h2 : (57 : Int) < (c : Int) := by omega
            have h3 : (c : Int) < 95 := by omega
            go_wp2_with fail
            go_ret
            rw [HF.out]
            exact ⟨rfl, below_iter _ _ _⟩
          · subst h1
            go_wp2_with fail
            go_ret
            rw [HF.out]
            exact ⟨rfl, below_iter _ _ _⟩
          · have h2 : (122 : Int) < (c : Int) := by omega
            have h6 : decide ((c : Int) ≤ 122) = false := decide_eq_false (by omega)
            go_wp2_with fail
            go_ret
            rw [HF.out]
            exact ⟨rfl, below_iter _ _ _⟩
          · obtain ⟨h1, h2, rfl⟩ := h1
            have h3 : (48 : Int) ≤ (c : Int) := by omega
            have h5 : (c : Int) ≤ 57 := by omega
            go_wp2_with fail
            go_ret
            rw [HF.out]
            exact ⟨rfl, below_iter _ _ _⟩
      · have hd := decode_high s p hlt (by omega)
        have hnx : ∀ ty, (Instr.next (.pointer (some ⟨w.heap.size, 0, none⟩)) true ty).run Try.prog (w.iter s p) = _ := fun ty => run_next_any w s p ty hlt
        have HF : Hid (Sc.nameB s = false) := Sc.name_no hlt (by
          rcases okAt_cases p s[p].toNat with ⟨_, h⟩ | ⟨h, _⟩
          · omega
          · exact h)
        generalize (Utf8.decode s p).1 = c at hnx hd
        generalize (Utf8.decode s p).2 = q at hnx hd
        have h1 : (128 : Int) ≤ (c : Int) := by omega
        have h6 : decide ((c : Int) ≤ 122) = false := decide_eq_false (by omega)
        have h4 : ((c : Int) == 95) = false := by rw [beq_eq_false_iff_ne]; omega
        clear hd ha hN
        go_wp2_with fail
        go_ret
        rw [HF.out]
        exact ⟨rfl, below_iter _ _ _⟩
    · obtain rfl : p = s.size := by omega
      have hnx : ∀ ty, (Instr.next (.pointer (some ⟨w.heap.size, 0, none⟩)) true ty).run Try.prog (w.iter s s.size) = _ := fun ty => run_next_end w s s.size ty hlt
      have HE := hid (Sc.name_end hN.out)
      clear hN hp
      by_cases h0 : s.size = 0
      · have h1 : s.toList = [] := by rw [ByteArray.toList_eq]; exact List.eq_nil_of_length_eq_zero (by simpa using h0)
        have h2 : s.toList.isEmpty = true := by rw [h1]; rfl
        have HE2 : Hid (Sc.nameB s = false) := by show _ = _; rw [HE.out, h0]; rfl
        clear h0 h1
        go_wp2_with fail
        go_ret
        rw [HE2.out]
        exact ⟨rfl, below_iter _ _ _⟩
      · have h2 : s.toList.isEmpty = false := by
          rw [ByteArray.toList_eq]
          cases e : s.data.toList with
          | nil => exact absurd (by have := congrArg List.length e; simpa using this) h0
          | cons a l => rfl
        have HE2 : Hid (Sc.nameB s = decide ((s.size : Int) ≤ 32)) := by show _ = _; rw [HE.out, decide_eq_true (show 1 ≤ s.size by omega), Bool.true_and, Bool.eq_iff_iff]; simp only [decide_eq_true_eq]; omega
        clear h0
        go_wp2_with fail
        all_goals
          go_ret
          rw [HE2.out]
          first | exact ⟨rfl, below_iter _ _ _⟩ | exact ⟨by rw [decide_eq_true (by omega)], below_iter _ _ _⟩ | exact ⟨by rw [decide_eq_false (by omega)], below_iter _ _ _⟩
end Go.Proofs.Ytmgafcblbbbanaa
