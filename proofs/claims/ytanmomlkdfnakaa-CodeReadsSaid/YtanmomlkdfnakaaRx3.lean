/-
  The reference's whole and text of a reader, and its Uint, Int, Text: their contracts. Condition: the text has at most 1000000000 bytes.
-/
import Derived.Test.YtanmomlkdfnakaaRx2
namespace Go.Proofs.Ytanmomlkdfnakaa
open Go.RowKit

set_option maxRecDepth 100000 in
theorem wholeX_rd (g : Nat) (s : ByteArray) (i : Nat) (w : World) (hr : Rfx w g s i 0) (hi : i ≤ s.size) (hs : s.size ≤ 1000000000) :
    Calls Try.prog 50 #[.pointer (some ⟨g, 0, none⟩)] w (ToldX (fun n : Int => n = 0) (fun n : Int => .int .i64 n) g s (Cd.intR s.data.toList i) w) := by
  have h := hid (uintX_rd g s i w hr hi hs)
  cases hu : Cd.uintR s.data.toList i with
  | error x =>
    have HI : Hid (Cd.intR s.data.toList i = .error x) := by show _ = _; unfold Cd.intR; rw [hu]
    rw [hu] at h
    clear hu
    go_enter Try.func50, Try.ntmps50
    go_wp2_with fail
    refine (h.out).mono ?_; rintro e w1 ⟨y, rfl, hu, rfl, j, hR, hj⟩
    go_wp2_with fail
    go_ret
    exact ToldX.mk_err 0 rfl HI.out hu rfl hR hj
  | ok p =>
    obtain ⟨n, j⟩ := p
    have HI : Hid (Cd.intR s.data.toList i = .ok (Cd.unzig n, j)) := by show _ = _; unfold Cd.intR; rw [hu]
    have hn := (Cd.uint_inv hu).1
    rw [hu] at h
    clear hu
    by_cases h2 : n % 2 = 0
    · have e1 : ((n : Int) % 2 == 0) = true := by rw [beq_iff_eq]; omega
      have HZ : Hid (Cd.unzig n = ((n / 2 : Nat) : Int)) := by show _ = _; unfold Cd.unzig; rw [if_pos h2]
      go_enter Try.func50, Try.ntmps50
      go_wp2_with fail
      refine (h.out).mono ?_; rintro e w1 ⟨y, rfl, hu, rfl, hR, hj⟩
      go_wp2_with fail
      go_ret
      refine ToldX.mk_ok HI.out hu (ret_eq ?_) hR hj
      rw [HZ.out]
      first | (rw [IntKind.wrap_i64]; omega) | omega
    · have e1 : ((n : Int) % 2 == 0) = false := by rw [beq_eq_false_iff_ne]; omega
      have HZ : Hid (Cd.unzig n = -((n / 2 : Nat) : Int) - 1) := by show _ = _; unfold Cd.unzig; rw [if_neg h2]
      go_enter Try.func50, Try.ntmps50
      go_wp2_with fail
      refine (h.out).mono ?_; rintro e w1 ⟨y, rfl, hu, rfl, hR, hj⟩
      go_wp2_with fail
      go_ret
      refine ToldX.mk_ok HI.out hu (ret_eq ?_) hR hj
      rw [HZ.out]
      first | omega | (rw [IntKind.wrap_i64]; omega) | (rw [IntKind.wrap_i64, IntKind.wrap_i64]; omega) | (rw [IntKind.wrap_i64, IntKind.wrap_i64, IntKind.wrap_i64]; omega)
/-- what a method of the reference's leaves, whatever was wrong before -/
def TopX {α : Type} (P : α → Value) (g : Nat) (s : ByteArray) (r : α × Nat × Int) (w : World) (e : Ending) (w' : World) : Prop :=
  e = .returned (P r.1) ∧ Upd g w w' ∧ Rfx w' g s r.2.1 r.2.2 ∧ r.2.1 ≤ s.size
theorem uintX_was (g : Nat) (s : ByteArray) (i : Nat) (er : Int) (w : World) (hr : Rfx w g s i er) (he : er ≠ 0) :
    Calls Try.prog 46 #[.pointer (some ⟨g, 0, none⟩)] w fun e w' => e = .returned (.int .u64 0) ∧ w = w' := by
  have h := hid (nextX_was g s i er w hr he)
  have hq : (er != 0) = true := by rw [bne_iff_ne]; exact he
  have c2 := hr.cells.2.2.1
  go_enter Try.func46, Try.ntmps46
  go_wp2_with fail
  go_loopw [3, 4, 5] (fun n sc k wr => n = .int .u64 0 ∧ sc = .int .u64 1 ∧ k = .int .i64 0 ∧ wr = w) (fun _ _ k _ => 10 - (intOf k).toNat)
  case atStart => exact ⟨rfl, rfl, rfl, rfl⟩
  case round =>
    obtain ⟨rfl, rfl, rfl, rfl⟩ := hrel
    go_wp2_with fail
    refine (h.out).mono ?_; rintro e w1 ⟨rfl, rfl⟩
    go_wp2_with fail
    go_ret
    exact ⟨rfl, rfl⟩
theorem wholeX_was (g : Nat) (s : ByteArray) (i : Nat) (er : Int) (w : World) (hr : Rfx w g s i er) (he : er ≠ 0) :
    Calls Try.prog 50 #[.pointer (some ⟨g, 0, none⟩)] w fun e w' => e = .returned (.int .i64 0) ∧ w = w' := by
  have h := hid (uintX_was g s i er w hr he)
  go_enter Try.func50, Try.ntmps50
  go_wp2_with fail
  refine (h.out).mono ?_; rintro e w1 ⟨rfl, rfl⟩
  go_wp2_with fail
  go_ret
  exact ⟨rfl, rfl⟩
set_option maxRecDepth 100000 in
theorem mUintX (g : Nat) (s : ByteArray) (i : Nat) (er : Int) (w : World) (hr : Rfx w g s i er) (hi : i ≤ s.size) (hs : s.size ≤ 1000000000) :
    Calls Try.prog 26 #[.pointer (some ⟨g, 0, none⟩)] w (TopX (fun n : Nat => .int .u64 (n : Int)) g s (Cd.top 0 (Cd.uintR s.data.toList) i er) w) := by
  have c1 := hr.cells.2.1
  by_cases he : er = 0
  · subst he
    have h := hid (uintX_rd g s i w hr hi hs)
    cases hu : Cd.uintR s.data.toList i with
    | error x =>
      have HT := hid (top_err (z := 0) hu)
      have hx := Cd.uint_errs s i x hu
      have hend := hid (fun W j h => endX_no g s j i x W h (by omega))
      rw [hu] at h
      clear hu
      go_enter Try.func26, Try.ntmps26
      go_wp2_with fail
      refine (h.out).mono ?_; rintro e w1 ⟨y, rfl, hu, rfl, j, hR, hj⟩
      go_wp2_with fail
      refine (hend.out _ _ hR).mono ?_; rintro e w2 ⟨rfl, hu2, hR2⟩
      go_wp2_with fail
      go_ret
      rw [HT.out]
      exact ⟨rfl, hu.trans hu2, hR2, hi⟩
    | ok p =>
      obtain ⟨n, j⟩ := p
      have HT := hid (top_ok (z := 0) hu)
      have hend := hid (fun W h => endX_ok g s j i W h)
      rw [hu] at h
      clear hu
      go_enter Try.func26, Try.ntmps26
      go_wp2_with fail
      refine (h.out).mono ?_; rintro e w1 ⟨y, rfl, hu, rfl, hR, hj⟩
      go_wp2_with fail
      refine (hend.out _ hR).mono ?_; rintro e w2 ⟨rfl, rfl⟩
      go_wp2_with fail
      go_ret
      rw [HT.out]
      exact ⟨rfl, hu, hR, hj⟩
  · have h := hid (uintX_was g s i er w hr he)
    have HT := hid (top_was 0 (Cd.uintR s.data.toList) i he)
    have hend := hid (fun W h => endX_no g s i i er W h he)
    go_enter Try.func26, Try.ntmps26
    go_wp2_with fail
    refine (h.out).mono ?_; rintro e w1 ⟨rfl, rfl⟩
    go_wp2_with fail
    refine (hend.out _ hr).mono ?_; rintro e w2 ⟨rfl, hu2, hR2⟩
    go_wp2_with fail
    go_ret
    rw [HT.out]
    exact ⟨rfl, hu2, hR2, hi⟩
set_option maxRecDepth 100000 in
theorem mIntX (g : Nat) (s : ByteArray) (i : Nat) (er : Int) (w : World) (hr : Rfx w g s i er) (hi : i ≤ s.size) (hs : s.size ≤ 1000000000) :
    Calls Try.prog 28 #[.pointer (some ⟨g, 0, none⟩)] w (TopX (fun n : Int => .int .i64 n) g s (Cd.top 0 (Cd.intR s.data.toList) i er) w) := by
  have c1 := hr.cells.2.1
  by_cases he : er = 0
  · subst he
    have h := hid (wholeX_rd g s i w hr hi hs)
    cases hu : Cd.intR s.data.toList i with
    | error x =>
      have HT := hid (top_err (z := (0 : Int)) hu)
      have hx := Cd.int_errs s i x hu
      have hend := hid (fun W j h => endX_no g s j i x W h (by omega))
      rw [hu] at h
      clear hu
      go_enter Try.func28, Try.ntmps28
      go_wp2_with fail
      refine (h.out).mono ?_; rintro e w1 ⟨y, rfl, hu, rfl, j, hR, hj⟩
      go_wp2_with fail
      refine (hend.out _ _ hR).mono ?_; rintro e w2 ⟨rfl, hu2, hR2⟩
      go_wp2_with fail
      go_ret
      rw [HT.out]
      exact ⟨rfl, hu.trans hu2, hR2, hi⟩
    | ok p =>
      obtain ⟨n, j⟩ := p
      have HT := hid (top_ok (z := (0 : Int)) hu)
      have hend := hid (fun W h => endX_ok g s j i W h)
      rw [hu] at h
      clear hu
      go_enter Try.func28, Try.ntmps28
      go_wp2_with fail
      refine (h.out).mono ?_; rintro e w1 ⟨y, rfl, hu, rfl, hR, hj⟩
      go_wp2_with fail
      refine (hend.out _ hR).mono ?_; rintro e w2 ⟨rfl, rfl⟩
      go_wp2_with fail
      go_ret
      rw [HT.out]
      exact ⟨rfl, hu, hR, hj⟩
  · have h := hid (wholeX_was g s i er w hr he)
    have HT := hid (top_was (0 : Int) (Cd.intR s.data.toList) i he)
    have hend := hid (fun W h => endX_no g s i i er W h he)
    go_enter Try.func28, Try.ntmps28
    go_wp2_with fail
    refine (h.out).mono ?_; rintro e w1 ⟨rfl, rfl⟩
    go_wp2_with fail
    refine (hend.out _ hr).mono ?_; rintro e w2 ⟨rfl, hu2, hR2⟩
    go_wp2_with fail
    go_ret
    rw [HT.out]
    exact ⟨rfl, hu2, hR2, hi⟩
end Go.Proofs.Ytanmomlkdfnakaa
