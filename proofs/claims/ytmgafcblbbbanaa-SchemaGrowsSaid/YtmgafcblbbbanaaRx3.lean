/-
  The reference's whole and text of a reader, and its Uint, Int, Text: their contracts. Condition: the text has at most 1000000000 bytes.
-/
import Derived.Test.YtmgafcblbbbanaaRx2
namespace Go.Proofs.Ytmgafcblbbbanaa
open Go.RowKit

/-- what a method of the reference's leaves, whatever was wrong before -/
def TopX {α : Type} (P : α → Value) (g : Nat) (s : ByteArray) (r : α × Nat × Int) (w : World) (e : Ending) (w' : World) : Prop :=
  e = .returned (P r.1) ∧ Upd g w w' ∧ Rfx w' g s r.2.1 r.2.2 ∧ r.2.1 ≤ s.size
theorem uintX_was (g : Nat) (s : ByteArray) (i : Nat) (er : Int) (w : World) (hr : Rfx w g s i er) (he : er ≠ 0) :
    Calls Try.prog 61 #[.pointer (some ⟨g, 0, none⟩)] w fun e w' => e = .returned (.int .u64 0) ∧ w = w' := by
  have h := hid (nextX_was g s i er w hr he)
  have hq : (er != 0) = true := by rw [bne_iff_ne]; exact he
  have c2 := hr.cells.2.2.1
  go_enter Try.func61, Try.ntmps61
  go_wp2_with fail
  go_loopw [3, 4, 5] (fun n sc k wr => n = .int .u64 0 ∧ sc = .int .u64 1 ∧ k = .int .i64 0 ∧ wr = w) (fun _ _ k _ => 10 - (intOf k).toNat)
  case atStart => exact ⟨rfl, rfl, rfl, rfl⟩
  case round =>
    obtain ⟨rfl, rfl, rfl, rfl⟩ := hrel
    go_wp2_with fail
    refine (h.out).mono ?_; rintro e w1 ⟨rfl, rfl⟩
    go_wp2_with fail
    go_ret
    exact ⟨rfl, rfl⟩
set_option maxRecDepth 100000 in
theorem mUintX (g : Nat) (s : ByteArray) (i : Nat) (er : Int) (w : World) (hr : Rfx w g s i er) (hi : i ≤ s.size) (hs : s.size ≤ 1000000000) :
    Calls Try.prog 53 #[.pointer (some ⟨g, 0, none⟩)] w (TopX (fun n : Nat => .int .u64 (n : Int)) g s (Cd.top 0 (Cd.uintR s.data.toList) i er) w) := by
  have c1 := hr.cells.2.1
  by_cases he : er = 0
  · subst he
    have h := hid (uintX_rd g s i w hr hi hs)
    cases hu : Cd.uintR s.data.toList i with
    | error x =>
      have HT := hid (top_err (z := 0) hu)
      have hx := Cd.uint_errs s i x hu
      have hend := hid (fun W j h => endX_no g s j i x W h (by omega))
      rw [hu] at h
      clear hu
      go_enter Try.func53, Try.ntmps53
      go_wp2_with fail
      refine (h.out).mono ?_; rintro e w1 ⟨y, rfl, hu, rfl, j, hR, hj⟩
      go_wp2_with fail
      refine (hend.out _ _ hR).mono ?_; rintro e w2 ⟨rfl, hu2, hR2⟩
      go_wp2_with fail
      go_ret
      rw [HT.out]
      exact ⟨rfl, hu.trans hu2, hR2, hi⟩
    | ok p =>
      obtain ⟨n, j⟩ := p
      have HT := hid (top_ok (z := 0) hu)
      have hend := hid (fun W h => endX_ok g s j i W h)
      rw [hu] at h
      clear hu
      go_enter Try.func53, Try.ntmps53
      go_wp2_with fail
      refine (h.out).mono ?_; rintro e w1 ⟨y, rfl, hu, rfl, hR, hj⟩
      go_wp2_with fail
      refine (hend.out _ hR).mono ?_; rintro e w2 ⟨rfl, rfl⟩
      go_wp2_with fail
      go_ret
      rw [HT.out]
      exact ⟨rfl, hu, hR, hj⟩
  · have h := hid (uintX_was g s i er w hr he)
    have HT := hid (top_was 0 (Cd.uintR s.data.toList) i he)
    have hend := hid (fun W h => endX_no g s i i er W h he)
    go_enter Try.func53, Try.ntmps53
    go_wp2_with fail
    refine (h.out).mono ?_; rintro e w1 ⟨rfl, rfl⟩
    go_wp2_with fail
    refine (hend.out _ hr).mono ?_; rintro e w2 ⟨rfl, hu2, hR2⟩
    go_wp2_with fail
    go_ret
    rw [HT.out]
    exact ⟨rfl, hu2, hR2, hi⟩
end Go.Proofs.Ytmgafcblbbbanaa
