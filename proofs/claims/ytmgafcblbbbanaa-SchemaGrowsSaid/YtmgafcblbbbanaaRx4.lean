/-
  The reference's text of a reader, and its Text: their contracts. Condition: the text has at most 1000000000 bytes.
-/
import Derived.Test.YtmgafcblbbbanaaRx3
namespace Go.Proofs.Ytmgafcblbbbanaa
open Go.RowKit

set_option maxRecDepth 100000 in
set_option maxHeartbeats 800000 in
theorem textX_rd (most : Nat) (hm : most ≤ 1000000) (g : Nat) (s : ByteArray) (i : Nat) (w : World) (hr : Rfx w g s i 0) (hi : i ≤ s.size) (hs : s.size ≤ 1000000000) :
    Calls Try.prog 59 #[.pointer (some ⟨g, 0, none⟩), .int .u64 (most : Int)] w (ToldX (fun t : ByteArray => t = ⟨#[]⟩) (fun t : ByteArray => .string t) g s (Cd.textR s most i) w) := by
  have h := hid (uintX_rd g s i w hr hi hs)
  cases hu : Cd.uintR s.data.toList i with
  | error x =>
    have HI : Hid (Cd.textR s most i = .error x) := by show _ = _; unfold Cd.textR; rw [hu]
    have hx := Cd.uint_errs s i x hu
    have hq : (x != 0) = true := by rw [bne_iff_ne]; omega
    rw [hu] at h
    clear hu hx
    go_enter Try.func59, Try.ntmps59
    go_wp2_with fail
    refine (h.out).mono ?_; rintro e w1 ⟨y, rfl, hu, rfl, j, hR, hj⟩
    have c2 := hR.cells.2.2.1
    go_wp2_with fail
    go_ret
    exact ToldX.mk_err _ rfl HI.out hu rfl hR hj
  | ok p =>
    obtain ⟨n, j⟩ := p
    have HI := hid (Cd.textR_of (most := most) hu)
    have hn := (Cd.uint_inv hu).1
    rw [hu] at h
    clear hu
    by_cases h1 : most < n
    · have h1' : (most : Int) < n := by omega
      have HE : Hid (Cd.textR s most i = .error 19) := by show _ = _; rw [HI.out, if_pos h1]
      have hfail := hid (fun W h => failX_new g s j 19 W h)
      clear HI
      go_enter Try.func59, Try.ntmps59
      go_wp2_with fail
      refine (h.out).mono ?_; rintro e w1 ⟨y, rfl, hu, rfl, hR, hj⟩
      have c2 := hR.cells.2.2.1
      go_wp2_with fail
      refine (hfail.out _ hR).mono ?_; rintro e w2 ⟨⟨v, rfl⟩, hu2, hR2⟩
      go_wp2_with fail
      go_ret
      exact ToldX.mk_err _ rfl HE.out (hu.trans hu2) rfl hR2 hj
    · have h1' : ¬ (most : Int) < n := by omega
      have hcv : IntKind.i64.wrap (n : Int) = (n : Int) := IntWalk.i64_in _ (by omega)
      by_cases h2 : s.size < j + n
      · have HE : Hid (Cd.textR s most i = .error 8) := by show _ = _; rw [HI.out, if_neg h1, if_pos h2]
        have hfail := hid (fun W h => failX_new g s j 8 W h)
        clear HI
        go_enter Try.func59, Try.ntmps59
        go_wp2_with fail
        refine (h.out).mono ?_; rintro e w1 ⟨y, rfl, hu, rfl, hR, hj⟩
        have c2 := hR.cells.2.2.1
        have c0 := hR.cells.1
        have c1 := hR.cells.2.1
        have hg := hR.cells.2.2.2.2.2
        have hd0 : ((s.size : Int) - (j : Int)) < y := by omega
        have hd : decide (((s.size : Int) - (j : Int)) < y) = true := decide_eq_true hd0
        go_wp2_with fail
        go_quiet (fail)
        go_wp2_with fail
        refine (hfail.out (w1.drewN nq) hR).mono ?_; rintro e w2 ⟨⟨v, rfl⟩, hu2, hR2⟩
        go_wp2_with fail
        go_ret
        exact ToldX.mk_err _ rfl HE.out ((hu.trans (Upd.of (hdrewN (Below.refl _ _) nq))).trans hu2) rfl hR2 hj
      · have HE : Hid (Cd.textR s most i = .ok (s.extract j (j + n), j + n)) := by show _ = _; rw [HI.out, if_neg h1, if_neg h2]
        clear HI
        go_enter Try.func59, Try.ntmps59
        go_wp2_with fail
        refine (h.out).mono ?_; rintro e w1 ⟨y, rfl, hu, rfl, hR, hj⟩
        have c2 := hR.cells.2.2.1
        have c0 := hR.cells.1
        have c1 := hR.cells.2.1
        have f1 := hR.cells.2.2.2.1
        have hg := hR.cells.2.2.2.2.2
        have hd0 : ¬ ((s.size : Int) - (j : Int)) < y := by omega
        have hd : decide (((s.size : Int) - (j : Int)) < y) = false := decide_eq_false hd0
        have hn0 : (0 : Int) ≤ (y : Int) := by omega
        have hj0 : (0 : Int) ≤ (j : Int) := by omega
        have hjn : (j : Int) + (y : Int) ≤ s.size := by omega
        have hjn2 : (j : Int) ≤ (j : Int) + (y : Int) := by omega
        go_wp2_with fail
        go_quiet (fail)
        go_wp2_with fail
        go_quiet (fail)
        go_wp2_with fail
        go_ret
        exact ToldX.mk_ok HE.out ((hu.trans (Upd.of (hdrewN (Below.refl _ _) _))).trans (Upd.set g 1 _ _)) rfl (Rfx.setAt (w := w1.drewN _) hR _) (by omega)
theorem textX_was (most : Nat) (g : Nat) (s : ByteArray) (i : Nat) (er : Int) (w : World) (hr : Rfx w g s i er) (he : er ≠ 0) :
    Calls Try.prog 59 #[.pointer (some ⟨g, 0, none⟩), .int .u64 (most : Int)] w fun e w' => e = .returned (.string ⟨#[]⟩) ∧ w = w' := by
  have h := hid (uintX_was g s i er w hr he)
  have hq : (er != 0) = true := by rw [bne_iff_ne]; exact he
  have c2 := hr.cells.2.2.1
  go_enter Try.func59, Try.ntmps59
  go_wp2_with fail
  refine (h.out).mono ?_; rintro e w1 ⟨rfl, rfl⟩
  go_wp2_with fail
  go_ret
  exact ⟨rfl, rfl⟩
set_option maxRecDepth 100000 in
theorem mTextX (g : Nat) (s : ByteArray) (i : Nat) (er : Int) (w : World) (hr : Rfx w g s i er) (hi : i ≤ s.size) (hs : s.size ≤ 1000000000) :
    Calls Try.prog 51 #[.pointer (some ⟨g, 0, none⟩)] w (TopX (fun t : ByteArray => .string t) g s (Cd.top ⟨#[]⟩ (Cd.textR s 1000000) i er) w) := by
  have c1 := hr.cells.2.1
  by_cases he : er = 0
  · subst he
    have h := hid (textX_rd 1000000 (by omega) g s i w hr hi hs)
    cases hu : Cd.textR s 1000000 i with
    | error x =>
      have HT := hid (top_err (z := (⟨#[]⟩ : ByteArray)) hu)
      have hx := Cd.text_errs 1000000 s i x hu
      have hend := hid (fun W j h => endX_no g s j i x W h (by omega))
      rw [hu] at h
      clear hu
      go_enter Try.func51, Try.ntmps51
      go_wp2_with fail
      refine (h.out).mono ?_; rintro e w1 ⟨y, rfl, hu, rfl, j, hR, hj⟩
      go_wp2_with fail
      refine (hend.out _ _ hR).mono ?_; rintro e w2 ⟨rfl, hu2, hR2⟩
      go_wp2_with fail
      go_ret
      rw [HT.out]
      exact ⟨rfl, hu.trans hu2, hR2, hi⟩
    | ok p =>
      obtain ⟨n, j⟩ := p
      have HT := hid (top_ok (z := (⟨#[]⟩ : ByteArray)) hu)
      have hend := hid (fun W h => endX_ok g s j i W h)
      rw [hu] at h
      clear hu
      go_enter Try.func51, Try.ntmps51
      go_wp2_with fail
      refine (h.out).mono ?_; rintro e w1 ⟨y, rfl, hu, rfl, hR, hj⟩
      go_wp2_with fail
      refine (hend.out _ hR).mono ?_; rintro e w2 ⟨rfl, rfl⟩
      go_wp2_with fail
      go_ret
      rw [HT.out]
      exact ⟨rfl, hu, hR, hj⟩
  · have h := hid (textX_was 1000000 g s i er w hr he)
    have HT := hid (top_was (⟨#[]⟩ : ByteArray) (Cd.textR s 1000000) i he)
    have hend := hid (fun W h => endX_no g s i i er W h he)
    go_enter Try.func51, Try.ntmps51
    go_wp2_with fail
    refine (h.out).mono ?_; rintro e w1 ⟨rfl, rfl⟩
    go_wp2_with fail
    refine (hend.out _ hr).mono ?_; rintro e w2 ⟨rfl, hu2, hR2⟩
    go_wp2_with fail
    go_ret
    rw [HT.out]
    exact ⟨rfl, hu2, hR2, hi⟩
end Go.Proofs.Ytmgafcblbbbanaa
