/-
  key's reader: text: its contract. Condition: the text has at most 1000000000 bytes.
-/
import Derived.Test.YtimcmpcfnddioaaKyS
import Derived.Test.YtimcmpcfnddioaaKyE
import Derived.Test.YtimcmpcfnddioaaKn
namespace Go.Proofs.Ytimcmpcfnddioaa
open Go.RowKit

namespace Ky
/-- bytes up to their end: the text, what is left, and whether something was wrong -/
def tx (acc : List UInt8) : List UInt8 → List UInt8 × List UInt8 × Bool
  | [] => ([], [], true)
  | c :: r => if c = 0 then match r with
      | [] => ([], [], true)
      | d :: r2 => if d = 1 then (acc, r2, false) else if d = 255 then tx (acc ++ [0]) r2 else ([], r2, true)
    else tx (acc ++ [c]) r
theorem tx_no (acc : List UInt8) : tx acc [] = ([], [], true) := rfl
theorem tx_byte (acc r : List UInt8) (c : UInt8) (h : c ≠ 0) : tx acc (c :: r) = tx (acc ++ [c]) r := by
  rw [tx.eq_def]
  show (if c = 0 then _ else _) = _
  rw [if_neg h]
theorem tx_short (acc : List UInt8) : tx acc [0] = ([], [], true) := rfl
theorem tx_end (acc r : List UInt8) : tx acc (0 :: 1 :: r) = (acc, r, false) := rfl
theorem tx_zero (acc r : List UInt8) : tx acc (0 :: 255 :: r) = tx (acc ++ [0]) r := by
  rw [tx.eq_def]; rfl
theorem tx_bad (acc r : List UInt8) (d : UInt8) (h1 : d ≠ 1) (h2 : d ≠ 255) : tx acc (0 :: d :: r) = ([], r, true) := by
  rw [tx.eq_def]
  show (if d = 1 then _ else if d = 255 then _ else _) = _
  rw [if_neg h1, if_neg h2]
end Ky
theorem Upd.grow {g B : Nat} {a w w' : World} (h : Upd g a w) {o : Option Nat} (k : w.grownBy w' o) (hB : a.heap.size ≤ B) (ho : ∀ q, o = some q → B ≤ q) : Upd g a w' :=
  ⟨k.os.trans h.os, k.tape.trans h.tape, k.output.trans h.output, Nat.le_trans h.size k.size, fun i hi hn => (k.block i (Nat.lt_of_lt_of_le hi h.size) (fun e => by have := ho i e.symm; omega)).trans (h.block i hi hn)⟩
theorem Kr.grow {w w' : World} {g B : Nat} {l : List UInt8} {b : Bool} (h : Kr w g l b) {o : Option Nat} (k : w.grownBy w' o) (hg : g < B) (ho : ∀ q, o = some q → B ≤ q) : Kr w' g l b :=
  (k.block g h.cells.2.2.2.2 (fun e => by have := ho g e.symm; omega)).trans h
theorem Own8.upd {w w' : World} {g B : Nat} {v : Value} {l : List UInt8} (h : Own8 w B v l) (hu : Upd g w w') (hg : g < B) : Own8 w' B v l := own_upd h hu hg
theorem str_beq (l r : List UInt8) : ((bstr l).toList == r) = decide (l = r) := by
  rw [ByteArray.toList_eq, bstr_toList, Bool.eq_iff_iff, beq_iff_eq, decide_eq_true_iff]
/-- what a reader has left -/
def Kr.left (w : World) (g : Nat) : Nat := (match w.cell? ⟨g, 0, none⟩ with | some (.string s) => 2 * s.size | _ => 0) + (match w.cell? ⟨g, 1, none⟩ with | some (.bool false) => 1 | _ => 0)
theorem Kr.left_eq {w : World} {g : Nat} {l : List UInt8} {b : Bool} (h : Kr w g l b) : Kr.left w g = 2 * l.length + if b then 0 else 1 := by
  unfold Kr.left
  rw [h.cells.1, h.cells.2.1]
  cases b <;> rfl
set_option maxRecDepth 100000 in
set_option maxHeartbeats 3200000 in
theorem text_rd (g : Nat) (l : List UInt8) (w : World) (hr : Kr w g l false) (hs : l.length ≤ 1000000) :
    Calls Try.prog 49 #[.pointer (some ⟨g, 0, none⟩)] w fun e w' => e = .returned (.string (bstr (Ky.tx [] l).1)) ∧ Upd g w w' ∧ Kr w' g (Ky.tx [] l).2.1 (Ky.tx [] l).2.2 := by
  have hgw := hr.cells.2.2.2.2
  have hO : Own8 w w.heap.size (.slice none 0 0) [] := World.ownsRow_nil w w.heap.size 5 1
  go_enter Try.func49, Try.ntmps49
  go_wp2_with fail
  go_loopw [3] (fun v wr => ∃ (acc r : List UInt8) (bad : Bool), Own8 wr w.heap.size v acc ∧ Kr wr g r bad ∧ Upd g w wr ∧ Hid (if bad then Ky.tx [] l = ([], r, true) else Ky.tx [] l = Ky.tx acc r) ∧ Hid (acc.length + r.length ≤ l.length)) (fun _ wr => Kr.left wr g)
  case atStart => exact ⟨[], l, false, hO, hr, Upd.refl _ _, rfl, by show _ ≤ _; simp⟩
  case round =>
    obtain ⟨acc, r, bad, hown, hrd, hu, hE, hL⟩ := hrel
    obtain ⟨w4, rfl⟩ : ∃ w4 : World, w4 = wr := ⟨_, rfl⟩
    have HM := hid hrd.left_eq
    clear hr hO
    have hwg := hu.size
    cases bad with
    | true =>
      have HE : Hid (Ky.tx [] l = ([], r, true)) := hE.out
      obtain ⟨c0, c1, f0, f1, hg⟩ := hrd.cells
      have HR := hid hrd
      clear hE hown hrd
      go_wp2_with fail
      go_ret
      rw [HE.out]
      exact ⟨rfl, hu, HR.out⟩
    | false =>
      have HE : Hid (Ky.tx [] l = Ky.tx acc r) := hE.out
      clear hE
      obtain ⟨c0, c1, f0, f1, hg⟩ := hrd.cells
      have hrl : r.length ≤ 1000000000 := by have := hL.out; omega
      have HO := hid hown
      clear hown
      have e00 : ((bstr [0]).toList == [0]) = true := by rw [str_beq]; decide
      cases r with
      | nil =>
        have ct := hid (take_no g [] false 1 (by decide) w4 hrd (by decide))
        rw [Ky.tx_no] at HE
        clear hrd
        have ea : bstr [0] ++ bstr [0] = bstr [0, 0] := bstr_append _ _
        have e01 : ((bstr [0, 0]).toList == [0, 1]) = false := by rw [str_beq]; decide
        have e02 : ((bstr [0, 0]).toList == [0, 255]) = false := by rw [str_beq]; decide
        go_wp2_with fail
        refine (ct.out).mono ?_; rintro e w5 ⟨rfl, u5, r5⟩
        have ct5 := hid (take_no g [] true 1 (by decide) w5 r5 (by decide))
        have HU5 := hid (hu.trans u5)
        have HO5 := hid (HO.out.upd u5 hgw)
        clear c0 c1 f0 f1 hg r5 u5 ct HO
        go_wp2_with fail
        refine (ct5.out).mono ?_; rintro e w6 ⟨rfl, u6, r6⟩
        have HU6 := hid (HU5.out.trans u6)
        have HO6 := hid (HO5.out.upd u6 hgw)
        have HB6 := hid HU6.out.size
        obtain ⟨c0, c1, f0, f1, hg⟩ := r6.cells
        clear u6 ct5 HU5 HO5
        have RB := hid (r6.setBad true)
        have UB6 := hid (HU6.out.trans (Upd.set g 1 _ (.bool true)))
        have OB := hid (HO6.out.upd (Upd.set g 1 _ (.bool true)) hgw)
        clear r6
        go_wp2_with fail
        go_roundw
        case rel => exact ⟨acc, _, true, OB.out, RB.out, UB6.out, HE.out, by have := hL.out; show _ ≤ _; simp at this ⊢; omega⟩
        case measure => rw [HM.out, RB.out.left_eq]; simp; try omega
      | cons c r =>
        have ct := hid (take_ok g (c :: r) false 1 (by decide) w4 hrd (by simp) (by simpa using hrl))
        clear hrd
        by_cases hc : c = 0
        · subst hc
          cases r with
          | nil =>
            rw [Ky.tx_short] at HE
            have ea : bstr [0] ++ bstr [0] = bstr [0, 0] := bstr_append _ _
            have e01 : ((bstr [0, 0]).toList == [0, 1]) = false := by rw [str_beq]; decide
            have e02 : ((bstr [0, 0]).toList == [0, 255]) = false := by rw [str_beq]; decide
            go_wp2_with fail
            refine (ct.out).mono ?_; rintro e w5 ⟨rfl, u5, r5⟩
            have ct5 := hid (take_no g [] false 1 (by decide) w5 r5 (by decide))
            have HU5 := hid (hu.trans u5)
            have HO5 := hid (HO.out.upd u5 hgw)
            clear c0 c1 f0 f1 hg r5 u5 ct HO
            go_wp2_with fail
            refine (ct5.out).mono ?_; rintro e w6 ⟨rfl, u6, r6⟩
            have HU6 := hid (HU5.out.trans u6)
            have HO6 := hid (HO5.out.upd u6 hgw)
            have HB6 := hid HU6.out.size
            obtain ⟨c0, c1, f0, f1, hg⟩ := r6.cells
            clear u6 ct5 HU5 HO5
            have RB := hid (r6.setBad true)
            have UB6 := hid (HU6.out.trans (Upd.set g 1 _ (.bool true)))
            have OB := hid (HO6.out.upd (Upd.set g 1 _ (.bool true)) hgw)
            clear r6
            go_wp2_with fail
            go_roundw
            case rel => exact ⟨acc, _, true, OB.out, RB.out, UB6.out, HE.out, by have := hL.out; show _ ≤ _; simp at this ⊢; omega⟩
            case measure => rw [HM.out, RB.out.left_eq]; simp; try omega
          | cons d r =>
            have ea : bstr [0] ++ bstr [d] = bstr [0, d] := bstr_append _ _
            by_cases h1 : d = 1
            · subst h1
              rw [Ky.tx_end] at HE
              have e01 : ((bstr [0, 1]).toList == [0, 1]) = true := by rw [str_beq]; decide
              go_wp2_with fail
              refine (ct.out).mono ?_; rintro e w5 ⟨rfl, u5, r5⟩
              have ct5 := hid (take_ok g (1 :: r) false 1 (by decide) w5 r5 (by simp) (by simp only [List.length_cons] at hrl ⊢; omega))
              have HU5 := hid (hu.trans u5)
              have HO5 := hid (HO.out.upd u5 hgw)
              clear c0 c1 f0 f1 hg r5 u5 ct HO
              go_wp2_with fail
              refine (ct5.out).mono ?_; rintro e w6 ⟨rfl, u6, r6⟩
              have HU6 := hid (HU5.out.trans u6)
              have HO6 := hid (HO5.out.upd u6 hgw)
              have HB6 := hid HU6.out.size
              obtain ⟨c0, c1, f0, f1, hg⟩ := r6.cells
              clear u6 ct5 HU5 HO5
              have hst := run_string_of_bytes (P := Try.prog) w6 w.heap.size 50 9 5 _ _ Try.underlying50 Try.underlying5 Try.underlying9 (BytesAt.own HO6.out)
              have R6 := hid r6
              clear r6
              go_wp2_with fail
              go_ret
              rw [HE.out]
              exact ⟨rfl, HU6.out, R6.out⟩
            · by_cases h2 : d = 255
              · subst h2
                rw [Ky.tx_zero] at HE
                have e01 : ((bstr [0, 255]).toList == [0, 1]) = false := by rw [str_beq]; decide
                have e02 : ((bstr [0, 255]).toList == [0, 255]) = true := by rw [str_beq]; decide
                go_wp2_with fail
                refine (ct.out).mono ?_; rintro e w5 ⟨rfl, u5, r5⟩
                have ct5 := hid (take_ok g (255 :: r) false 1 (by decide) w5 r5 (by simp) (by simp only [List.length_cons] at hrl ⊢; omega))
                have HU5 := hid (hu.trans u5)
                have HO5 := hid (HO.out.upd u5 hgw)
                clear c0 c1 f0 f1 hg r5 u5 ct HO
                go_wp2_with fail
                refine (ct5.out).mono ?_; rintro e w6 ⟨rfl, u6, r6⟩
                have HU6 := hid (HU5.out.trans u6)
                have HO6 := hid (HO5.out.upd u6 hgw)
                have HB6 := hid HU6.out.size
                obtain ⟨c0, c1, f0, f1, hg⟩ := r6.cells
                clear u6 ct5 HU5 HO5
                have R6 := hid r6
                have hla : acc.length + 1 ≤ 140737488355328 := by have := hL.out; simp only [List.length_cons] at this; omega
                have HLA := hid hla
                clear r6 c0 c1 f0 f1 hg hla
                go_wp2_with (at_builtin; go_must (refine append_byte _ rfl _ _ rfl w.heap.size _ acc rfl HO6.out 0 _ rfl _ rfl rfl HLA.out (by have := HB6.out; omega) ?_); intro v2 w7 own2 gr2; have O7 := hid own2; have R7 := hid (R6.out.grow gr2 hgw HO6.out.ge); have U7 := hid (HU6.out.grow gr2 (Nat.le_refl _) HO6.out.ge); clear own2 gr2)
                go_roundw
                case rel => exact ⟨acc ++ [0], r, false, O7.out, R7.out, U7.out, HE.out, by have := hL.out; show _ ≤ _; simp at this ⊢; omega⟩
                case measure => rw [HM.out, R7.out.left_eq]; simp; try omega
              · rw [Ky.tx_bad _ _ _ h1 h2] at HE
                have e01 : ((bstr [0, d]).toList == [0, 1]) = false := by rw [str_beq]; simpa using h1
                have e02 : ((bstr [0, d]).toList == [0, 255]) = false := by rw [str_beq]; simpa using h2
                go_wp2_with fail
                refine (ct.out).mono ?_; rintro e w5 ⟨rfl, u5, r5⟩
                have ct5 := hid (take_ok g (d :: r) false 1 (by decide) w5 r5 (by simp) (by simp only [List.length_cons] at hrl ⊢; omega))
                have HU5 := hid (hu.trans u5)
                have HO5 := hid (HO.out.upd u5 hgw)
                clear c0 c1 f0 f1 hg r5 u5 ct HO
                go_wp2_with fail
                refine (ct5.out).mono ?_; rintro e w6 ⟨rfl, u6, r6⟩
                have HU6 := hid (HU5.out.trans u6)
                have HO6 := hid (HO5.out.upd u6 hgw)
                have HB6 := hid HU6.out.size
                obtain ⟨c0, c1, f0, f1, hg⟩ := r6.cells
                clear u6 ct5 HU5 HO5
                have RB := hid (r6.setBad true)
                have UB6 := hid (HU6.out.trans (Upd.set g 1 _ (.bool true)))
                have OB := hid (HO6.out.upd (Upd.set g 1 _ (.bool true)) hgw)
                clear r6
                go_wp2_with fail
                go_roundw
                case rel => exact ⟨acc, _, true, OB.out, RB.out, UB6.out, HE.out, by have := hL.out; show _ ≤ _; simp at this ⊢; omega⟩
                case measure => rw [HM.out, RB.out.left_eq]; simp; try omega
        · rw [Ky.tx_byte _ _ _ hc] at HE
          have ec : ((bstr [c]).toList == [0]) = false := by rw [str_beq]; simpa using hc
          have hla : acc.length + 1 ≤ 140737488355328 := by have := hL.out; simp only [List.length_cons] at this; omega
          have HLA := hid hla
          clear hla
          go_wp2_with fail
          refine (ct.out).mono ?_; rintro e w5 ⟨rfl, u5, r5⟩
          have HU5 := hid (hu.trans u5)
          have HO5 := hid (HO.out.upd u5 hgw)
          have HB5 := hid HU5.out.size
          have R5 := hid r5
          clear c0 c1 f0 f1 hg r5 u5 ct HO
          go_wp2_with (at_builtin; go_must (refine append_str _ rfl _ _ rfl w.heap.size _ acc rfl HO5.out (bstr [c]) rfl HLA.out HB5.out ?_); intro v2 w7 own2 gr2; have O7 := hid own2; have R7 := hid (R5.out.grow gr2 hgw HO5.out.ge); have U7 := hid (HU5.out.grow gr2 (Nat.le_refl _) HO5.out.ge); clear own2 gr2)
          go_roundw
          case rel => exact ⟨acc ++ [c], r, false, O7.out, R7.out, U7.out, HE.out, by have := hL.out; show _ ≤ _; simp at this ⊢; omega⟩
          case measure => rw [HM.out, R7.out.left_eq]; simp; try omega
end Go.Proofs.Ytimcmpcfnddioaa
