/-
  Which of two rows is ahead, plainly. No condition.
-/
import Derived.Test.YtimcmpcfnddioaaKyJ
namespace Go.Proofs.Ytimcmpcfnddioaa
open Go.RowKit

namespace Ky
/-- by the first two values of which one is ahead, else by the lengths -/
def cmpL (c : Cd.V → Cd.V → Int) (l r : List Cd.V) : Int :=
  match (l.zip r).find? (fun p => decide (c p.1 p.2 ≠ 0)) with
  | some p => c p.1 p.2
  | none => ints l.length r.length
def comp (c : Cd.V → Cd.V → Int) (l r : List Cd.V) : Int := if right l = false then 0 else if right r = false then 0 else cmpL c l r
theorem cmpL_at {c : Cd.V → Cd.V → Int} {l r : List Cd.V} {k : Nat} (h1 : k < l.length) (h2 : k < r.length) (h0 : ((l.zip r).take k).all (fun p => decide (c p.1 p.2 = 0)) = true) (h : c l[k] r[k] ≠ 0) : cmpL c l r = c l[k] r[k] := by
  have hk : k < (l.zip r).length := by rw [List.length_zip]; omega
  have hn : ((l.zip r).take k).find? (fun p => decide (c p.1 p.2 ≠ 0)) = none := by
    rw [List.find?_eq_none]
    intro p hp
    have := List.all_eq_true.1 h0 p hp
    simpa using this
  unfold cmpL
  rw [show (l.zip r).find? (fun p => decide (c p.1 p.2 ≠ 0)) = some (l[k], r[k]) by
    rw [← List.take_append_drop k (l.zip r), List.find?_append, hn, List.drop_eq_getElem_cons hk, List.getElem_zip, List.find?_cons_of_pos (by simpa using h)]
    rfl]
theorem cmpL_next {c : Cd.V → Cd.V → Int} {l r : List Cd.V} {k : Nat} (h1 : k < l.length) (h2 : k < r.length) (h0 : ((l.zip r).take k).all (fun p => decide (c p.1 p.2 = 0)) = true) (h : c l[k] r[k] = 0) : ((l.zip r).take (k + 1)).all (fun p => decide (c p.1 p.2 = 0)) = true := by
  have hk : k < (l.zip r).length := by rw [List.length_zip]; omega
  rw [List.take_succ_eq_append_getElem hk, List.all_append, h0, List.getElem_zip]
  simp [h]
theorem cmpL_end {c : Cd.V → Cd.V → Int} {l r : List Cd.V} {k : Nat} (hk : k = l.length ∨ k = r.length) (h0 : ((l.zip r).take k).all (fun p => decide (c p.1 p.2 = 0)) = true) : cmpL c l r = ints l.length r.length := by
  rw [List.take_of_length_le (by rw [List.length_zip]; omega)] at h0
  unfold cmpL
  rw [show (l.zip r).find? (fun p => decide (c p.1 p.2 ≠ 0)) = none by
    rw [List.find?_eq_none]
    intro p hp
    have := List.all_eq_true.1 h0 p hp
    simpa using this]
end Ky
end Go.Proofs.Ytimcmpcfnddioaa
