/-
  Slices of values in memory; code.Row, the reference's Row and Rows: their contracts. Condition: at most 1000000 values, each of which can be.
-/
import Derived.Test.YtimcmpcfnddioaaCdV
namespace Go.Proofs.Ytimcmpcfnddioaa
open Go.RowKit

/-- a value that can stand in memory -/
def Vok (v : Cd.V) : Prop := (-9223372036854775808 ≤ v.n ∧ v.n ≤ 9223372036854775807) ∧ v.b < 18446744073709551616 ∧ v.s.size ≤ maxLen
/-- the slice v holds the values l -/
def VsAt (w : World) (v : Value) (l : List Cd.V) : Prop :=
  ∃ adr cap, v = .slice adr l.length cap ∧ ∀ k (hk : k < l.length), ∃ g off, adr = some ⟨g, off, none⟩ ∧ w.cell? ⟨g, off + k * 4, none⟩ = some (.int .i64 l[k].k) ∧ w.cell? ⟨g, off + k * 4 + 1, none⟩ = some (.int .i64 l[k].n) ∧
    w.cell? ⟨g, off + k * 4 + 2, none⟩ = some (.int .u64 (l[k].b : Int)) ∧ w.cell? ⟨g, off + k * 4 + 3, none⟩ = some (.string l[k].s)
theorem VsAt.below {w w' : World} {v : Value} {l : List Cd.V} (h : VsAt w v l) (hb : Below w.heap.size w w') : VsAt w' v l := by
  obtain ⟨adr, cap, rfl, hc⟩ := h
  refine ⟨adr, cap, rfl, fun k hk => ?_⟩
  obtain ⟨g, off, rfl, q0, q1, q2, q3⟩ := hc k hk
  exact ⟨g, off, rfl, hkeep q0 hb, hkeep q1 hb, hkeep q2 hb, hkeep q3 hb⟩

theorem take_next {α : Type} (l : List α) (k : Nat) (h : k < l.length) : l.take (k + 1) = l.take k ++ [l[k]] := by rw [List.take_succ_eq_append_getElem h]

end Go.Proofs.Ytimcmpcfnddioaa
