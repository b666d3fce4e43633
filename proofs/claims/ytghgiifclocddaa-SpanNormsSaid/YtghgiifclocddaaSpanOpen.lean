/-
  What a parameter of type Span, and one of type []Span, is. No condition.
-/
import Derived.Test.YtghgiifclocddaaSpanK
import Derived.Lib.SmallJoins
import Derived.Deep.SlicePairs
namespace Go.Proofs.Ytghgiifclocddaa
open Go.ChangeShapes Go.WideShapes Go.Joins Go.Deep

theorem cellsSpan : Try.prog.cellsOf 23 = 2 := by kernel_rfl
theorem open_span {H : Type} {enc : TypeId × Value → H} {W : World} {base b0 : Nat} {sp : Nat → Bool} {hd : Bool} {r : Reach} {v : Value} {d : DataW H} {p : List MemPlace} (hv : Value.okWide Try.prog W r b0 23 v) (h : DataW.Trod enc Try.prog W base sp hd 23 v d p) :
    ∃ a b : Int, v = .agg #[.int .i64 a, .int .i64 b] := by
  obtain ⟨v0, v1, y0, y1, n, rfl, _, _, h0, h1⟩ := open_agg2 Try.underlying23 (by kernel_rfl) cellsSpan hv h
  obtain ⟨a, e0, _, _⟩ := DataW.trod_int Try.underlying3 h0
  obtain ⟨b, e1, _, _⟩ := DataW.trod_int Try.underlying3 h1
  simp at e0 e1
  subst e0 e1
  exact ⟨a, b, rfl⟩
theorem open_spans {H : Type} {enc : TypeId × Value → H} {W : World} {base b0 : Nat} {sp : Nat → Bool} {hd : Bool} {r : Reach} {v : Value} {d : DataW H} {p : List MemPlace} (hv : Value.okWide Try.prog W r b0 29 v) (h : DataW.Trod enc Try.prog W base sp hd 29 v d p) :
    ∃ l : List Sp.Span, l.length ≤ maxLen ∧ SpansAt W v l := by
  obtain ⟨a, len, cap, rfl⟩ := okWide_slice Try.underlying29 hv
  obtain ⟨fuel, hf⟩ := h
  rcases open_slice_pairs Try.underlying29 Try.underlying23 cellsSpan rfl rfl (by kernel_rfl) (by kernel_rfl) hf with ⟨e, _⟩ | ⟨a', len', cap', m, n, V0, V1, D0, D1, P0, P1, e, hb, hl, hc, hm, _, hx⟩
  · simp [Value.cells] at e
    obtain ⟨rfl, rfl, rfl⟩ := e
    exact ⟨[], by simp, .inl ⟨rfl, _, _, rfl⟩⟩
  · simp [Value.cells] at e
    obtain ⟨rfl, rfl, rfl⟩ := e
    have hlm : len ≤ m := by rw [hm]; split <;> omega
    have each : ∀ i, i < len → ∃ s : Int × Int, W.cell? (a'.add (i * 2)) = some (.int .i64 s.1) ∧ W.cell? (a'.add (i * 2 + 1)) = some (.int .i64 s.2) := by
      intro i hi
      obtain ⟨h1, h2, h3, h4⟩ := hx i (by omega)
      obtain ⟨x, e0, _, _⟩ := DataW.trod_int Try.underlying3 h3
      obtain ⟨y, e1, _, _⟩ := DataW.trod_int Try.underlying3 h4
      simp at e0 e1
      exact ⟨(x, y), by rw [h1, e0], by rw [h2, e1]⟩
    have hmax : len ≤ maxLen := by omega
    obtain ⟨S, hS⟩ := choose_lt each
    cases len with
    | zero => exact ⟨[], by simp, .inl ⟨rfl, _, _, rfl⟩⟩
    | succ k =>
      obtain ⟨bb, off, spot⟩ := a'
      have g0 := (hS 0 (by omega)).1
      have hs : spot = none := World.cell?_spot (a := ⟨bb, off, spot⟩) (by simpa [Addr.add] using g0)
      subst hs
      refine ⟨(List.range (k + 1)).map S, by simpa using hmax, .inr ⟨bb, off, cap, by simp, World.block_lt_of_cell? W ⟨bb, off, none⟩ (by simpa [Addr.add] using g0), fun j s hj => ?_⟩⟩
      rw [List.getElem?_map] at hj
      by_cases hjk : j < k + 1
      · rw [List.getElem?_range hjk] at hj
        simp at hj
        subst hj
        obtain ⟨q0, q1⟩ := hS j hjk
        rw [add_plain] at q0 q1
        exact ⟨q0, by rw [Nat.add_assoc]; exact q1⟩
      · rw [List.getElem?_eq_none (by simp; omega)] at hj
        simp at hj
end Go.Proofs.Ytghgiifclocddaa
