/-
  What a parameter of type []Value, and one of type [2]uint64, is. No condition.
-/
import Derived.Test.YtimcmpcfnddioaaZig
import Derived.Lib.SmallJoins
import Derived.Deep.SlicePairs
namespace Go.Proofs.Ytimcmpcfnddioaa
open Go.ChangeShapes Go.WideShapes Go.Joins Go.Deep

instance : Inhabited Cd.V := ⟨⟨0, 0, 0, ⟨#[]⟩⟩⟩
theorem cellsValue : Try.prog.cellsOf 39 = 4 := by kernel_rfl
theorem cellsI : Try.prog.cellsOf 3 = 1 := by kernel_rfl
theorem cellsU : Try.prog.cellsOf 37 = 1 := by kernel_rfl
theorem cellsS : Try.prog.cellsOf 9 = 1 := by kernel_rfl
theorem list4 {α : Type} {cs : List α} (h : cs.length = 4) : ∃ c0 c1 c2 c3, cs = [c0, c1, c2, c3] := by
  match cs, h with
  | [c0, c1, c2, c3], _ => exact ⟨c0, c1, c2, c3, rfl⟩
theorem open_values {H : Type} {enc : TypeId × Value → H} {W : World} {base b0 : Nat} {sp : Nat → Bool} {hd : Bool} {r : Reach} {v : Value} {d : DataW H} {p : List MemPlace} (hv : Value.okWide Try.prog W r b0 22 v) (h : DataW.Trod enc Try.prog W base sp hd 22 v d p) :
    ∃ l : List Cd.V, l.length ≤ maxLen ∧ VsAt W v l ∧ ∀ x ∈ l, Vok x := by
  obtain ⟨a, len, cap, rfl⟩ := okWide_slice Try.underlying22 hv
  obtain ⟨fuel, hf⟩ := h
  rcases open_slice Try.underlying22 hf with ⟨e, _⟩ | ⟨a', len', cap', m, n, D, Pl, e, hb, hl, hc, hm, _, hx⟩
  · simp [Value.cells] at e
    obtain ⟨rfl, rfl, rfl⟩ := e
    exact ⟨[], by simp, ⟨none, 0, rfl, fun k hk => absurd hk (Nat.not_lt_zero k)⟩, fun x hx => absurd hx List.not_mem_nil⟩
  · simp [Value.cells] at e
    obtain ⟨rfl, rfl, rfl⟩ := e
    have hlm : len ≤ m := by rw [hm]; split <;> omega
    have each : ∀ i, i < len → ∃ s : Cd.V, Vok s ∧ W.cell? (a'.add (i * 4)) = some (.int .i64 s.k) ∧ W.cell? (a'.add (i * 4 + 1)) = some (.int .i64 s.n) ∧ W.cell? (a'.add (i * 4 + 2)) = some (.int .u64 (s.b : Int)) ∧ W.cell? (a'.add (i * 4 + 3)) = some (.string s.s) := by
      intro i hi
      obtain ⟨cs', h1, h2⟩ := hx i (by omega)
      rw [cellsValue] at h1
      obtain ⟨_, hlen, hcell⟩ := World.cells?_some h1
      obtain ⟨c0, c1, c2, c3, rfl⟩ := list4 hlen
      obtain ⟨y0, y1, y2, y3, k, _, _, g0, g1, g2, g3⟩ := trod_struct4 Try.underlying39 h2
      simp [cellsI, cellsU, cellsS] at g0 g1 g2 g3
      obtain ⟨k0, e0, _, _⟩ := DataW.trod_int Try.underlying3 g0
      obtain ⟨k1, e1, _, w1⟩ := DataW.trod_int Try.underlying3 g1
      obtain ⟨k2, e2, _, w2⟩ := DataW.trod_int Try.underlying37 g2
      obtain ⟨k3, e3, _, w3⟩ := DataW.trod_string Try.underlying9 g3
      simp at e0 e1 e2 e3
      subst e0 e1 e2 e3
      obtain ⟨b, rfl, hb⟩ := u64_of w2
      have q0 := hcell 0 (by omega)
      have q1 := hcell 1 (by omega)
      have q2 := hcell 2 (by omega)
      have q3 := hcell 3 (by omega)
      rw [add_add] at q0 q1 q2 q3
      exact ⟨⟨k0, k1, b, k3⟩, ⟨i64_of w1, hb, w3⟩, by simpa using q0, by simpa using q1, by simpa using q2, by simpa using q3⟩
    have hmax : len ≤ maxLen := by omega
    obtain ⟨S, hS⟩ := choose_lt each
    refine ⟨(List.range len).map S, by simpa using hmax, ⟨some a', cap, by simp, fun k hk => ?_⟩, fun x hx => ?_⟩
    · have hk' : k < len := by simpa using hk
      obtain ⟨bb, off, spot⟩ := a'
      obtain ⟨_, q0, q1, q2, q3⟩ := hS k hk'
      have g0 := (hS 0 (by omega)).2.1
      have hs : spot = none := World.cell?_spot (a := ⟨bb, off, spot⟩) (by simpa [Addr.add] using g0)
      subst hs
      rw [add_plain] at q0 q1 q2 q3
      have hg : ((List.range len).map S)[k] = S k := by simp
      rw [hg]
      exact ⟨bb, off, rfl, q0, by rw [Nat.add_assoc]; exact q1, by rw [Nat.add_assoc]; exact q2, by rw [Nat.add_assoc]; exact q3⟩
    · obtain ⟨i, hi, rfl⟩ := List.mem_map.1 hx
      exact (hS i (List.mem_range.1 hi)).1
end Go.Proofs.Ytimcmpcfnddioaa
