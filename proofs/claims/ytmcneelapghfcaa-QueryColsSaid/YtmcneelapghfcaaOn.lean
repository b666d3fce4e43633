/-
  Contracts and laws of the layers below, put together: On. Conditions: where they are named.
-/
import Derived.Test.YtmcneelapghfcaaBb
import Derived.Lib.SmallJoins
import Derived.Deep.SlicePairs

namespace Go.Proofs.Ytmcneelapghfcaa
open Go.ChangeShapes Go.WideShapes Go.Joins Go.Deep Pd

instance : Inhabited N := ⟨⟨0, 0, ⟨0, 0, 0, ⟨#[]⟩⟩⟩⟩
theorem cellsNode : Try.prog.cellsOf 65 = 6 := by kernel_rfl
theorem list6 {α : Type} {cs : List α} (h : cs.length = 6) : ∃ c0 c1 c2 c3 c4 c5, cs = [c0, c1, c2, c3, c4, c5] := by
  match cs, h with
  | [c0, c1, c2, c3, c4, c5], _ => exact ⟨c0, c1, c2, c3, c4, c5, rfl⟩
set_option maxRecDepth 100000 in
theorem open_nodes {H : Type} {enc : TypeId × Value → H} {W : World} {base b0 : Nat} {sp : Nat → Bool} {hd : Bool} {r : Reach} {v : Value} {d : DataW H} {p : List MemPlace} (hv : Value.okWide Try.prog W r b0 25 v) (h : DataW.Trod enc Try.prog W base sp hd 25 v d p) :
    ∃ l : List N, l.length ≤ maxLen ∧ NsAt W v l ∧ ∀ x ∈ l, Nok x := by
  obtain ⟨a, len, cap, rfl⟩ := okWide_slice Try.underlying25 hv
  obtain ⟨fuel, hf⟩ := h
  rcases open_slice Try.underlying25 hf with ⟨e, _⟩ | ⟨a', len', cap', m, n, D, Pl, e, hb, hl, hc, hm, _, hx⟩
  · simp [Value.cells] at e
    obtain ⟨rfl, rfl, rfl⟩ := e
    exact ⟨[], by simp, ⟨none, 0, rfl, fun k hk => absurd hk (Nat.not_lt_zero k)⟩, fun x hx => absurd hx List.not_mem_nil⟩
  · simp [Value.cells] at e
    obtain ⟨rfl, rfl, rfl⟩ := e
    have hlm : len ≤ m := by rw [hm]; split <;> omega
    have each : ∀ i, i < len → ∃ s : N, Nok s ∧ W.cell? (a'.add (i * 6)) = some (.int .i64 s.op) ∧ W.cell? (a'.add (i * 6 + 1)) = some (.int .i64 s.col) ∧ W.cell? (a'.add (i * 6 + 2)) = some (.int .i64 s.v.k) ∧ W.cell? (a'.add (i * 6 + 3)) = some (.int .i64 s.v.n) ∧ W.cell? (a'.add (i * 6 + 4)) = some (.int .u64 (s.v.b : Int)) ∧ W.cell? (a'.add (i * 6 + 5)) = some (.string s.v.s) := by
      intro i hi
      obtain ⟨cs', h1, h2⟩ := hx i (by omega)
      rw [cellsNode] at h1
      obtain ⟨_, hlen, hcell⟩ := World.cells?_some h1
      obtain ⟨c0, c1, c2, c3, c4, c5, rfl⟩ := list6 hlen
      obtain ⟨z0, z1, z2, k, _, _, f0, f1, f2⟩ := trod_struct3 Try.underlying65 h2
      simp [cellsI, cellsValue] at f0 f1 f2
      obtain ⟨k4, d0, _, x0⟩ := DataW.trod_int Try.underlying3 f0
      obtain ⟨k5, d1, _, x1⟩ := DataW.trod_int Try.underlying3 f1
      obtain ⟨y0, y1, y2, y3, k', _, _, g0, g1, g2, g3⟩ := trod_struct4 Try.underlying36 f2
      simp [cellsI, cellsU, cellsS] at g0 g1 g2 g3
      obtain ⟨k0, e0, _, _⟩ := DataW.trod_int Try.underlying3 g0
      obtain ⟨k1, e1, _, w1⟩ := DataW.trod_int Try.underlying3 g1
      obtain ⟨k2, e2, _, w2⟩ := DataW.trod_int Try.underlying34 g2
      obtain ⟨k3, e3, _, w3⟩ := DataW.trod_string Try.underlying9 g3
      simp at d0 d1 e0 e1 e2 e3
      subst d0 d1 e0 e1 e2 e3
      obtain ⟨b, rfl, hb⟩ := u64_of w2
      have q0 := hcell 0 (by omega)
      have q1 := hcell 1 (by omega)
      have q2 := hcell 2 (by omega)
      have q3 := hcell 3 (by omega)
      have q4 := hcell 4 (by omega)
      have q5 := hcell 5 (by omega)
      rw [add_add] at q0 q1 q2 q3 q4 q5
      exact ⟨⟨k4, k5, ⟨k0, k1, b, k3⟩⟩, ⟨int64_of x0, int64_of x1, int64_of w1, hb, w3⟩, by simpa using q0, by simpa using q1, by simpa using q2, by simpa using q3, by simpa using q4, by simpa using q5⟩
    have hmax : len ≤ maxLen := by omega
    obtain ⟨S, hS⟩ := choose_lt each
    refine ⟨(List.range len).map S, by simpa using hmax, ⟨some a', cap, by simp, fun k hk => ?_⟩, fun x hx => ?_⟩
    · have hk' : k < len := by simpa using hk
      obtain ⟨bb, off, spot⟩ := a'
      obtain ⟨_, q0, q1, q2, q3, q4, q5⟩ := hS k hk'
      have g0 := (hS 0 (by omega)).2.1
      have hs : spot = none := World.cell?_spot (a := ⟨bb, off, spot⟩) (by simpa [Addr.add] using g0)
      subst hs
      rw [add_plain] at q0 q1 q2 q3 q4 q5
      have hg : ((List.range len).map S)[k] = S k := by simp
      rw [hg]
      exact ⟨bb, off, rfl, q0, by rw [Nat.add_assoc]; exact q1, by rw [Nat.add_assoc]; exact q2, by rw [Nat.add_assoc]; exact q3, by rw [Nat.add_assoc]; exact q4, by rw [Nat.add_assoc]; exact q5⟩
    · obtain ⟨i, hi, rfl⟩ := List.mem_map.1 hx
      exact (hS i (List.mem_range.1 hi)).1
end Go.Proofs.Ytmcneelapghfcaa
