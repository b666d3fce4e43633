/-
  What parameters of the types Query, []Value and []uint8 are. No condition.
-/
import Derived.Test.YtmcneelapghfcaaQa
import Derived.Test.YtmcneelapghfcaaOn
import Derived.Lib.SmallJoins
import Derived.Deep.SlicePairs
import Derived.Deep.Strs
namespace Go.Proofs.Ytmcneelapghfcaa
open Go.ChangeShapes Go.WideShapes Go.Joins Go.Deep Go.RowKit Pd Qu

theorem cellsQuery : Try.prog.cellsOf 28 = 11 := by kernel_rfl
theorem cellsSp : Try.prog.cellsOf 24 = 2 := by kernel_rfl
theorem cellsVs : Try.prog.cellsOf 22 = 1 := by kernel_rfl
theorem cellsNs : Try.prog.cellsOf 25 = 1 := by kernel_rfl
theorem cellsIs : Try.prog.cellsOf 26 = 1 := by kernel_rfl
theorem list11 {α : Type} {cs : List α} (h : cs.length = 11) : ∃ c0 c1 c2 c3 c4 c5 c6 c7 c8 c9 c10, cs = [c0, c1, c2, c3, c4, c5, c6, c7, c8, c9, c10] := by
  match cs, h with
  | [c0, c1, c2, c3, c4, c5, c6, c7, c8, c9, c10], _ => exact ⟨c0, c1, c2, c3, c4, c5, c6, c7, c8, c9, c10, rfl⟩
section
variable {H : Type} {enc : TypeId × Value → H} {P : Program} {w : World} {base : Nat} {spare : Nat → Bool} {held : Bool}
theorem trod_struct10 {t : TypeId} {f0 f1 f2 f3 f4 f5 f6 f7 f8 f9 : Field} {fuel : Nat} {cs : List Value} {x : DataW H × List MemPlace} (ht : P.underlying t = some (.struct #[f0, f1, f2, f3, f4, f5, f6, f7, f8, f9])) (h : DataW.trod enc P w base spare held fuel t cs = some x) :
    ∃ y0 y1 y2 y3 y4 y5 y6 y7 y8 y9 n, cs.length = P.cellsOf t ∧ DataW.trod enc P w base spare held n f0.type ((cs.drop f0.offset).take (P.cellsOf f0.type)) = some y0 ∧
      DataW.trod enc P w base spare held n f1.type ((cs.drop f1.offset).take (P.cellsOf f1.type)) = some y1 ∧
      DataW.trod enc P w base spare held n f2.type ((cs.drop f2.offset).take (P.cellsOf f2.type)) = some y2 ∧
      DataW.trod enc P w base spare held n f3.type ((cs.drop f3.offset).take (P.cellsOf f3.type)) = some y3 ∧
      DataW.trod enc P w base spare held n f4.type ((cs.drop f4.offset).take (P.cellsOf f4.type)) = some y4 ∧
      DataW.trod enc P w base spare held n f5.type ((cs.drop f5.offset).take (P.cellsOf f5.type)) = some y5 ∧
      DataW.trod enc P w base spare held n f6.type ((cs.drop f6.offset).take (P.cellsOf f6.type)) = some y6 ∧
      DataW.trod enc P w base spare held n f7.type ((cs.drop f7.offset).take (P.cellsOf f7.type)) = some y7 ∧
      DataW.trod enc P w base spare held n f8.type ((cs.drop f8.offset).take (P.cellsOf f8.type)) = some y8 ∧
      DataW.trod enc P w base spare held n f9.type ((cs.drop f9.offset).take (P.cellsOf f9.type)) = some y9 := by
  obtain ⟨xs, n, _, rfl, hl, hlen, hf⟩ := DataW.trod_struct ht h
  match xs, hlen with
  | [y0, y1, y2, y3, y4, y5, y6, y7, y8, y9], _ => exact ⟨y0, y1, y2, y3, y4, y5, y6, y7, y8, y9, n, hl, by simpa using hf 0 f0 rfl, by simpa using hf 1 f1 rfl, by simpa using hf 2 f2 rfl, by simpa using hf 3 f3 rfl, by simpa using hf 4 f4 rfl, by simpa using hf 5 f5 rfl, by simpa using hf 6 f6 rfl, by simpa using hf 7 f7 rfl, by simpa using hf 8 f8 rfl, by simpa using hf 9 f9 rfl⟩
end
set_option maxRecDepth 100000 in
theorem open_row {H : Type} {enc : TypeId × Value → H} {W : World} {base : Nat} {sp : Nat → Bool} {hd : Bool} {v : Value} {x : DataW H × List MemPlace} {fuel : Nat} (hf : DataW.trod enc Try.prog W base sp hd fuel 22 [v] = some x) :
    ∃ l : List Cd.V, l.length ≤ maxLen ∧ VsAt W v l ∧ ∀ x ∈ l, Vok x := by
  rcases open_slice Try.underlying22 hf with ⟨e, _⟩ | ⟨a', len, cap, m, n, D, Pl, e, hb, hl, hc, hm, _, hx⟩
  · simp at e
    subst e
    exact ⟨[], by simp, ⟨none, 0, rfl, fun k hk => absurd hk (Nat.not_lt_zero k)⟩, fun x hx => absurd hx List.not_mem_nil⟩
  · simp at e
    subst e
    have hlm : len ≤ m := by rw [hm]; split <;> omega
    have each : ∀ i, i < len → ∃ s : Cd.V, Vok s ∧ W.cell? (a'.add (i * 4)) = some (.int .i64 s.k) ∧ W.cell? (a'.add (i * 4 + 1)) = some (.int .i64 s.n) ∧ W.cell? (a'.add (i * 4 + 2)) = some (.int .u64 (s.b : Int)) ∧ W.cell? (a'.add (i * 4 + 3)) = some (.string s.s) := by
      intro i hi
      obtain ⟨cs', h1, h2⟩ := hx i (by omega)
      rw [cellsValue] at h1
      obtain ⟨_, hlen, hcell⟩ := World.cells?_some h1
      obtain ⟨c0, c1, c2, c3, rfl⟩ := list4 hlen
      obtain ⟨y0, y1, y2, y3, k, _, _, g0, g1, g2, g3⟩ := trod_struct4 Try.underlying36 h2
      simp [cellsI, cellsU, cellsS] at g0 g1 g2 g3
      obtain ⟨k0, e0, _, _⟩ := DataW.trod_int Try.underlying3 g0
      obtain ⟨k1, e1, _, w1⟩ := DataW.trod_int Try.underlying3 g1
      obtain ⟨k2, e2, _, w2⟩ := DataW.trod_int Try.underlying34 g2
      obtain ⟨k3, e3, _, w3⟩ := DataW.trod_string Try.underlying9 g3
      simp at e0 e1 e2 e3
      subst e0 e1 e2 e3
      obtain ⟨b, rfl, hb⟩ := u64_of w2
      have q0 := hcell 0 (by omega)
      have q1 := hcell 1 (by omega)
      have q2 := hcell 2 (by omega)
      have q3 := hcell 3 (by omega)
      rw [add_add] at q0 q1 q2 q3
      exact ⟨⟨k0, k1, b, k3⟩, ⟨int64_of w1, hb, w3⟩, by simpa using q0, by simpa using q1, by simpa using q2, by simpa using q3⟩
    have hmax : len ≤ maxLen := by omega
    obtain ⟨S, hS⟩ := choose_lt each
    refine ⟨(List.range len).map S, by simpa using hmax, ⟨some a', cap, by simp, fun k hk => ?_⟩, fun x hx => ?_⟩
    · have hk' : k < len := by simpa using hk
      obtain ⟨bb, off, spot⟩ := a'
      obtain ⟨_, q0, q1, q2, q3⟩ := hS k hk'
      have g0 := (hS 0 (by omega)).2.1
      have hs : spot = none := World.cell?_spot (a := ⟨bb, off, spot⟩) (by simpa [Addr.add] using g0)
      subst hs
      rw [add_plain] at q0 q1 q2 q3
      have hg : ((List.range len).map S)[k] = S k := by simp
      rw [hg]
      exact ⟨bb, off, rfl, q0, by rw [Nat.add_assoc]; exact q1, by rw [Nat.add_assoc]; exact q2, by rw [Nat.add_assoc]; exact q3⟩
    · obtain ⟨i, hi, rfl⟩ := List.mem_map.1 hx
      exact (hS i (List.mem_range.1 hi)).1
set_option maxRecDepth 100000 in
theorem open_nrow {H : Type} {enc : TypeId × Value → H} {W : World} {base : Nat} {sp : Nat → Bool} {hd : Bool} {v : Value} {x : DataW H × List MemPlace} {fuel : Nat} (hf : DataW.trod enc Try.prog W base sp hd fuel 25 [v] = some x) :
    ∃ l : List N, l.length ≤ maxLen ∧ NsAt W v l ∧ ∀ x ∈ l, Nok x := by
  rcases open_slice Try.underlying25 hf with ⟨e, _⟩ | ⟨a', len, cap, m, n, D, Pl, e, hb, hl, hc, hm, _, hx⟩
  · simp at e
    subst e
    exact ⟨[], by simp, ⟨none, 0, rfl, fun k hk => absurd hk (Nat.not_lt_zero k)⟩, fun x hx => absurd hx List.not_mem_nil⟩
  · simp at e
    subst e
    have hlm : len ≤ m := by rw [hm]; split <;> omega
    have each : ∀ i, i < len → ∃ s : N, Nok s ∧ W.cell? (a'.add (i * 6)) = some (.int .i64 s.op) ∧ W.cell? (a'.add (i * 6 + 1)) = some (.int .i64 s.col) ∧ W.cell? (a'.add (i * 6 + 2)) = some (.int .i64 s.v.k) ∧ W.cell? (a'.add (i * 6 + 3)) = some (.int .i64 s.v.n) ∧ W.cell? (a'.add (i * 6 + 4)) = some (.int .u64 (s.v.b : Int)) ∧ W.cell? (a'.add (i * 6 + 5)) = some (.string s.v.s) := by
      intro i hi
      obtain ⟨cs', h1, h2⟩ := hx i (by omega)
      rw [cellsNode] at h1
      obtain ⟨_, hlen, hcell⟩ := World.cells?_some h1
      obtain ⟨c0, c1, c2, c3, c4, c5, rfl⟩ := list6 hlen
      obtain ⟨z0, z1, z2, k, _, _, f0, f1, f2⟩ := trod_struct3 Try.underlying65 h2
      simp [cellsI, cellsValue] at f0 f1 f2
      obtain ⟨k4, d0, _, x0⟩ := DataW.trod_int Try.underlying3 f0
      obtain ⟨k5, d1, _, x1⟩ := DataW.trod_int Try.underlying3 f1
      obtain ⟨y0, y1, y2, y3, k', _, _, g0, g1, g2, g3⟩ := trod_struct4 Try.underlying36 f2
      simp [cellsI, cellsU, cellsS] at g0 g1 g2 g3
      obtain ⟨k0, e0, _, _⟩ := DataW.trod_int Try.underlying3 g0
      obtain ⟨k1, e1, _, w1⟩ := DataW.trod_int Try.underlying3 g1
      obtain ⟨k2, e2, _, w2⟩ := DataW.trod_int Try.underlying34 g2
      obtain ⟨k3, e3, _, w3⟩ := DataW.trod_string Try.underlying9 g3
      simp at d0 d1 e0 e1 e2 e3
      subst d0 d1 e0 e1 e2 e3
      obtain ⟨b, rfl, hb⟩ := u64_of w2
      have q0 := hcell 0 (by omega)
      have q1 := hcell 1 (by omega)
      have q2 := hcell 2 (by omega)
      have q3 := hcell 3 (by omega)
      have q4 := hcell 4 (by omega)
      have q5 := hcell 5 (by omega)
      rw [add_add] at q0 q1 q2 q3 q4 q5
      exact ⟨⟨k4, k5, ⟨k0, k1, b, k3⟩⟩, ⟨int64_of x0, int64_of x1, int64_of w1, hb, w3⟩, by simpa using q0, by simpa using q1, by simpa using q2, by simpa using q3, by simpa using q4, by simpa using q5⟩
    have hmax : len ≤ maxLen := by omega
    obtain ⟨S, hS⟩ := choose_lt each
    refine ⟨(List.range len).map S, by simpa using hmax, ⟨some a', cap, by simp, fun k hk => ?_⟩, fun x hx => ?_⟩
    · have hk' : k < len := by simpa using hk
      obtain ⟨bb, off, spot⟩ := a'
      obtain ⟨_, q0, q1, q2, q3, q4, q5⟩ := hS k hk'
      have g0 := (hS 0 (by omega)).2.1
      have hs : spot = none := World.cell?_spot (a := ⟨bb, off, spot⟩) (by simpa [Addr.add] using g0)
      subst hs
      rw [add_plain] at q0 q1 q2 q3 q4 q5
      have hg : ((List.range len).map S)[k] = S k := by simp
      rw [hg]
      exact ⟨bb, off, rfl, q0, by rw [Nat.add_assoc]; exact q1, by rw [Nat.add_assoc]; exact q2, by rw [Nat.add_assoc]; exact q3, by rw [Nat.add_assoc]; exact q4, by rw [Nat.add_assoc]; exact q5⟩
    · obtain ⟨i, hi, rfl⟩ := List.mem_map.1 hx
      exact (hS i (List.mem_range.1 hi)).1
set_option maxRecDepth 100000 in
theorem open_ints {H : Type} {enc : TypeId × Value → H} {W : World} {base : Nat} {sp : Nat → Bool} {hd : Bool} {v : Value} {x : DataW H × List MemPlace} {fuel : Nat} (hf : DataW.trod enc Try.prog W base sp hd fuel 26 [v] = some x) :
    ∃ l : List Int, l.length ≤ maxLen ∧ IsAt W v l ∧ ∀ x ∈ l, I64 x := by
  rcases open_slice Try.underlying26 hf with ⟨e, _⟩ | ⟨a', len, cap, m, n, D, Pl, e, hb, hl, hc, hm, _, hx⟩
  · simp at e
    subst e
    exact ⟨[], by simp, IsAt.nil _, fun x hx => absurd hx List.not_mem_nil⟩
  · simp at e
    subst e
    have hlm : len ≤ m := by rw [hm]; split <;> omega
    have each : ∀ i, i < len → ∃ s : Int, I64 s ∧ W.cell? (a'.add (i * 1)) = some (.int .i64 s) := by
      intro i hi
      obtain ⟨cs', h1, h2⟩ := hx i (by omega)
      rw [cellsI] at h1
      obtain ⟨_, hlen, hcell⟩ := World.cells?_some h1
      obtain ⟨k0, e0, _, w0⟩ := DataW.trod_int Try.underlying3 h2
      subst e0
      have q0 := hcell 0 (by omega)
      rw [add_add] at q0
      exact ⟨k0, int64_of w0, by simpa using q0⟩
    have hmax : len ≤ maxLen := by omega
    obtain ⟨S, hS⟩ := choose_lt each
    refine ⟨(List.range len).map S, by simpa using hmax, ⟨some a', cap, by simp, fun k hk => ?_⟩, fun x hx => ?_⟩
    · have hk' : k < len := by simpa using hk
      obtain ⟨bb, off, spot⟩ := a'
      obtain ⟨_, q0⟩ := hS k hk'
      have g0 := (hS 0 (by omega)).2
      have hs : spot = none := World.cell?_spot (a := ⟨bb, off, spot⟩) (by simpa [Addr.add] using g0)
      subst hs
      rw [add_plain, Nat.mul_one] at q0
      have hg : ((List.range len).map S)[k] = S k := by simp
      rw [hg]
      exact ⟨bb, off, rfl, q0⟩
    · obtain ⟨i, hi, rfl⟩ := List.mem_map.1 hx
      exact (hS i (List.mem_range.1 hi)).1
/-- a query that comes in -/
def QHere (W : World) (q : Q) (vk vw vc : Value) : Prop := QIn W q vk vw vc ∧ Qok q
set_option maxRecDepth 100000 in
theorem open_query {H : Type} {enc : TypeId × Value → H} {W : World} {base b0 : Nat} {sp : Nat → Bool} {hd : Bool} {r : Reach} {v : Value} {d : DataW H} {p : List MemPlace} (hv : Value.okWide Try.prog W r b0 28 v) (h : DataW.Trod enc Try.prog W base sp hd 28 v d p) :
    ∃ (q : Q) (vk vw vc : Value), v = qv q vk vw vc ∧ QHere W q vk vw vc := by
  obtain ⟨cs, rfl, hsz⟩ := okWide_struct Try.underlying28 hv
  obtain ⟨fuel, hf⟩ := h
  obtain ⟨cl⟩ := cs
  rw [cellsQuery] at hsz
  obtain ⟨c0, c1, c2, c3, c4, c5, c6, c7, c8, c9, c10, rfl⟩ := list11 (show cl.length = 11 from hsz)
  obtain ⟨y0, y1, y2, y3, y4, y5, y6, y7, y8, y9, n, _, h0, h1, h2, h3, h4, h5, h6, h7, h8, h9⟩ := trod_struct10 (cs := [c0, c1, c2, c3, c4, c5, c6, c7, c8, c9, c10]) Try.underlying28 (by simpa [Value.cells] using hf)
  simp [cellsI, cellsS, cellsVs, cellsNs, cellsIs, cellsSp, cellsB] at h0 h1 h2 h3 h4 h5 h6 h7 h8 h9
  obtain ⟨k0, e0, _, w0⟩ := DataW.trod_int Try.underlying3 h0
  obtain ⟨k1, e1, _, w1⟩ := DataW.trod_string Try.underlying9 h1
  obtain ⟨l2, m2, p2, o2⟩ := open_row h2
  obtain ⟨k3, e3, _, w3⟩ := DataW.trod_int Try.underlying3 h3
  obtain ⟨k4, e4, _, w4⟩ := DataW.trod_int Try.underlying3 h4
  obtain ⟨z0, z1, n3, _, _, g0, g1⟩ := trod_struct2 Try.underlying24 h5
  simp [cellsI] at g0 g1
  obtain ⟨k5, e5, _, w5⟩ := DataW.trod_int Try.underlying3 g0
  obtain ⟨k6, e6, _, w6⟩ := DataW.trod_int Try.underlying3 g1
  obtain ⟨l7, m7, p7, o7⟩ := open_nrow h6
  obtain ⟨l8, m8, p8, o8⟩ := open_ints h7
  obtain ⟨k9, e9, _, w9⟩ := DataW.trod_int Try.underlying3 h8
  obtain ⟨k10, e10, _⟩ := DataW.trod_bool Try.underlying4 h9
  simp at e0 e1 e3 e4 e5 e6 e9 e10
  subst e0 e1 e3 e4 e5 e6 e9 e10
  exact ⟨⟨k0, k1, l2, k3, k4, k5, k6, l7, l8, k9, k10⟩, c2, c7, c8, rfl, ⟨p2, p7, p8⟩, ⟨int64_of w0, w1, o2, int64_of w3, int64_of w4, int64_of w5, int64_of w6, o7, o8, int64_of w9, m2, m7, m8⟩⟩
set_option maxRecDepth 100000 in
theorem open_rows {H : Type} {enc : TypeId × Value → H} {W : World} {base b0 : Nat} {sp : Nat → Bool} {hd : Bool} {r : Reach} {v : Value} {d : DataW H} {p : List MemPlace} (hv : Value.okWide Try.prog W r b0 22 v) (h : DataW.Trod enc Try.prog W base sp hd 22 v d p) :
    ∃ l : List Cd.V, RsAt W v l ∧ ∀ x ∈ l, Vok x := by
  obtain ⟨l, h1, h2, h3⟩ := open_values hv h
  refine ⟨l, ⟨h2, ?_⟩, h3⟩
  obtain ⟨adr, cap, rfl, _⟩ := h2
  obtain ⟨fuel, hf⟩ := h
  rcases Go.Deep.open_slice Try.underlying22 hf with ⟨e, _⟩ | ⟨a', len', cap', m, n, D, Pl, e, hb, hl, hc, _⟩
  · simp [Value.cells] at e
    obtain ⟨rfl, e1, rfl⟩ := e
    exact ⟨none, 0, rfl, by rw [e1]; exact Nat.le_refl _, by decide, fun _ => rfl⟩
  · simp [Value.cells] at e
    obtain ⟨rfl, rfl, rfl⟩ := e
    exact ⟨_, _, rfl, hl, hc, fun e => by cases e⟩
/-- the slice v holds the bytes l -/
def UsAt (w : World) (v : Value) (l : List Nat) : Prop :=
  ∃ adr cap, v = .slice adr l.length cap ∧ ∀ k (hk : k < l.length), ∃ g off, adr = some ⟨g, off, none⟩ ∧ w.cell? ⟨g, off + k, none⟩ = some (.int .u8 (l[k] : Int))
theorem UsAt.below {w w' : World} {v : Value} {l : List Nat} (h : UsAt w v l) (hb : Below w.heap.size w w') : UsAt w' v l := by
  obtain ⟨adr, cap, rfl, hc⟩ := h
  refine ⟨adr, cap, rfl, fun k hk => ?_⟩
  obtain ⟨g, off, rfl, q0⟩ := hc k hk
  exact ⟨g, off, rfl, hkeep q0 hb⟩
theorem UsAt.nil (w : World) : UsAt w (.slice none 0 0) [] := ⟨none, 0, rfl, fun k hk => absurd hk (Nat.not_lt_zero k)⟩
theorem cellsU8 : Try.prog.cellsOf 5 = 1 := by kernel_rfl
theorem u8_of {n : Int} (h : (Lit.int .u8 n).wf = true) : ∃ k : Nat, n = (k : Int) ∧ k < 256 := by
  have hx : 0 ≤ n ∧ n ≤ 255 := by simpa [Lit.wf, IntKind.min, IntKind.max, IntKind.signed, IntKind.bits] using h
  exact ⟨n.toNat, by omega, by omega⟩
set_option maxRecDepth 100000 in
theorem open_u8row {H : Type} {enc : TypeId × Value → H} {W : World} {base : Nat} {sp : Nat → Bool} {hd : Bool} {v : Value} {x : DataW H × List MemPlace} {fuel : Nat} (hf : DataW.trod enc Try.prog W base sp hd fuel 62 [v] = some x) :
    ∃ l : List Nat, l.length ≤ maxLen ∧ UsAt W v l ∧ ∀ x ∈ l, x < 256 := by
  rcases open_slice Try.underlying62 hf with ⟨e, _⟩ | ⟨a', len, cap, m, n, D, Pl, e, hb, hl, hc, hm, _, hx⟩
  · simp at e
    subst e
    exact ⟨[], by simp, UsAt.nil _, fun x hx => absurd hx List.not_mem_nil⟩
  · simp at e
    subst e
    have hlm : len ≤ m := by rw [hm]; split <;> omega
    have each : ∀ i, i < len → ∃ s : Nat, s < 256 ∧ W.cell? (a'.add (i * 1)) = some (.int .u8 (s : Int)) := by
      intro i hi
      obtain ⟨cs', h1, h2⟩ := hx i (by omega)
      rw [cellsU8] at h1
      obtain ⟨_, hlen, hcell⟩ := World.cells?_some h1
      obtain ⟨k0, e0, _, w0⟩ := DataW.trod_int Try.underlying5 h2
      subst e0
      obtain ⟨b, rfl, hb⟩ := u8_of w0
      have q0 := hcell 0 (by omega)
      rw [add_add] at q0
      exact ⟨b, hb, by simpa using q0⟩
    have hmax : len ≤ maxLen := by omega
    obtain ⟨S, hS⟩ := choose_lt each
    refine ⟨(List.range len).map S, by simpa using hmax, ⟨some a', cap, by simp, fun k hk => ?_⟩, fun x hx => ?_⟩
    · have hk' : k < len := by simpa using hk
      obtain ⟨bb, off, spot⟩ := a'
      obtain ⟨_, q0⟩ := hS k hk'
      have g0 := (hS 0 (by omega)).2
      have hs : spot = none := World.cell?_spot (a := ⟨bb, off, spot⟩) (by simpa [Addr.add] using g0)
      subst hs
      rw [add_plain, Nat.mul_one] at q0
      have hg : ((List.range len).map S)[k] = S k := by simp
      rw [hg]
      exact ⟨bb, off, rfl, q0⟩
    · obtain ⟨i, hi, rfl⟩ := List.mem_map.1 hx
      exact (hS i (List.mem_range.1 hi)).1
set_option maxRecDepth 100000 in
theorem open_u8s {H : Type} {enc : TypeId × Value → H} {W : World} {base b0 : Nat} {sp : Nat → Bool} {hd : Bool} {r : Reach} {v : Value} {d : DataW H} {p : List MemPlace} (hv : Value.okWide Try.prog W r b0 62 v) (h : DataW.Trod enc Try.prog W base sp hd 62 v d p) :
    ∃ l : List Nat, l.length ≤ maxLen ∧ UsAt W v l ∧ ∀ x ∈ l, x < 256 := by
  obtain ⟨a, len, cap, rfl⟩ := okWide_slice Try.underlying62 hv
  obtain ⟨fuel, hf⟩ := h
  exact open_u8row (by simpa [Value.cells] using hf)
end Go.Proofs.Ytmcneelapghfcaa
