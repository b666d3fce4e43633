/-
  What parameters of the types Change, []Change, Txn, []Txn are. No condition.
-/
import Derived.Test.YtmmegicaeaifaaaFv
import Derived.Lib.SmallJoins
import Derived.Deep.SlicePairs
import Derived.Deep.Strs
namespace Go.Proofs.Ytmmegicaeaifaaa
open Go.ChangeShapes Go.WideShapes Go.Joins Go.Deep Go.RowKit Fr

instance : Inhabited Ch := ⟨noC⟩
instance : Inhabited Tx := ⟨noT⟩
theorem cellsChange : Try.prog.cellsOf 32 = 8 := by kernel_rfl
theorem cellsTxn : Try.prog.cellsOf 24 = 3 := by kernel_rfl
theorem cellsSpan : Try.prog.cellsOf 27 = 2 := by kernel_rfl
theorem cellsVs : Try.prog.cellsOf 25 = 1 := by kernel_rfl
theorem cellsHs : Try.prog.cellsOf 22 = 1 := by kernel_rfl
theorem list8 {α : Type} {cs : List α} (h : cs.length = 8) : ∃ c0 c1 c2 c3 c4 c5 c6 c7, cs = [c0, c1, c2, c3, c4, c5, c6, c7] := by
  match cs, h with
  | [c0, c1, c2, c3, c4, c5, c6, c7], _ => exact ⟨c0, c1, c2, c3, c4, c5, c6, c7, rfl⟩
section
variable {H : Type} {enc : TypeId × Value → H} {P : Program} {w : World} {base : Nat} {spare : Nat → Bool} {held : Bool}
theorem trod_struct5 {t : TypeId} {f0 f1 f2 f3 f4 : Field} {fuel : Nat} {cs : List Value} {x : DataW H × List MemPlace} (ht : P.underlying t = some (.struct #[f0, f1, f2, f3, f4])) (h : DataW.trod enc P w base spare held fuel t cs = some x) :
    ∃ y0 y1 y2 y3 y4 n, cs.length = P.cellsOf t ∧ DataW.trod enc P w base spare held n f0.type ((cs.drop f0.offset).take (P.cellsOf f0.type)) = some y0 ∧
      DataW.trod enc P w base spare held n f1.type ((cs.drop f1.offset).take (P.cellsOf f1.type)) = some y1 ∧ DataW.trod enc P w base spare held n f2.type ((cs.drop f2.offset).take (P.cellsOf f2.type)) = some y2 ∧
      DataW.trod enc P w base spare held n f3.type ((cs.drop f3.offset).take (P.cellsOf f3.type)) = some y3 ∧ DataW.trod enc P w base spare held n f4.type ((cs.drop f4.offset).take (P.cellsOf f4.type)) = some y4 := by
  obtain ⟨xs, n, _, rfl, hl, hlen, hf⟩ := DataW.trod_struct ht h
  match xs, hlen with
  | [y0, y1, y2, y3, y4], _ => exact ⟨y0, y1, y2, y3, y4, n, hl, by simpa using hf 0 f0 rfl, by simpa using hf 1 f1 rfl, by simpa using hf 2 f2 rfl, by simpa using hf 3 f3 rfl, by simpa using hf 4 f4 rfl⟩
end
theorem open_row {H : Type} {enc : TypeId × Value → H} {W : World} {base : Nat} {sp : Nat → Bool} {hd : Bool} {v : Value} {x : DataW H × List MemPlace} {fuel : Nat} (hf : DataW.trod enc Try.prog W base sp hd fuel 25 [v] = some x) :
    ∃ l : List Cd.V, l.length ≤ maxLen ∧ VsAt W v l ∧ ∀ x ∈ l, Vok x := by
  rcases open_slice Try.underlying25 hf with ⟨e, _⟩ | ⟨a', len, cap, m, n, D, Pl, e, hb, hl, hc, hm, _, hx⟩
  · simp at e
    subst e
    exact ⟨[], by simp, ⟨none, 0, rfl, fun k hk => absurd hk (Nat.not_lt_zero k)⟩, fun x hx => absurd hx List.not_mem_nil⟩
  · simp at e
    subst e
    have hlm : len ≤ m := by rw [hm]; split <;> omega
    have each : ∀ i, i < len → ∃ s : Cd.V, Vok s ∧ W.cell? (a'.add (i * 4)) = some (.int .i64 s.k) ∧ W.cell? (a'.add (i * 4 + 1)) = some (.int .i64 s.n) ∧ W.cell? (a'.add (i * 4 + 2)) = some (.int .u64 (s.b : Int)) ∧ W.cell? (a'.add (i * 4 + 3)) = some (.string s.s) := by
      intro i hi
      obtain ⟨cs', h1, h2⟩ := hx i (by omega)
      rw [cellsValue] at h1
      obtain ⟨_, hlen, hcell⟩ := World.cells?_some h1
      obtain ⟨c0, c1, c2, c3, rfl⟩ := list4 hlen
      obtain ⟨y0, y1, y2, y3, k, _, _, g0, g1, g2, g3⟩ := trod_struct4 Try.underlying59 h2
      simp [cellsI, cellsU, cellsS] at g0 g1 g2 g3
      obtain ⟨k0, e0, _, _⟩ := DataW.trod_int Try.underlying3 g0
      obtain ⟨k1, e1, _, w1⟩ := DataW.trod_int Try.underlying3 g1
      obtain ⟨k2, e2, _, w2⟩ := DataW.trod_int Try.underlying57 g2
      obtain ⟨k3, e3, _, w3⟩ := DataW.trod_string Try.underlying9 g3
      simp at e0 e1 e2 e3
      subst e0 e1 e2 e3
      obtain ⟨b, rfl, hb⟩ := u64_of w2
      have q0 := hcell 0 (by omega)
      have q1 := hcell 1 (by omega)
      have q2 := hcell 2 (by omega)
      have q3 := hcell 3 (by omega)
      rw [add_add] at q0 q1 q2 q3
      exact ⟨⟨k0, k1, b, k3⟩, ⟨i64_of w1, hb, w3⟩, by simpa using q0, by simpa using q1, by simpa using q2, by simpa using q3⟩
    have hmax : len ≤ maxLen := by omega
    obtain ⟨S, hS⟩ := choose_lt each
    refine ⟨(List.range len).map S, by simpa using hmax, ⟨some a', cap, by simp, fun k hk => ?_⟩, fun x hx => ?_⟩
    · have hk' : k < len := by simpa using hk
      obtain ⟨bb, off, spot⟩ := a'
      obtain ⟨_, q0, q1, q2, q3⟩ := hS k hk'
      have g0 := (hS 0 (by omega)).2.1
      have hs : spot = none := World.cell?_spot (a := ⟨bb, off, spot⟩) (by simpa [Addr.add] using g0)
      subst hs
      rw [add_plain] at q0 q1 q2 q3
      have hg : ((List.range len).map S)[k] = S k := by simp
      rw [hg]
      exact ⟨bb, off, rfl, q0, by rw [Nat.add_assoc]; exact q1, by rw [Nat.add_assoc]; exact q2, by rw [Nat.add_assoc]; exact q3⟩
    · obtain ⟨i, hi, rfl⟩ := List.mem_map.1 hx
      exact (hS i (List.mem_range.1 hi)).1
/-- a change's cells -/
def hc8 (c : Ch) (vr vc : Value) : List Value := [.int .i64 c.op, .string c.table, vr, .int .i64 c.fr, .int .i64 c.to, .string c.df.name, vc, .int .i64 c.df.keys]
/-- a change that stands in memory -/
def HIn (W : World) (c : Ch) (vr vc : Value) : Prop := VsAt W vr c.row ∧ CsAt W vc c.df.cols ∧ Chk c ∧ c.row.length ≤ 9223372036854775807
set_option maxRecDepth 100000 in
theorem open_ch8 {H : Type} {enc : TypeId × Value → H} {W : World} {base : Nat} {sp : Nat → Bool} {hd : Bool} {cs : List Value} {x : DataW H × List MemPlace} {fuel : Nat} (hf : DataW.trod enc Try.prog W base sp hd fuel 32 cs = some x) :
    ∃ (c : Ch) (vr vc : Value), cs = hc8 c vr vc ∧ HIn W c vr vc := by
  obtain ⟨y0, y1, y2, y3, y4, n, hl, h0, h1, h2, h3, h4⟩ := trod_struct5 Try.underlying32 hf
  rw [cellsChange] at hl
  obtain ⟨c0, c1, c2, c3, c4, c5, c6, c7, rfl⟩ := list8 hl
  simp [cellsI, cellsS, cellsVs, cellsSpan, cellsSchema] at h0 h1 h2 h3 h4
  obtain ⟨k0, e0, _, w0⟩ := DataW.trod_int Try.underlying3 h0
  obtain ⟨k1, e1, _, w1⟩ := DataW.trod_string Try.underlying9 h1
  obtain ⟨l, hlen, hv, hok⟩ := open_row h2
  obtain ⟨z0, z1, n3, _, _, g0, g1⟩ := trod_struct2 Try.underlying27 h3
  simp [cellsI] at g0 g1
  obtain ⟨k3, e3, _, w3⟩ := DataW.trod_int Try.underlying3 g0
  obtain ⟨k4, e4, _, w4⟩ := DataW.trod_int Try.underlying3 g1
  obtain ⟨u0, u1, u2, n4, _, _, f0, f1, f2⟩ := trod_struct3 Try.underlying30 h4
  simp [cellsI, cellsS, cellsCs] at f0 f1 f2
  obtain ⟨k5, e5, _, w5⟩ := DataW.trod_string Try.underlying9 f0
  obtain ⟨k7, e7, _, w7⟩ := DataW.trod_int Try.underlying3 f2
  obtain ⟨cl, hcl, hcl2⟩ := open_cols f1
  simp at e0 e1 e3 e4 e5 e7
  subst e0 e1 e3 e4 e5 e7
  exact ⟨⟨k0, k1, l, k3, k4, ⟨k5, cl, k7⟩⟩, c2, c6, rfl, hv, hcl, ⟨i64_of w0, i64_of w3, i64_of w4, w1, hok, w5, fun c hc => (hcl2 c hc).1⟩, by unfold maxLen at hlen; omega⟩
set_option maxRecDepth 100000 in
/-- a change that comes in -/
theorem open_change {H : Type} {enc : TypeId × Value → H} {W : World} {base b0 : Nat} {sp : Nat → Bool} {hd : Bool} {r : Reach} {v : Value} {d : DataW H} {p : List MemPlace} (hv : Value.okWide Try.prog W r b0 32 v) (h : DataW.Trod enc Try.prog W base sp hd 32 v d p) :
    ∃ (c : Ch) (vr vc : Value), v = cvv c vr vc ∧ HIn W c vr vc := by
  obtain ⟨cs, rfl, hsz⟩ := okWide_struct Try.underlying32 hv
  obtain ⟨fuel, hf⟩ := h
  obtain ⟨c, vr, vc, e, hi⟩ := open_ch8 (cs := cs.toList) (by simpa [Value.cells] using hf)
  refine ⟨c, vr, vc, ?_, hi⟩
  obtain ⟨cl⟩ := cs
  have e' : cl = hc8 c vr vc := e
  subst e'
  rfl
set_option maxRecDepth 100000 in
/-- changes that come in -/
theorem open_chs {H : Type} {enc : TypeId × Value → H} {W : World} {base : Nat} {sp : Nat → Bool} {hd : Bool} {v : Value} {x : DataW H × List MemPlace} {fuel : Nat} (hf : DataW.trod enc Try.prog W base sp hd fuel 22 [v] = some x) :
    ∃ l : List Ch, HsAt W v l ∧ Hok l := by
  rcases open_slice Try.underlying22 hf with ⟨e, _⟩ | ⟨a', len, cap, m, n, D, Pl, e, hb, hl, hc, hm, _, hx⟩
  · simp at e
    subst e
    exact ⟨[], HsAt.nil _, by decide, fun c hc => absurd hc List.not_mem_nil⟩
  · simp at e
    subst e
    have hlm : len ≤ m := by rw [hm]; split <;> omega
    have each : ∀ i, i < len → ∃ s : Ch, ∃ vr vc, HIn W s vr vc ∧ ∀ j u, (hc8 s vr vc)[j]? = some u → W.cell? (a'.add (i * 8 + j)) = some u := by
      intro i hi
      obtain ⟨cs', h1, h2⟩ := hx i (by omega)
      rw [cellsChange] at h1
      obtain ⟨_, hlen, hcell⟩ := World.cells?_some h1
      obtain ⟨c, vr, vc, rfl, hi⟩ := open_ch8 h2
      refine ⟨c, vr, vc, hi, fun j u hj => ?_⟩
      have hj8 : j < 8 := by
        have := (List.getElem?_eq_some_iff.1 hj).1
        exact this
      have q := hcell j hj8
      rw [add_add] at q
      rw [q]
      rw [← hj]
    have hmax : len ≤ maxLen := by omega
    obtain ⟨S, hS⟩ := choose_lt each
    refine ⟨(List.range len).map S, ⟨some a', cap, by simp, fun k hk => ?_⟩, by simpa using (by unfold maxLen at hmax; omega : len ≤ 9223372036854775807), fun x hx => ?_⟩
    · have hk' : k < len := by simpa using hk
      obtain ⟨bb, off, spot⟩ := a'
      obtain ⟨vr, vc, hi, q⟩ := hS k hk'
      have g0 := (hS 0 (by omega))
      obtain ⟨vr0, vc0, _, g0⟩ := g0
      have g0 := g0 0 _ rfl
      have hs : spot = none := World.cell?_spot (a := ⟨bb, off, spot⟩) (by simpa [Addr.add] using g0)
      subst hs
      have hg : ((List.range len).map S)[k] = S k := by simp
      rw [hg]
      have q' : ∀ j u, (hc8 (S k) vr vc)[j]? = some u → W.cell? ⟨bb, off + k * 8 + j, none⟩ = some u := by
        intro j u hj
        have := q j u hj
        rw [add_plain, ← Nat.add_assoc] at this
        exact this
      exact ⟨bb, off, vr, vc, rfl, q' 0 _ rfl, q' 1 _ rfl, q' 2 _ rfl, q' 3 _ rfl, q' 4 _ rfl, q' 5 _ rfl, q' 6 _ rfl, q' 7 _ rfl, hi.1, hi.2.1⟩
    · obtain ⟨i, hi, rfl⟩ := List.mem_map.1 hx
      obtain ⟨_, _, h, _⟩ := hS i (List.mem_range.1 hi)
      exact ⟨h.2.2.1, h.2.2.2⟩
/-- a transaction that comes in -/
def TIn (W : World) (t : Tx) (u : Value) : Prop := HsAt W u t.cs ∧ Hok t.cs
set_option maxRecDepth 100000 in
theorem open_txn {H : Type} {enc : TypeId × Value → H} {W : World} {base b0 : Nat} {sp : Nat → Bool} {hd : Bool} {r : Reach} {v : Value} {d : DataW H} {p : List MemPlace} (hv : Value.okWide Try.prog W r b0 24 v) (h : DataW.Trod enc Try.prog W base sp hd 24 v d p) :
    ∃ (t : Tx) (u : Value), v = tv t u ∧ TIn W t u := by
  obtain ⟨v0, v1, v2, y0, y1, y2, n, rfl, _, _, h0, h1, h2⟩ := open_agg3 Try.underlying24 (by kernel_rfl) cellsTxn hv h
  obtain ⟨k0, e0, _, _⟩ := DataW.trod_int Try.underlying3 h0
  obtain ⟨k1, e1, _, _⟩ := DataW.trod_int Try.underlying3 h1
  simp at e0 e1
  subst e0 e1
  obtain ⟨l, hl, hk⟩ := open_chs h2
  exact ⟨⟨k0, k1, l⟩, v2, rfl, hl, hk⟩
/-- the slice v holds the transactions l -/
def TsAt (w : World) (v : Value) (l : List Tx) : Prop :=
  ∃ adr cap, v = .slice adr l.length cap ∧ ∀ k (hk : k < l.length), ∃ g off u, adr = some ⟨g, off, none⟩ ∧ w.cell? ⟨g, off + k * 3, none⟩ = some (.int .i64 l[k].seq) ∧ w.cell? ⟨g, off + k * 3 + 1, none⟩ = some (.int .i64 l[k].time) ∧ w.cell? ⟨g, off + k * 3 + 2, none⟩ = some u ∧ HsAt w u l[k].cs
theorem TsAt.below {w w' : World} {v : Value} {l : List Tx} (h : TsAt w v l) (hb : Below w.heap.size w w') : TsAt w' v l := by
  obtain ⟨adr, cap, rfl, hc⟩ := h
  refine ⟨adr, cap, rfl, fun k hk => ?_⟩
  obtain ⟨g, off, u, rfl, q0, q1, q2, h1⟩ := hc k hk
  exact ⟨g, off, u, rfl, hkeep q0 hb, hkeep q1 hb, hkeep q2 hb, h1.below hb⟩
set_option maxRecDepth 100000 in
/-- transactions that come in -/
theorem open_txns {H : Type} {enc : TypeId × Value → H} {W : World} {base b0 : Nat} {sp : Nat → Bool} {hd : Bool} {r : Reach} {v : Value} {d : DataW H} {p : List MemPlace} (hv : Value.okWide Try.prog W r b0 53 v) (h : DataW.Trod enc Try.prog W base sp hd 53 v d p) :
    ∃ l : List Tx, l.length ≤ maxLen ∧ TsAt W v l ∧ ∀ x ∈ l, Hok x.cs := by
  obtain ⟨a, len, cap, rfl⟩ := okWide_slice Try.underlying53 hv
  obtain ⟨fuel, hf⟩ := h
  rcases open_slice Try.underlying53 hf with ⟨e, _⟩ | ⟨a', len', cap', m, n, D, Pl, e, hb, hl, hc, hm, _, hx⟩
  · simp [Value.cells] at e
    obtain ⟨rfl, rfl, rfl⟩ := e
    exact ⟨[], by simp, ⟨none, 0, rfl, fun k hk => absurd hk (Nat.not_lt_zero k)⟩, fun x hx => absurd hx List.not_mem_nil⟩
  · simp [Value.cells] at e
    obtain ⟨rfl, rfl, rfl⟩ := e
    have hlm : len ≤ m := by rw [hm]; split <;> omega
    have each : ∀ i, i < len → ∃ s : Tx, ∃ u, HsAt W u s.cs ∧ Hok s.cs ∧ W.cell? (a'.add (i * 3)) = some (.int .i64 s.seq) ∧ W.cell? (a'.add (i * 3 + 1)) = some (.int .i64 s.time) ∧ W.cell? (a'.add (i * 3 + 2)) = some u := by
      intro i hi
      obtain ⟨cs', h1, h2⟩ := hx i (by omega)
      rw [cellsTxn] at h1
      obtain ⟨_, hlen, hcell⟩ := World.cells?_some h1
      obtain ⟨c0, c1, c2, rfl⟩ := list3 hlen
      obtain ⟨y0, y1, y2, k, _, _, g0, g1, g2⟩ := trod_struct3 Try.underlying24 h2
      simp [cellsI, cellsHs] at g0 g1 g2
      obtain ⟨k0, e0, _, _⟩ := DataW.trod_int Try.underlying3 g0
      obtain ⟨k1, e1, _, _⟩ := DataW.trod_int Try.underlying3 g1
      obtain ⟨cl, hcl, hck⟩ := open_chs g2
      simp at e0 e1
      subst e0 e1
      have q0 := hcell 0 (by omega)
      have q1 := hcell 1 (by omega)
      have q2 := hcell 2 (by omega)
      rw [add_add] at q0 q1 q2
      exact ⟨⟨k0, k1, cl⟩, c2, hcl, hck, by simpa using q0, by simpa using q1, by simpa using q2⟩
    have hmax : len ≤ maxLen := by omega
    obtain ⟨S, hS⟩ := choose_lt each
    refine ⟨(List.range len).map S, by simpa using hmax, ⟨some a', cap, by simp, fun k hk => ?_⟩, fun x hx => ?_⟩
    · have hk' : k < len := by simpa using hk
      obtain ⟨bb, off, spot⟩ := a'
      obtain ⟨u, hu, _, q0, q1, q2⟩ := hS k hk'
      obtain ⟨_, _, _, g0, _⟩ := hS 0 (by omega)
      have hs : spot = none := World.cell?_spot (a := ⟨bb, off, spot⟩) (by simpa [Addr.add] using g0)
      subst hs
      rw [add_plain] at q0 q1 q2
      have hg : ((List.range len).map S)[k] = S k := by simp
      rw [hg]
      exact ⟨bb, off, u, rfl, q0, by rw [Nat.add_assoc]; exact q1, by rw [Nat.add_assoc]; exact q2, hu⟩
    · obtain ⟨i, hi, rfl⟩ := List.mem_map.1 hx
      obtain ⟨_, _, h, _⟩ := hS i (List.mem_range.1 hi)
      exact h
end Go.Proofs.Ytmmegicaeaifaaa
