/-
  What the texts of other seats hold: values and schemas in memory. No condition.
-/
import Derived.Test.YtfdehigepgeknaaSh
import Derived.Lib.SmallJoins
import Derived.Deep.SlicePairs
import Derived.Laws.AppendOwnNone
import Derived.Laws.CopyOwn
import Derived.Laws.MakeOwn
import Derived.Deep.Strs

namespace Go.Proofs.Ytfdehigepgeknaa
open Go.RowKit

namespace Vl
theorem txt_odd {k n : Int} {b : Nat} {s : ByteArray} (h : Va.right k n b s = false) : txt k n b s = [] := if_pos h
end Vl
end Go.Proofs.Ytfdehigepgeknaa

namespace Go.Proofs.Ytfdehigepgeknaa
open Go.RowKit Go.Joins Go.ChangeShapes Go.WideShapes Go.Deep

/-- a value, laid -/
def box (w : World) (k n : Int) (b : Nat) (s : ByteArray) : World := w.alloc (.cells #[.int .i64 k, .int .i64 n, .int .u64 (b : Int), .string s] 39)
theorem cmp_odd1 {x y : Cd.V} (h : x.right = false) : Ky.cmp x y = 0 := by unfold Ky.cmp; rw [if_pos h]
theorem cmp_odd2 {x y : Cd.V} (h : y.right = false) : Ky.cmp x y = 0 := by
  unfold Ky.cmp
  by_cases hx : x.right = false
  · rw [if_pos hx]
  · rw [if_neg hx, if_pos h]
end Go.Proofs.Ytfdehigepgeknaa

namespace Go.Proofs.Ytfdehigepgeknaa
open Go.RowKit

theorem Try.infoValue : (Try.prog.info? 39).map (fun i => (i.zero, i.size, i.bytes)) = some (some (.agg #[.int .i64 0, .int .i64 0, .int .u64 0, .string ⟨#[]⟩]), 4, 40) := by kernel_rfl
theorem vcells_append (l r : List Cd.V) : vcells (l ++ r) = vcells l ++ vcells r := by simp [vcells]
theorem vcells_length (l : List Cd.V) : (vcells l).length = l.length * 4 := by
  induction l with
  | nil => rfl
  | cons s l ih => show (_ :: _ :: _ :: _ :: vcells l).length = _; simp [ih]; omega
theorem vcells_one_cell (l : List Cd.V) : ∀ u ∈ vcells l, u.oneCell' = true := by
  intro u hu
  obtain ⟨s, _, hs⟩ := List.mem_flatMap.1 hu
  simp at hs
  rcases hs with rfl | rfl | rfl | rfl <;> rfl
theorem cell_four (w : World) (a b c d : Value) (t : TypeId) {g : Nat} (hg : g = w.heap.size) : ∀ j u, [a, b, c, d][j]? = some u → (w.alloc (.cells #[a, b, c, d] t)).cell? ((⟨g, 0, none⟩ : Addr).add j) = some u := by
  subst hg
  intro j u hj
  have hadd : (⟨w.heap.size, 0, none⟩ : Addr).add j = ⟨w.heap.size, j, none⟩ := by unfold Addr.add; split <;> simp_all
  rw [hadd, cell_of_row (w.alloc (.cells #[a, b, c, d] t)) w.heap.size j #[a, b, c, d] t (0, 0) (heap_alloc_new w _)]
  simpa using hj

/-- 'append(out, v)', out of the call's own, v in a block that has just been laid -/
theorem append_value (u : World) {ops : Array Oper} {rest : List Oper} {o : Oper} {a : Act} {Q : Exit → Act → World → Prop} (hgd : o.guard = none) (s x : Operand)
    (ho : o.op = .call { callee := .builtin .append, args := #[s, x], argTypes := #[35, 35] })
    (B : Nat) (v : Value) (l : List Cd.V) (hs : a.eval s = v) (hown : u.ownsRow B 39 4 v l.length (vcells l)) (p : Cd.V) (g : Nat) (hgz : g = u.heap.size) (hx : a.eval x = .slice (some ⟨g, 0, none⟩) 1 1)
    (hlen : l.length ≤ 1000000) (hB : B ≤ u.heap.size)
    (hK : ∀ v' w', w'.ownsRow B 39 4 v' (l ++ [p]).length (vcells (l ++ [p])) → u.grownBy w' v.ownBlock → wpList Try.prog ops Q rest (a.put o.dst v') w') :
    wpList Try.prog ops Q (o :: rest) a (u.alloc (.cells #[.int .i64 p.k, .int .i64 p.n, .int .u64 (p.b : Int), .string p.s] 39)) := by
  obtain ⟨i0, hi, hz0, hz1, hz2⟩ := info_parts Try.infoValue
  refine wpList_append_own _ hgd s x 35 ho B 39 i0 (.agg #[.int .i64 0, .int .i64 0, .int .u64 0, .string ⟨#[]⟩]) 4 40 Try.underlying35 hi hz0 hz1 hz2 rfl (by decide) v l.length (vcells l) hs (hown.alloc _) ⟨g, 0, none⟩ 1 1 (vcells [p]) hx rfl (cell_four u _ _ _ _ _ hgz) (vcells_one_cell [p]) ?_ ?_ ?_ ?_
  · unfold maxLen; omega
  · omega
  · simp; omega
  · intro v' w' hown' hgrow _
    refine hK v' w' (by rw [vcells_append, List.length_append]; exact hown') ?_
    refine ⟨hgrow.os, hgrow.tape, hgrow.output, Nat.le_trans (by simp) hgrow.size, fun k hk hne => ?_⟩
    rw [hgrow.block k (by simp; omega) hne]
    exact Below.heap_alloc u _ k hk

end Go.Proofs.Ytfdehigepgeknaa

namespace Go.Proofs.Ytfdehigepgeknaa
open Go.ChangeShapes Go.WideShapes Go.Joins Go.Deep

instance : Inhabited Cd.V := ⟨⟨0, 0, 0, ⟨#[]⟩⟩⟩
theorem cellsValue : Try.prog.cellsOf 39 = 4 := by kernel_rfl
theorem cellsI : Try.prog.cellsOf 3 = 1 := by kernel_rfl
theorem cellsU : Try.prog.cellsOf 37 = 1 := by kernel_rfl
theorem cellsS : Try.prog.cellsOf 9 = 1 := by kernel_rfl
theorem list4 {α : Type} {cs : List α} (h : cs.length = 4) : ∃ c0 c1 c2 c3, cs = [c0, c1, c2, c3] := by
  match cs, h with
  | [c0, c1, c2, c3], _ => exact ⟨c0, c1, c2, c3, rfl⟩
theorem int64_of {n : Int} (h : (Lit.int .i64 n).wf = true) : -9223372036854775808 ≤ n ∧ n ≤ 9223372036854775807 := by
  simpa [Lit.wf, IntKind.min, IntKind.max, IntKind.signed, IntKind.bits] using h
/-- a value that can stand in memory -/
def Vok (v : Cd.V) : Prop := (-9223372036854775808 ≤ v.n ∧ v.n ≤ 9223372036854775807) ∧ v.b < 18446744073709551616 ∧ v.s.size ≤ maxLen
theorem open_values {H : Type} {enc : TypeId × Value → H} {W : World} {base b0 : Nat} {sp : Nat → Bool} {hd : Bool} {r : Reach} {v : Value} {d : DataW H} {p : List MemPlace} (hv : Value.okWide Try.prog W r b0 35 v) (h : DataW.Trod enc Try.prog W base sp hd 35 v d p) :
    ∃ l : List Cd.V, l.length ≤ maxLen ∧ VsAt W v l ∧ ∀ x ∈ l, Vok x := by
  obtain ⟨a, len, cap, rfl⟩ := okWide_slice Try.underlying35 hv
  obtain ⟨fuel, hf⟩ := h
  rcases open_slice Try.underlying35 hf with ⟨e, _⟩ | ⟨a', len', cap', m, n, D, Pl, e, hb, hl, hc, hm, _, hx⟩
  · simp [Value.cells] at e
    obtain ⟨rfl, rfl, rfl⟩ := e
    exact ⟨[], by simp, ⟨none, 0, rfl, fun k hk => absurd hk (Nat.not_lt_zero k)⟩, fun x hx => absurd hx List.not_mem_nil⟩
  · simp [Value.cells] at e
    obtain ⟨rfl, rfl, rfl⟩ := e
    have hlm : len ≤ m := by rw [hm]; split <;> omega
    have each : ∀ i, i < len → ∃ s : Cd.V, Vok s ∧ W.cell? (a'.add (i * 4)) = some (.int .i64 s.k) ∧ W.cell? (a'.add (i * 4 + 1)) = some (.int .i64 s.n) ∧ W.cell? (a'.add (i * 4 + 2)) = some (.int .u64 (s.b : Int)) ∧ W.cell? (a'.add (i * 4 + 3)) = some (.string s.s) := by
      intro i hi
      obtain ⟨cs', h1, h2⟩ := hx i (by omega)
      rw [cellsValue] at h1
      obtain ⟨_, hlen, hcell⟩ := World.cells?_some h1
      obtain ⟨c0, c1, c2, c3, rfl⟩ := list4 hlen
      obtain ⟨y0, y1, y2, y3, k, _, _, g0, g1, g2, g3⟩ := trod_struct4 Try.underlying39 h2
      simp [cellsI, cellsU, cellsS] at g0 g1 g2 g3
      obtain ⟨k0, e0, _, _⟩ := DataW.trod_int Try.underlying3 g0
      obtain ⟨k1, e1, _, w1⟩ := DataW.trod_int Try.underlying3 g1
      obtain ⟨k2, e2, _, w2⟩ := DataW.trod_int Try.underlying37 g2
      obtain ⟨k3, e3, _, w3⟩ := DataW.trod_string Try.underlying9 g3
      simp at e0 e1 e2 e3
      subst e0 e1 e2 e3
      obtain ⟨b, rfl, hb⟩ := u64_of w2
      have q0 := hcell 0 (by omega)
      have q1 := hcell 1 (by omega)
      have q2 := hcell 2 (by omega)
      have q3 := hcell 3 (by omega)
      rw [add_add] at q0 q1 q2 q3
      exact ⟨⟨k0, k1, b, k3⟩, ⟨int64_of w1, hb, w3⟩, by simpa using q0, by simpa using q1, by simpa using q2, by simpa using q3⟩
    have hmax : len ≤ maxLen := by omega
    obtain ⟨S, hS⟩ := choose_lt each
    refine ⟨(List.range len).map S, by simpa using hmax, ⟨some a', cap, by simp, fun k hk => ?_⟩, fun x hx => ?_⟩
    · have hk' : k < len := by simpa using hk
      obtain ⟨bb, off, spot⟩ := a'
      obtain ⟨_, q0, q1, q2, q3⟩ := hS k hk'
      have g0 := (hS 0 (by omega)).2.1
      have hs : spot = none := World.cell?_spot (a := ⟨bb, off, spot⟩) (by simpa [Addr.add] using g0)
      subst hs
      rw [add_plain] at q0 q1 q2 q3
      have hg : ((List.range len).map S)[k] = S k := by simp
      rw [hg]
      exact ⟨bb, off, rfl, q0, by rw [Nat.add_assoc]; exact q1, by rw [Nat.add_assoc]; exact q2, by rw [Nat.add_assoc]; exact q3⟩
    · obtain ⟨i, hi, rfl⟩ := List.mem_map.1 hx
      exact (hS i (List.mem_range.1 hi)).1
end Go.Proofs.Ytfdehigepgeknaa

namespace Go.Proofs.Ytfdehigepgeknaa
namespace Sc

def letter (c : Nat) : Bool := decide (97 ≤ c ∧ c ≤ 122) || decide (c = 95)
def digit (c : Nat) : Bool := decide (48 ≤ c ∧ c ≤ 57)
def okAt (i c : Nat) : Bool := letter c || (digit c && decide (i ≠ 0))
/-- the first k bytes are a name's -/
def nameTo (s : ByteArray) : Nat → Bool
  | 0 => true
  | k + 1 => nameTo s k && (match s.data.toList[k]? with | none => true | some c => okAt k c.toNat)
def nameB (s : ByteArray) : Bool := nameTo s s.size && decide (1 ≤ s.size) && decide (s.size ≤ 32)

/-- a column -/
structure C where
  name : ByteArray
  kind : Int
  need : Bool
/-- a schema -/
structure S where
  name : ByteArray
  cols : List C
  keys : Int
instance cDec : DecidableEq C := fun a b => decidable_of_iff (a.name = b.name ∧ a.kind = b.kind ∧ a.need = b.need) (by
  cases a; cases b; simp)
def colOk (keys : Int) (i : Nat) (c : C) : Bool := nameB c.name && decide (1 ≤ c.kind) && decide (c.kind ≤ 5) && (decide (keys ≤ (i : Int)) || c.need)
def fresh (l : List C) (k : Nat) (n : ByteArray) : Bool := (l.take k).all fun d => decide (d.name ≠ n)
def good1 (s : S) (k : Nat) : Bool := match s.cols[k]? with
  | none => true
  | some c => colOk s.keys k c && fresh s.cols k c.name
def goodTo (s : S) : Nat → Bool
  | 0 => true
  | k + 1 => goodTo s k && good1 s k
def right (s : S) : Bool := nameB s.name && decide (s.cols.length ≤ 16) && decide (1 ≤ s.keys) && decide (s.keys ≤ 8) && decide (s.keys ≤ (s.cols.length : Int)) && goodTo s s.cols.length
end Sc
end Go.Proofs.Ytfdehigepgeknaa

namespace Go.Proofs.Ytfdehigepgeknaa
open Go.RowKit

/-- columns in memory -/
def CsAt (w : World) (v : Value) (l : List Sc.C) : Prop :=
  ∃ adr cap, v = .slice adr l.length cap ∧ l.length ≤ cap ∧ cap ≤ maxLen ∧ ∀ k (hk : k < l.length), ∃ g off, adr = some ⟨g, off, none⟩ ∧ w.cell? ⟨g, off + k * 3, none⟩ = some (.string l[k].name) ∧ w.cell? ⟨g, off + k * 3 + 1, none⟩ = some (.int .i64 l[k].kind) ∧
    w.cell? ⟨g, off + k * 3 + 2, none⟩ = some (.bool l[k].need)
theorem CsAt.below {w w' : World} {v : Value} {l : List Sc.C} (h : CsAt w v l) (hb : Below w.heap.size w w') : CsAt w' v l := by
  obtain ⟨adr, cap, rfl, h1, h2, hc⟩ := h
  refine ⟨adr, cap, rfl, h1, h2, fun k hk => ?_⟩
  obtain ⟨g, off, rfl, q0, q1, q2⟩ := hc k hk
  exact ⟨g, off, rfl, hkeep q0 hb, hkeep q1 hb, hkeep q2 hb⟩
/-- a schema as a value, its columns being v -/
def sv (s : Sc.S) (v : Value) : Value := .agg #[.string s.name, v, .int .i64 s.keys]
/-- what texts a schema has -/
def Sok (s : Sc.S) : Prop := s.name.size ≤ maxLen ∧ ∀ c ∈ s.cols, c.name.size ≤ maxLen
end Go.Proofs.Ytfdehigepgeknaa

namespace Go.Proofs.Ytfdehigepgeknaa
open Go.RowKit

/-- a row's cells at a place -/
theorem VsAt.at {w : World} {adr : Option Addr} {cap n : Nat} {l : List Cd.V} (h : VsAt w (.slice adr n cap) l) (hl : 0 < l.length) : n = l.length ∧ ∃ g off, adr = some ⟨g, off, none⟩ ∧ ∀ j u, (vcells l)[j]? = some u → w.cell? ⟨g, off + j, none⟩ = some u := by
  obtain ⟨adr', cap', e, hc⟩ := h
  cases e
  refine ⟨rfl, ?_⟩
  obtain ⟨g, off, rfl, _⟩ := hc 0 hl
  refine ⟨g, off, rfl, fun j u hj => ?_⟩
  have hjl : j < l.length * 4 := by
    have := (List.getElem?_eq_some_iff.1 hj).1
    rw [vcells_length] at this; exact this
  obtain ⟨q, r, rfl, hr⟩ : ∃ q r, j = q * 4 + r ∧ r < 4 := ⟨j / 4, j % 4, by omega, by omega⟩
  have hq : q < l.length := by omega
  obtain ⟨g', off', e, q0, q1, q2, q3⟩ := hc q hq
  cases e
  obtain ⟨g0, g1, g2, g3⟩ := vcells_get (List.getElem?_eq_getElem hq)
  have hr' : r = 0 ∨ r = 1 ∨ r = 2 ∨ r = 3 := by omega
  rcases hr' with rfl | rfl | rfl | rfl
  · rw [Nat.add_zero] at hj ⊢
    rw [g0] at hj; cases hj; exact q0
  · rw [g1] at hj; cases hj; rw [← Nat.add_assoc]; exact q1
  · rw [g2] at hj; cases hj; rw [← Nat.add_assoc]; exact q2
  · rw [g3] at hj; cases hj; rw [← Nat.add_assoc]; exact q3
theorem VsAt.take {w : World} {adr : Option Addr} {cap : Nat} {l : List Cd.V} (h : VsAt w (.slice adr l.length cap) l) (n : Nat) (hn : n ≤ l.length) (cap' : Nat) : VsAt w (.slice adr n cap') (l.take n) := by
  obtain ⟨adr', cap'', e, hc⟩ := h
  cases e
  refine ⟨adr, cap', by rw [List.length_take, Nat.min_eq_left hn], fun k hk => ?_⟩
  have hk' : k < l.length := by rw [List.length_take] at hk; omega
  have hg : (l.take n)[k] = l[k] := List.getElem_take ..
  rw [hg]
  exact hc k hk'
/-- a row in memory, with what its slice may hold -/
def RsAt (w : World) (v : Value) (l : List Cd.V) : Prop := VsAt w v l ∧ ∃ adr cap, v = .slice adr l.length cap ∧ l.length ≤ cap ∧ cap ≤ maxLen ∧ (adr = none → cap = 0)
theorem RsAt.below {w w' : World} {v : Value} {l : List Cd.V} (h : RsAt w v l) (hb : Below w.heap.size w w') : RsAt w' v l := ⟨h.1.below hb, h.2⟩
theorem RsAt.len {w : World} {v : Value} {l : List Cd.V} (h : RsAt w v l) : l.length ≤ maxLen := by
  obtain ⟨_, _, _, _, h1, h2, _⟩ := h
  exact Nat.le_trans h1 h2
theorem RsAt.own {w : World} {B : Nat} {v : Value} {l : List Cd.V} (h : w.ownsRow B 39 4 v l.length (vcells l)) : RsAt w v l := by
  refine ⟨VsAt.own h, ?_⟩
  rcases h.2 with ⟨rfl, hn⟩ | ⟨g, cap, cur, rfl, _, _, h1, h2, _⟩
  · exact ⟨none, 0, by rw [hn], by omega, by decide, fun _ => rfl⟩
  · exact ⟨_, cap, rfl, h1, h2, fun e => by cases e⟩
theorem RsAt.nil (w : World) : RsAt w (.slice none 0 0) [] := ⟨⟨none, 0, rfl, fun k hk => absurd hk (Nat.not_lt_zero k)⟩, none, 0, rfl, Nat.le_refl _, by decide, fun _ => rfl⟩
end Go.Proofs.Ytfdehigepgeknaa

namespace Go.Proofs.Ytfdehigepgeknaa
open Go.RowKit

/-- a block that holds just these values -/
def BR (w : World) (g : Nat) (l : List Cd.V) : Prop := w.heap[g]? = some (.cells (vcells l).toArray 39 (0, 0))
theorem BR.keep {w w' : World} {g : Nat} {l : List Cd.V} (h : BR w g l) (hb : Below w.heap.size w w') : BR w' g l := keepBlock h hb
theorem BR.own {w : World} {g B : Nat} {l : List Cd.V} (h : BR w g l) (hB : B ≤ g) (hl : l.length ≤ maxLen) : w.ownsRow B 39 4 (.slice (some ⟨g, 0, none⟩) l.length l.length) l.length (vcells l) :=
  ⟨vcells_length l, .inr ⟨g, l.length, (vcells l).toArray, rfl, hB, h, Nat.le_refl _, hl, by simp [vcells_length], by simp only; rw [List.take_of_length_le (by rw [vcells_length]; exact Nat.le_refl _)]⟩⟩
theorem below_grown {w w1 w3 : World} {O : Obj} (h : Below w.heap.size w w1) (hgr : (w1.alloc O).grownBy w3 (some w1.heap.size)) : Below w.heap.size w w3 :=
  (hnext h (hba w1 O)).grown hgr (Nat.le_trans h.size (hba w1 O).size) (fun q hq => by cases hq; exact h.size)
theorem own_base {w : World} {B B' e size n : Nat} {v : Value} {xs : List Value} (h : w.ownsRow B e size v n xs) (hB : B' ≤ B) : w.ownsRow B' e size v n xs := by
  refine ⟨h.1, ?_⟩
  rcases h.2 with hn | ⟨g, cap, cur, rfl, hb, rest⟩
  · exact .inl hn
  · exact .inr ⟨g, cap, cur, rfl, Nat.le_trans hB hb, rest⟩
end Go.Proofs.Ytfdehigepgeknaa

namespace Go.Proofs.Ytfdehigepgeknaa
open Go.RowKit

theorem CsAt.nil (w : World) : CsAt w (.slice none 0 0) [] := ⟨none, 0, rfl, Nat.le_refl _, by decide, fun k hk => absurd hk (Nat.not_lt_zero k)⟩
theorem CsAt.slc {w : World} {v : Value} {l : List Sc.C} (h : CsAt w v l) : ∃ adr cap, v = .slice adr l.length cap := by
  obtain ⟨adr, cap, rfl, _⟩ := h; exact ⟨adr, cap, rfl⟩
end Go.Proofs.Ytfdehigepgeknaa

namespace Go.Proofs.Ytfdehigepgeknaa
open Go.RowKit

end Go.Proofs.Ytfdehigepgeknaa

namespace Go.Proofs.Ytfdehigepgeknaa
open Go.RowKit

end Go.Proofs.Ytfdehigepgeknaa

namespace Go.Proofs.Ytfdehigepgeknaa
open Go.RowKit

end Go.Proofs.Ytfdehigepgeknaa

namespace Go.Proofs.Ytfdehigepgeknaa
open Go.ChangeShapes Go.WideShapes Go.Joins Go.Deep

theorem cellsSchema : Try.prog.cellsOf 25 = 3 := by kernel_rfl
theorem cellsColumn : Try.prog.cellsOf 53 = 3 := by kernel_rfl
theorem cellsB : Try.prog.cellsOf 4 = 1 := by kernel_rfl
theorem list3 {α : Type} {cs : List α} (h : cs.length = 3) : ∃ c0 c1 c2, cs = [c0, c1, c2] := by
  match cs, h with
  | [c0, c1, c2], _ => exact ⟨c0, c1, c2, rfl⟩
instance : Inhabited Sc.C := ⟨⟨⟨#[]⟩, 0, false⟩⟩
/-- columns that come in -/
theorem open_cols {H : Type} {enc : TypeId × Value → H} {W : World} {base : Nat} {sp : Nat → Bool} {hd : Bool} {v : Value} {x : DataW H × List MemPlace} {fuel : Nat} (hf : DataW.trod enc Try.prog W base sp hd fuel 23 [v] = some x) :
    ∃ l : List Sc.C, CsAt W v l ∧ ∀ c ∈ l, c.name.size ≤ maxLen ∧ (Lit.int .i64 c.kind).wf = true := by
  rcases open_slice Try.underlying23 hf with ⟨e, _⟩ | ⟨a', len, cap, m, n, D, Pl, e, hb, hl, hc, hm, _, hx⟩
  · simp at e
    subst e
    exact ⟨[], CsAt.nil _, fun c hc => absurd hc List.not_mem_nil⟩
  · simp at e
    subst e
    have hlm : len ≤ m := by rw [hm]; split <;> omega
    have each : ∀ i, i < len → ∃ s : Sc.C, (s.name.size ≤ maxLen ∧ (Lit.int .i64 s.kind).wf = true) ∧ W.cell? (a'.add (i * 3)) = some (.string s.name) ∧ W.cell? (a'.add (i * 3 + 1)) = some (.int .i64 s.kind) ∧ W.cell? (a'.add (i * 3 + 2)) = some (.bool s.need) := by
      intro i hi
      obtain ⟨cs', h1, h2⟩ := hx i (by omega)
      rw [cellsColumn] at h1
      obtain ⟨_, hlen, hcell⟩ := World.cells?_some h1
      obtain ⟨c0, c1, c2, rfl⟩ := list3 hlen
      obtain ⟨y0, y1, y2, k, _, _, g0, g1, g2⟩ := trod_struct3 Try.underlying53 h2
      simp [cellsI, cellsB, cellsS] at g0 g1 g2
      obtain ⟨k0, e0, _, w0⟩ := DataW.trod_string Try.underlying9 g0
      obtain ⟨k1, e1, _, w1⟩ := DataW.trod_int Try.underlying3 g1
      obtain ⟨k2, e2, _⟩ := DataW.trod_bool Try.underlying4 g2
      simp at e0 e1 e2
      subst e0 e1 e2
      have q0 := hcell 0 (by omega)
      have q1 := hcell 1 (by omega)
      have q2 := hcell 2 (by omega)
      rw [add_add] at q0 q1 q2
      exact ⟨⟨k0, k1, k2⟩, ⟨w0, w1⟩, by simpa using q0, by simpa using q1, by simpa using q2⟩
    have hmax : len ≤ maxLen := by omega
    obtain ⟨S, hS⟩ := choose_lt each
    refine ⟨(List.range len).map S, ⟨some a', cap, by simp, by simpa using hl, hc, fun k hk => ?_⟩, fun x hx => ?_⟩
    · have hk' : k < len := by simpa using hk
      obtain ⟨bb, off, spot⟩ := a'
      obtain ⟨_, q0, q1, q2⟩ := hS k hk'
      have g0 := (hS 0 (by omega)).2.1
      have hs : spot = none := World.cell?_spot (a := ⟨bb, off, spot⟩) (by simpa [Addr.add] using g0)
      subst hs
      rw [add_plain] at q0 q1 q2
      have hg : ((List.range len).map S)[k] = S k := by simp
      rw [hg]
      exact ⟨bb, off, rfl, q0, by rw [Nat.add_assoc]; exact q1, by rw [Nat.add_assoc]; exact q2⟩
    · obtain ⟨i, hi, rfl⟩ := List.mem_map.1 hx
      exact (hS i (List.mem_range.1 hi)).1
/-- a schema that comes in -/
def SchemaIn (W : World) (s : Sc.S) (u : Value) : Prop := CsAt W u s.cols ∧ Sok s
theorem open_schema {H : Type} {enc : TypeId × Value → H} {W : World} {base b0 : Nat} {sp : Nat → Bool} {hd : Bool} {r : Reach} {v : Value} {d : DataW H} {p : List MemPlace} (hv : Value.okWide Try.prog W r b0 25 v) (h : DataW.Trod enc Try.prog W base sp hd 25 v d p) :
    ∃ (s : Sc.S) (u : Value), v = sv s u ∧ SchemaIn W s u := by
  obtain ⟨v0, v1, v2, y0, y1, y2, n, rfl, _, _, h0, h1, h2⟩ := open_agg3 Try.underlying25 (by kernel_rfl) cellsSchema hv h
  obtain ⟨nm, e0, _, w0⟩ := DataW.trod_string Try.underlying9 h0
  obtain ⟨ks, e2, _, _⟩ := DataW.trod_int Try.underlying3 h2
  simp at e0 e2
  subst e0 e2
  obtain ⟨l, hl, hl2⟩ := open_cols h1
  exact ⟨⟨nm, l, ks⟩, v1, rfl, hl, w0, fun c hc => (hl2 c hc).1⟩
end Go.Proofs.Ytfdehigepgeknaa
