/-
  The layers below: rows made and appended.
-/
import Derived.Test.YtmcneelapghfcaaCb
import Derived.WalkKit
import Derived.WalkSpells
import Derived.WalkLawsBesides
import Derived.Handy
import Derived.Deep.RegionHeld3
import Derived.Below
import Derived.Deep.Draws
import GoSem.Core.Float
import Derived.Laws.Bits64b
import Derived.Laws.Cover2
import Derived.Laws.Externs
import Derived.Deep.QuietTactic
import Derived.BigQuiet
import Derived.WalkSmall
import Derived.Defers
import Derived.Recover
import Derived.Laws.Pointers
import Derived.Lib.SmallJoins
import Derived.Deep.SlicePairs
import Derived.Lib.SlicesS
import Derived.Laws.RangeAny
import Derived.Maps.OwnOps
import Derived.Maps.Views
import Derived.Laws.AppendOwnNone
import Derived.Laws.CopyOwn
import Derived.Laws.MakeOwn
import Derived.Deep.Strs

namespace Go.Proofs.Ytmcneelapghfcaa
open Go.RowKit

section
variable {P : Program}

end
end Go.Proofs.Ytmcneelapghfcaa

namespace Go.Proofs.Ytmcneelapghfcaa
open Go.RowKit

section
variable {P : Program} {ops : Array Oper} {Q : Exit → Act → World → Prop} {md : Region.Mode} {S S' : World → Prop}
end
end Go.Proofs.Ytmcneelapghfcaa

namespace Go.Proofs.Ytmcneelapghfcaa
namespace Va

end Va
end Go.Proofs.Ytmcneelapghfcaa

namespace Go.Proofs.Ytmcneelapghfcaa
namespace Cd

end Cd
end Go.Proofs.Ytmcneelapghfcaa

namespace Go.Proofs.Ytmcneelapghfcaa
open Go.RowKit

end Go.Proofs.Ytmcneelapghfcaa

namespace Go.Proofs.Ytmcneelapghfcaa
open Go.RowKit

end Go.Proofs.Ytmcneelapghfcaa

namespace Go.Proofs.Ytmcneelapghfcaa
open Go.RowKit

end Go.Proofs.Ytmcneelapghfcaa

namespace Go.Proofs.Ytmcneelapghfcaa
open Go.RowKit

end Go.Proofs.Ytmcneelapghfcaa

namespace Go.Proofs.Ytmcneelapghfcaa
open Go.RowKit

end Go.Proofs.Ytmcneelapghfcaa

namespace Go.Proofs.Ytmcneelapghfcaa
open Go.RowKit

end Go.Proofs.Ytmcneelapghfcaa

namespace Go.Proofs.Ytmcneelapghfcaa
open Go.RowKit


end Go.Proofs.Ytmcneelapghfcaa

namespace Go.Proofs.Ytmcneelapghfcaa
open Go.ChangeShapes Go.WideShapes Go.Joins Go.Deep

instance : Inhabited Cd.V := ⟨⟨0, 0, 0, ⟨#[]⟩⟩⟩
end Go.Proofs.Ytmcneelapghfcaa

namespace Go.Proofs.Ytmcneelapghfcaa
namespace Sc

end Sc
end Go.Proofs.Ytmcneelapghfcaa

namespace Go.Proofs.Ytmcneelapghfcaa
open Go.RowKit

end Go.Proofs.Ytmcneelapghfcaa

namespace Go.Proofs.Ytmcneelapghfcaa
open Go.RowKit Go.Maps

end Go.Proofs.Ytmcneelapghfcaa

namespace Go.Proofs.Ytmcneelapghfcaa
open Go.RowKit

/-- 'append(out, row...)', out of the call's own -/
theorem append_row (w : World) {ops : Array Oper} {rest : List Oper} {o : Oper} {a : Act} {Q : Exit → Act → World → Prop} (hgd : o.guard = none) (s x : Operand)
    (ho : o.op = .call { callee := .builtin .append, args := #[s, x], argTypes := #[22, 22] })
    (B : Nat) (v : Value) (l : List Cd.V) (hs : a.eval s = v) (hown : w.ownsRow B 36 4 v l.length (vcells l)) (r : List Cd.V) (xv : Value) (hx : a.eval x = xv) (adr : Option Addr) (n cap : Nat) (hxv : xv = .slice adr n cap) (hr : VsAt w xv r)
    (hc : adr = none → cap = 0) (hlen : l.length + r.length ≤ 1000000) (hB : B ≤ w.heap.size)
    (hK : ∀ v' w', w'.ownsRow B 36 4 v' (l ++ r).length (vcells (l ++ r)) → w.grownBy w' v.ownBlock → wpList Try.prog ops Q rest (a.put o.dst v') w') :
    wpList Try.prog ops Q (o :: rest) a w := by
  obtain ⟨i0, hi, hz0, hz1, hz2⟩ := info_parts Try.infoValue
  have hn : n = r.length := by obtain ⟨_, _, e, _⟩ := hr; rw [hxv] at e; cases e; rfl
  subst hn
  cases adr with
  | none =>
    have hr0 : r = [] := by
      cases r with
      | nil => rfl
      | cons y r' => obtain ⟨_, _, e, hcc⟩ := hr; rw [hxv] at e; cases e; obtain ⟨_, _, e, _⟩ := hcc 0 (by simp); cases e
    subst hr0
    have hc0 := hc rfl
    subst hc0
    refine wpList_append_own_none hgd s x 22 ho B 36 i0 4 Try.underlying22 hi v l.length (vcells l) hs hown (by rw [hx, hxv]; rfl) ?_
    refine hK v w (by rw [List.append_nil]; exact hown) ⟨rfl, rfl, rfl, Nat.le_refl _, fun _ _ _ => rfl⟩
  | some ad =>
    have hcell : ∀ j u, (vcells r)[j]? = some u → w.cell? (ad.add j) = some u := by
      intro j u hj
      have hr0 : 0 < r.length := by
        have := (List.getElem?_eq_some_iff.1 hj).1
        rw [vcells_length] at this; omega
      rw [hxv] at hr
      obtain ⟨_, g, off, e, hh⟩ := hr.at hr0
      cases e
      have hadd : (⟨g, off, none⟩ : Addr).add j = ⟨g, off + j, none⟩ := by unfold Addr.add; split <;> simp_all
      rw [hadd]
      exact hh j u hj
    refine wpList_append_own _ hgd s x 22 ho B 36 i0 (.agg #[.int .i64 0, .int .i64 0, .int .u64 0, .string ⟨#[]⟩]) 4 40 Try.underlying22 hi hz0 hz1 hz2 rfl (by decide) v l.length (vcells l) hs hown ad r.length cap (vcells r) (by rw [hx, hxv]) (vcells_length r) hcell (vcells_one_cell r) ?_ ?_ hB ?_
    · unfold maxLen; omega
    · omega
    · intro v' w' hown' hgrow _
      exact hK v' w' (by rw [vcells_append, List.length_append]; exact hown') hgrow
end Go.Proofs.Ytmcneelapghfcaa

namespace Go.Proofs.Ytmcneelapghfcaa
open Go.RowKit

def nullV : Cd.V := ⟨0, 0, 0, ⟨#[]⟩⟩
theorem madeCells_values (n : Nat) : (madeCells (Value.agg #[.int .i64 0, .int .i64 0, .int .u64 0, .string ⟨#[]⟩]).cells (n * 4)).toList = vcells (List.replicate n nullV) := by
  apply List.ext_getElem?
  intro j
  by_cases hj : j < n * 4
  · obtain ⟨q, r, rfl, hr⟩ : ∃ q r, j = q * 4 + r ∧ r < 4 := ⟨j / 4, j % 4, by omega, by omega⟩
    have hq : q < n := by omega
    obtain ⟨g0, g1, g2, g3⟩ := vcells_get (l := List.replicate n nullV) (j := q) (s := nullV) (by rw [List.getElem?_replicate, if_pos hq])
    have hl : (madeCells (Value.agg #[.int .i64 0, .int .i64 0, .int .u64 0, .string ⟨#[]⟩]).cells (n * 4)).toList[q * 4 + r]? = some ((#[.int .i64 0, .int .i64 0, .int .u64 0, .string ⟨#[]⟩] : Array Value)[(q * 4 + r) % 4]!) := by
      unfold madeCells
      simp [Value.cells, hj]
    rw [hl]
    have hr' : r = 0 ∨ r = 1 ∨ r = 2 ∨ r = 3 := by omega
    rcases hr' with rfl | rfl | rfl | rfl
    · rw [show (q * 4 + 0) % 4 = 0 by omega, Nat.add_zero, g0]; rfl
    · rw [show (q * 4 + 1) % 4 = 1 by omega, g1]; rfl
    · rw [show (q * 4 + 2) % 4 = 2 by omega, g2]; rfl
    · rw [show (q * 4 + 3) % 4 = 3 by omega, g3]; rfl
  · rw [List.getElem?_eq_none (by rw [Array.length_toList, size_madeCells]; omega), List.getElem?_eq_none (by rw [vcells_length, List.length_replicate]; omega)]
/-- 'make([]Value, n)' -/
theorem make_values (w : World) {ops : Array Oper} {rest : List Oper} {o : Oper} {a : Act} {Q : Exit → Act → World → Prop} (hg : o.guard = none) (x y : Operand) (hop : o.op = .makeSlice 22 x y)
    (n : Nat) (hx : a.eval x = .int .i64 (n : Int)) (hy : a.eval y = .int .i64 (n : Int)) (hn : n ≤ 1000000)
    (hK : BR (w.alloc (.cells (vcells (List.replicate n nullV)).toArray 36)) w.heap.size (List.replicate n nullV) → wpList Try.prog ops Q rest (a.put o.dst (.slice (some ⟨w.heap.size, 0, none⟩) n n)) (w.alloc (.cells (vcells (List.replicate n nullV)).toArray 36))) :
    wpList Try.prog ops Q (o :: rest) a w := by
  obtain ⟨i0, hi, hz0, hz1, hz2⟩ := info_parts Try.infoValue
  refine wpList_plain hg fun K hKK => ?_
  have hr := run_make (P := Try.prog) w 22 36 i0 _ Try.underlying22 hi hz0 .i64 .i64 (n : Int) (n : Int) (by omega) (Int.le_refl _) (by rw [hz2]; omega) (by omega)
  have e : madeCells (Value.agg #[.int .i64 0, .int .i64 0, .int .u64 0, .string ⟨#[]⟩]).cells (n * 4) = (vcells (List.replicate n nullV)).toArray := by rw [← madeCells_values]
  simp only [Int.toNat_natCast, hz1, e] at hr
  unfold Oper.wp
  simp [execOp, hop, hx, hy, hr, Result.andThen]
  exact hKK _ _ (hK (heap_alloc_new w _))
end Go.Proofs.Ytmcneelapghfcaa

namespace Go.Proofs.Ytmcneelapghfcaa
open Go.RowKit

end Go.Proofs.Ytmcneelapghfcaa

namespace Go.Proofs.Ytmcneelapghfcaa
open Go.RowKit

end Go.Proofs.Ytmcneelapghfcaa

namespace Go.Proofs.Ytmcneelapghfcaa
open Go.RowKit

end Go.Proofs.Ytmcneelapghfcaa

namespace Go.Proofs.Ytmcneelapghfcaa
open Go.RowKit

end Go.Proofs.Ytmcneelapghfcaa

namespace Go.Proofs.Ytmcneelapghfcaa
open Go.RowKit

end Go.Proofs.Ytmcneelapghfcaa

namespace Go.Proofs.Ytmcneelapghfcaa
open Go.RowKit

end Go.Proofs.Ytmcneelapghfcaa

namespace Go.Proofs.Ytmcneelapghfcaa
open Go.ChangeShapes Go.WideShapes Go.Joins Go.Deep

instance : Inhabited Sc.C := ⟨⟨⟨#[]⟩, 0, false⟩⟩
end Go.Proofs.Ytmcneelapghfcaa
