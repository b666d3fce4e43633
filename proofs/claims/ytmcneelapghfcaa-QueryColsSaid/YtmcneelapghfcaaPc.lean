/-
  The law of QueryCols, plainly; a number is put behind numbers. No condition.
-/
import Derived.Test.YtmcneelapghfcaaRp
import Derived.Test.YtmcneelapghfcaaOq
namespace Go.Proofs.Ytmcneelapghfcaa
open Go.RowKit Pd Qu

theorem append_int_in (w : World) {ops : Array Oper} {rest : List Oper} {o : Oper} {a : Act} {Q : Exit → Act → World → Prop} (hgd : o.guard = none) (sl x : Operand)
    (ho : o.op = .call { callee := .builtin .append, args := #[sl, x], argTypes := #[26, 26] })
    (B : Nat) (v : Value) (l : List Int) (hs : a.eval sl = v) (hown : OwnI w B v l) (c : Int) (g : Nat) (hg : g = w.heap.size) (hx : a.eval x = .slice (some ⟨g, 0, none⟩) 1 1) (hlen : l.length ≤ 1000000) (hB : B ≤ w.heap.size)
    (h : ∀ v' w', OwnI w' B v' (l ++ [c]) → w.grownBy w' v.ownBlock → wpList Try.prog ops Q rest (a.put o.dst v') w') : wpList Try.prog ops Q (o :: rest) a (w.alloc (.cells #[.int .i64 c] 3)) := by
  obtain ⟨i0, hi, hz0, hz1, hz2⟩ := info_parts Try.infoInt
  subst hg
  refine wpList_append_own _ hgd sl x 26 ho B 3 i0 (.int .i64 0) 1 8 Try.underlying26 hi hz0 hz1 hz2 rfl (by decide) v l.length (l.map intV) hs (hown.alloc _) ⟨w.heap.size, 0, none⟩ 1 1 [intV c] hx rfl ?_ (fun u hu => by rw [List.mem_singleton.1 hu]; rfl) ?_ ?_ ?_ ?_
  · intro j u hj
    cases j with
    | zero =>
      cases hj
      have hadd : (⟨w.heap.size, 0, none⟩ : Addr).add 0 = ⟨w.heap.size, 0, none⟩ := by unfold Addr.add; rfl
      rw [hadd, cell_of_row _ w.heap.size 0 _ _ (0, 0) (heap_alloc_new w _)]; rfl
    | succ j => cases hj
  · unfold maxLen; omega
  · omega
  · simp; omega
  · intro v' w' hown' hgrow _
    refine h v' w' (by unfold OwnI; rw [List.length_append, List.map_append]; exact hown') ?_
    refine ⟨hgrow.os, hgrow.tape, hgrow.output, Nat.le_trans (by simp) hgrow.size, fun k hk hne => ?_⟩
    rw [hgrow.block k (by simp; omega) hne]
    exact Below.heap_alloc w _ k hk
theorem upd_grown {g : Nat} {a b c : World} {r : Option Nat} (h : Upd g a b) (k : b.grownBy c r) (hr : ∀ q, r = some q → a.heap.size ≤ q) : Upd g a c :=
  ⟨k.os.trans h.os, k.tape.trans h.tape, k.output.trans h.output, Nat.le_trans h.size k.size, fun i hi hn => (k.block i (Nat.lt_of_lt_of_le hi h.size) (fun e => by have := hr i e.symm; omega)).trans (h.block i hi hn)⟩
theorem Var.grown {w w' : World} {b : Nat} {cs : Array Value} {t : TypeId} {r : Option Nat} (h : Var w b cs t) (k : w.grownBy w' r) (hr : ∀ q, r = some q → b < q) : Var w' b cs t :=
  (k.block b h.lt (fun e => by have := hr b e.symm; omega)).trans h
theorem own_cut {w : World} {B e s n : Nat} {v : Value} {xs : List Value} (h : w.ownsRow B e s v n xs) : ∃ a c, v = .slice a n c := by
  rcases h.2 with ⟨rfl, hn⟩ | ⟨g, cap, cur, rfl, _⟩
  · exact ⟨none, 0, by rw [hn]⟩
  · exact ⟨_, cap, rfl⟩
namespace Qu
/-- the first k columns -/
def RG (k : Nat) : List Int := (List.range k).map (fun n : Nat => (n : Int))
theorem RG_len (k : Nat) : (RG k).length = k := by unfold RG; simp
theorem RG_next (k : Nat) : RG (k + 1) = RG k ++ [(k : Int)] := by unfold RG; rw [List.range_succ, List.map_append]; rfl
/-- the columns that bytes tell -/
def CG (l : List Nat) (k : Nat) : List Int := (l.take k).map (fun n : Nat => (n : Int) - 4)
theorem CG_len {l : List Nat} {k : Nat} (h : k ≤ l.length) : (CG l k).length = k := by unfold CG; rw [List.length_map, List.length_take]; omega
theorem CG_next {l : List Nat} {k : Nat} (h : k < l.length) : CG l (k + 1) = CG l k ++ [(l[k] : Int) - 4] := by unfold CG; rw [List.take_succ_eq_append_getElem h, List.map_append]; rfl
/-- a query that asks for columns alone -/
def SQ (c : List Int) : Q := ⟨0, ⟨#[]⟩, [], 0, 0, 0, 0, [], c, 0, false⟩
theorem proj_all (row : List Cd.V) : projL (SQ (RG row.length)) row = row := by
  unfold projL
  show (if (RG row.length).length = 0 then row else (RG row.length).map (colV row)) = row
  rw [RG_len]
  split
  · rfl
  · unfold RG
    apply List.ext_getElem
    · simp
    · intro i h1 h2
      simp only [List.getElem_map, List.getElem_range]
      exact colV_in h2
theorem proj_none {c : List Int} (row : List Cd.V) (h : c = []) : projL (SQ c) row = row := by
  unfold projL
  rw [if_pos (by show c.length = 0; rw [h]; rfl)]
theorem proj_some {c : List Int} (row : List Cd.V) (h : 0 < c.length) : projL (SQ c) row = c.map (colV row) := by
  unfold projL
  rw [if_neg (show ¬ (SQ c).cols.length = 0 from fun e => by have e1 : c.length = 0 := e; omega)]
  rfl
theorem proj_at {l : List Nat} (row : List Cd.V) {k : Nat} (hk : k < l.length) (hkp : k < (projL (SQ (CG l l.length)) row).length) : (projL (SQ (CG l l.length)) row)[k] = colV row ((l[k] : Int) - 4) := by
  have e : projL (SQ (CG l l.length)) row = (CG l l.length).map (colV row) := proj_some row (by rw [CG_len (Nat.le_refl _)]; omega)
  have e2 : (projL (SQ (CG l l.length)) row)[k]? = some (colV row ((l[k] : Int) - 4)) := by
    rw [e, List.getElem?_map]
    unfold CG
    rw [List.getElem?_map, List.take_length, List.getElem?_eq_getElem hk]
    rfl
  rw [List.getElem?_eq_getElem hkp] at e2
  exact Option.some.inj e2
theorem colV_lt {row : List Cd.V} {c : Int} (h0 : 0 ≤ c) (h1 : c < (row.length : Int)) : colV row c = row[c.toNat]'(by omega) := by
  obtain ⟨n, rfl⟩ : ∃ n : Nat, c = (n : Int) := ⟨c.toNat, by omega⟩
  exact colV_in (by omega)
end Qu
end Go.Proofs.Ytmcneelapghfcaa
