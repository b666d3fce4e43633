/-
  A pile of numbers of the call's own; conditions' stacks, plainly. No condition.
-/
import Derived.Test.YtfdehigepgeknaaPf
namespace Go.Proofs.Ytfdehigepgeknaa
open Go.RowKit Pd

theorem Try.infoInt : (Try.prog.info? 3).map (fun i => (i.zero, i.size, i.bytes)) = some (some (.int .i64 0), 1, 8) := by kernel_rfl
def intV (n : Int) : Value := .int .i64 n
/-- numbers of the call's own -/
def OwnI (w : World) (B : Nat) (v : Value) (l : List Int) : Prop := w.ownsRow B 3 1 v l.length (l.map intV)
theorem OwnI.nil (w : World) (B : Nat) : OwnI w B (.slice none 0 0) [] := World.ownsRow_nil _ _ _ _
theorem OwnI.below {w w' : World} {B : Nat} {v : Value} {l : List Int} (h : OwnI w B v l) (hb : Below w.heap.size w w') : OwnI w' B v l := own_below h hb
theorem OwnI.ge {w : World} {B : Nat} {v : Value} {l : List Int} (h : OwnI w B v l) : ∀ q, v.ownBlock = some q → B ≤ q := fun q e => (World.ownsRow.lt h q e).1
theorem OwnI.slc {w : World} {B : Nat} {v : Value} {l : List Int} (h : OwnI w B v l) : ∃ adr cap, v = .slice adr l.length cap := by
  rcases h.2 with ⟨rfl, hn⟩ | ⟨g, cap, cur, rfl, _⟩
  · exact ⟨none, 0, by rw [hn]⟩
  · exact ⟨_, cap, rfl⟩
theorem OwnI.ex {w : World} {B : Nat} {v : Value} {l : List Int} (h : OwnI w B v l) (h0 : 0 < l.length) : ∃ g cap, v = .slice (some ⟨g, 0, none⟩) l.length cap ∧ l.length ≤ cap ∧ cap ≤ maxLen ∧ B ≤ g ∧ g < w.heap.size ∧ ∀ i (hi : i < l.length), w.cell? ⟨g, i, none⟩ = some (.int .i64 l[i]) ∧ w.frozen? ⟨g, i, none⟩ = false := by
  rcases h.2 with ⟨rfl, hn⟩ | ⟨g, cap, cur, rfl, hB, hg, hn, hm, hs, ht⟩
  · omega
  · refine ⟨g, cap, rfl, hn, hm, hB, (Array.getElem?_eq_some_iff.1 hg).1, fun i hi => ⟨?_, frozen_of_row w g i _ _ hg⟩⟩
    rw [cell_of_row w g i cur _ (0, 0) hg]
    have e : (l.map intV)[i]? = some (.int .i64 l[i]) := by rw [List.getElem?_map, List.getElem?_eq_getElem hi]; rfl
    rw [← ht, List.getElem?_take] at e
    split at e
    · simpa using e
    · cases e
theorem OwnI.take {w : World} {B g n cap : Nat} {l r : List Int} (h : OwnI w B (.slice (some ⟨g, 0, none⟩) n cap) (l ++ r)) : OwnI w B (.slice (some ⟨g, 0, none⟩) l.length cap) l := by
  refine ⟨by simp, ?_⟩
  rcases h.2 with ⟨e, _⟩ | ⟨g', cap', cur, e, hB, hg, hn, hm, hs, ht⟩
  · cases e
  · cases e
    refine .inr ⟨g, cap, cur, rfl, hB, hg, by rw [List.length_append] at hn; omega, hm, hs, ?_⟩
    have h1 : cur.toList.take ((l ++ r).length * 1) = (l ++ r).map intV := ht
    show cur.toList.take (l.length * 1) = l.map intV
    have h2 := congrArg (List.take l.length) h1
    rw [List.take_take, List.map_append, List.take_append_of_le_length (by simp), List.take_of_length_le (i := l.length) (by simp), List.length_append, Nat.min_eq_left (by omega)] at h2
    rw [Nat.mul_one]; exact h2
theorem OwnI.set {w : World} {B g n cap : Nat} {l : List Int} {t : Int} (h : OwnI w B (.slice (some ⟨g, 0, none⟩) n cap) (l ++ [t])) (z : Int) : OwnI (w.setCell ⟨g, l.length, none⟩ (.int .i64 z)) B (.slice (some ⟨g, 0, none⟩) n cap) (l ++ [z]) := by
  refine ⟨by simp, ?_⟩
  rcases h.2 with ⟨e, _⟩ | ⟨g', cap', cur, e, hB, hg, hn, hm, hs, ht⟩
  · cases e
  · cases e
    have en : (l ++ [t]).length = (l ++ [z]).length := by simp
    refine .inr ⟨g, cap, cur.setIfInBounds l.length (.int .i64 z), by rw [en], hB, heap_setCell_same w g l.length cur _ (.int .i64 z) hg, by rw [← en]; exact hn, hm, by rw [Array.size_setIfInBounds]; exact hs, ?_⟩
    have h1 : cur.toList.take ((l ++ [t]).length * 1) = (l ++ [t]).map intV := ht
    show (cur.setIfInBounds l.length (.int .i64 z)).toList.take ((l ++ [z]).length * 1) = (l ++ [z]).map intV
    rw [Array.toList_setIfInBounds, show (l ++ [z]).length * 1 = (l ++ [t]).length * 1 by simp, List.take_set, h1, List.map_append, List.map_append]
    have e : ∀ L : List Value, (L ++ [intV t]).set L.length (.int .i64 z) = L ++ [intV z] := fun L => by
      rw [List.set_append]; simp; rfl
    have := e (l.map intV)
    rw [List.length_map] at this
    exact this
theorem append_int_wp (w : World) {o : Oper} {a : Act} {K : Act → World → Prop} {Q : Exit → Act → World → Prop} (sl x : Operand)
    (ho : o.op = .call { callee := .builtin .append, args := #[sl, x], argTypes := #[61, 61] })
    (B : Nat) (v : Value) (l : List Int) (hs : a.eval sl = v) (hown : OwnI w B v l) (c : Int) (g : Nat) (hg : g = w.heap.size) (hx : a.eval x = .slice (some ⟨g, 0, none⟩) 1 1) (hlen : l.length ≤ 1000000) (hB : B ≤ w.heap.size)
    (h : ∀ v' w', OwnI w' B v' (l ++ [c]) → w.grownBy w' v.ownBlock → K (a.put o.dst v') w') : o.wp Try.prog a (w.alloc (.cells #[.int .i64 c] 3)) K Q := by
  obtain ⟨i0, hi, hz0, hz1, hz2⟩ := info_parts Try.infoInt
  subst hg
  refine wp_append_own _ sl x 61 ho B 3 i0 (.int .i64 0) 1 8 Try.underlying61 hi hz0 hz1 hz2 rfl (by decide) v l.length (l.map intV) hs (hown.alloc _) ⟨w.heap.size, 0, none⟩ 1 1 [intV c] hx rfl ?_ (fun u hu => by rw [List.mem_singleton.1 hu]; rfl) ?_ ?_ ?_ ?_
  · intro j u hj
    cases j with
    | zero =>
      cases hj
      have hadd : (⟨w.heap.size, 0, none⟩ : Addr).add 0 = ⟨w.heap.size, 0, none⟩ := by unfold Addr.add; rfl
      rw [hadd, cell_of_row _ w.heap.size 0 _ _ (0, 0) (heap_alloc_new w _)]; rfl
    | succ j => cases hj
  · unfold maxLen; omega
  · omega
  · simp; omega
  · intro v' w' hown' hgrow _
    refine h v' w' (by unfold OwnI; rw [List.length_append, List.map_append]; exact hown') ?_
    refine ⟨hgrow.os, hgrow.tape, hgrow.output, Nat.le_trans (by simp) hgrow.size, fun k hk hne => ?_⟩
    rw [hgrow.block k (by simp; omega) hne]
    exact Below.heap_alloc w _ k hk
namespace Pd
def nul : Cd.V := ⟨0, 0, 0, ⟨#[]⟩⟩
def orI (a b : Int) : Int := notI (andI (notI a) (notI b))
/-- what a node makes of a stack -/
def step (row : List Cd.V) (x : N) (st : List Int) : List Int :=
  if x.op = 11 then notI (st.headD 0) :: st.tail
  else if x.op = 9 then andI (st.headD 0) (st.tail.headD 0) :: st.tail.tail
  else if x.op = 10 then orI (st.headD 0) (st.tail.headD 0) :: st.tail.tail
  else leafV x (row.getD x.col.toNat nul) :: st
def stack (row : List Cd.V) : List N → List Int
  | [] => []
  | x :: r => step row x (stack row r)
def colsOk (l : List N) (n : Nat) : Bool := l.all fun x => decide (0 ≤ x.col) && decide (x.col < (n : Int))
/-- a row's truth -/
def evalI (l : List N) (row : List Cd.V) : Int := if whole l = false then -1 else if colsOk l row.length = false then -1 else (stack row l).headD 0
theorem colsOk_no {l : List N} {n k : Nat} (hk : k < l.length) (h : l[k].col < 0 ∨ (n : Int) ≤ l[k].col) : colsOk l n = false := by
  cases hc : colsOk l n with
  | false => rfl
  | true =>
    have := List.all_eq_true.1 hc l[k] (List.getElem_mem hk)
    simp at this
    omega
theorem colsOk_yes {l : List N} {n : Nat} (h : ∀ k (hk : k < l.length), 0 ≤ l[k].col ∧ l[k].col < (n : Int)) : colsOk l n = true := by
  apply List.all_eq_true.2
  intro x hx
  obtain ⟨k, hk, rfl⟩ := List.getElem_of_mem hx
  have := h k hk
  simp; omega
theorem notI_range {t : Int} (h : -1 ≤ t ∧ t ≤ 1) : -1 ≤ notI t ∧ notI t ≤ 1 := by unfold notI; split <;> omega
theorem andI_range (a b : Int) : -1 ≤ andI a b ∧ andI a b ≤ 1 := by unfold andI; split <;> (try split) <;> omega
theorem orI_range (a b : Int) : -1 ≤ orI a b ∧ orI a b ≤ 1 := notI_range (andI_range _ _)
theorem tr_range (b : Bool) : 0 ≤ tr b ∧ tr b ≤ 1 := by cases b <;> decide
theorem leafV_range (x : N) (y : Cd.V) : -1 ≤ leafV x y ∧ leafV x y ≤ 1 := by
  have h := tr_range
  unfold leafV
  split
  · have := h (decide (y.k = 0)); omega
  · split
    · have := h (!decide (y.k = 0)); omega
    · split
      · omega
      · have := h (opB x.op (Ky.cmp y x.v)); omega
theorem step_range {row : List Cd.V} {x : N} {st : List Int} (h : ∀ t ∈ st, -1 ≤ t ∧ t ≤ 1) : ∀ t ∈ step row x st, -1 ≤ t ∧ t ≤ 1 := by
  have hd : -1 ≤ st.headD 0 ∧ st.headD 0 ≤ 1 := by cases st with | nil => decide | cons a s => exact h a (List.mem_cons_self ..)
  have ht : ∀ t ∈ st.tail, -1 ≤ t ∧ t ≤ 1 := fun t ht => h t (List.mem_of_mem_tail ht)
  have htt : ∀ t ∈ st.tail.tail, -1 ≤ t ∧ t ≤ 1 := fun t h2 => ht t (List.mem_of_mem_tail h2)
  intro t hm
  unfold step at hm
  split at hm
  · rcases List.mem_cons.1 hm with rfl | hm
    · exact notI_range hd
    · exact ht t hm
  · split at hm
    · rcases List.mem_cons.1 hm with rfl | hm
      · exact andI_range _ _
      · exact htt t hm
    · split at hm
      · rcases List.mem_cons.1 hm with rfl | hm
        · exact orI_range _ _
        · exact htt t hm
      · rcases List.mem_cons.1 hm with rfl | hm
        · exact leafV_range _ _
        · exact h t hm
theorem stack_range (row : List Cd.V) (l : List N) : ∀ t ∈ stack row l, -1 ≤ t ∧ t ≤ 1 := by
  induction l with
  | nil => intro t h; cases h
  | cons x r ih => exact step_range ih
theorem ends_cons {k : Nat} {x : N} {r : List N} (h : ends k (x :: r) = some (x :: r).length) : ∃ m p : Nat, k = m + 1 ∧ parts x.op = (p : Int) ∧ ends (m + p) r = some r.length := by
  cases k with
  | zero => rw [ends_zero] at h; cases h
  | succ m =>
    unfold ends at h
    split at h
    · cases h
    · refine ⟨m, (parts x.op).toNat, rfl, by omega, ?_⟩
      cases he : ends (m + (parts x.op).toNat) r with
      | none => rw [he] at h; cases h
      | some n => rw [he] at h; cases h; rfl
theorem stack_len (row : List Cd.V) (l : List N) : ∀ k, ends k l = some l.length → (stack row l).length = k := by
  induction l with
  | nil =>
    intro k h
    cases k with
    | zero => rfl
    | succ k => cases h
  | cons x r ih =>
    intro k h
    obtain ⟨m, p, rfl, hp, hr⟩ := ends_cons h
    have hs := ih _ hr
    show (step row x (stack row r)).length = m + 1
    generalize stack row r = st at hs
    unfold step
    rcases parts_cases x.op with ⟨h1, _⟩ | ⟨h1, h2, h3⟩ | ⟨h1, h2⟩ | ⟨h1, h2⟩
    · omega
    · rw [if_neg (by omega), if_neg (by omega), if_neg (by omega), List.length_cons]; omega
    · have hp2 : p = 2 := by omega
      subst hp2
      match st, hs with
      | a :: b :: s, hs =>
        have : s.length = m := by simp at hs; omega
        rcases h2 with h2 | h2
        · rw [if_neg (by omega), if_pos h2]; simp; omega
        · rw [if_neg (by omega), if_neg (by omega), if_pos h2]; simp; omega
    · have hp1 : p = 1 := by omega
      subst hp1
      match st, hs with
      | a :: s, hs => rw [if_pos h2]; simp at hs ⊢; omega
theorem stack_le (row : List Cd.V) (l : List N) : (stack row l).length ≤ l.length := by
  induction l with
  | nil => exact Nat.le_refl _
  | cons x r ih =>
    show (step row x (stack row r)).length ≤ r.length + 1
    generalize stack row r = st at ih
    unfold step
    have h1 : st.tail.length ≤ st.length := by simp
    have h2 : st.tail.tail.length ≤ st.length := by simp; omega
    split
    · rw [List.length_cons]; omega
    · split
      · rw [List.length_cons]; omega
      · split <;> rw [List.length_cons] <;> omega
/-- what is wanted at each place of a whole condition -/
theorem ends_at {l : List N} (h : ends 1 l = some l.length) : ∀ j, j ≤ l.length → ∃ k, ends k (l.drop j) = some (l.drop j).length := by
  intro j
  induction j with
  | zero => intro _; exact ⟨1, h⟩
  | succ j ih =>
    intro hj
    obtain ⟨k, hk⟩ := ih (by omega)
    rw [List.drop_eq_getElem_cons (by omega)] at hk
    obtain ⟨m, p, _, _, hr⟩ := ends_cons hk
    exact ⟨_, hr⟩
theorem whole_ends {l : List N} (h : whole l = true) : ends 1 l = some l.length ∧ 0 < l.length ∧ l.length ≤ 40 := by
  unfold whole at h
  simp at h
  exact ⟨h.2.2, h.1, h.2.1⟩
/-- a place's node and the stack behind it -/
theorem at_node (row : List Cd.V) {l : List N} (h : whole l = true) {j : Nat} (hj : j < l.length) :
    (1 ≤ l[j].op ∧ l[j].op ≤ 8) ∨ (l[j].op = 11 ∧ ∃ t s, stack row (l.drop (j + 1)) = t :: s) ∨ ((l[j].op = 9 ∨ l[j].op = 10) ∧ ∃ a b s, stack row (l.drop (j + 1)) = a :: b :: s) := by
  obtain ⟨k, hk⟩ := ends_at (whole_ends h).1 j (by omega)
  rw [List.drop_eq_getElem_cons hj] at hk
  obtain ⟨m, p, rfl, hp, hr⟩ := ends_cons hk
  have hs := stack_len row _ _ hr
  generalize stack row (l.drop (j + 1)) = st at hs ⊢
  rcases parts_cases l[j].op with ⟨h1, _⟩ | ⟨h1, h2, h3⟩ | ⟨h1, h2⟩ | ⟨h1, h2⟩
  · omega
  · exact .inl ⟨h2, h3⟩
  · right; right
    refine ⟨h2, ?_⟩
    match st, hs with
    | a :: b :: s, _ => exact ⟨a, b, s, rfl⟩
    | [a], hs => simp at hs; omega
    | [], hs => simp at hs; omega
  · right; left
    refine ⟨h2, ?_⟩
    match st, hs with
    | a :: s, _ => exact ⟨a, s, rfl⟩
    | [], hs => simp at hs; omega
end Pd
end Go.Proofs.Ytfdehigepgeknaa
