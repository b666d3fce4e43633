/-
  Slices of spans in memory; span.rights: its contract. Condition: at most 1000000 spans.
-/
import Derived.Test.YtghgiifclocddaaSpanW
namespace Go.Proofs.Ytghgiifclocddaa
open Go.RowKit

theorem Try.infoSpan : (Try.prog.info? 23).map (fun i => (i.zero, i.size, i.bytes)) = some (some (.agg #[.int .i64 0, .int .i64 0]), 2, 16) := by kernel_rfl

/-- the spans' cells, one behind the other -/
def scells (l : List Sp.Span) : List Value := l.flatMap fun s => [.int .i64 s.1, .int .i64 s.2]
theorem scells_nil : scells [] = [] := rfl
theorem scells_append (l r : List Sp.Span) : scells (l ++ r) = scells l ++ scells r := by simp [scells]
theorem scells_one (s : Sp.Span) : scells [s] = [.int .i64 s.1, .int .i64 s.2] := rfl
theorem scells_length (l : List Sp.Span) : (scells l).length = l.length * 2 := by
  induction l with
  | nil => rfl
  | cons s l ih => show (_ :: _ :: scells l).length = _; simp [ih]; omega
theorem scells_get {l : List Sp.Span} {j : Nat} {s : Sp.Span} (h : l[j]? = some s) : (scells l)[j * 2]? = some (.int .i64 s.1) ∧ (scells l)[j * 2 + 1]? = some (.int .i64 s.2) := by
  induction l generalizing j with
  | nil => simp at h
  | cons x l ih =>
    show (_ :: _ :: scells l)[j * 2]? = _ ∧ (_ :: _ :: scells l)[j * 2 + 1]? = _
    cases j with
    | zero => simp at h; subst h; exact ⟨rfl, rfl⟩
    | succ j =>
      simp only [List.getElem?_cons_succ] at h
      rw [show (j + 1) * 2 = j * 2 + 1 + 1 from by omega, show j * 2 + 1 + 1 + 1 = (j * 2 + 1) + 1 + 1 from by omega]
      simp only [List.getElem?_cons_succ]
      exact ih h
theorem scells_one_cell (l : List Sp.Span) : ∀ u ∈ scells l, u.oneCell' = true := by
  intro u hu
  obtain ⟨s, _, hs⟩ := List.mem_flatMap.1 hu
  simp at hs
  rcases hs with rfl | rfl <;> rfl

theorem cell_two_of {w : World} {a b : Value} {t : TypeId} {g : Nat} (hg : g = w.heap.size) : ∀ j u, [a, b][j]? = some u → (w.alloc (.cells #[a, b] t)).cell? ((⟨g, 0, none⟩ : Addr).add j) = some u := by
  subst hg; exact cell_two_new w a b t
/-- the slice v holds the spans l -/
def SpansAt (w : World) (v : Value) (l : List Sp.Span) : Prop :=
  (l = [] ∧ ∃ ao cap, v = .slice ao 0 cap) ∨ ∃ b off cap, v = .slice (some ⟨b, off, none⟩) l.length cap ∧ b < w.heap.size ∧
    ∀ j s, l[j]? = some s → w.cell? ⟨b, off + j * 2, none⟩ = some (.int .i64 s.1) ∧ w.cell? ⟨b, off + j * 2 + 1, none⟩ = some (.int .i64 s.2)
theorem SpansAt.below {w w' : World} {v : Value} {l : List Sp.Span} (h : SpansAt w v l) (hb : Below w.heap.size w w') : SpansAt w' v l := by
  rcases h with h | ⟨b, off, cap, rfl, hlt, hc⟩
  · exact .inl h
  · refine .inr ⟨b, off, cap, rfl, Nat.lt_of_lt_of_le hlt hb.size, fun j s hs => ?_⟩
    rw [hb.cell (p := ⟨b, off + j * 2, none⟩) hlt, hb.cell (p := ⟨b, off + j * 2 + 1, none⟩) hlt]
    exact hc j s hs
theorem SpansAt.own {w : World} {B : Nat} {v : Value} {l : List Sp.Span} (h : w.ownsRow B 23 2 v l.length (scells l)) : SpansAt w v l := by
  rcases h.2 with ⟨rfl, hn⟩ | ⟨g, cap, cur, rfl, hB, hg, hn, _, hs, ht⟩
  · exact .inl ⟨List.eq_nil_of_length_eq_zero hn, _, _, rfl⟩
  · refine .inr ⟨g, 0, cap, rfl, (Array.getElem?_eq_some_iff.1 hg).1, fun j s hj => ?_⟩
    have hc : ∀ i u, (scells l)[i]? = some u → w.cell? ⟨g, 0 + i, none⟩ = some u := by
      intro i u hi
      rw [Nat.zero_add, cell_of_row w g i cur _ (0, 0) hg]
      rw [← ht, List.getElem?_take] at hi
      split at hi
      · simpa using hi
      · cases hi
    obtain ⟨g1, g2⟩ := scells_get hj
    exact ⟨hc _ _ g1, by rw [Nat.add_assoc]; exact hc _ _ g2⟩

/-- 'append(out, s)', out of the call's own, s in a block that has just been laid -/
theorem append_span (u : World) {ops : Array Oper} {rest : List Oper} {o : Oper} {a : Act} {Q : Exit → Act → World → Prop} (hgd : o.guard = none) (s x : Operand)
    (ho : o.op = .call { callee := .builtin .append, args := #[s, x], argTypes := #[29, 29] })
    (B : Nat) (v : Value) (l : List Sp.Span) (hs : a.eval s = v) (hown : u.ownsRow B 23 2 v l.length (scells l)) (p q : Int) (g : Nat) (hgz : g = u.heap.size) (hx : a.eval x = .slice (some ⟨g, 0, none⟩) 1 1)
    (hlen : l.length ≤ 1000000) (hB : B ≤ u.heap.size)
    (hK : ∀ v' w', w'.ownsRow B 23 2 v' (l ++ [(p, q)]).length (scells (l ++ [(p, q)])) → u.grownBy w' v.ownBlock → wpList Try.prog ops Q rest (a.put o.dst v') w') :
    wpList Try.prog ops Q (o :: rest) a (u.alloc (.cells #[.int .i64 p, .int .i64 q] 23)) := by
  obtain ⟨i0, hi, hz0, hz1, hz2⟩ := info_parts Try.infoSpan
  refine wpList_append_own _ hgd s x 29 ho B 23 i0 (.agg #[.int .i64 0, .int .i64 0]) 2 16 Try.underlying29 hi hz0 hz1 hz2 rfl (by decide) v l.length (scells l) hs (hown.alloc _) ⟨g, 0, none⟩ 1 1 [.int .i64 p, .int .i64 q] hx rfl (cell_two_of hgz) ?_ ?_ ?_ ?_ ?_
  · intro w hw; simp at hw; rcases hw with rfl | rfl <;> rfl
  · unfold maxLen; omega
  · omega
  · simp; omega
  · intro v' w' hown' hgrow _
    refine hK v' w' (by rw [scells_append, scells_one, List.length_append]; exact hown') ?_
    refine ⟨hgrow.os, hgrow.tape, hgrow.output, Nat.le_trans (by simp) hgrow.size, fun k hk hne => ?_⟩
    rw [hgrow.block k (by simp; omega) hne]
    exact Below.heap_alloc u _ k hk

theorem take_snoc {α : Type} (l : List α) (k : Nat) (h : k < l.length) : l.take (k + 1) = l.take k ++ [l[k]] := by rw [List.take_succ_eq_append_getElem h]
theorem rights_snoc (l : List Sp.Span) (k : Nat) (h : k < l.length) : Sp.rights (l.take (k + 1)) = Sp.rights (l.take k) ++ (if Sp.right l[k] then [l[k]] else []) := by
  rw [take_snoc l k h]
  unfold Sp.rights
  rw [List.filter_append]
  simp [List.filter_cons]
theorem rights_length (l : List Sp.Span) : (Sp.rights l).length ≤ l.length := List.length_filter_le _ _

set_option maxRecDepth 100000 in
set_option maxHeartbeats 800000 in
theorem rights_any (v : Value) (l : List Sp.Span) (w : World) (hv : SpansAt w v l) (hl : l.length ≤ 1000000) :
    Calls Try.prog 26 #[v] w fun e w' => (∃ v', e = .returned v' ∧ w'.ownsRow w.heap.size 23 2 v' (Sp.rights l).length (scells (Sp.rights l))) ∧ Below w.heap.size w w' := by
  obtain ⟨i0, hi, hz0, hz1, hz2⟩ := info_parts Try.infoSpan
  rcases hv with ⟨rfl, ao, cap, rfl⟩ | ⟨b, off, cap, rfl, hlt, hc⟩
  · go_enter Try.func26, Try.ntmps26
    go_wp2
    go_rounds 1
    go_ret
    exact ⟨⟨_, rfl, World.ownsRow_nil _ _ _ _⟩, Below.refl _ _⟩
  · go_enter Try.func26, Try.ntmps26
    go_wp2
    have HC := hid hc
    clear hc
    go_loopw [8, 3] (fun i t wr => ∃ k : Nat, k ≤ l.length ∧ i = .int .i64 k ∧ wr.ownsRow w.heap.size 23 2 t (Sp.rights (l.take k)).length (scells (Sp.rights (l.take k))) ∧ Below w.heap.size w wr) (fun i _ _ => l.length - (intOf i).toNat)
    case atStart => exact ⟨0, by omega, rfl, World.ownsRow_nil _ _ _ _, Below.refl _ _⟩
    case round =>
      obtain ⟨k, hk, rfl, hown, hbel⟩ := hrel
      by_cases hlk : k < l.length
      · obtain ⟨q1, q2⟩ := HC.out k l[k] (List.getElem?_eq_getElem hlk)
        have hc1 := (hbel.cell (p := ⟨b, off + k * 2, none⟩) hlt).trans q1
        have hc2 := (hbel.cell (p := ⟨b, off + k * 2 + 1, none⟩) hlt).trans q2
        have HS := hid (rights_snoc l k hlk)
        clear q1 q2
        generalize l[k] = s at hc1 hc2 HS
        obtain ⟨x, y⟩ := s
        simp only at hc1 hc2
        cases hr : Sp.right (x, y)
        · rw [hr] at HS
          go_wp2_with (go_at_call 14; refine (right_exact _ _ _).mono ?_; rintro e w1 ⟨rfl, rfl⟩)
          go_roundw
          case rel => exact ⟨k + 1, by omega, by go_num, by rw [HS.out]; simpa using (hown.alloc _).alloc _, (hbel.alloc hbel.size _).alloc (by have := hbel.size; simp; omega) _⟩
          case measure => simp [intOf]; omega
        · rw [hr] at HS
          have hlen := rights_length (l.take k)
          rw [List.length_take] at hlen
          go_wp2_with (first
            | (go_at_call 14; refine (right_exact _ _ _).mono ?_; rintro e w1 ⟨rfl, rfl⟩)
            | (at_builtin; refine wpList_append_own _ rfl _ _ 29 rfl w.heap.size 23 i0 (.agg #[.int .i64 0, .int .i64 0]) 2 16 Try.underlying29 hi hz0 hz1 hz2 rfl (by decide) _ _ _ rfl (((hown.alloc _).alloc _).alloc _) ⟨_, 0, none⟩ 1 1 [.int .i64 x, .int .i64 y] rfl rfl ?c1 ?c2 ?c3 ?c4 ?c5 ?_))
          case c1 => exact cell_two_of (by simp)
          case c2 => intro u hu; simp at hu; rcases hu with rfl | rfl <;> rfl
          case c3 => unfold maxLen; omega
          case c4 => omega
          case c5 => have := hbel.size; simp; omega
          · intro v' w1 hown' hgrow _
            have hbel' := (((hbel.alloc hbel.size _).alloc (by have := hbel.size; simp; omega) _).alloc (by have := hbel.size; simp; omega) _).grown hgrow (by have := hbel.size; simp; omega) (fun q hq => (hown.lt q hq).1)
            clear hgrow
            have HO := hid hown'
            clear hown'
            go_wp2
            go_roundw
            case rel => exact ⟨k + 1, by omega, by go_num, by rw [HS.out]; simpa [scells_append, scells_one] using HO.out, hbel'⟩
            case measure => simp [intOf]; omega
      · have hkl : k = l.length := by omega
        subst hkl
        go_wp2
        go_ret
        rw [List.take_length] at hown
        exact ⟨⟨_, rfl, hown⟩, hbel⟩
end Go.Proofs.Ytghgiifclocddaa
