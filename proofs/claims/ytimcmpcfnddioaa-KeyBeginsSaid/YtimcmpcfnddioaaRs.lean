/-
  Rows in memory that may be appended; append of a row: no condition.
-/
import Derived.Test.YtimcmpcfnddioaaKyLt
import Derived.Laws.AppendOwnNone
namespace Go.Proofs.Ytimcmpcfnddioaa
open Go.RowKit

/-- a row's cells at a place -/
theorem VsAt.at {w : World} {adr : Option Addr} {cap n : Nat} {l : List Cd.V} (h : VsAt w (.slice adr n cap) l) (hl : 0 < l.length) : n = l.length ∧ ∃ g off, adr = some ⟨g, off, none⟩ ∧ ∀ j u, (vcells l)[j]? = some u → w.cell? ⟨g, off + j, none⟩ = some u := by
  obtain ⟨adr', cap', e, hc⟩ := h
  cases e
  refine ⟨rfl, ?_⟩
  obtain ⟨g, off, rfl, _⟩ := hc 0 hl
  refine ⟨g, off, rfl, fun j u hj => ?_⟩
  have hjl : j < l.length * 4 := by
    have := (List.getElem?_eq_some_iff.1 hj).1
    rw [vcells_length] at this; exact this
  obtain ⟨q, r, rfl, hr⟩ : ∃ q r, j = q * 4 + r ∧ r < 4 := ⟨j / 4, j % 4, by omega, by omega⟩
  have hq : q < l.length := by omega
  obtain ⟨g', off', e, q0, q1, q2, q3⟩ := hc q hq
  cases e
  obtain ⟨g0, g1, g2, g3⟩ := vcells_get (List.getElem?_eq_getElem hq)
  have hr' : r = 0 ∨ r = 1 ∨ r = 2 ∨ r = 3 := by omega
  rcases hr' with rfl | rfl | rfl | rfl
  · rw [Nat.add_zero] at hj ⊢
    rw [g0] at hj; cases hj; exact q0
  · rw [g1] at hj; cases hj; rw [← Nat.add_assoc]; exact q1
  · rw [g2] at hj; cases hj; rw [← Nat.add_assoc]; exact q2
  · rw [g3] at hj; cases hj; rw [← Nat.add_assoc]; exact q3
/-- 'append(out, row...)', out of the call's own -/
theorem append_row (w : World) {ops : Array Oper} {rest : List Oper} {o : Oper} {a : Act} {Q : Exit → Act → World → Prop} (hgd : o.guard = none) (s x : Operand)
    (ho : o.op = .call { callee := .builtin .append, args := #[s, x], argTypes := #[22, 22] })
    (B : Nat) (v : Value) (l : List Cd.V) (hs : a.eval s = v) (hown : w.ownsRow B 39 4 v l.length (vcells l)) (r : List Cd.V) (xv : Value) (hx : a.eval x = xv) (adr : Option Addr) (n cap : Nat) (hxv : xv = .slice adr n cap) (hr : VsAt w xv r)
    (hc : adr = none → cap = 0) (hlen : l.length + r.length ≤ 1000000) (hB : B ≤ w.heap.size)
    (hK : ∀ v' w', w'.ownsRow B 39 4 v' (l ++ r).length (vcells (l ++ r)) → w.grownBy w' v.ownBlock → wpList Try.prog ops Q rest (a.put o.dst v') w') :
    wpList Try.prog ops Q (o :: rest) a w := by
  obtain ⟨i0, hi, hz0, hz1, hz2⟩ := info_parts Try.infoValue
  have hn : n = r.length := by obtain ⟨_, _, e, _⟩ := hr; rw [hxv] at e; cases e; rfl
  subst hn
  cases adr with
  | none =>
    have hr0 : r = [] := by
      cases r with
      | nil => rfl
      | cons y r' => obtain ⟨_, _, e, hcc⟩ := hr; rw [hxv] at e; cases e; obtain ⟨_, _, e, _⟩ := hcc 0 (by simp); cases e
    subst hr0
    have hc0 := hc rfl
    subst hc0
    refine wpList_append_own_none hgd s x 22 ho B 39 i0 4 Try.underlying22 hi v l.length (vcells l) hs hown (by rw [hx, hxv]; rfl) ?_
    refine hK v w (by rw [List.append_nil]; exact hown) ⟨rfl, rfl, rfl, Nat.le_refl _, fun _ _ _ => rfl⟩
  | some ad =>
    have hcell : ∀ j u, (vcells r)[j]? = some u → w.cell? (ad.add j) = some u := by
      intro j u hj
      have hr0 : 0 < r.length := by
        have := (List.getElem?_eq_some_iff.1 hj).1
        rw [vcells_length] at this; omega
      rw [hxv] at hr
      obtain ⟨_, g, off, e, hh⟩ := hr.at hr0
      cases e
      have hadd : (⟨g, off, none⟩ : Addr).add j = ⟨g, off + j, none⟩ := by unfold Addr.add; split <;> simp_all
      rw [hadd]
      exact hh j u hj
    refine wpList_append_own _ hgd s x 22 ho B 39 i0 (.agg #[.int .i64 0, .int .i64 0, .int .u64 0, .string ⟨#[]⟩]) 4 40 Try.underlying22 hi hz0 hz1 hz2 rfl (by decide) v l.length (vcells l) hs hown ad r.length cap (vcells r) (by rw [hx, hxv]) (vcells_length r) hcell (vcells_one_cell r) ?_ ?_ hB ?_
    · unfold maxLen; omega
    · omega
    · intro v' w' hown' hgrow _
      exact hK v' w' (by rw [vcells_append, List.length_append]; exact hown') hgrow
/-- a row in memory, with what its slice may hold -/
def RsAt (w : World) (v : Value) (l : List Cd.V) : Prop := VsAt w v l ∧ ∃ adr cap, v = .slice adr l.length cap ∧ l.length ≤ cap ∧ cap ≤ maxLen ∧ (adr = none → cap = 0)
theorem RsAt.below {w w' : World} {v : Value} {l : List Cd.V} (h : RsAt w v l) (hb : Below w.heap.size w w') : RsAt w' v l := ⟨h.1.below hb, h.2⟩
theorem RsAt.len {w : World} {v : Value} {l : List Cd.V} (h : RsAt w v l) : l.length ≤ maxLen := by
  obtain ⟨_, _, _, _, h1, h2, _⟩ := h
  exact Nat.le_trans h1 h2
theorem RsAt.own {w : World} {B : Nat} {v : Value} {l : List Cd.V} (h : w.ownsRow B 39 4 v l.length (vcells l)) : RsAt w v l := by
  refine ⟨VsAt.own h, ?_⟩
  rcases h.2 with ⟨rfl, hn⟩ | ⟨g, cap, cur, rfl, _, _, h1, h2, _⟩
  · exact ⟨none, 0, by rw [hn], by omega, by decide, fun _ => rfl⟩
  · exact ⟨_, cap, rfl, h1, h2, fun e => by cases e⟩
theorem RsAt.nil (w : World) : RsAt w (.slice none 0 0) [] := ⟨⟨none, 0, rfl, fun k hk => absurd hk (Nat.not_lt_zero k)⟩, none, 0, rfl, Nat.le_refl _, by decide, fun _ => rfl⟩
theorem open_rows {H : Type} {enc : TypeId × Value → H} {W : World} {base b0 : Nat} {sp : Nat → Bool} {hd : Bool} {r : Reach} {v : Value} {d : DataW H} {p : List MemPlace} (hv : Value.okWide Try.prog W r b0 22 v) (h : DataW.Trod enc Try.prog W base sp hd 22 v d p) :
    ∃ l : List Cd.V, RsAt W v l ∧ ∀ x ∈ l, Vok x := by
  obtain ⟨l, h1, h2, h3⟩ := open_values hv h
  refine ⟨l, ⟨h2, ?_⟩, h3⟩
  obtain ⟨adr, cap, rfl, _⟩ := h2
  obtain ⟨fuel, hf⟩ := h
  rcases Go.Deep.open_slice Try.underlying22 hf with ⟨e, _⟩ | ⟨a', len', cap', m, n, D, Pl, e, hb, hl, hc, _⟩
  · simp [Value.cells] at e
    obtain ⟨rfl, e1, rfl⟩ := e
    exact ⟨none, 0, rfl, by rw [e1]; exact Nat.le_refl _, by decide, fun _ => rfl⟩
  · simp [Value.cells] at e
    obtain ⟨rfl, rfl, rfl⟩ := e
    exact ⟨_, _, rfl, hl, hc, fun e => by cases e⟩
/-- a block that holds just these values -/
def BR (w : World) (g : Nat) (l : List Cd.V) : Prop := w.heap[g]? = some (.cells (vcells l).toArray 39 (0, 0))
theorem BR.keep {w w' : World} {g : Nat} {l : List Cd.V} (h : BR w g l) (hb : Below w.heap.size w w') : BR w' g l := keepBlock h hb
theorem BR.own {w : World} {g B : Nat} {l : List Cd.V} (h : BR w g l) (hB : B ≤ g) (hl : l.length ≤ maxLen) : w.ownsRow B 39 4 (.slice (some ⟨g, 0, none⟩) l.length l.length) l.length (vcells l) :=
  ⟨vcells_length l, .inr ⟨g, l.length, (vcells l).toArray, rfl, hB, h, Nat.le_refl _, hl, by simp [vcells_length], by simp only; rw [List.take_of_length_le (by rw [vcells_length]; exact Nat.le_refl _)]⟩⟩
theorem below_grown {w w1 w3 : World} {O : Obj} (h : Below w.heap.size w w1) (hgr : (w1.alloc O).grownBy w3 (some w1.heap.size)) : Below w.heap.size w w3 :=
  (hnext h (hba w1 O)).grown hgr (Nat.le_trans h.size (hba w1 O).size) (fun q hq => by cases hq; exact h.size)
theorem VsAt.len {w : World} {v : Value} {l : List Cd.V} (h : VsAt w v l) : ∃ adr cap, v = .slice adr l.length cap := by
  obtain ⟨adr, cap, rfl, _⟩ := h; exact ⟨adr, cap, rfl⟩
end Go.Proofs.Ytimcmpcfnddioaa
