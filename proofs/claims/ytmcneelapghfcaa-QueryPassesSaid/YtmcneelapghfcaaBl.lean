/-
  Contracts and laws of the layers below, put together: Pw Pk Tw Tz Ql Bd. Conditions: where they are named.
-/
import Derived.Test.YtmcneelapghfcaaBb
import Derived.Test.YtmcneelapghfcaaBp
import Derived.Test.YtmcneelapghfcaaPs
import Derived.Test.YtmcneelapghfcaaPr
import Derived.Test.YtmcneelapghfcaaPh

namespace Go.Proofs.Ytmcneelapghfcaa
open Go.RowKit Pd

namespace Vl
end Vl
namespace Pd
def sign (op : Int) : List UInt8 := if op = 1 then [61] else if op = 2 then [33, 61] else if op = 3 then [60] else if op = 4 then [60, 61] else if op = 5 then [62] else if op = 6 then [62, 61] else if op = 7 then [63] else [33]
end Pd
end Go.Proofs.Ytmcneelapghfcaa

namespace Go.Proofs.Ytmcneelapghfcaa
open Go.RowKit Pd

namespace Pd
theorem ser_inj (t : T) : ∀ (t' : T) (r r' : List N), t.ok → t'.ok → t.ser ++ r = t'.ser ++ r' → t = t' ∧ r = r' := by
  induction t with
  | leaf x =>
    intro t' r r' h h' e
    cases t' with
    | leaf y => have := List.cons.inj e; exact ⟨by rw [this.1], this.2⟩
    | not y t => exact absurd h.2 (by have := (List.cons.inj e).1; rw [this, h'.1]; decide)
    | bin y a b => exact absurd h.2 (by have := (List.cons.inj e).1; rw [this]; rcases h'.1 with g | g <;> rw [g] <;> decide)
  | not x t ih =>
    intro t' r r' h h' e
    cases t' with
    | leaf y => exact absurd h'.2 (by have := (List.cons.inj e).1; rw [← this, h.1]; decide)
    | not y t' =>
      have e2 := List.cons.inj e
      obtain ⟨h1, h2⟩ := ih t' r r' h.2 h'.2 e2.2
      exact ⟨by rw [e2.1, h1], h2⟩
    | bin y a b => exact absurd h.1 (by have := (List.cons.inj e).1; rw [this]; rcases h'.1 with g | g <;> rw [g] <;> decide)
  | bin x a b iha ihb =>
    intro t' r r' h h' e
    cases t' with
    | leaf y => exact absurd h'.2 (by have := (List.cons.inj e).1; rw [← this]; rcases h.1 with g | g <;> rw [g] <;> decide)
    | not y t => exact absurd h'.1 (by have := (List.cons.inj e).1; rw [← this]; rcases h.1 with g | g <;> rw [g] <;> decide)
    | bin y a' b' =>
      have e2 := List.cons.inj e
      have e3 : a.ser ++ (b.ser ++ r) = a'.ser ++ (b'.ser ++ r') := by rw [← List.append_assoc, ← List.append_assoc]; exact e2.2
      obtain ⟨h1, h2⟩ := iha a' _ _ h.2.1 h'.2.1 e3
      obtain ⟨h3, h4⟩ := ihb b' _ _ h.2.2 h'.2.2 h2
      exact ⟨by rw [e2.1, h1, h3], h4⟩
theorem ser_eq {t t' : T} (h : t.ok) (h' : t'.ok) (e : t.ser = t'.ser) : t = t' := (ser_inj t t' [] [] h h' (by rw [e])).1
end Pd
theorem NsAt.take {w : World} {adr : Option Addr} {n cap : Nat} {l : List N} (h : NsAt w (.slice adr n cap) l) (m : Nat) (hm : m ≤ l.length) (cap' : Nat) : NsAt w (.slice adr m cap') (l.take m) := by
  obtain ⟨adr', cap'', e, hc⟩ := h
  cases e
  refine ⟨adr, cap', by rw [List.length_take, Nat.min_eq_left hm], fun k hk => ?_⟩
  have hk' : k < l.length := by rw [List.length_take] at hk; omega
  have hg : (l.take m)[k] = l[k] := List.getElem_take ..
  rw [hg]
  exact hc k hk'
theorem NsAt.drop {w : World} {g off n cap : Nat} {l : List N} (h : NsAt w (.slice (some ⟨g, off, none⟩) n cap) l) (j : Nat) (cap' : Nat) : NsAt w (.slice (some ⟨g, off + j * 6, none⟩) (l.length - j) cap') (l.drop j) := by
  obtain ⟨adr', cap'', e, hc⟩ := h
  cases e
  refine ⟨_, cap', by rw [List.length_drop], fun k hk => ?_⟩
  have hk' : j + k < l.length := by rw [List.length_drop] at hk; omega
  have hg : (l.drop j)[k] = l[j + k] := List.getElem_drop ..
  rw [hg]
  obtain ⟨g', off', e, q⟩ := hc (j + k) hk'
  cases e
  refine ⟨g, off + j * 6, rfl, ?_⟩
  rw [show off + j * 6 + k * 6 = off + (j + k) * 6 by omega]
  exact q
def KT : T := .not ⟨11, 0, nul⟩ (.bin ⟨9, 0, nul⟩ (.leaf ⟨3, 0, ⟨2, 5, 0, ⟨#[]⟩⟩⟩) (.leaf ⟨7, 1, nul⟩))
theorem KT_ok : KT.ok := ⟨rfl, .inl rfl, ⟨by decide, by decide⟩, ⟨by decide, by decide⟩⟩
end Go.Proofs.Ytmcneelapghfcaa

namespace Go.Proofs.Ytmcneelapghfcaa
open Go.RowKit Pd

namespace Pd
theorem not_twice {x : Int} (h : -1 ≤ x ∧ x ≤ 1) : notI (notI x) = x := by
  obtain rfl | rfl | rfl : x = -1 ∨ x = 0 ∨ x = 1 := by omega
  all_goals decide
end Pd
end Go.Proofs.Ytmcneelapghfcaa

namespace Go.Proofs.Ytmcneelapghfcaa
open Go.RowKit Pd

namespace Pd
theorem tr_not (b : Bool) : tr (!b) = notI (tr b) := by cases b <;> rfl
theorem opB_other {op : Int} (c : Int) (h0 : 1 ≤ op) (h1 : op ≤ 6) : opB (otherOp op) c = !opB op c := by
  obtain rfl | rfl | rfl | rfl | rfl | rfl : op = 1 ∨ op = 2 ∨ op = 3 ∨ op = 4 ∨ op = 5 ∨ op = 6 := by omega
  · rfl
  · show decide (c = 0) = !!decide (c = 0); rw [Bool.not_not]
  · show decide (0 ≤ c) = !decide (c < 0); rw [← decide_not, decide_eq_decide]; omega
  · show decide (0 < c) = !decide (c ≤ 0); rw [← decide_not, decide_eq_decide]; omega
  · show decide (c ≤ 0) = !decide (0 < c); rw [← decide_not, decide_eq_decide]; omega
  · show decide (c < 0) = !decide (0 ≤ c); rw [← decide_not, decide_eq_decide]; omega
theorem leafV_other {x : N} (y : Cd.V) (h0 : 1 ≤ x.op) (h1 : x.op ≤ 8) : leafV (other x) y = notI (leafV x y) := by
  obtain ⟨op, col, v⟩ := x
  replace h0 : 1 ≤ op := h0
  replace h1 : op ≤ 8 := h1
  by_cases h7 : op = 7
  · subst h7
    show tr (!decide (y.k = 0)) = notI (tr (decide (y.k = 0)))
    exact tr_not _
  by_cases h8 : op = 8
  · subst h8
    show tr (decide (y.k = 0)) = notI (tr (!decide (y.k = 0)))
    rw [← tr_not, Bool.not_not]
  have o1 : otherOp op ≠ 7 ∧ otherOp op ≠ 8 := by
    obtain rfl | rfl | rfl | rfl | rfl | rfl : op = 1 ∨ op = 2 ∨ op = 3 ∨ op = 4 ∨ op = 5 ∨ op = 6 := by omega
    all_goals decide
  unfold leafV
  rw [if_neg (show ¬ (other ⟨op, col, v⟩).op = 7 from o1.1), if_neg (show ¬ (other ⟨op, col, v⟩).op = 8 from o1.2), if_neg (show ¬ (⟨op, col, v⟩ : N).op = 7 from h7), if_neg (show ¬ (⟨op, col, v⟩ : N).op = 8 from h8)]
  by_cases hn : y.k = 0 ∨ v.k = 0
  · rw [if_pos (show y.k = 0 ∨ (other ⟨op, col, v⟩).v.k = 0 from hn), if_pos (show y.k = 0 ∨ (⟨op, col, v⟩ : N).v.k = 0 from hn)]; rfl
  · rw [if_neg (show ¬ (y.k = 0 ∨ (other ⟨op, col, v⟩).v.k = 0) from hn), if_neg (show ¬ (y.k = 0 ∨ (⟨op, col, v⟩ : N).v.k = 0) from hn), ← tr_not]
    show tr (opB (otherOp op) (Ky.cmp y v)) = tr (!opB op (Ky.cmp y v))
    rw [opB_other _ h0 (by omega)]
theorem morgan {a b : Int} (ha : -1 ≤ a ∧ a ≤ 1) (hb : -1 ≤ b ∧ b ≤ 1) : orI (notI a) (notI b) = notI (andI a b) ∧ andI (notI a) (notI b) = notI (orI a b) := by
  obtain rfl | rfl | rfl : a = -1 ∨ a = 0 ∨ a = 1 := by omega
  all_goals
    obtain rfl | rfl | rfl : b = -1 ∨ b = 0 ∨ b = 1 := by omega
    all_goals decide
theorem ev_push (row : List Cd.V) (t : T) : t.ok → ∀ r, (t.push r).ev row = if r then notI (t.ev row) else t.ev row := by
  induction t with
  | leaf x =>
    intro h r
    cases r with
    | false => rfl
    | true => exact leafV_other _ h.1 h.2
  | not x t ih =>
    intro h r
    show (t.push (!r)).ev row = _
    rw [ih h.2]
    cases r with
    | false => rfl
    | true => exact (not_twice (T.ev_range row t)).symm
  | bin x a b iha ihb =>
    intro h r
    have ra := T.ev_range row a
    have rb := T.ev_range row b
    show (if (if r then other x else x).op = 9 then andI ((a.push r).ev row) ((b.push r).ev row) else orI ((a.push r).ev row) ((b.push r).ev row)) = _
    rw [iha h.2.1, ihb h.2.2]
    cases r with
    | false => rfl
    | true =>
      show (if otherOp x.op = 9 then andI (notI (a.ev row)) (notI (b.ev row)) else orI (notI (a.ev row)) (notI (b.ev row))) = notI (if x.op = 9 then andI (a.ev row) (b.ev row) else orI (a.ev row) (b.ev row))
      rcases h.1 with e | e
      · rw [e, if_neg (by decide), if_pos rfl]; exact (morgan ra rb).1
      · rw [e, if_pos (by decide), if_neg (by decide)]; exact (morgan ra rb).2
theorem push_ok (t : T) : t.ok → ∀ r, (t.push r).ok := by
  induction t with
  | leaf x =>
    intro h r
    cases r with
    | false => exact h
    | true => exact other_leaf h.1 h.2
  | not x t ih => intro h r; exact ih h.2 (!r)
  | bin x a b iha ihb =>
    intro h r
    refine ⟨?_, iha h.2.1 r, ihb h.2.2 r⟩
    cases r with
    | false => exact h.1
    | true => rcases h.1 with e | e <;> (show otherOp x.op = 9 ∨ otherOp x.op = 10; rw [e]; decide)
theorem push_nodes (P : N → Prop) (ho : ∀ x, P x → 1 ≤ x.op → x.op ≤ 10 → P (other x)) (t : T) : t.ok → ∀ r, (∀ x ∈ t.ser, P x) → ∀ x ∈ (t.push r).ser, P x := by
  induction t with
  | leaf x =>
    intro h r hp y hy
    have hx := hp x (by simp [T.ser])
    cases r with
    | false => rw [List.mem_singleton.1 hy]; exact hx
    | true => rw [List.mem_singleton.1 hy]; exact ho x hx h.1 (by have := h.2; omega)
  | not x t ih => intro h r hp; exact ih h.2 (!r) (fun y hy => hp y (by simp [T.ser, hy]))
  | bin x a b iha ihb =>
    intro h r hp y hy
    have hx := hp x (by simp [T.ser])
    rcases List.mem_cons.1 hy with e | hy
    · rw [e]
      cases r with
      | false => exact hx
      | true => exact ho x hx (by rcases h.1 with e | e <;> omega) (by rcases h.1 with e | e <;> omega)
    · rcases List.mem_append.1 hy with hy | hy
      · exact iha h.2.1 r (fun z hz => hp z (by simp [T.ser, hz])) y hy
      · exact ihb h.2.2 r (fun z hz => hp z (by simp [T.ser, hz])) y hy
theorem push_no_not (t : T) : t.ok → ∀ r, ∀ x ∈ (t.push r).ser, x.op ≠ 11 := by
  induction t with
  | leaf x =>
    intro h r y hy
    have hk : (if r then other x else x).op ≤ 8 := (push_ok (.leaf x) h r).2
    have e1 : y = if r then other x else x := List.mem_singleton.1 hy
    rw [← e1] at hk
    omega
  | not x t ih => intro h r; exact ih h.2 (!r)
  | bin x a b iha ihb =>
    intro h r y hy
    have hk := (push_ok (.bin x a b) h r).1
    rcases List.mem_cons.1 hy with e | hy
    · rw [e]; rcases hk with g | g <;> rw [g] <;> decide
    · rcases List.mem_append.1 hy with hy | hy
      · exact iha h.2.1 r y hy
      · exact ihb h.2.2 r y hy
/-- a tree without Not is its own -/
def T.pure : T → Prop
  | .leaf _ => True
  | .not _ _ => False
  | .bin _ a b => a.pure ∧ b.pure
theorem push_pure (t : T) : ∀ r, (t.push r).pure := by
  induction t with
  | leaf x => intro r; trivial
  | not x t ih => intro r; exact ih (!r)
  | bin x a b iha ihb => intro r; exact ⟨iha r, ihb r⟩
theorem pure_push (t : T) : t.pure → t.push false = t := by
  induction t with
  | leaf x => intro _; rfl
  | not x t ih => intro h; exact absurd h id
  | bin x a b iha ihb => intro h; show T.bin x (a.push false) (b.push false) = _; rw [iha h.1, ihb h.2]
end Pd
end Go.Proofs.Ytmcneelapghfcaa

namespace Go.Proofs.Ytmcneelapghfcaa
open Go.RowKit Pd

namespace Pd
theorem okN_other {cs : List Sc.C} {x : N} (h : okN cs x = true) (h0 : 1 ≤ x.op) (h1 : x.op ≤ 10) : okN cs (other x) = true := by
  obtain ⟨op, col, v⟩ := x
  simp only at h0 h1
  unfold okN at h ⊢
  have hr : (1 ≤ op ∧ op ≤ 6 ∧ 1 ≤ otherOp op ∧ otherOp op ≤ 6) ∨ ((op = 7 ∨ op = 8) ∧ (otherOp op = 7 ∨ otherOp op = 8)) ∨ (9 ≤ op ∧ 9 ≤ otherOp op) := by
    obtain rfl | rfl | rfl | rfl | rfl | rfl | rfl | rfl | rfl | rfl : op = 1 ∨ op = 2 ∨ op = 3 ∨ op = 4 ∨ op = 5 ∨ op = 6 ∨ op = 7 ∨ op = 8 ∨ op = 9 ∨ op = 10 := by omega
    all_goals decide
  rcases hr with ⟨_, a, _, b⟩ | ⟨a, b⟩ | ⟨a, b⟩
  · rw [if_pos (show op ≤ 6 from a)] at h
    rw [if_pos (show (other ⟨op, col, v⟩).op ≤ 6 from b)]
    exact h
  · rw [if_neg (show ¬ op ≤ 6 by omega), if_pos (show op ≤ 8 by omega), Bool.and_eq_true, decide_eq_true_iff, decide_eq_true_iff] at h
    rw [if_neg (show ¬ (other ⟨op, col, v⟩).op ≤ 6 by show ¬ otherOp op ≤ 6; omega), if_pos (show (other ⟨op, col, v⟩).op ≤ 8 by show otherOp op ≤ 8; omega), Bool.and_eq_true, decide_eq_true_iff, decide_eq_true_iff]
    refine ⟨h.1, ?_⟩
    obtain ⟨_, _⟩ := h
    rename_i e
    injection e with _ _ e3
    show (⟨otherOp op, col, v⟩ : N) = _
    rw [e3]; rfl
  · rw [if_neg (show ¬ op ≤ 6 by omega), if_neg (show ¬ op ≤ 8 by omega), decide_eq_true_iff] at h
    rw [if_neg (show ¬ (other ⟨op, col, v⟩).op ≤ 6 by show ¬ otherOp op ≤ 6; omega), if_neg (show ¬ (other ⟨op, col, v⟩).op ≤ 8 by show ¬ otherOp op ≤ 8; omega), decide_eq_true_iff]
    injection h with _ e2 e3
    show (⟨otherOp op, col, v⟩ : N) = _
    rw [e2, e3]; rfl
/-- all of a pushed condition that the statement asks -/
theorem push_law {l p : List N} (h : pushL l p) : (p = [] ∧ whole l = false) ∨ (0 < p.length ∧ p.length ≤ 40 ∧ l.length ≤ 40 ∧ (∀ x ∈ p, x.op ≠ 11) ∧ (∀ cs, rightL cs l = true → rightL cs p = true) ∧
    (∀ row : List Cd.V, colsOk l row.length = true → evalI p row = evalI l row) ∧ (∀ q, pushL p q → q = p) ∧ ((∀ x ∈ l, x.v.s.size ≤ maxLen) → ∀ x ∈ p, x.v.s.size ≤ maxLen)) := by
  rcases h with ⟨h, rfl⟩ | ⟨t, ht, rfl, hw, rfl⟩
  · exact .inl ⟨rfl, h⟩
  · right
    have hl := (whole_ends hw).2.2
    have hp := push_len t false
    have hk := push_ok t ht false
    refine ⟨T.ser_pos _, by omega, hl, push_no_not t ht false, ?_, ?_, ?_, ?_⟩
    · intro cs hr
      unfold rightL at hr ⊢
      rw [Bool.and_eq_true, List.all_eq_true] at hr ⊢
      exact ⟨whole_tree hk (by omega), push_nodes (fun x => okN cs x = true) (fun x hx h0 h1 => okN_other hx h0 h1) t ht false hr.2⟩
    · intro row hc
      have hc2 : colsOk (t.push false).ser row.length = true := by
        unfold colsOk at hc ⊢
        rw [List.all_eq_true] at hc ⊢
        exact push_nodes (fun x => (decide (0 ≤ x.col) && decide (x.col < (row.length : Int))) = true) (fun x hx _ _ => hx) t ht false hc
      rw [evalI_tree row hk (by omega) hc2, evalI_tree row ht hl hc, ev_push row t ht false]; rfl
    · intro q hq
      rcases hq with ⟨h, _⟩ | ⟨t2, ht2, e, _, rfl⟩
      · rw [whole_tree hk (by omega)] at h; cases h
      · have := ser_eq hk ht2 e
        subst this
        rw [pure_push _ (push_pure t false)]
    · intro hs
      exact push_nodes (fun x => x.v.s.size ≤ maxLen) (fun x hx _ _ => hx) t ht false hs
end Pd
end Go.Proofs.Ytmcneelapghfcaa

namespace Go.Proofs.Ytmcneelapghfcaa
open Go.RowKit Pd

/-- nodes of the call's own, laid behind the world W -/
def Bld (W w : World) (v : Value) (l : List N) : Prop := OwnN w W.heap.size v l ∧ Below W.heap.size W w
theorem Bld.new (W : World) (x : N) : Bld W (W.alloc (.cells #[.int .i64 x.op, .int .i64 x.col, .int .i64 x.v.k, .int .i64 x.v.n, .int .u64 (x.v.b : Int), .string x.v.s] 65)) (.slice (some ⟨W.heap.size, 0, none⟩) 1 1) [x] := ⟨OwnN.new W x, hba W _⟩
theorem Bld.at {W w : World} {v : Value} {l : List N} (h : Bld W w v l) : NsAt w v l := h.1.at
theorem Bld.ge {W w : World} {v : Value} {l : List N} (h : Bld W w v l) : W.heap.size ≤ w.heap.size := h.2.size
end Go.Proofs.Ytmcneelapghfcaa
