/-
  Conditions as trees, plainly: what a whole condition is, its truth, the one without Not. No condition.
-/
import Derived.Test.YtfdehigepgeknaaPg
namespace Go.Proofs.Ytfdehigepgeknaa
open Go.RowKit

namespace Pd
inductive T where
  | leaf (x : N)
  | not (x : N) (t : T)
  | bin (x : N) (a b : T)
def T.ser : T → List N
  | .leaf x => [x]
  | .not x t => x :: t.ser
  | .bin x a b => x :: (a.ser ++ b.ser)
def T.ok : T → Prop
  | .leaf x => 1 ≤ x.op ∧ x.op ≤ 8
  | .not x t => x.op = 11 ∧ t.ok
  | .bin x a b => (x.op = 9 ∨ x.op = 10) ∧ a.ok ∧ b.ok
/-- the condition without Not; turned: its Not -/
def T.push : T → Bool → T
  | .leaf x, r => .leaf (if r then other x else x)
  | .not _ t, r => t.push (!r)
  | .bin x a b, r => .bin (if r then other x else x) (a.push r) (b.push r)
def T.ev (row : List Cd.V) : T → Int
  | .leaf x => leafV x (row.getD x.col.toNat nul)
  | .not _ t => notI (t.ev row)
  | .bin x a b => if x.op = 9 then andI (a.ev row) (b.ev row) else orI (a.ev row) (b.ev row)
theorem T.ser_pos (t : T) : 0 < t.ser.length := by cases t <;> simp [T.ser]
/-- so many conditions, one behind the other -/
theorem forest (l : List N) : ∀ k, ends k l = some l.length → ∃ ts : List T, ts.length = k ∧ (∀ t ∈ ts, t.ok) ∧ l = ts.flatMap T.ser := by
  induction l with
  | nil =>
    intro k h
    cases k with
    | zero => exact ⟨[], rfl, fun t ht => (List.not_mem_nil ht).elim, rfl⟩
    | succ k => cases h
  | cons x r ih =>
    intro k h
    obtain ⟨m, p, rfl, hp, hr⟩ := ends_cons h
    obtain ⟨ts, hl, hok, rfl⟩ := ih _ hr
    rcases parts_cases x.op with ⟨h1, _⟩ | ⟨h1, h2, h3⟩ | ⟨h1, h2⟩ | ⟨h1, h2⟩
    · omega
    · obtain rfl : p = 0 := by omega
      refine ⟨.leaf x :: ts, by simp; omega, fun t ht => ?_, rfl⟩
      rcases List.mem_cons.1 ht with rfl | ht
      · exact ⟨h2, h3⟩
      · exact hok t ht
    · obtain rfl : p = 2 := by omega
      match ts, hl with
      | a :: b :: ts, hl =>
        refine ⟨.bin x a b :: ts, by simp at hl ⊢; omega, fun t ht => ?_, by simp [T.ser]⟩
        rcases List.mem_cons.1 ht with rfl | ht
        · exact ⟨h2, hok a (by simp), hok b (by simp)⟩
        · exact hok t (by simp [ht])
    · obtain rfl : p = 1 := by omega
      match ts, hl with
      | a :: ts, hl =>
        refine ⟨.not x a :: ts, by simp at hl ⊢; omega, fun t ht => ?_, by simp [T.ser]⟩
        rcases List.mem_cons.1 ht with rfl | ht
        · exact ⟨h2, hok a (by simp)⟩
        · exact hok t (by simp [ht])
theorem tree {l : List N} (h : ends 1 l = some l.length) : ∃ t : T, t.ok ∧ l = t.ser := by
  obtain ⟨ts, hl, hok, e⟩ := forest l 1 h
  match ts, hl with
  | [t], _ => exact ⟨t, hok t (by simp), by simpa using e⟩
theorem ends_ser (t : T) (h : t.ok) : ∀ (k : Nat) (r : List N), ends (k + 1) (t.ser ++ r) = (ends k r).map (· + t.ser.length) := by
  induction t with
  | leaf x =>
    intro k r
    obtain ⟨h1, h2⟩ := h
    show ends (k + 1) (x :: r) = _
    have hp : parts x.op = 0 := by rcases parts_cases x.op with ⟨_, g⟩ | ⟨g, _⟩ | ⟨_, g⟩ | ⟨_, g⟩ <;> first | exact g | omega
    rw [ends, if_neg (by omega), hp]; rfl
  | not x t ih =>
    intro k r
    obtain ⟨h1, h2⟩ := h
    show ends (k + 1) (x :: (t.ser ++ r)) = _
    have hp : parts x.op = 1 := by rw [h1]; rfl
    rw [ends, if_neg (by omega), hp, show k + (1 : Int).toNat = k + 1 from rfl, ih h2]
    cases ends k r with
    | none => rfl
    | some n => show some (n + t.ser.length + 1) = some (n + (t.ser.length + 1)); rw [Nat.add_assoc]
  | bin x a b iha ihb =>
    intro k r
    obtain ⟨h1, h2, h3⟩ := h
    show ends (k + 1) (x :: (a.ser ++ b.ser ++ r)) = _
    have hp : parts x.op = 2 := by rcases h1 with h1 | h1 <;> rw [h1] <;> rfl
    rw [ends, if_neg (by omega), hp, show k + (2 : Int).toNat = (k + 1) + 1 from rfl, List.append_assoc, iha h2, ihb h3]
    cases ends k r with
    | none => rfl
    | some n =>
      show some (n + b.ser.length + a.ser.length + 1) = some (n + (a.ser ++ b.ser).length.succ)
      rw [List.length_append]; congr 1; omega
theorem ends_tree (t : T) (h : t.ok) : ends 1 t.ser = some t.ser.length := by
  have := ends_ser t h 0 []
  rw [List.append_nil] at this
  rw [this]; show some (0 + t.ser.length) = _; rw [Nat.zero_add]
theorem whole_tree {t : T} (h : t.ok) (hl : t.ser.length ≤ 40) : whole t.ser = true := by
  unfold whole
  rw [ends_tree t h, decide_eq_true t.ser_pos, decide_eq_true hl]; simp
theorem stack_ser (row : List Cd.V) (t : T) (h : t.ok) : ∀ r, stack row (t.ser ++ r) = t.ev row :: stack row r := by
  induction t with
  | leaf x =>
    intro r
    obtain ⟨h1, h2⟩ := h
    show Pd.step row x (stack row r) = _
    unfold Pd.step
    rw [if_neg (by omega), if_neg (by omega), if_neg (by omega)]; rfl
  | not x t ih =>
    intro r
    obtain ⟨h1, h2⟩ := h
    show Pd.step row x (stack row (t.ser ++ r)) = _
    rw [ih h2]
    unfold Pd.step
    rw [if_pos h1]; rfl
  | bin x a b iha ihb =>
    intro r
    obtain ⟨h1, h2, h3⟩ := h
    show Pd.step row x (stack row (a.ser ++ b.ser ++ r)) = _
    rw [List.append_assoc, iha h2, ihb h3]
    unfold Pd.step
    rcases h1 with h1 | h1
    · rw [if_neg (by omega), if_pos h1]
      show _ = (if x.op = 9 then _ else _) :: _
      rw [if_pos h1]; rfl
    · rw [if_neg (by omega), if_neg (by omega), if_pos h1]
      show _ = (if x.op = 9 then _ else _) :: _
      rw [if_neg (by omega)]; rfl
/-- the truth of a tree -/
theorem evalI_tree (row : List Cd.V) {t : T} (h : t.ok) (hl : t.ser.length ≤ 40) (hc : colsOk t.ser row.length = true) : evalI t.ser row = t.ev row := by
  unfold evalI
  rw [if_neg (by rw [whole_tree h hl]; decide), if_neg (by rw [hc]; decide)]
  have := stack_ser row t h []
  rw [List.append_nil] at this
  rw [this]; rfl
theorem T.ev_range (row : List Cd.V) (t : T) : -1 ≤ t.ev row ∧ t.ev row ≤ 1 := by
  induction t with
  | leaf x => exact leafV_range _ _
  | not x t ih => exact notI_range ih
  | bin x a b _ _ =>
    show -1 ≤ (if x.op = 9 then _ else _) ∧ (if x.op = 9 then _ else _) ≤ 1
    split
    · exact andI_range _ _
    · exact orI_range _ _
end Pd
end Go.Proofs.Ytfdehigepgeknaa
