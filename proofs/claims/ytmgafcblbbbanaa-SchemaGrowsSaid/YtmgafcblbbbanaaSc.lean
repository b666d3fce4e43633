/-
  Schemas, plainly: names, which are right, which extend others. No program in sight. No condition.
-/
import Derived.Test.YtmgafcblbbbanaaCd
namespace Go.Proofs.Ytmgafcblbbbanaa
namespace Sc

def letter (c : Nat) : Bool := decide (97 ≤ c ∧ c ≤ 122) || decide (c = 95)
def digit (c : Nat) : Bool := decide (48 ≤ c ∧ c ≤ 57)
def okAt (i c : Nat) : Bool := letter c || (digit c && decide (i ≠ 0))
/-- the first k bytes are a name's -/
def nameTo (s : ByteArray) : Nat → Bool
  | 0 => true
  | k + 1 => nameTo s k && (match s.data.toList[k]? with | none => true | some c => okAt k c.toNat)
def nameB (s : ByteArray) : Bool := nameTo s s.size && decide (1 ≤ s.size) && decide (s.size ≤ 32)
theorem nameTo_le {s : ByteArray} {j : Nat} (k : Nat) (h : nameTo s (j + k) = true) : nameTo s j = true := by
  induction k with
  | zero => exact h
  | succ k ih =>
    apply ih
    rw [show j + (k + 1) = (j + k) + 1 from by omega] at h
    unfold nameTo at h
    simp only [Bool.and_eq_true] at h
    exact h.1
theorem nameTo_succ (s : ByteArray) (k : Nat) (hk : k < s.size) : nameTo s (k + 1) = (nameTo s k && okAt k s[k].toNat) := by
  show (nameTo s k && _) = _
  have hl : k < s.data.toList.length := by simpa using hk
  rw [List.getElem?_eq_getElem hl]
  rfl
theorem name_no {s : ByteArray} {k : Nat} (hk : k < s.size) (h : okAt k s[k].toNat = false) : nameB s = false := by
  have h1 : nameTo s s.size = false := by
    cases e : nameTo s s.size with
    | false => rfl
    | true =>
      have := nameTo_le (s.size - (k + 1)) (by rw [show k + 1 + (s.size - (k + 1)) = s.size from by omega]; exact e)
      rw [nameTo_succ s k hk, h, Bool.and_false] at this
      cases this
  unfold nameB
  rw [h1]; rfl
theorem name_end {s : ByteArray} (h : nameTo s s.size = true) : nameB s = (decide (1 ≤ s.size) && decide (s.size ≤ 32)) := by
  unfold nameB; rw [h, Bool.true_and]
theorem name_len {s : ByteArray} (h : nameB s = true) : 1 ≤ s.size ∧ s.size ≤ 32 := by
  unfold nameB at h
  simp only [Bool.and_eq_true, decide_eq_true_eq] at h
  exact ⟨h.1.2, h.2⟩

/-- a column -/
structure C where
  name : ByteArray
  kind : Int
  need : Bool
/-- a schema -/
structure S where
  name : ByteArray
  cols : List C
  keys : Int
instance cDec : DecidableEq C := fun a b => decidable_of_iff (a.name = b.name ∧ a.kind = b.kind ∧ a.need = b.need) (by
  cases a; cases b; simp)
def colOk (keys : Int) (i : Nat) (c : C) : Bool := nameB c.name && decide (1 ≤ c.kind) && decide (c.kind ≤ 5) && (decide (keys ≤ (i : Int)) || c.need)
def fresh (l : List C) (k : Nat) (n : ByteArray) : Bool := (l.take k).all fun d => decide (d.name ≠ n)
def good1 (s : S) (k : Nat) : Bool := match s.cols[k]? with
  | none => true
  | some c => colOk s.keys k c && fresh s.cols k c.name
def goodTo (s : S) : Nat → Bool
  | 0 => true
  | k + 1 => goodTo s k && good1 s k
def right (s : S) : Bool := nameB s.name && decide (s.cols.length ≤ 16) && decide (1 ≤ s.keys) && decide (s.keys ≤ 8) && decide (s.keys ≤ (s.cols.length : Int)) && goodTo s s.cols.length
theorem goodTo_le {s : S} {j : Nat} (k : Nat) (h : goodTo s (j + k) = true) : goodTo s j = true := by
  induction k with
  | zero => exact h
  | succ k ih =>
    apply ih
    rw [show j + (k + 1) = (j + k) + 1 from by omega] at h
    unfold goodTo at h
    simp only [Bool.and_eq_true] at h
    exact h.1
theorem good1_at (s : S) (k : Nat) (hk : k < s.cols.length) : good1 s k = (colOk s.keys k s.cols[k] && fresh s.cols k s.cols[k].name) := by
  unfold good1
  rw [List.getElem?_eq_getElem hk]
theorem goodTo_succ (s : S) (k : Nat) (hk : k < s.cols.length) : goodTo s (k + 1) = (goodTo s k && (colOk s.keys k s.cols[k] && fresh s.cols k s.cols[k].name)) := by
  show (goodTo s k && good1 s k) = _
  rw [good1_at s k hk]
theorem right_no {s : S} {k : Nat} (hk : k < s.cols.length) (h : (colOk s.keys k s.cols[k] && fresh s.cols k s.cols[k].name) = false) : right s = false := by
  have h1 : goodTo s s.cols.length = false := by
    cases e : goodTo s s.cols.length with
    | false => rfl
    | true =>
      have := goodTo_le (s.cols.length - (k + 1)) (by rw [show k + 1 + (s.cols.length - (k + 1)) = s.cols.length from by omega]; exact e)
      rw [goodTo_succ s k hk, h, Bool.and_false] at this
      cases this
  unfold right
  rw [h1, Bool.and_false]
theorem fresh_zero (l : List C) (n : ByteArray) : fresh l 0 n = true := by unfold fresh; simp
theorem fresh_succ (l : List C) (k : Nat) (n : ByteArray) (hk : k < l.length) : fresh l (k + 1) n = (fresh l k n && decide (l[k].name ≠ n)) := by
  unfold fresh
  rw [List.take_succ_eq_append_getElem hk, List.all_append]
  simp only [List.all_cons, List.all_nil, Bool.and_true]
theorem fresh_no {l : List C} {k i : Nat} {n : ByteArray} (hk : k < l.length) (hi : i ≤ l.length) (h : k < i) (he : l[k].name = n) : fresh l i n = false := by
  unfold fresh
  rw [List.all_eq_false]
  refine ⟨l[k], ?_, by simp [he]⟩
  rw [List.mem_take_iff_getElem]
  exact ⟨k, by omega, rfl⟩
end Sc
end Go.Proofs.Ytmgafcblbbbanaa
