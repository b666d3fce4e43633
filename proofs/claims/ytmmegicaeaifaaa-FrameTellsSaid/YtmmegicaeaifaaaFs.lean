/-
  Contracts and laws of the layers below, put together: Sc ScN ScM ScS ScR ScQ ScB ScF ScG. Conditions: where they are named.
-/
import Derived.Test.YtmmegicaeaifaaaFa
import Derived.Test.YtmmegicaeaifaaaFb
import Derived.Laws.RangeAny
import Derived.Maps.OwnOps
import Derived.Maps.Views

namespace Go.Proofs.Ytmmegicaeaifaaa
namespace Sc

def letter (c : Nat) : Bool := decide (97 ≤ c ∧ c ≤ 122) || decide (c = 95)
def digit (c : Nat) : Bool := decide (48 ≤ c ∧ c ≤ 57)
def okAt (i c : Nat) : Bool := letter c || (digit c && decide (i ≠ 0))
/-- the first k bytes are a name's -/
def nameTo (s : ByteArray) : Nat → Bool
  | 0 => true
  | k + 1 => nameTo s k && (match s.data.toList[k]? with | none => true | some c => okAt k c.toNat)
def nameB (s : ByteArray) : Bool := nameTo s s.size && decide (1 ≤ s.size) && decide (s.size ≤ 32)
theorem nameTo_le {s : ByteArray} {j : Nat} (k : Nat) (h : nameTo s (j + k) = true) : nameTo s j = true := by
  induction k with
  | zero => exact h
  | succ k ih =>
    apply ih
    rw [show j + (k + 1) = (j + k) + 1 from by omega] at h
    unfold nameTo at h
    simp only [Bool.and_eq_true] at h
    exact h.1
theorem nameTo_succ (s : ByteArray) (k : Nat) (hk : k < s.size) : nameTo s (k + 1) = (nameTo s k && okAt k s[k].toNat) := by
  show (nameTo s k && _) = _
  have hl : k < s.data.toList.length := by simpa using hk
  rw [List.getElem?_eq_getElem hl]
  rfl
theorem name_no {s : ByteArray} {k : Nat} (hk : k < s.size) (h : okAt k s[k].toNat = false) : nameB s = false := by
  have h1 : nameTo s s.size = false := by
    cases e : nameTo s s.size with
    | false => rfl
    | true =>
      have := nameTo_le (s.size - (k + 1)) (by rw [show k + 1 + (s.size - (k + 1)) = s.size from by omega]; exact e)
      rw [nameTo_succ s k hk, h, Bool.and_false] at this
      cases this
  unfold nameB
  rw [h1]; rfl
theorem name_end {s : ByteArray} (h : nameTo s s.size = true) : nameB s = (decide (1 ≤ s.size) && decide (s.size ≤ 32)) := by
  unfold nameB; rw [h, Bool.true_and]
theorem name_len {s : ByteArray} (h : nameB s = true) : 1 ≤ s.size ∧ s.size ≤ 32 := by
  unfold nameB at h
  simp only [Bool.and_eq_true, decide_eq_true_eq] at h
  exact ⟨h.1.2, h.2⟩

/-- a column -/
structure C where
  name : ByteArray
  kind : Int
  need : Bool
/-- a schema -/
structure S where
  name : ByteArray
  cols : List C
  keys : Int
instance cDec : DecidableEq C := fun a b => decidable_of_iff (a.name = b.name ∧ a.kind = b.kind ∧ a.need = b.need) (by
  cases a; cases b; simp)
def colOk (keys : Int) (i : Nat) (c : C) : Bool := nameB c.name && decide (1 ≤ c.kind) && decide (c.kind ≤ 5) && (decide (keys ≤ (i : Int)) || c.need)
def fresh (l : List C) (k : Nat) (n : ByteArray) : Bool := (l.take k).all fun d => decide (d.name ≠ n)
def good1 (s : S) (k : Nat) : Bool := match s.cols[k]? with
  | none => true
  | some c => colOk s.keys k c && fresh s.cols k c.name
def goodTo (s : S) : Nat → Bool
  | 0 => true
  | k + 1 => goodTo s k && good1 s k
def right (s : S) : Bool := nameB s.name && decide (s.cols.length ≤ 16) && decide (1 ≤ s.keys) && decide (s.keys ≤ 8) && decide (s.keys ≤ (s.cols.length : Int)) && goodTo s s.cols.length
theorem goodTo_le {s : S} {j : Nat} (k : Nat) (h : goodTo s (j + k) = true) : goodTo s j = true := by
  induction k with
  | zero => exact h
  | succ k ih =>
    apply ih
    rw [show j + (k + 1) = (j + k) + 1 from by omega] at h
    unfold goodTo at h
    simp only [Bool.and_eq_true] at h
    exact h.1
theorem good1_at (s : S) (k : Nat) (hk : k < s.cols.length) : good1 s k = (colOk s.keys k s.cols[k] && fresh s.cols k s.cols[k].name) := by
  unfold good1
  rw [List.getElem?_eq_getElem hk]
theorem goodTo_succ (s : S) (k : Nat) (hk : k < s.cols.length) : goodTo s (k + 1) = (goodTo s k && (colOk s.keys k s.cols[k] && fresh s.cols k s.cols[k].name)) := by
  show (goodTo s k && good1 s k) = _
  rw [good1_at s k hk]
theorem right_no {s : S} {k : Nat} (hk : k < s.cols.length) (h : (colOk s.keys k s.cols[k] && fresh s.cols k s.cols[k].name) = false) : right s = false := by
  have h1 : goodTo s s.cols.length = false := by
    cases e : goodTo s s.cols.length with
    | false => rfl
    | true =>
      have := goodTo_le (s.cols.length - (k + 1)) (by rw [show k + 1 + (s.cols.length - (k + 1)) = s.cols.length from by omega]; exact e)
      rw [goodTo_succ s k hk, h, Bool.and_false] at this
      cases this
  unfold right
  rw [h1, Bool.and_false]
theorem fresh_zero (l : List C) (n : ByteArray) : fresh l 0 n = true := by unfold fresh; simp
theorem fresh_succ (l : List C) (k : Nat) (n : ByteArray) (hk : k < l.length) : fresh l (k + 1) n = (fresh l k n && decide (l[k].name ≠ n)) := by
  unfold fresh
  rw [List.take_succ_eq_append_getElem hk, List.all_append]
  simp only [List.all_cons, List.all_nil, Bool.and_true]
theorem fresh_no {l : List C} {k i : Nat} {n : ByteArray} (hk : k < l.length) (hi : i ≤ l.length) (h : k < i) (he : l[k].name = n) : fresh l i n = false := by
  unfold fresh
  rw [List.all_eq_false]
  refine ⟨l[k], ?_, by simp [he]⟩
  rw [List.mem_take_iff_getElem]
  exact ⟨k, by omega, rfl⟩
end Sc
end Go.Proofs.Ytmmegicaeaifaaa

namespace Go.Proofs.Ytmmegicaeaifaaa
open Go.RowKit

/-- where a byte lies, of those that a name asks for -/
theorem okAt_cases (i c : Nat) : (Sc.okAt i c = true ∧ ((97 ≤ c ∧ c ≤ 122) ∨ c = 95 ∨ (48 ≤ c ∧ c ≤ 57 ∧ i ≠ 0))) ∨
    (Sc.okAt i c = false ∧ (c < 48 ∨ (57 < c ∧ c < 95) ∨ c = 96 ∨ 122 < c ∨ (48 ≤ c ∧ c ≤ 57 ∧ i = 0))) := by
  unfold Sc.okAt Sc.letter Sc.digit
  by_cases h1 : 97 ≤ c ∧ c ≤ 122
  · exact .inl ⟨by simp [h1], .inl h1⟩
  by_cases h2 : c = 95
  · exact .inl ⟨by simp [h2], .inr (.inl h2)⟩
  by_cases h3 : 48 ≤ c ∧ c ≤ 57
  · by_cases h4 : i = 0
    · exact .inr ⟨by simp [h1, h2, h4], .inr (.inr (.inr (.inr ⟨h3.1, h3.2, h4⟩)))⟩
    · exact .inl ⟨by simp [h3, h4], .inr (.inr ⟨h3.1, h3.2, h4⟩)⟩
  · exact .inr ⟨by simp [h1, h2, h3], by omega⟩
theorem below_iter (w : World) (s : ByteArray) (p : Nat) : Below w.heap.size w (w.iter s p) := hba w _

set_option maxRecDepth 100000 in
set_option maxHeartbeats 3200000 in
theorem name_any (s : ByteArray) (hs : s.size ≤ maxLen) (w : World) : Calls Try.prog 30 #[.string s] w fun e w' => e = .returned (.bool (Sc.nameB s)) ∧ Below w.heap.size w w' := by
  unfold maxLen at hs
  go_enter Try.func30, Try.ntmps30
  go_wp2_with fail
  go_loopw [3, 4, 5, 6] (fun a b c d wr => ∃ p : Nat, p ≤ s.size ∧ wr = w.iter s p ∧ Hid (Sc.nameTo s p = true)) (fun _ _ _ _ wr => s.size - wr.iterPos w.heap.size)
  case atStart => exact ⟨0, by omega, rfl, rfl⟩
  case round =>
    obtain ⟨p, hp, rfl, hN⟩ := hrel
    by_cases hlt : p < s.size
    · have hp0 : (0 : Int) ≤ (p : Int) := by omega
      by_cases ha : s[p].toNat < 128
      · have hnx : ∀ ty, (Instr.next (.pointer (some ⟨w.heap.size, 0, none⟩)) true ty).run Try.prog (w.iter s p) = _ := fun ty => run_next_ascii w s p ty hlt ha
        have hno : Hid (Sc.okAt p s[p].toNat = false → Sc.nameB s = false) := Sc.name_no hlt
        have hyes : Hid (Sc.okAt p s[p].toNat = true → Sc.nameTo s (p + 1) = true) := fun h => by rw [Sc.nameTo_succ s p hlt, hN.out, h]; rfl
        have hcc := okAt_cases p s[p].toNat
        generalize s[p].toNat = c at hnx hno hyes hcc ha
        rcases hcc with ⟨hok, hcs⟩ | ⟨hok, hcs⟩
        · have HT := hid (hyes.out hok)
          clear hok hno hyes hN
          have fin : p + 1 ≤ s.size := hlt
          rcases hcs with h1 | h1 | h1
          · have h2 : (97 : Int) ≤ (c : Int) := by omega
            have h3 : (c : Int) ≤ 122 := by omega
            go_wp2_with fail
            go_roundw
            case rel => exact ⟨p + 1, fin, rfl, HT⟩
            case measure => simp; omega
          · subst h1
            go_wp2_with fail
            go_roundw
            case rel => exact ⟨p + 1, fin, rfl, HT⟩
            case measure => simp; omega
          · have h2 : (48 : Int) ≤ (c : Int) := by omega
            have h3 : (c : Int) ≤ 57 := by omega
            have h4 : ((c : Int) == 95) = false := by rw [beq_eq_false_iff_ne]; omega
            have h5 : ((p : Int) == 0) = false := by rw [beq_eq_false_iff_ne]; omega
            go_wp2_with fail
            go_roundw
            case rel => exact ⟨p + 1, fin, rfl, HT⟩
            case measure => simp; omega
        · have HF := hid (hno.out hok)
          clear hok hno hyes hN
          have h4 : ((c : Int) == 95) = false := by rw [beq_eq_false_iff_ne]; omega
          rcases hcs with h1 | h1 | h1 | h1 | h1
          · have h2 : (c : Int) < 48 := by omega
            go_wp2_with fail
            go_ret
            rw [HF.out]
            exact ⟨rfl, below_iter _ _ _⟩
          · have h2 : (57 : Int) < (c : Int) := by omega
            have h3 : (c : Int) < 95 := by omega
            go_wp2_with fail
            go_ret
            rw [HF.out]
            exact ⟨rfl, below_iter _ _ _⟩
          · subst h1
            go_wp2_with fail
            go_ret
            rw [HF.out]
            exact ⟨rfl, below_iter _ _ _⟩
          · have h2 : (122 : Int) < (c : Int) := by omega
            have h6 : decide ((c : Int) ≤ 122) = false := decide_eq_false (by omega)
            go_wp2_with fail
            go_ret
            rw [HF.out]
            exact ⟨rfl, below_iter _ _ _⟩
          · obtain ⟨h1, h2, rfl⟩ := h1
            have h3 : (48 : Int) ≤ (c : Int) := by omega
            have h5 : (c : Int) ≤ 57 := by omega
            go_wp2_with fail
            go_ret
            rw [HF.out]
            exact ⟨rfl, below_iter _ _ _⟩
      · have hd := decode_high s p hlt (by omega)
        have hnx : ∀ ty, (Instr.next (.pointer (some ⟨w.heap.size, 0, none⟩)) true ty).run Try.prog (w.iter s p) = _ := fun ty => run_next_any w s p ty hlt
        have HF : Hid (Sc.nameB s = false) := Sc.name_no hlt (by
          rcases okAt_cases p s[p].toNat with ⟨_, h⟩ | ⟨h, _⟩
          · omega
          · exact h)
        generalize (Utf8.decode s p).1 = c at hnx hd
        generalize (Utf8.decode s p).2 = q at hnx hd
        have h1 : (128 : Int) ≤ (c : Int) := by omega
        have h6 : decide ((c : Int) ≤ 122) = false := decide_eq_false (by omega)
        have h4 : ((c : Int) == 95) = false := by rw [beq_eq_false_iff_ne]; omega
        clear hd ha hN
        go_wp2_with fail
        go_ret
        rw [HF.out]
        exact ⟨rfl, below_iter _ _ _⟩
    · obtain rfl : p = s.size := by omega
      have hnx : ∀ ty, (Instr.next (.pointer (some ⟨w.heap.size, 0, none⟩)) true ty).run Try.prog (w.iter s s.size) = _ := fun ty => run_next_end w s s.size ty hlt
      have HE := hid (Sc.name_end hN.out)
      clear hN hp
      by_cases h0 : s.size = 0
      · have h1 : s.toList = [] := by rw [ByteArray.toList_eq]; exact List.eq_nil_of_length_eq_zero (by simpa using h0)
        have h2 : s.toList.isEmpty = true := by rw [h1]; rfl
        have HE2 : Hid (Sc.nameB s = false) := by show _ = _; rw [HE.out, h0]; rfl
        clear h0 h1
        go_wp2_with fail
        go_ret
        rw [HE2.out]
        exact ⟨rfl, below_iter _ _ _⟩
      · have h2 : s.toList.isEmpty = false := by
          rw [ByteArray.toList_eq]
          cases e : s.data.toList with
          | nil => exact absurd (by have := congrArg List.length e; simpa using this) h0
          | cons a l => rfl
        have HE2 : Hid (Sc.nameB s = decide ((s.size : Int) ≤ 32)) := by show _ = _; rw [HE.out, decide_eq_true (show 1 ≤ s.size by omega), Bool.true_and, Bool.eq_iff_iff]; simp only [decide_eq_true_eq]; omega
        clear h0
        go_wp2_with fail
        all_goals
          go_ret
          rw [HE2.out]
          first | exact ⟨rfl, below_iter _ _ _⟩ | exact ⟨by rw [decide_eq_true (by omega)], below_iter _ _ _⟩ | exact ⟨by rw [decide_eq_false (by omega)], below_iter _ _ _⟩
end Go.Proofs.Ytmmegicaeaifaaa

namespace Go.Proofs.Ytmmegicaeaifaaa
open Go.RowKit

set_option maxRecDepth 100000 in
set_option maxHeartbeats 3200000 in
theorem nameR_any (s : ByteArray) (hs : s.size ≤ maxLen) (w : World) : Calls Try.prog 35 #[.string s] w fun e w' => e = .returned (.bool (Sc.nameB s)) ∧ w = w' := by
  unfold maxLen at hs
  go_enter Try.func35, Try.ntmps35
  go_wp2_with fail
  go_loop [3, 4, 5] (fun a _ _ => ∃ p : Nat, p ≤ s.size ∧ a = .int .i64 (p : Int) ∧ Hid (Sc.nameTo s p = true)) (fun a _ _ => s.size - (intOf a).toNat)
  case atStart => exact ⟨0, by omega, rfl, rfl⟩
  case round =>
    obtain ⟨p, hp, rfl, hN⟩ := hrel
    by_cases hlt : p < s.size
    · have hp0 : (0 : Int) ≤ (p : Int) := by omega
      have hlt' : (p : Int) < s.size := by omega
      have hno : Hid (Sc.okAt p s[p].toNat = false → Sc.nameB s = false) := Sc.name_no hlt
      have hyes : Hid (Sc.okAt p s[p].toNat = true → Sc.nameTo s (p + 1) = true) := fun h => by rw [Sc.nameTo_succ s p hlt, hN.out, h]; rfl
      have hcc := okAt_cases p s[p].toNat
      obtain ⟨c, hc⟩ : ∃ c, s[p].toNat = c := ⟨_, rfl⟩
      rw [hc] at hno hyes hcc
      rcases hcc with ⟨hok, hcs⟩ | ⟨hok, hcs⟩
      · have HT := hid (hyes.out hok)
        clear hok hno hyes hN
        have fin : p + 1 ≤ s.size := hlt
        rcases hcs with h1 | h1 | h1
        · have h2 : (97 : Int) ≤ (c : Int) := by omega
          have h3 : (c : Int) ≤ 122 := by omega
          go_wp2_with fail
          go_round
          case rel => exact ⟨p + 1, fin, by go_num, HT⟩
          case measure => simp [intOf]; omega
        · obtain rfl : 95 = c := h1.symm
          go_wp2_with fail
          go_round
          case rel => exact ⟨p + 1, fin, by go_num, HT⟩
          case measure => simp [intOf]; omega
        · have h2 : (48 : Int) ≤ (c : Int) := by omega
          have h3 : (c : Int) ≤ 57 := by omega
          have h4 : ((c : Int) == 95) = false := by rw [beq_eq_false_iff_ne]; omega
          have h5 : ((p : Int) == 0) = false := by rw [beq_eq_false_iff_ne]; omega
          have h6 : decide ((57 : Int) < (c : Int)) = false := decide_eq_false (by omega)
          go_wp2_with fail
          go_round
          case rel => exact ⟨p + 1, fin, by go_num, HT⟩
          case measure => simp [intOf]; omega
      · have HF := hid (hno.out hok)
        clear hok hno hyes hN
        have h4 : ((c : Int) == 95) = false := by rw [beq_eq_false_iff_ne]; omega
        rcases hcs with h1 | h1 | h1 | h1 | h1
        · have h2 : (c : Int) < 48 := by omega
          obtain ⟨p5, h5⟩ : ∃ b, ((p : Int) == 0) = b := ⟨_, rfl⟩
          cases p5
          all_goals
            go_wp2_with fail
            go_ret
            rw [HF.out]
            exact ⟨rfl, rfl⟩
        · have h2 : (57 : Int) < (c : Int) := by omega
          have h3 : (c : Int) < 95 := by omega
          obtain ⟨p5, h5⟩ : ∃ b, ((p : Int) == 0) = b := ⟨_, rfl⟩
          have h6 : decide ((57 : Int) < (c : Int)) = true := decide_eq_true (by omega)
          cases p5
          all_goals
            go_wp2_with fail
            go_ret
            rw [HF.out]
            exact ⟨rfl, rfl⟩
        · obtain rfl : 96 = c := h1.symm
          obtain ⟨p5, h5⟩ : ∃ b, ((p : Int) == 0) = b := ⟨_, rfl⟩
          cases p5
          all_goals
            go_wp2_with fail
            go_ret
            rw [HF.out]
            exact ⟨rfl, rfl⟩
        · have h2 : (122 : Int) < (c : Int) := by omega
          have h6 : decide ((c : Int) ≤ 122) = false := decide_eq_false (by omega)
          have h7 : decide ((57 : Int) < (c : Int)) = true := decide_eq_true (by omega)
          obtain ⟨p5, h5⟩ : ∃ b, ((p : Int) == 0) = b := ⟨_, rfl⟩
          cases p5
          all_goals
            go_wp2_with fail
            go_ret
            rw [HF.out]
            exact ⟨rfl, rfl⟩
        · obtain ⟨h1, h2, rfl⟩ := h1
          have h3 : (48 : Int) ≤ (c : Int) := by omega
          have h5 : (c : Int) ≤ 57 := by omega
          go_wp2_with fail
          go_ret
          rw [HF.out]
          exact ⟨rfl, rfl⟩
    · obtain rfl : p = s.size := by omega
      have HE := hid (Sc.name_end hN.out)
      clear hN hp
      by_cases h0 : s.size = 0
      · have h2 : (s.size : Int) < 1 := by omega
        have HE2 : Hid (Sc.nameB s = false) := by show _ = _; rw [HE.out, h0]; rfl
        clear h0
        go_wp2_with fail
        go_ret
        rw [HE2.out]
        exact ⟨rfl, rfl⟩
      · have h2 : (1 : Int) ≤ (s.size : Int) := by omega
        have HE2 : Hid (Sc.nameB s = decide ((s.size : Int) ≤ 32)) := by show _ = _; rw [HE.out, decide_eq_true (show 1 ≤ s.size by omega), Bool.true_and, Bool.eq_iff_iff]; simp only [decide_eq_true_eq]; omega
        clear h0
        go_wp2_with fail
        all_goals
          go_ret
          rw [HE2.out]
          first | exact ⟨rfl, rfl⟩ | exact ⟨by rw [decide_eq_true (by omega)], rfl⟩ | exact ⟨by rw [decide_eq_false (by omega)], rfl⟩

/-- columns in memory -/
def CsAt (w : World) (v : Value) (l : List Sc.C) : Prop :=
  ∃ adr cap, v = .slice adr l.length cap ∧ l.length ≤ cap ∧ cap ≤ maxLen ∧ ∀ k (hk : k < l.length), ∃ g off, adr = some ⟨g, off, none⟩ ∧ w.cell? ⟨g, off + k * 3, none⟩ = some (.string l[k].name) ∧ w.cell? ⟨g, off + k * 3 + 1, none⟩ = some (.int .i64 l[k].kind) ∧
    w.cell? ⟨g, off + k * 3 + 2, none⟩ = some (.bool l[k].need)
theorem CsAt.below {w w' : World} {v : Value} {l : List Sc.C} (h : CsAt w v l) (hb : Below w.heap.size w w') : CsAt w' v l := by
  obtain ⟨adr, cap, rfl, h1, h2, hc⟩ := h
  refine ⟨adr, cap, rfl, h1, h2, fun k hk => ?_⟩
  obtain ⟨g, off, rfl, q0, q1, q2⟩ := hc k hk
  exact ⟨g, off, rfl, hkeep q0 hb, hkeep q1 hb, hkeep q2 hb⟩
/-- a schema as a value, its columns being v -/
def sv (s : Sc.S) (v : Value) : Value := .agg #[.string s.name, v, .int .i64 s.keys]
/-- what texts a schema has -/
def Sok (s : Sc.S) : Prop := s.name.size ≤ maxLen ∧ ∀ c ∈ s.cols, c.name.size ≤ maxLen
theorem Try.cHeld : Try.prog.stoodInHeld 88 = false := by kernel_rfl
/-- a column as a value -/
def cv (c : Sc.C) : Value := .agg #[.string c.name, .int .i64 c.kind, .bool c.need]
theorem c_equalIn (a b : Sc.C) (w : World) : (Op.equalIn 10000 88 (cv a) (cv b)).run Try.prog w = .ok (decide (a = b)) w := by
  have hd : decide (a = b) = (a.name.toList == b.name.toList && (a.kind == b.kind && a.need == b.need)) := by
    rw [bytes_beq, Bool.eq_iff_iff]
    cases a; cases b
    simp
  rw [hd]
  unfold cv
  rw [run_equalIn_agg w 9999 88 _ _ (by kernel_rfl) Try.cHeld]
  cases h1 : (a.name.toList == b.name.toList) <;> cases h2 : (a.kind == b.kind) <;> cases h3 : (a.need == b.need)
  all_goals
    go_simp
theorem c_neq (a b : Sc.C) (r : Bool) (h : decide (a = b) = r) (w : World) : (binOp .neq 88 (cv a) (cv b)).run Try.prog w = .ok (.bool (!r)) w := by
  subst h
  have h := c_equalIn a b w
  unfold cv at h ⊢
  simp [binOp, Op.equal, Op.maxDepth, h]
end Go.Proofs.Ytmmegicaeaifaaa

namespace Go.Proofs.Ytmmegicaeaifaaa
open Go.RowKit

/-- two schemas are alike -/
def Sc.same (a b : Sc.S) : Bool := decide (a.name = b.name) && (decide (a.keys = b.keys) && decide (a.cols = b.cols))
theorem ctake_eq {l r : List Sc.C} (h : l.length = r.length) (k : Nat) (hk : k < l.length) (h0 : l.take k = r.take k) : l.take (k + 1) = r.take (k + 1) ↔ l[k] = r[k]'(by omega) := by
  rw [List.take_succ_eq_append_getElem hk, List.take_succ_eq_append_getElem (by omega), h0, List.append_cancel_left_eq]
  simp
theorem ctake_ne {l r : List Sc.C} (h : l.length = r.length) (k : Nat) (hk : k < l.length) (h0 : l[k] ≠ r[k]'(by omega)) : l ≠ r := by
  rintro rfl; exact h0 rfl
set_option maxRecDepth 100000 in
set_option maxHeartbeats 3200000 in
theorem same_any (a b : Sc.S) (va vb : Value) (w : World) (h1 : CsAt w va a.cols) (h2 : CsAt w vb b.cols) :
    Calls Try.prog 33 #[sv a va, sv b vb] w fun e w' => e = .returned (.bool (Sc.same a b)) ∧ Below w.heap.size w w' := by
  obtain ⟨adr, cap, rfl, hc1, hc2, hc⟩ := h1
  obtain ⟨adr2, cap2, rfl, hd1, hd2, hd⟩ := h2
  have HC := hid hc
  have HD := hid hd
  unfold maxLen at hc2 hd2
  clear hc hd
  obtain ⟨an, ac, ak⟩ := a
  obtain ⟨bn, bc, bk⟩ := b
  simp only at hc1 hd1 HC HD
  unfold sv
  have hb2 : Below w.heap.size w ((w.alloc (.cells #[.string an, .slice adr ac.length cap, .int .i64 ak] 30)).alloc (.cells #[.string bn, .slice adr2 bc.length cap2, .int .i64 bk] 30)) := hnext (hba w _) (hba _ _)
  by_cases hn : an = bn
  · subst hn
    by_cases hk : ak = bk
    · subst hk
      by_cases hl : ac.length = bc.length
      · have HL := hid hl
        have e3 : (((ac.length : Int)) != (bc.length : Int)) = false := by rw [bne_eq_false_iff_eq]; omega
        have hlt0 : ∀ k, k < ac.length → (k : Int) < (bc.length : Int) := by intro k hk; omega
        have HLT := hid hlt0
        clear hl hlt0
        have A0 : Hid (((w.alloc (.cells #[.string an, .slice adr ac.length cap, .int .i64 ak] 30)).alloc (.cells #[.string an, .slice adr2 bc.length cap2, .int .i64 ak] 30)).cell? ⟨w.heap.size, 1, none⟩ = some (.slice adr ac.length cap)) := by show _ = _; simp
        have A1 : Hid (((w.alloc (.cells #[.string an, .slice adr ac.length cap, .int .i64 ak] 30)).alloc (.cells #[.string an, .slice adr2 bc.length cap2, .int .i64 ak] 30)).cell? ⟨w.heap.size + 1, 1, none⟩ = some (.slice adr2 bc.length cap2)) := by show _ = _; simp
        go_enter Try.func33, Try.ntmps33
        go_wp2_with fail
        go_loopw [30] (fun i wr => ∃ k : Nat, k ≤ ac.length ∧ i = .int .i64 (k : Int) ∧ Hid (ac.take k = bc.take k) ∧ Below ((w.alloc (.cells #[.string an, .slice adr ac.length cap, .int .i64 ak] 30)).alloc (.cells #[.string an, .slice adr2 bc.length cap2, .int .i64 ak] 30)).heap.size ((w.alloc (.cells #[.string an, .slice adr ac.length cap, .int .i64 ak] 30)).alloc (.cells #[.string an, .slice adr2 bc.length cap2, .int .i64 ak] 30)) wr) (fun i _ => ac.length - (intOf i).toNat)
        case atStart => exact ⟨0, by omega, rfl, rfl, Below.refl _ _⟩
        case round =>
          obtain ⟨k, hk, rfl, htk, hbel⟩ := hrel
          obtain ⟨w4, rfl⟩ : ∃ w4 : World, w4 = wr := ⟨_, rfl⟩
          by_cases hlk : k < ac.length
          · obtain ⟨g, off, rfl, q0, q1, q2⟩ := HC.out k hlk
            obtain ⟨g2, off2, rfl, p0, p1, p2⟩ := HD.out k (by have := HL.out; omega)
            have HNX := hid (ctake_eq HL.out k hlk htk.out)
            have HX := hid (ctake_ne HL.out k hlk)
            have hq := c_neq ac[k] (bc[k]'(by have := HL.out; omega)) _ rfl
            generalize ac[k] = x at q0 q1 q2 HNX HX hq
            generalize bc[k]'(by have := HL.out; omega) = y at p0 p1 p2 HNX HX hq
            have hk2 := HLT.out k hlk
            replace q0 := hkeep (hkeep (hkeep q0 (hba w _)) (hba _ _)) hbel
            replace q1 := hkeep (hkeep (hkeep q1 (hba w _)) (hba _ _)) hbel
            replace q2 := hkeep (hkeep (hkeep q2 (hba w _)) (hba _ _)) hbel
            replace p0 := hkeep (hkeep (hkeep p0 (hba w _)) (hba _ _)) hbel
            replace p1 := hkeep (hkeep (hkeep p1 (hba w _)) (hba _ _)) hbel
            replace p2 := hkeep (hkeep (hkeep p2 (hba w _)) (hba _ _)) hbel
            have z0 := hkeep A0.out hbel
            have z1 := hkeep A1.out hbel
            have hlk' : (k : Int) < ac.length := by omega
            have hk0 : (0 : Int) ≤ (k : Int) := by omega
            unfold cv at hq
            by_cases hxy : x = y
            · have HT := hid (HNX.out.2 hxy)
              rw [decide_eq_true hxy] at hq
              clear hxy
              go_wp2_with fail
              go_quiet (fail)
              go_wp2_with fail
              go_roundw
              case rel => exact ⟨k + 1, by omega, by go_num, HT, hdrewN hbel _⟩
              case measure => simp [intOf]; omega
            · have HNE := hid (HX.out hxy)
              have HE : Hid (Sc.same ⟨an, ac, ak⟩ ⟨an, bc, ak⟩ = false) := by show _ = _; unfold Sc.same; rw [decide_eq_false (show ¬ ac = bc from HNE.out), Bool.and_false, Bool.and_false]
              rw [decide_eq_false hxy] at hq
              clear hxy
              go_wp2_with fail
              go_quiet (fail)
              go_wp2_with fail
              go_ret
              rw [HE.out]
              exact ⟨rfl, hnext hb2 (hdrewN hbel _)⟩
          · obtain rfl : k = ac.length := by omega
            have z0 := hkeep A0.out hbel
            have z1 := hkeep A1.out hbel
            have HE : Hid (Sc.same ⟨an, ac, ak⟩ ⟨an, bc, ak⟩ = true) := by
              show _ = _
              unfold Sc.same
              have hcc : ac = bc := by have h := htk.out; rw [List.take_length, HL.out, List.take_length] at h; exact h
              rw [decide_eq_true rfl, decide_eq_true rfl, decide_eq_true hcc]; rfl
            go_wp2_with fail
            go_ret
            rw [HE.out]
            exact ⟨rfl, hnext hb2 hbel⟩
      · have e3 : (((ac.length : Int)) != (bc.length : Int)) = true := by rw [bne_iff_ne]; omega
        have HE : Hid (Sc.same ⟨an, ac, ak⟩ ⟨an, bc, ak⟩ = false) := by
          show _ = _
          unfold Sc.same
          rw [decide_eq_false (show ¬ ac = bc from fun e => hl (by rw [e])), Bool.and_false, Bool.and_false]
        clear hl
        go_enter Try.func33, Try.ntmps33
        go_wp2_with fail
        go_ret
        rw [HE.out]
        exact ⟨rfl, hb2⟩
    · have e2 : (ak == bk) = false := beq_eq_false_iff_ne.2 hk
      have HE : Hid (Sc.same ⟨an, ac, ak⟩ ⟨an, bc, bk⟩ = false) := by
        show _ = _
        unfold Sc.same
        rw [decide_eq_false (show ¬ ak = bk from hk), Bool.false_and, Bool.and_false]
      clear hk
      go_enter Try.func33, Try.ntmps33
      go_wp2_with fail
      go_ret
      rw [HE.out]
      exact ⟨rfl, hb2⟩
  · have e1 : (an.toList == bn.toList) = false := by rw [bytes_beq]; exact decide_eq_false hn
    have HE : Hid (Sc.same ⟨an, ac, ak⟩ ⟨bn, bc, bk⟩ = false) := by
      show _ = _
      unfold Sc.same
      rw [decide_eq_false (show ¬ an = bn from hn), Bool.false_and]
    clear hn
    go_enter Try.func33, Try.ntmps33
    go_wp2_with fail
    go_ret
    rw [HE.out]
    exact ⟨rfl, hb2⟩
set_option maxRecDepth 100000 in
set_option maxHeartbeats 3200000 in
theorem sameR_any (a b : Sc.S) (va vb : Value) (w : World) (h1 : CsAt w va a.cols) (h2 : CsAt w vb b.cols) :
    Calls Try.prog 37 #[sv a va, sv b vb] w fun e w' => e = .returned (.bool (Sc.same a b)) ∧ Below w.heap.size w w' := by
  obtain ⟨adr, cap, rfl, hc1, hc2, hc⟩ := h1
  obtain ⟨adr2, cap2, rfl, hd1, hd2, hd⟩ := h2
  have HC := hid hc
  have HD := hid hd
  unfold maxLen at hc2 hd2
  clear hc hd
  obtain ⟨an, ac, ak⟩ := a
  obtain ⟨bn, bc, bk⟩ := b
  simp only at hc1 hd1 HC HD
  unfold sv
  have hb2 : Below w.heap.size w ((w.alloc (.cells #[.string an, .slice adr ac.length cap, .int .i64 ak] 30)).alloc (.cells #[.string bn, .slice adr2 bc.length cap2, .int .i64 bk] 30)) := hnext (hba w _) (hba _ _)
  by_cases hn : an = bn
  · subst hn
    by_cases hk : ak = bk
    · subst hk
      by_cases hl : ac.length = bc.length
      · have HL := hid hl
        have e3 : (((ac.length : Int)) != (bc.length : Int)) = false := by rw [bne_eq_false_iff_eq]; omega
        have hlt0 : ∀ k, k < ac.length → (k : Int) < (bc.length : Int) := by intro k hk; omega
        have HLT := hid hlt0
        clear hl hlt0
        have A0 : Hid (((w.alloc (.cells #[.string an, .slice adr ac.length cap, .int .i64 ak] 30)).alloc (.cells #[.string an, .slice adr2 bc.length cap2, .int .i64 ak] 30)).cell? ⟨w.heap.size, 1, none⟩ = some (.slice adr ac.length cap)) := by show _ = _; simp
        have A1 : Hid (((w.alloc (.cells #[.string an, .slice adr ac.length cap, .int .i64 ak] 30)).alloc (.cells #[.string an, .slice adr2 bc.length cap2, .int .i64 ak] 30)).cell? ⟨w.heap.size + 1, 1, none⟩ = some (.slice adr2 bc.length cap2)) := by show _ = _; simp
        go_enter Try.func37, Try.ntmps37
        go_wp2_with fail
        go_loopw [5] (fun i wr => ∃ k : Nat, k ≤ ac.length ∧ i = .int .i64 (k : Int) ∧ Hid (ac.take k = bc.take k) ∧ Below ((w.alloc (.cells #[.string an, .slice adr ac.length cap, .int .i64 ak] 30)).alloc (.cells #[.string an, .slice adr2 bc.length cap2, .int .i64 ak] 30)).heap.size ((w.alloc (.cells #[.string an, .slice adr ac.length cap, .int .i64 ak] 30)).alloc (.cells #[.string an, .slice adr2 bc.length cap2, .int .i64 ak] 30)) wr) (fun i _ => ac.length - (intOf i).toNat)
        case atStart => exact ⟨0, by omega, rfl, rfl, Below.refl _ _⟩
        case round =>
          obtain ⟨k, hk, rfl, htk, hbel⟩ := hrel
          obtain ⟨w4, rfl⟩ : ∃ w4 : World, w4 = wr := ⟨_, rfl⟩
          by_cases hlk : k < ac.length
          · obtain ⟨g, off, rfl, q0, q1, q2⟩ := HC.out k hlk
            obtain ⟨g2, off2, rfl, p0, p1, p2⟩ := HD.out k (by have := HL.out; omega)
            have HNX := hid (ctake_eq HL.out k hlk htk.out)
            have HX := hid (ctake_ne HL.out k hlk)
            have hq := c_neq ac[k] (bc[k]'(by have := HL.out; omega)) _ rfl
            generalize ac[k] = x at q0 q1 q2 HNX HX hq
            generalize bc[k]'(by have := HL.out; omega) = y at p0 p1 p2 HNX HX hq
            have hk2 := HLT.out k hlk
            replace q0 := hkeep (hkeep (hkeep q0 (hba w _)) (hba _ _)) hbel
            replace q1 := hkeep (hkeep (hkeep q1 (hba w _)) (hba _ _)) hbel
            replace q2 := hkeep (hkeep (hkeep q2 (hba w _)) (hba _ _)) hbel
            replace p0 := hkeep (hkeep (hkeep p0 (hba w _)) (hba _ _)) hbel
            replace p1 := hkeep (hkeep (hkeep p1 (hba w _)) (hba _ _)) hbel
            replace p2 := hkeep (hkeep (hkeep p2 (hba w _)) (hba _ _)) hbel
            have z0 := hkeep A0.out hbel
            have z1 := hkeep A1.out hbel
            have hlk' : (k : Int) < ac.length := by omega
            have hk0 : (0 : Int) ≤ (k : Int) := by omega
            unfold cv at hq
            by_cases hxy : x = y
            · have HT := hid (HNX.out.2 hxy)
              rw [decide_eq_true hxy] at hq
              clear hxy
              go_wp2_with fail
              go_quiet (fail)
              go_wp2_with fail
              go_roundw
              case rel => exact ⟨k + 1, by omega, by go_num, HT, hdrewN hbel _⟩
              case measure => simp [intOf]; omega
            · have HNE := hid (HX.out hxy)
              have HE : Hid (Sc.same ⟨an, ac, ak⟩ ⟨an, bc, ak⟩ = false) := by show _ = _; unfold Sc.same; rw [decide_eq_false (show ¬ ac = bc from HNE.out), Bool.and_false, Bool.and_false]
              rw [decide_eq_false hxy] at hq
              clear hxy
              go_wp2_with fail
              go_quiet (fail)
              go_wp2_with fail
              go_ret
              rw [HE.out]
              exact ⟨rfl, hnext hb2 (hdrewN hbel _)⟩
          · obtain rfl : k = ac.length := by omega
            have z0 := hkeep A0.out hbel
            have z1 := hkeep A1.out hbel
            have HE : Hid (Sc.same ⟨an, ac, ak⟩ ⟨an, bc, ak⟩ = true) := by
              show _ = _
              unfold Sc.same
              have hcc : ac = bc := by have h := htk.out; rw [List.take_length, HL.out, List.take_length] at h; exact h
              rw [decide_eq_true rfl, decide_eq_true rfl, decide_eq_true hcc]; rfl
            go_wp2_with fail
            go_ret
            rw [HE.out]
            exact ⟨rfl, hnext hb2 hbel⟩
      · have e3 : (((ac.length : Int)) != (bc.length : Int)) = true := by rw [bne_iff_ne]; omega
        have HE : Hid (Sc.same ⟨an, ac, ak⟩ ⟨an, bc, ak⟩ = false) := by
          show _ = _
          unfold Sc.same
          rw [decide_eq_false (show ¬ ac = bc from fun e => hl (by rw [e])), Bool.and_false, Bool.and_false]
        clear hl
        go_enter Try.func37, Try.ntmps37
        go_wp2_with fail
        go_ret
        rw [HE.out]
        exact ⟨rfl, hb2⟩
    · have e2 : (ak == bk) = false := beq_eq_false_iff_ne.2 hk
      have HE : Hid (Sc.same ⟨an, ac, ak⟩ ⟨an, bc, bk⟩ = false) := by
        show _ = _
        unfold Sc.same
        rw [decide_eq_false (show ¬ ak = bk from hk), Bool.false_and, Bool.and_false]
      clear hk
      go_enter Try.func37, Try.ntmps37
      go_wp2_with fail
      go_ret
      rw [HE.out]
      exact ⟨rfl, hb2⟩
  · have e1 : (an.toList == bn.toList) = false := by rw [bytes_beq]; exact decide_eq_false hn
    have HE : Hid (Sc.same ⟨an, ac, ak⟩ ⟨bn, bc, bk⟩ = false) := by
      show _ = _
      unfold Sc.same
      rw [decide_eq_false (show ¬ an = bn from hn), Bool.false_and]
    clear hn
    go_enter Try.func37, Try.ntmps37
    go_wp2_with fail
    go_ret
    rw [HE.out]
    exact ⟨rfl, hb2⟩
end Go.Proofs.Ytmmegicaeaifaaa

namespace Go.Proofs.Ytmmegicaeaifaaa
open Go.RowKit Go.Maps

theorem law_str : Keyed Try.prog 9 := string_keyed Try.underlying9
theorem zero_int (w : World) : (zeroValue 3).run Try.prog w = .ok (.int .i64 0) w := by kernel_rfl
/-- a map of the call's own: which names it has, each with 1 -/
def HadAt (w : World) (b n : Nat) (had : ByteArray → Bool) : Prop :=
  ∃ D : DataW Unit, w.ownsMap Try.prog 9 (plainElem Try.prog 3) b n D ∧ IsMap D ∧ ∀ s : ByteArray, D.atKey (.string s.data.toList) (.lit (.int .i64 0)) = .lit (.int .i64 (if had s = true then 1 else 0))
theorem HadAt.made (w : World) : HadAt (w.alloc (.map #[] 0)) w.heap.size 0 (fun _ => false) := ⟨.map [], World.ownsMap_made _ _ _ _, ⟨[], rfl⟩, fun _ => rfl⟩
theorem HadAt.below {w w' : World} {b n : Nat} {had : ByteArray → Bool} (h : HadAt w b n had) (hb : Below w.heap.size w w') : HadAt w' b n had := by
  obtain ⟨D, h1, h2, h3⟩ := h
  refine ⟨D, h1.kept (row := none) ⟨hb.os, hb.tape, hb.output, hb.size, fun i hi _ => hb.block i hi⟩ (by simp), h2, h3⟩
theorem HadAt.lt {w : World} {b n : Nat} {had : ByteArray → Bool} (h : HadAt w b n had) : b < w.heap.size := by
  obtain ⟨D, h1, _⟩ := h
  exact h1.lt
theorem HadAt.look {w : World} {b n : Nat} {had : ByteArray → Bool} (h : HadAt w b n had) (s : ByteArray) (hs : s.size ≤ maxLen) :
    (Instr.lookup 89 (.map (some b)) (.string s) false).run Try.prog w = .ok (.int .i64 (if had s = true then 1 else 0)) w := by
  obtain ⟨D, h1, h2, h3⟩ := h
  obtain ⟨c, hrun, hat, _⟩ := h1.lookup_int law_str Try.underlying89 Try.underlying3 (zero_int w) (Go.WideMaps.keyOf_string_mk Try.underlying9 hs)
  rw [h3 s] at hat
  rw [hrun]
  simp at hat
  rw [hat]
theorem had_put (w : World) {ops : Array Oper} {rest : List Oper} {o : Oper} {a : Act} {Q : Exit → Act → World → Prop} (hg : o.guard = none) (m x v : Operand) (hop : o.op = .mapUpdate 89 m x v)
    (b n : Nat) (had : ByteArray → Bool) (hm : a.eval m = .map (some b)) (h : HadAt w b n had) (hn : n < maxLen) (s : ByteArray) (hs : s.size ≤ maxLen) (hx : a.eval x = .string s) (hv : a.eval v = .int .i64 1)
    (hK : ∀ w', HadAt w' b (n + 1) (fun t => had t || decide (s = t)) → w.grownBy w' (some b) → wpList Try.prog ops Q rest (a.put o.dst undef) w') : wpList Try.prog ops Q (o :: rest) a w := by
  obtain ⟨D, h1, h2, h3⟩ := h
  refine wpList_mapUpdate_own w hg m x v 89 hop 9 3 law_str Try.underlying89 _ b n D hm h1 hn _ _ _ hx hv (Go.WideMaps.keyOf_string_mk Try.underlying9 hs) _ [] (plainElem_int Try.underlying3 (by decide)) ?_
  intro w' hown hgrow
  refine hK w' ⟨_, hown, ?_, ?_⟩ hgrow
  · obtain ⟨es, rfl⟩ := h2
    exact ⟨_, rfl⟩
  · intro t
    by_cases e : s = t
    · subst e
      rw [atKey_put_same h2 (k := .string s.data.toList) trivial, if_pos (by simp)]
    · rw [atKey_put_other (fun hh => e (ByteArray.ext (Array.ext' (by injection hh with hh; exact hh.symm)))), h3 t]
      simp [e]
theorem HadAt.congr {w : World} {b n : Nat} {had had' : ByteArray → Bool} (h : HadAt w b n had) (he : ∀ t, had t = had' t) : HadAt w b n had' := by
  obtain ⟨D, h1, h2, h3⟩ := h
  exact ⟨D, h1, h2, fun s => by rw [h3 s, he s]⟩
/-- a column in a block of its own -/
def BC (w : World) (g : Nat) (c : Sc.C) : Prop := w.heap[g]? = some (.cells #[.string c.name, .int .i64 c.kind, .bool c.need] 88 (0, 0))
theorem BC.cells {w : World} {g : Nat} {c : Sc.C} (h : BC w g c) : w.cell? ⟨g, 0, none⟩ = some (.string c.name) ∧ w.cell? ⟨g, 1, none⟩ = some (.int .i64 c.kind) ∧ w.cell? ⟨g, 2, none⟩ = some (.bool c.need) ∧ g < w.heap.size :=
  ⟨cell_of_row w g 0 _ _ _ h, cell_of_row w g 1 _ _ _ h, cell_of_row w g 2 _ _ _ h, (Array.getElem?_eq_some_iff.1 h).1⟩
theorem BC.keep {w w' : World} {g : Nat} {c : Sc.C} (h : BC w g c) (hb : Below w.heap.size w w') : BC w' g c := keepBlock h hb
theorem BC.new (w : World) (c : Sc.C) : BC (w.alloc (.cells #[.string c.name, .int .i64 c.kind, .bool c.need] 88)) w.heap.size c := heap_alloc_new w _
/-- a schema in a block of its own -/
def BS (w : World) (g : Nat) (n : ByteArray) (v : Value) (k : Int) : Prop := w.heap[g]? = some (.cells #[.string n, v, .int .i64 k] 30 (0, 0))
theorem BS.cells {w : World} {g : Nat} {n : ByteArray} {v : Value} {k : Int} (h : BS w g n v k) : w.cell? ⟨g, 0, none⟩ = some (.string n) ∧ w.cell? ⟨g, 1, none⟩ = some v ∧ w.cell? ⟨g, 2, none⟩ = some (.int .i64 k) ∧ g < w.heap.size :=
  ⟨cell_of_row w g 0 _ _ _ h, cell_of_row w g 1 _ _ _ h, cell_of_row w g 2 _ _ _ h, (Array.getElem?_eq_some_iff.1 h).1⟩
theorem BS.keep {w w' : World} {g : Nat} {n : ByteArray} {v : Value} {k : Int} (h : BS w g n v k) (hb : Below w.heap.size w w') : BS w' g n v k := keepBlock h hb
theorem BS.new (w : World) (n : ByteArray) (v : Value) (k : Int) : BS (w.alloc (.cells #[.string n, v, .int .i64 k] 30)) w.heap.size n v k := heap_alloc_new w _
/-- why a column is not right, or that it is -/
theorem col_ways (keys : Int) (l : List Sc.C) (i : Nat) (c : Sc.C) :
    ((Sc.colOk keys i c && Sc.fresh l i c.name) = false ∧ (Sc.nameB c.name = false ∨ (Sc.nameB c.name = true ∧ (Sc.fresh l i c.name = false ∨ (Sc.fresh l i c.name = true ∧ (c.kind < 1 ∨ (1 ≤ c.kind ∧ (5 < c.kind ∨ (c.kind ≤ 5 ∧ (i : Int) < keys ∧ c.need = false)))))))))
    ∨ ((Sc.colOk keys i c && Sc.fresh l i c.name) = true ∧ Sc.nameB c.name = true ∧ Sc.fresh l i c.name = true ∧ 1 ≤ c.kind ∧ c.kind ≤ 5 ∧ (keys ≤ (i : Int) ∨ ((i : Int) < keys ∧ c.need = true))) := by
  unfold Sc.colOk
  cases h1 : Sc.nameB c.name
  · exact .inl ⟨by simp, .inl rfl⟩
  cases h2 : Sc.fresh l i c.name
  · exact .inl ⟨by simp, .inr ⟨rfl, .inl rfl⟩⟩
  by_cases h3 : c.kind < 1
  · exact .inl ⟨by rw [decide_eq_false (show ¬ 1 ≤ c.kind by omega)]; simp, .inr ⟨rfl, .inr ⟨rfl, .inl h3⟩⟩⟩
  by_cases h4 : 5 < c.kind
  · exact .inl ⟨by rw [decide_eq_false (show ¬ c.kind ≤ 5 by omega)]; simp, .inr ⟨rfl, .inr ⟨rfl, .inr ⟨by omega, .inl h4⟩⟩⟩⟩
  by_cases h5 : keys ≤ (i : Int)
  · exact .inr ⟨by rw [decide_eq_true (show 1 ≤ c.kind by omega), decide_eq_true (show c.kind ≤ 5 by omega), decide_eq_true h5]; rfl, rfl, rfl, by omega, by omega, .inl h5⟩
  cases h6 : c.need
  · exact .inl ⟨by rw [decide_eq_false h5]; simp, .inr ⟨rfl, .inr ⟨rfl, .inr ⟨by omega, .inr ⟨by omega, by omega, rfl⟩⟩⟩⟩⟩
  · exact .inr ⟨by rw [decide_eq_true (show 1 ≤ c.kind by omega), decide_eq_true (show c.kind ≤ 5 by omega)]; simp, rfl, rfl, by omega, by omega, .inr ⟨by omega, rfl⟩⟩
/-- why a schema is not right at once, or that its columns are to be asked -/
theorem head_ways (s : Sc.S) : (Sc.right s = false ∧ (Sc.nameB s.name = false ∨ (Sc.nameB s.name = true ∧ (16 < s.cols.length ∨ (s.cols.length ≤ 16 ∧ (s.keys < 1 ∨ (1 ≤ s.keys ∧ (8 < s.keys ∨ (s.keys ≤ 8 ∧ (s.cols.length : Int) < s.keys))))))))) ∨
    (Sc.nameB s.name = true ∧ s.cols.length ≤ 16 ∧ 1 ≤ s.keys ∧ s.keys ≤ 8 ∧ s.keys ≤ (s.cols.length : Int) ∧ Sc.right s = Sc.goodTo s s.cols.length) := by
  unfold Sc.right
  cases h1 : Sc.nameB s.name
  · exact .inl ⟨by simp, .inl rfl⟩
  by_cases h2 : 16 < s.cols.length
  · exact .inl ⟨by rw [decide_eq_false (show ¬ s.cols.length ≤ 16 by omega)]; simp, .inr ⟨rfl, .inl h2⟩⟩
  by_cases h3 : s.keys < 1
  · exact .inl ⟨by rw [decide_eq_false (show ¬ 1 ≤ s.keys by omega)]; simp, .inr ⟨rfl, .inr ⟨by omega, .inl h3⟩⟩⟩
  by_cases h4 : 8 < s.keys
  · exact .inl ⟨by rw [decide_eq_false (show ¬ s.keys ≤ 8 by omega)]; simp, .inr ⟨rfl, .inr ⟨by omega, .inr ⟨by omega, .inl h4⟩⟩⟩⟩
  by_cases h5 : (s.cols.length : Int) < s.keys
  · exact .inl ⟨by rw [decide_eq_false (show ¬ s.keys ≤ (s.cols.length : Int) by omega)]; simp, .inr ⟨rfl, .inr ⟨by omega, .inr ⟨by omega, .inr ⟨by omega, h5⟩⟩⟩⟩⟩
  · exact .inr ⟨rfl, by omega, by omega, by omega, by omega, by rw [decide_eq_true (show s.cols.length ≤ 16 by omega), decide_eq_true (show 1 ≤ s.keys by omega), decide_eq_true (show s.keys ≤ 8 by omega), decide_eq_true (show s.keys ≤ (s.cols.length : Int) by omega)]; simp⟩
set_option maxRecDepth 100000 in
set_option maxHeartbeats 12800000 in
theorem right_sc (s : Sc.S) (v : Value) (w : World) (h : CsAt w v s.cols) (hsz : Sok s) :
    Calls Try.prog 29 #[sv s v] w fun e w' => e = .returned (.bool (Sc.right s)) ∧ Below w.heap.size w w' := by
  obtain ⟨adr, cap, rfl, hc1, hc2, hc⟩ := h
  have HC := hid hc
  unfold maxLen at hc2
  clear hc
  have hways := head_ways s
  have hno : Hid (∀ k (hk : k < s.cols.length), (Sc.colOk s.keys k s.cols[k] && Sc.fresh s.cols k s.cols[k].name) = false → Sc.right s = false) := fun k hk h => Sc.right_no hk h
  have hgo : Hid (∀ k (hk : k < s.cols.length), Sc.goodTo s (k + 1) = (Sc.goodTo s k && (Sc.colOk s.keys k s.cols[k] && Sc.fresh s.cols k s.cols[k].name))) := fun k hk => Sc.goodTo_succ s k hk
  have hg0 : Hid (Sc.goodTo s 0 = true) := rfl
  obtain ⟨hsz1, hsz2⟩ := hsz
  have HSZ := hid hsz2
  clear hsz2
  have hn := hid (fun W => name_any s.name hsz1 W)
  generalize Sc.right s = R at hways hno ⊢
  generalize Sc.goodTo s = G at hways hgo hg0
  unfold sv
  obtain ⟨nm, cs, ks⟩ := s
  simp only at hc1 HC hways hno hgo hsz1 HSZ hn ⊢
  rcases hways with ⟨hF, hw⟩ | ⟨h1, h2, h3, h4, h5, hG⟩
  · have HF := hid hF
    clear hF hno hgo hg0
    rcases hw with h1 | ⟨h1, hw⟩
    · rw [h1] at hn
      clear h1
      go_enter Try.func29, Try.ntmps29
      go_wp2_with fail
      refine (hn.out _).mono ?_; rintro e w1 ⟨rfl, hb1⟩
      have hS1 := (BS.new w nm (.slice adr cs.length cap) ks).keep hb1
      have hB1 := hnext (hba w (.cells #[.string nm, .slice adr cs.length cap, .int .i64 ks] 30)) hb1
      obtain ⟨s0, s1, s2, sl⟩ := hS1.cells
      go_wp2_with fail
      go_ret
      rw [HF.out]
      exact ⟨rfl, hB1⟩
    rw [h1] at hn
    clear h1
    rcases hw with h2 | ⟨h2, hw⟩
    · have h2' : (16 : Int) < (cs.length : Int) := by omega
      go_enter Try.func29, Try.ntmps29
      go_wp2_with fail
      refine (hn.out _).mono ?_; rintro e w1 ⟨rfl, hb1⟩
      have hS1 := (BS.new w nm (.slice adr cs.length cap) ks).keep hb1
      have hB1 := hnext (hba w (.cells #[.string nm, .slice adr cs.length cap, .int .i64 ks] 30)) hb1
      obtain ⟨s0, s1, s2, sl⟩ := hS1.cells
      go_wp2_with fail
      go_ret
      rw [HF.out]
      exact ⟨rfl, hB1⟩
    have h2' : ¬ (16 : Int) < (cs.length : Int) := by omega
    rcases hw with h3 | ⟨h3, hw⟩
    · skip
      go_enter Try.func29, Try.ntmps29
      go_wp2_with fail
      refine (hn.out _).mono ?_; rintro e w1 ⟨rfl, hb1⟩
      have hS1 := (BS.new w nm (.slice adr cs.length cap) ks).keep hb1
      have hB1 := hnext (hba w (.cells #[.string nm, .slice adr cs.length cap, .int .i64 ks] 30)) hb1
      obtain ⟨s0, s1, s2, sl⟩ := hS1.cells
      go_wp2_with fail
      go_ret
      rw [HF.out]
      exact ⟨rfl, hB1⟩
    have h3' : ¬ ks < 1 := by omega
    by_cases h8 : (cs.length : Int) < 8
    · have h9 : (cs.length : Int) < ks := by omega
      go_enter Try.func29, Try.ntmps29
      go_wp2_with fail
      refine (hn.out _).mono ?_; rintro e w1 ⟨rfl, hb1⟩
      have hS1 := (BS.new w nm (.slice adr cs.length cap) ks).keep hb1
      have hB1 := hnext (hba w (.cells #[.string nm, .slice adr cs.length cap, .int .i64 ks] 30)) hb1
      obtain ⟨s0, s1, s2, sl⟩ := hS1.cells
      go_wp2_with fail
      go_ret
      rw [HF.out]
      exact ⟨rfl, hB1⟩
    · have h9 : 8 < ks := by omega
      go_enter Try.func29, Try.ntmps29
      go_wp2_with fail
      refine (hn.out _).mono ?_; rintro e w1 ⟨rfl, hb1⟩
      have hS1 := (BS.new w nm (.slice adr cs.length cap) ks).keep hb1
      have hB1 := hnext (hba w (.cells #[.string nm, .slice adr cs.length cap, .int .i64 ks] 30)) hb1
      obtain ⟨s0, s1, s2, sl⟩ := hS1.cells
      go_wp2_with fail
      go_ret
      rw [HF.out]
      exact ⟨rfl, hB1⟩
  · rw [h1] at hn
    clear h1
    have h2' : ¬ (16 : Int) < (cs.length : Int) := by omega
    have h3' : ¬ ks < 1 := by omega
    have h4' : ¬ 8 < ks := by omega
    have h5' : ¬ (cs.length : Int) < ks := by omega
    have HG := hid hG
    have hmm := @run_makeMap Try.prog
    clear hG h5
    by_cases h8 : (cs.length : Int) < 8
    all_goals
      go_enter Try.func29, Try.ntmps29
      go_wp2_with fail
      refine (hn.out _).mono ?_; rintro e w1 ⟨rfl, hb1⟩
      have hS1 := (BS.new w nm (.slice adr cs.length cap) ks).keep hb1
      have hB1 := hnext (hba w (.cells #[.string nm, .slice adr cs.length cap, .int .i64 ks] 30)) hb1
      obtain ⟨s0, s1, s2, sl⟩ := hS1.cells
      go_wp2_with fail
      have hM0 := HadAt.made w1
      have hS2 := hS1.keep (hba w1 (.map #[] 0))
      have hB2 := hnext hB1 (hba w1 (.map #[] 0))
      have hMb0 := hB1.size
      have hMb1 := sl
      clear hB1 hS1 hb1 s0 s1 s2 sl
      generalize w1.heap.size = mb at hM0 hMb0 hMb1 ⊢
      generalize w1.alloc (.map #[] 0) = w2 at *
      clear hmm
      go_loopw [34] (fun q wr => ∃ k : Nat, k ≤ cs.length ∧ q = .int .i64 (k : Int) ∧ Hid (G k = true) ∧ HadAt wr mb k (fun t => !Sc.fresh cs k t) ∧ BS wr w.heap.size nm (.slice adr cs.length cap) ks ∧ Below w.heap.size w wr) (fun q _ => cs.length - (intOf q).toNat)
      case atStart => exact ⟨0, by omega, rfl, hg0, hM0.congr (fun t => by rw [Sc.fresh_zero]; rfl), hS2, hB2⟩
      case round =>
        obtain ⟨k, hk, rfl, hGk, hM, hS, hB⟩ := hrel
        clear hM0 hS2 hB2
        obtain ⟨w4, rfl⟩ : ∃ w4 : World, w4 = wr := ⟨_, rfl⟩
        obtain ⟨s0, s1, s2, sl⟩ := hS.cells
        have hk0 : (0 : Int) ≤ (k : Int) := by omega
        by_cases hlk : k < cs.length
        · have hlk' : (k : Int) < (cs.length : Int) := by omega
          obtain ⟨g, off, rfl, q0, q1, q2⟩ := HC.out k hlk
          replace q0 := hkeep q0 hB
          replace q1 := hkeep q1 hB
          replace q2 := hkeep q2 hB
          have HN2 := hid (hno.out k hlk)
          have HG2 := hid (hgo.out k hlk)
          have hcw := col_ways ks cs k cs[k]
          have hfs := hid (fun t => Sc.fresh_succ cs k t hlk)
          have hcs := HSZ.out _ (List.getElem_mem hlk)
          have hnc := hid (fun W => name_any cs[k].name hcs W)
          generalize cs[k] = c at q0 q1 q2 HN2 HG2 hcw hfs hcs hnc
          have hnew := BC.new w4 c
          have hMa := hM.below (hba w4 (.cells #[.string c.name, .int .i64 c.kind, .bool c.need] 88))
          have hSa := hS.keep (hba w4 (.cells #[.string c.name, .int .i64 c.kind, .bool c.need] 88))
          have hBa := hnext hB (hba w4 (.cells #[.string c.name, .int .i64 c.kind, .bool c.need] 88))
          have HNW := hid hnew
          have HMA := hid hMa
          have HSA := hid hSa
          have HBA := hid hBa
          clear hnew hMa hSa hBa hB hM hS
          rcases hcw with ⟨hbad, hw⟩ | ⟨hgood, e1, e2, e3, e4, e5⟩
          · have HF := hid (HN2.out hbad)
            clear hbad HN2 HG2 hfs
            have hX : Sc.nameB c.name = false ∨ Sc.nameB c.name = true := by cases Sc.nameB c.name <;> simp
            rcases hw with e1 | ⟨e1, hw⟩
            · rw [e1] at hnc
              clear e1
              go_wp2_with fail
              refine (hnc.out _).mono ?_; rintro e w5 ⟨rfl, hb5⟩
              have hC5 := HNW.out.keep hb5
              have hS5 := HSA.out.keep hb5
              have hB5 := hnext HBA.out hb5
              obtain ⟨t0, t1, t2, tl⟩ := hC5.cells
              obtain ⟨s0, s1, s2, sl⟩ := hS5.cells
              go_wp2_with fail
              go_ret
              rw [HF.out]
              exact ⟨rfl, hB5⟩
            rw [e1] at hnc
            clear e1
            rcases hw with e2 | ⟨e2, hw⟩
            · have hlook := fun W (h : HadAt W mb k (fun t => !Sc.fresh cs k t)) => h.look c.name hcs
              simp only [e2, Bool.not_false, if_true] at hlook
              have HLOOK := hid hlook
              clear hlook e2
              go_wp2_with fail
              refine (hnc.out _).mono ?_; rintro e w5 ⟨rfl, hb5⟩
              have hC5 := HNW.out.keep hb5
              have hS5 := HSA.out.keep hb5
              have hB5 := hnext HBA.out hb5
              obtain ⟨t0, t1, t2, tl⟩ := hC5.cells
              obtain ⟨s0, s1, s2, sl⟩ := hS5.cells
              have hl5 := HLOOK.out _ (HMA.out.below hb5)
              go_wp2_with fail
              go_ret
              rw [HF.out]
              exact ⟨rfl, hB5⟩
            have hlook := fun W (h : HadAt W mb k (fun t => !Sc.fresh cs k t)) => h.look c.name hcs
            simp only [e2, Bool.not_true, Bool.false_eq_true, if_false] at hlook
            have HLOOK := hid hlook
            clear hlook e2
            rcases hw with e3 | ⟨e3, hw⟩
            · skip
              go_wp2_with fail
              refine (hnc.out _).mono ?_; rintro e w5 ⟨rfl, hb5⟩
              have hC5 := HNW.out.keep hb5
              have hS5 := HSA.out.keep hb5
              have hB5 := hnext HBA.out hb5
              obtain ⟨t0, t1, t2, tl⟩ := hC5.cells
              obtain ⟨s0, s1, s2, sl⟩ := hS5.cells
              have hl5 := HLOOK.out _ (HMA.out.below hb5)
              go_wp2_with fail
              go_ret
              rw [HF.out]
              exact ⟨rfl, hB5⟩
            have e3' : ¬ c.kind < 1 := by omega
            rcases hw with e4 | ⟨e4, e5, e6⟩
            · skip
              go_wp2_with fail
              refine (hnc.out _).mono ?_; rintro e w5 ⟨rfl, hb5⟩
              have hC5 := HNW.out.keep hb5
              have hS5 := HSA.out.keep hb5
              have hB5 := hnext HBA.out hb5
              obtain ⟨t0, t1, t2, tl⟩ := hC5.cells
              obtain ⟨s0, s1, s2, sl⟩ := hS5.cells
              have hl5 := HLOOK.out _ (HMA.out.below hb5)
              go_wp2_with fail
              go_ret
              rw [HF.out]
              exact ⟨rfl, hB5⟩
            have e4' : ¬ 5 < c.kind := by omega
            have e6' := hid e6
            clear e6
            go_wp2_with fail
            refine (hnc.out _).mono ?_; rintro e w5 ⟨rfl, hb5⟩
            have hC5 := HNW.out.keep hb5
            have hS5 := HSA.out.keep hb5
            have hB5 := hnext HBA.out hb5
            obtain ⟨t0, t1, t2, tl⟩ := hC5.cells
            obtain ⟨s0, s1, s2, sl⟩ := hS5.cells
            have hl5 := HLOOK.out _ (HMA.out.below hb5)
            rw [e6'.out] at t2
            go_wp2_with fail
            go_ret
            rw [HF.out]
            exact ⟨rfl, hB5⟩
          · have HK : Hid (G (k + 1) = true) := by show _ = _; rw [HG2.out, hGk.out, hgood]; rfl
            have hlook := fun W (h : HadAt W mb k (fun t => !Sc.fresh cs k t)) => h.look c.name hcs
            simp only [e2, Bool.not_true, Bool.false_eq_true, if_false] at hlook
            have HLOOK := hid hlook
            clear hlook e2 hgood HG2 HN2
            rw [e1] at hnc
            clear e1
            have e3' : ¬ c.kind < 1 := by omega
            have e4' : ¬ 5 < c.kind := by omega
            have hkl : k < maxLen := by unfold maxLen; omega
            rcases e5 with e5 | ⟨e5, e6⟩
            · have e5' : ¬ (k : Int) < ks := by omega
              go_wp2_with fail
              refine (hnc.out _).mono ?_; rintro e w5 ⟨rfl, hb5⟩
              have hC5 := HNW.out.keep hb5
              have hS5 := HSA.out.keep hb5
              have hB5 := hnext HBA.out hb5
              obtain ⟨t0, t1, t2, tl⟩ := hC5.cells
              obtain ⟨s0, s1, s2, sl⟩ := hS5.cells
              have hl5 := HLOOK.out _ (HMA.out.below hb5)
              have hM5 := HMA.out.below hb5
              have HM5 := hid hM5
              clear hM5
              go_wp2_with (at_mapUpdate; refine had_put _ rfl _ _ _ rfl mb k _ rfl HM5.out hkl c.name hcs rfl rfl ?_; intro w6 hM6 hg6)
              go_roundw
              case rel => exact ⟨k + 1, hlk, by go_num, HK, hM6.congr (fun t => by rw [hfs.out t]; cases Sc.fresh cs k t <;> simp), (hg6.block _ sl (by simp; omega)).trans hS5, hB5.grown hg6 hB5.size (fun q hq => by cases hq; exact hMb0)⟩
              case measure => simp [intOf]; omega
            · have e6' := hid e6
              clear e6
              go_wp2_with fail
              refine (hnc.out _).mono ?_; rintro e w5 ⟨rfl, hb5⟩
              have hC5 := HNW.out.keep hb5
              have hS5 := HSA.out.keep hb5
              have hB5 := hnext HBA.out hb5
              obtain ⟨t0, t1, t2, tl⟩ := hC5.cells
              obtain ⟨s0, s1, s2, sl⟩ := hS5.cells
              have hl5 := HLOOK.out _ (HMA.out.below hb5)
              rw [e6'.out] at t2
              have hM5 := HMA.out.below hb5
              have HM5 := hid hM5
              clear hM5
              go_wp2_with (at_mapUpdate; refine had_put _ rfl _ _ _ rfl mb k _ rfl HM5.out hkl c.name hcs rfl rfl ?_; intro w6 hM6 hg6)
              go_roundw
              case rel => exact ⟨k + 1, hlk, by go_num, HK, hM6.congr (fun t => by rw [hfs.out t]; cases Sc.fresh cs k t <;> simp), (hg6.block _ sl (by simp; omega)).trans hS5, hB5.grown hg6 hB5.size (fun q hq => by cases hq; exact hMb0)⟩
              case measure => simp [intOf]; omega
        · obtain rfl : k = cs.length := by omega
          have HR : Hid (R = true) := by show _ = _; rw [HG.out, hGk.out]
          go_wp2_with fail
          go_ret
          rw [HR.out]
          exact ⟨rfl, hB⟩
end Go.Proofs.Ytmmegicaeaifaaa

namespace Go.Proofs.Ytmmegicaeaifaaa
open Go.RowKit

set_option maxRecDepth 100000 in
set_option maxHeartbeats 12800000 in
theorem rightR_sc (s : Sc.S) (v : Value) (w : World) (h : CsAt w v s.cols) (hsz : Sok s) :
    Calls Try.prog 34 #[sv s v] w fun e w' => e = .returned (.bool (Sc.right s)) ∧ Below w.heap.size w w' := by
  obtain ⟨adr, cap, rfl, hc1, hc2, hc⟩ := h
  have HC := hid hc
  unfold maxLen at hc2
  clear hc
  have hways := head_ways s
  have hno : Hid (∀ k (hk : k < s.cols.length), (Sc.colOk s.keys k s.cols[k] && Sc.fresh s.cols k s.cols[k].name) = false → Sc.right s = false) := fun k hk h => Sc.right_no hk h
  have hgo : Hid (∀ k (hk : k < s.cols.length), Sc.goodTo s (k + 1) = (Sc.goodTo s k && (Sc.colOk s.keys k s.cols[k] && Sc.fresh s.cols k s.cols[k].name))) := fun k hk => Sc.goodTo_succ s k hk
  have hg0 : Hid (Sc.goodTo s 0 = true) := rfl
  obtain ⟨hsz1, hsz2⟩ := hsz
  have HSZ := hid hsz2
  clear hsz2
  have hn := hid (fun W => nameR_any s.name hsz1 W)
  generalize Sc.right s = R at hways hno ⊢
  generalize Sc.goodTo s = G at hways hgo hg0
  unfold sv
  obtain ⟨nm, cs, ks⟩ := s
  simp only at hc1 HC hways hno hgo hsz1 HSZ hn ⊢
  rcases hways with ⟨hF, hw⟩ | ⟨h1, h2, h3, h4, h5, hG⟩
  · have HF := hid hF
    clear hF hno hgo hg0
    rcases hw with h1 | ⟨h1, hw⟩
    · rw [h1] at hn
      clear h1
      go_enter Try.func34, Try.ntmps34
      go_wp2_with fail
      refine (hn.out _).mono ?_; rintro e w1 ⟨rfl, rfl⟩
      have hS1 := BS.new w nm (.slice adr cs.length cap) ks
      have hB1 := hba w (.cells #[.string nm, .slice adr cs.length cap, .int .i64 ks] 30)
      generalize w.alloc (.cells #[.string nm, .slice adr cs.length cap, .int .i64 ks] 30) = w1 at *
      obtain ⟨s0, s1, s2, sl⟩ := hS1.cells
      go_wp2_with fail
      all_goals
        go_ret
        rw [HF.out]
        exact ⟨rfl, hB1⟩
    rw [h1] at hn
    clear h1
    rcases hw with h2 | ⟨h2, hw⟩
    · have h2' : (16 : Int) < (cs.length : Int) := by omega
      go_enter Try.func34, Try.ntmps34
      go_wp2_with fail
      refine (hn.out _).mono ?_; rintro e w1 ⟨rfl, rfl⟩
      have hS1 := BS.new w nm (.slice adr cs.length cap) ks
      have hB1 := hba w (.cells #[.string nm, .slice adr cs.length cap, .int .i64 ks] 30)
      generalize w.alloc (.cells #[.string nm, .slice adr cs.length cap, .int .i64 ks] 30) = w1 at *
      obtain ⟨s0, s1, s2, sl⟩ := hS1.cells
      go_wp2_with fail
      all_goals
        go_ret
        rw [HF.out]
        exact ⟨rfl, hB1⟩
    have h2' : ¬ (16 : Int) < (cs.length : Int) := by omega
    rcases hw with h3 | ⟨h3, hw⟩
    · skip
      go_enter Try.func34, Try.ntmps34
      go_wp2_with fail
      refine (hn.out _).mono ?_; rintro e w1 ⟨rfl, rfl⟩
      have hS1 := BS.new w nm (.slice adr cs.length cap) ks
      have hB1 := hba w (.cells #[.string nm, .slice adr cs.length cap, .int .i64 ks] 30)
      generalize w.alloc (.cells #[.string nm, .slice adr cs.length cap, .int .i64 ks] 30) = w1 at *
      obtain ⟨s0, s1, s2, sl⟩ := hS1.cells
      go_wp2_with fail
      all_goals
        go_ret
        rw [HF.out]
        exact ⟨rfl, hB1⟩
    have h3' : ¬ ks < 1 := by omega
    rcases hw with h8 | ⟨h8, h9⟩
    · skip
      go_enter Try.func34, Try.ntmps34
      go_wp2_with fail
      refine (hn.out _).mono ?_; rintro e w1 ⟨rfl, rfl⟩
      have hS1 := BS.new w nm (.slice adr cs.length cap) ks
      have hB1 := hba w (.cells #[.string nm, .slice adr cs.length cap, .int .i64 ks] 30)
      generalize w.alloc (.cells #[.string nm, .slice adr cs.length cap, .int .i64 ks] 30) = w1 at *
      obtain ⟨s0, s1, s2, sl⟩ := hS1.cells
      go_wp2_with fail
      all_goals
        go_ret
        rw [HF.out]
        exact ⟨rfl, hB1⟩
    · have h8' : ¬ 8 < ks := by omega
      go_enter Try.func34, Try.ntmps34
      go_wp2_with fail
      refine (hn.out _).mono ?_; rintro e w1 ⟨rfl, rfl⟩
      have hS1 := BS.new w nm (.slice adr cs.length cap) ks
      have hB1 := hba w (.cells #[.string nm, .slice adr cs.length cap, .int .i64 ks] 30)
      generalize w.alloc (.cells #[.string nm, .slice adr cs.length cap, .int .i64 ks] 30) = w1 at *
      obtain ⟨s0, s1, s2, sl⟩ := hS1.cells
      go_wp2_with fail
      all_goals
        go_ret
        rw [HF.out]
        exact ⟨rfl, hB1⟩
  · rw [h1] at hn
    clear h1
    have h2' : ¬ (16 : Int) < (cs.length : Int) := by omega
    have h3' : ¬ ks < 1 := by omega
    have h4' : ¬ 8 < ks := by omega
    have h5' : ¬ (cs.length : Int) < ks := by omega
    have h6' : ¬ (cs.length : Int) < 1 := by omega
    have HG := hid hG
    clear hG h5
    go_enter Try.func34, Try.ntmps34
    go_wp2_with fail
    refine (hn.out _).mono ?_; rintro e w1 ⟨rfl, rfl⟩
    have hS1 := BS.new w nm (.slice adr cs.length cap) ks
    have hB1 := hba w (.cells #[.string nm, .slice adr cs.length cap, .int .i64 ks] 30)
    generalize w.alloc (.cells #[.string nm, .slice adr cs.length cap, .int .i64 ks] 30) = w1 at *
    obtain ⟨s0, s1, s2, sl⟩ := hS1.cells
    go_wp2_with fail
    clear s0 s1 s2 sl
    go_loopw [4, 5, 6] (fun q _ _ wr => ∃ k : Nat, k ≤ cs.length ∧ q = .int .i64 (k : Int) ∧ Hid (G k = true) ∧ BS wr w.heap.size nm (.slice adr cs.length cap) ks ∧ Below w.heap.size w wr) (fun q _ _ _ => cs.length - (intOf q).toNat)
    case atStart => exact ⟨0, by omega, rfl, hg0, hS1, hB1⟩
    case round =>
      obtain ⟨k, hk, rfl, hGk, hS, hB⟩ := hrel
      clear hS1 hB1
      obtain ⟨w4, rfl⟩ : ∃ w4 : World, w4 = wr := ⟨_, rfl⟩
      obtain ⟨s0, s1, s2, sl⟩ := hS.cells
      have hk0 : (0 : Int) ≤ (k : Int) := by omega
      by_cases hlk : k < cs.length
      · have hlk' : (k : Int) < (cs.length : Int) := by omega
        obtain ⟨g, off, rfl, q0, q1, q2⟩ := HC.out k hlk
        replace q0 := hkeep q0 hB
        replace q1 := hkeep q1 hB
        replace q2 := hkeep q2 hB
        have HN2 := hid (hno.out k hlk)
        have HG2 := hid (hgo.out k hlk)
        have hcw := col_ways ks cs k cs[k]
        have hcs := HSZ.out _ (List.getElem_mem hlk)
        have hnc := hid (fun W => nameR_any cs[k].name hcs W)
        have hfn : Hid (∀ j (hj : j < k), cs[j].name = cs[k].name → Sc.fresh cs k cs[k].name = false) := fun j hj he => Sc.fresh_no (by omega) (by omega) hj he
        generalize cs[k] = c at q0 q1 q2 HN2 HG2 hcw hcs hnc hfn
        have HNW := hid (BC.new w4 c)
        have HSA := hid (hS.keep (hba w4 (.cells #[.string c.name, .int .i64 c.kind, .bool c.need] 88)))
        have HBA := hid (hnext hB (hba w4 (.cells #[.string c.name, .int .i64 c.kind, .bool c.need] 88)))
        clear hB hS
        have HFF : Hid (Sc.fresh cs k c.name = false → R = false) := fun e => HN2.out (by rw [e, Bool.and_false])
        have HTT : Hid (Sc.fresh cs k c.name = true → Sc.colOk ks k c = true → G (k + 1) = true) := fun e e' => by rw [HG2.out, hGk.out, e, e']; rfl
        -- the column itself
        by_cases hok : Sc.colOk ks k c = true
        · have hown : Sc.nameB c.name = true ∧ 1 ≤ c.kind ∧ c.kind ≤ 5 ∧ (ks ≤ (k : Int) ∨ ((k : Int) < ks ∧ c.need = true)) := by
            unfold Sc.colOk at hok
            simp only [Bool.and_eq_true, decide_eq_true_eq, Bool.or_eq_true] at hok
            obtain ⟨⟨⟨a1, a2⟩, a3⟩, a4⟩ := hok
            refine ⟨a1, a2, a3, ?_⟩
            rcases a4 with a4 | a4
            · exact .inl a4
            · by_cases hh : ks ≤ (k : Int)
              · exact .inl hh
              · exact .inr ⟨by omega, a4⟩
          have HOK := hid hok
          clear hok hcw HN2 HG2
          obtain ⟨e1, e3, e4, e5⟩ := hown
          rw [e1] at hnc
          clear e1
          have e3' : ¬ c.kind < 1 := by omega
          have e4' : ¬ 5 < c.kind := by omega
          rcases e5 with e5 | ⟨e5, e6⟩
          · have e5' : ¬ (k : Int) < ks := by omega
            go_wp2_with fail
            refine (hnc.out _).mono ?_; rintro e w5 ⟨rfl, rfl⟩
            have hC5 := HNW.out
            have hS5 := HSA.out
            have hB5 := HBA.out
            obtain ⟨cb, hcb⟩ : ∃ cb, w4.heap.size = cb := ⟨_, rfl⟩
            rw [hcb] at hC5
            generalize w4.alloc (.cells #[.string c.name, .int .i64 c.kind, .bool c.need] 88) = w5 at *
            have hwc : w.heap.size < cb := by rw [← hcb]; exact sl
            rw [hcb]
            clear HNW HSA HBA hcb s0 s1 s2 sl
            obtain ⟨t0, t1, t2, tl⟩ := hC5.cells
            obtain ⟨s0, s1, s2, sl⟩ := hS5.cells
            go_wp2_with fail
            clear s0 s1 s2 sl t0 t1 t2 tl
            go_loopw [6] (fun q wr => ∃ j : Nat, j ≤ k ∧ q = .int .i64 (j : Int) ∧ Hid (Sc.fresh cs j c.name = true) ∧ BS wr w.heap.size nm (.slice (some ⟨g, off, none⟩) cs.length cap) ks ∧ BC wr cb c ∧ Below w.heap.size w wr) (fun q _ => k - (intOf q).toNat)
            case atStart => exact ⟨0, by omega, rfl, Sc.fresh_zero _ _, hS5, hC5, hB5⟩
            case round =>
              obtain ⟨j, hj, rfl, hfj, hS6, hC6, hB6⟩ := hrel
              clear hS5 hC5 hB5
              obtain ⟨w6, rfl⟩ : ∃ w6 : World, w6 = wr := ⟨_, rfl⟩
              obtain ⟨t0, t1, t2, tl⟩ := hC6.cells
              obtain ⟨s0, s1, s2, sl⟩ := hS6.cells
              have hj0 : (0 : Int) ≤ (j : Int) := by omega
              by_cases hjk : j < k
              · have hjl : j < cs.length := by omega
                have hjk' : (j : Int) < (k : Int) := by omega
                have hjl' : (j : Int) < (cs.length : Int) := by omega
                obtain ⟨g2, off2, hgg, p0, p1, p2⟩ := HC.out j hjl
                cases hgg
                replace p0 := hkeep p0 hB6
                have HFS := hid (Sc.fresh_succ cs j c.name hjl)
                have HFN := hid (hfn.out j hjk)
                generalize cs[j] = d at p0 HFS HFN
                clear p1 p2
                by_cases hd : d.name = c.name
                · have hdd : (d.name.toList == c.name.toList) = true := by rw [bytes_beq]; exact decide_eq_true hd
                  have HF : Hid (R = false) := HFF.out (HFN.out hd)
                  have hbq := hid hd
                  clear hd HFS HFN
                  go_wp2_with fail
                  go_quiet (fail)
                  go_wp2_with fail
                  go_ret
                  rw [HF.out]
                  exact ⟨rfl, hdrewN hB6 _⟩
                · have hdd : (d.name.toList == c.name.toList) = false := by rw [bytes_beq]; exact decide_eq_false hd
                  have HT : Hid (Sc.fresh cs (j + 1) c.name = true) := by show _ = _; rw [HFS.out, hfj.out, decide_eq_true (show d.name ≠ c.name from hd)]; rfl
                  clear hd HFS HFN
                  go_wp2_with fail
                  go_quiet (fail)
                  go_wp2_with fail
                  go_roundw
                  case rel => exact ⟨j + 1, by omega, by go_num, HT, hS6, hC6, hdrewN hB6 _⟩
                  case measure => simp [intOf]; omega
              · obtain rfl : j = k := by omega
                have HK := hid (HTT.out hfj.out HOK.out)
                go_wp2_with fail
                go_roundw
                case rel => exact ⟨j + 1, hlk, by go_num, HK, hS6, hB6⟩
                case measure => simp [intOf]; omega
          · have e6' := hid e6
            clear e6
            go_wp2_with fail
            refine (hnc.out _).mono ?_; rintro e w5 ⟨rfl, rfl⟩
            have hC5 := HNW.out
            have hS5 := HSA.out
            have hB5 := HBA.out
            obtain ⟨cb, hcb⟩ : ∃ cb, w4.heap.size = cb := ⟨_, rfl⟩
            rw [hcb] at hC5
            generalize w4.alloc (.cells #[.string c.name, .int .i64 c.kind, .bool c.need] 88) = w5 at *
            have hwc : w.heap.size < cb := by rw [← hcb]; exact sl
            rw [hcb]
            clear HNW HSA HBA hcb s0 s1 s2 sl
            obtain ⟨t0, t1, t2, tl⟩ := hC5.cells
            obtain ⟨s0, s1, s2, sl⟩ := hS5.cells
            rw [e6'.out] at t2
            go_wp2_with fail
            clear s0 s1 s2 sl t0 t1 t2 tl
            go_loopw [6] (fun q wr => ∃ j : Nat, j ≤ k ∧ q = .int .i64 (j : Int) ∧ Hid (Sc.fresh cs j c.name = true) ∧ BS wr w.heap.size nm (.slice (some ⟨g, off, none⟩) cs.length cap) ks ∧ BC wr cb c ∧ Below w.heap.size w wr) (fun q _ => k - (intOf q).toNat)
            case atStart => exact ⟨0, by omega, rfl, Sc.fresh_zero _ _, hS5, hC5, hB5⟩
            case round =>
              obtain ⟨j, hj, rfl, hfj, hS6, hC6, hB6⟩ := hrel
              clear hS5 hC5 hB5
              obtain ⟨w6, rfl⟩ : ∃ w6 : World, w6 = wr := ⟨_, rfl⟩
              obtain ⟨t0, t1, t2, tl⟩ := hC6.cells
              obtain ⟨s0, s1, s2, sl⟩ := hS6.cells
              have hj0 : (0 : Int) ≤ (j : Int) := by omega
              by_cases hjk : j < k
              · have hjl : j < cs.length := by omega
                have hjk' : (j : Int) < (k : Int) := by omega
                have hjl' : (j : Int) < (cs.length : Int) := by omega
                obtain ⟨g2, off2, hgg, p0, p1, p2⟩ := HC.out j hjl
                cases hgg
                replace p0 := hkeep p0 hB6
                have HFS := hid (Sc.fresh_succ cs j c.name hjl)
                have HFN := hid (hfn.out j hjk)
                generalize cs[j] = d at p0 HFS HFN
                clear p1 p2
                by_cases hd : d.name = c.name
                · have hdd : (d.name.toList == c.name.toList) = true := by rw [bytes_beq]; exact decide_eq_true hd
                  have HF : Hid (R = false) := HFF.out (HFN.out hd)
                  have hbq := hid hd
                  clear hd HFS HFN
                  go_wp2_with fail
                  go_quiet (fail)
                  go_wp2_with fail
                  go_ret
                  rw [HF.out]
                  exact ⟨rfl, hdrewN hB6 _⟩
                · have hdd : (d.name.toList == c.name.toList) = false := by rw [bytes_beq]; exact decide_eq_false hd
                  have HT : Hid (Sc.fresh cs (j + 1) c.name = true) := by show _ = _; rw [HFS.out, hfj.out, decide_eq_true (show d.name ≠ c.name from hd)]; rfl
                  clear hd HFS HFN
                  go_wp2_with fail
                  go_quiet (fail)
                  go_wp2_with fail
                  go_roundw
                  case rel => exact ⟨j + 1, by omega, by go_num, HT, hS6, hC6, hdrewN hB6 _⟩
                  case measure => simp [intOf]; omega
              · obtain rfl : j = k := by omega
                have HK := hid (HTT.out hfj.out HOK.out)
                go_wp2_with fail
                go_roundw
                case rel => exact ⟨j + 1, hlk, by go_num, HK, hS6, hB6⟩
                case measure => simp [intOf]; omega
        · have hF : R = false := HN2.out (by rw [Bool.eq_false_iff.2 hok]; rfl)
          have HF := hid hF
          have hok' : Sc.colOk ks k c = false := Bool.eq_false_iff.2 hok
          unfold Sc.colOk at hok'
          clear hF hok hcw HN2 HG2 HFF HTT
          cases e1 : Sc.nameB c.name
          · rw [e1] at hnc
            clear e1 hok'
            go_wp2_with fail
            refine (hnc.out _).mono ?_; rintro e w5 ⟨rfl, rfl⟩
            have hC5 := HNW.out
            have hS5 := HSA.out
            have hB5 := HBA.out
            obtain ⟨cb, hcb⟩ : ∃ cb, w4.heap.size = cb := ⟨_, rfl⟩
            rw [hcb] at hC5
            generalize w4.alloc (.cells #[.string c.name, .int .i64 c.kind, .bool c.need] 88) = w5 at *
            have hwc : w.heap.size < cb := by rw [← hcb]; exact sl
            rw [hcb]
            clear HNW HSA HBA hcb s0 s1 s2 sl
            obtain ⟨t0, t1, t2, tl⟩ := hC5.cells
            obtain ⟨s0, s1, s2, sl⟩ := hS5.cells
            go_wp2_with fail
            go_ret
            rw [HF.out]
            exact ⟨rfl, hB5⟩
          rw [e1] at hnc hok'
          clear e1
          by_cases e3 : c.kind < 1
          · clear hok'
            go_wp2_with fail
            refine (hnc.out _).mono ?_; rintro e w5 ⟨rfl, rfl⟩
            have hC5 := HNW.out
            have hS5 := HSA.out
            have hB5 := HBA.out
            obtain ⟨cb, hcb⟩ : ∃ cb, w4.heap.size = cb := ⟨_, rfl⟩
            rw [hcb] at hC5
            generalize w4.alloc (.cells #[.string c.name, .int .i64 c.kind, .bool c.need] 88) = w5 at *
            have hwc : w.heap.size < cb := by rw [← hcb]; exact sl
            rw [hcb]
            clear HNW HSA HBA hcb s0 s1 s2 sl
            obtain ⟨t0, t1, t2, tl⟩ := hC5.cells
            obtain ⟨s0, s1, s2, sl⟩ := hS5.cells
            go_wp2_with fail
            go_ret
            rw [HF.out]
            exact ⟨rfl, hB5⟩
          have e3' : 1 ≤ c.kind := by omega
          by_cases e4 : 5 < c.kind
          · clear hok'
            go_wp2_with fail
            refine (hnc.out _).mono ?_; rintro e w5 ⟨rfl, rfl⟩
            have hC5 := HNW.out
            have hS5 := HSA.out
            have hB5 := HBA.out
            obtain ⟨cb, hcb⟩ : ∃ cb, w4.heap.size = cb := ⟨_, rfl⟩
            rw [hcb] at hC5
            generalize w4.alloc (.cells #[.string c.name, .int .i64 c.kind, .bool c.need] 88) = w5 at *
            have hwc : w.heap.size < cb := by rw [← hcb]; exact sl
            rw [hcb]
            clear HNW HSA HBA hcb s0 s1 s2 sl
            obtain ⟨t0, t1, t2, tl⟩ := hC5.cells
            obtain ⟨s0, s1, s2, sl⟩ := hS5.cells
            go_wp2_with fail
            go_ret
            rw [HF.out]
            exact ⟨rfl, hB5⟩
          have e4' : c.kind ≤ 5 := by omega
          rw [decide_eq_true e3', decide_eq_true e4'] at hok'
          have hk2 : (k : Int) < ks := by
            by_cases hh : ks ≤ (k : Int)
            · rw [decide_eq_true hh] at hok'; simp at hok'
            · omega
          have hne : c.need = false := by
            rw [decide_eq_false (show ¬ ks ≤ (k : Int) by omega)] at hok'
            simpa using hok'
          have e6' := hid hne
          clear hok' hne
          go_wp2_with fail
          refine (hnc.out _).mono ?_; rintro e w5 ⟨rfl, rfl⟩
          have hC5 := HNW.out
          have hS5 := HSA.out
          have hB5 := HBA.out
          obtain ⟨cb, hcb⟩ : ∃ cb, w4.heap.size = cb := ⟨_, rfl⟩
          rw [hcb] at hC5
          generalize w4.alloc (.cells #[.string c.name, .int .i64 c.kind, .bool c.need] 88) = w5 at *
          have hwc : w.heap.size < cb := by rw [← hcb]; exact sl
          rw [hcb]
          clear HNW HSA HBA hcb s0 s1 s2 sl
          obtain ⟨t0, t1, t2, tl⟩ := hC5.cells
          obtain ⟨s0, s1, s2, sl⟩ := hS5.cells
          rw [e6'.out] at t2
          go_wp2_with fail
          go_ret
          rw [HF.out]
          exact ⟨rfl, hB5⟩
      · obtain rfl : k = cs.length := by omega
        have HR : Hid (R = true) := by show _ = _; rw [HG.out, hGk.out]
        go_wp2_with fail
        go_ret
        rw [HR.out]
        exact ⟨rfl, hB⟩
end Go.Proofs.Ytmmegicaeaifaaa

namespace Go.Proofs.Ytmmegicaeaifaaa
open Go.RowKit
namespace Sc
/-- a column's bytes -/
def colB (c : C) : List UInt8 := Cd.text c.name ++ (Cd.enc c.kind.toNat ++ Cd.enc (if c.need = true then 1 else 0))
def headB (s : S) : List UInt8 := Cd.text s.name ++ (Cd.enc s.keys.toNat ++ Cd.enc s.cols.length)
def encTo (s : S) (k : Nat) : List UInt8 := headB s ++ (s.cols.take k).flatMap colB
/-- a schema's bytes -/
def encode (s : S) : List UInt8 := if right s = true then headB s ++ s.cols.flatMap colB else []
theorem encTo_next (s : S) (k : Nat) (hk : k < s.cols.length) : encTo s (k + 1) = encTo s k ++ colB s.cols[k] := by
  unfold encTo
  rw [List.take_succ_eq_append_getElem hk, List.flatMap_append, List.append_assoc]
  simp
theorem encTo_all (s : S) (h : right s = true) : encTo s s.cols.length = encode s := by
  unfold encTo encode
  rw [if_pos h, List.take_length]
theorem good1_of {s : S} (h : goodTo s s.cols.length = true) (k : Nat) (hk : k < s.cols.length) : good1 s k = true := by
  have h1 := goodTo_le (s.cols.length - (k + 1)) (by rw [show k + 1 + (s.cols.length - (k + 1)) = s.cols.length from by omega]; exact h)
  unfold goodTo at h1
  simp only [Bool.and_eq_true] at h1
  exact h1.2
theorem right_col {s : S} (h : right s = true) (k : Nat) (hk : k < s.cols.length) : s.cols[k].name.size ≤ 32 ∧ 1 ≤ s.cols[k].kind ∧ s.cols[k].kind ≤ 5 := by
  unfold right at h
  simp only [Bool.and_eq_true, decide_eq_true_eq] at h
  have h1 := good1_of h.2 k hk
  rw [good1_at s k hk] at h1
  unfold colOk at h1
  simp only [Bool.and_eq_true, decide_eq_true_eq] at h1
  obtain ⟨⟨⟨⟨a1, a2⟩, a3⟩, _⟩, _⟩ := h1
  exact ⟨(name_len a1).2, a2, a3⟩
theorem right_head {s : S} (h : right s = true) : s.name.size ≤ 32 ∧ 1 ≤ s.keys ∧ s.keys ≤ 8 ∧ s.cols.length ≤ 16 := by
  unfold right at h
  simp only [Bool.and_eq_true, decide_eq_true_eq] at h
  obtain ⟨⟨⟨⟨⟨a1, a2⟩, a3⟩, a4⟩, _⟩, _⟩ := h
  exact ⟨(name_len a1).2, a3, a4, a2⟩
theorem encode_no {s : S} (h : right s = false) : encode s = [] := by unfold encode; rw [h, if_neg (by decide)]
end Sc
theorem text_small (s : ByteArray) (h : s.size ≤ 32) : (bstr (Cd.text s)).size ≤ 42 := by
  rw [← text_bstr, ByteArray.size_append]
  have := (Cd.enc_length s.size).2
  rw [bstr_size]; omega
theorem enc_small (n : Nat) : (bstr (Cd.enc n)).size ≤ 10 := (Cd.enc_length n).2

set_option maxRecDepth 100000 in
set_option maxHeartbeats 12800000 in
theorem encode_any (s : Sc.S) (v : Value) (w : World) (h : CsAt w v s.cols) (hsz : Sok s) :
    Calls Try.prog 62 #[sv s v] w fun e w' => e = .returned (.string (bstr (Sc.encode s))) ∧ Below w.heap.size w w' := by
  have hbox := hba w (.cells #[.string s.name, v, .int .i64 s.keys] 30)
  have hR := hid (right_sc s v _ (h.below hbox) hsz)
  obtain ⟨adr, cap, rfl, hc1, hc2, hc⟩ := h
  have HC := hid hc
  unfold maxLen at hc2
  have HBOX := hid hbox
  have HS0 := hid (BS.new w s.name (.slice adr s.cols.length cap) s.keys)
  have hno := hid (fun h => Sc.encode_no (s := s) h)
  have hhd := hid (fun h => Sc.right_head (s := s) h)
  have hcol := hid (fun h => Sc.right_col (s := s) h)
  have hall := hid (fun h => Sc.encTo_all s h)
  have hnx := hid (fun k hk => Sc.encTo_next s k hk)
  have h0 : Hid (bstr (Cd.text s.name) ++ bstr (Cd.enc s.keys.toNat) ++ bstr (Cd.enc s.cols.length) = bstr (Sc.encTo s 0)) := by
    show _ = _
    unfold Sc.encTo Sc.headB
    rw [bstr_append, bstr_append]
    simp
  clear hbox hc hsz
  cases hr : Sc.right s
  · rw [hr] at hR
    have HE := hid (hno.out hr)
    clear hr hno hhd hcol hall hnx h0
    unfold sv at hR ⊢
    go_enter Try.func62, Try.ntmps62
    go_wp2_with fail
    refine (hR.out).mono ?_; rintro e w1 ⟨rfl, hb1⟩
    go_wp2_with fail
    go_ret
    rw [HE.out]
    exact ⟨rfl, hnext HBOX.out hb1⟩
  rw [hr] at hR
  obtain ⟨z1, z2, z3, z4⟩ := hhd.out hr
  have HCOL := hid (hcol.out hr)
  have HALL := hid (hall.out hr)
  clear hhd hcol hall hno hr
  unfold sv at hR ⊢
  obtain ⟨nm, cs, ks⟩ := s
  simp only at hR HC hc1 HBOX HS0 z1 z2 z3 z4 HCOL HALL hnx h0 ⊢
  obtain ⟨kn, rfl⟩ : ∃ kn : Nat, ks = (kn : Int) := ⟨ks.toNat, by omega⟩
  rw [Int.toNat_natCast] at h0
  have hA := text_small nm z1
  have hK := enc_small kn
  have hN := enc_small cs.length
  have CA := hid (fun W => text_any nm (by omega) W)
  have CK := hid (fun W => uint_any kn (by omega) W)
  have CN := hid (fun W => uint_any cs.length (by omega) W)
  generalize bstr (Cd.text nm) = A at CA hA h0
  generalize bstr (Cd.enc kn) = K at CK hK h0
  generalize bstr (Cd.enc cs.length) = N at CN hN h0
  have hcvk : IntKind.u64.wrap (kn : Int) = (kn : Int) := by rw [IntKind.wrap_u64]; omega
  have hcvn : IntKind.u64.wrap (cs.length : Int) = (cs.length : Int) := by rw [IntKind.wrap_u64]; omega
  have hx1 : ¬ 9223372036854775807 < A.size + K.size := by omega
  have hx2 : ¬ 9223372036854775807 < A.size + K.size + N.size := by omega
  have hT0 : (A ++ K ++ N).size ≤ 62 := by rw [ByteArray.size_append, ByteArray.size_append]; omega
  have HT0 := hid hT0
  have Z4 := hid z4
  clear z1 z2 z3 z4 hA hK hN hT0
  go_enter Try.func62, Try.ntmps62
  go_wp2_with fail
  refine (hR.out).mono ?_; rintro e w1 ⟨rfl, hb1⟩
  have hS1 := HS0.out.keep hb1
  have hB1 := hid (hnext HBOX.out hb1)
  clear hb1 HS0 HBOX hR
  obtain ⟨s0, s1, s2, sl⟩ := hS1.cells
  go_wp2_with fail
  obtain ⟨w20, hw20⟩ : ∃ w20, (w1).drew = w20 := ⟨_, rfl⟩
  have hd20 : Below (w1).heap.size (w1) w20 := hw20 ▸ (Below.refl _ _).drew
  have mk20 : ∀ W, Below w20.heap.size w20 W → Below w20.heap.size w20 W ∧ W.cell? ⟨w.heap.size, 0, none⟩ = some (.string nm) ∧ W.cell? ⟨w.heap.size, 1, none⟩ = some (.slice adr cs.length cap) ∧ W.cell? ⟨w.heap.size, 2, none⟩ = some (.int .i64 (kn : Int)) := fun W h => ⟨h, hkeep (hkeep s0 hd20) h, hkeep (hkeep s1 hd20) h, hkeep (hkeep s2 hd20) h⟩
  have HS20 := hid (hS1.keep hd20)
  have HB20 := hid (hnext hB1.out hd20)
  clear s0 s1 s2 sl hS1 hB1 hd20
  refine wp_region_held_drew (S := (fun W => Below w20.heap.size w20 W ∧ W.cell? ⟨w.heap.size, 0, none⟩ = some (.string nm) ∧ W.cell? ⟨w.heap.size, 1, none⟩ = some (.slice adr cs.length cap) ∧ W.cell? ⟨w.heap.size, 2, none⟩ = some (.int .i64 (kn : Int)))) (by kernel_rfl) (by rw [hw20]; exact mk20 _ (Below.refl _ _)) (fun hS20 => ?_)
  rw [hw20] at hS20 ⊢
  clear hw20
  refine wpAnyH_take (i := 0) (oi := ({ dst := some 10, op := Op.fieldAddr 30 (Operand.tmp 1) 0, type := 0, pos := "schema.go:122", after := #[], guard := none } : Oper)) (v := ?_) rfl (by kernel_rfl) (by kernel_rfl) (by kernel_rfl) (fun _ _ _ h => h) (Or.inl ⟨by rfl, ?_⟩) hS20 ?_
  rotate_left
  · intro w hSw; (try dsimp only at hSw); go_simp; (try with_reducible rfl)
  simp only [Act.put, List.setIfInBounds_toArray, List.set_cons_zero, List.set_cons_succ]
  refine wpAnyH_take (i := 1) (oi := ({ dst := some 11, op := Op.load 9 (Operand.tmp 10), type := 9, pos := "schema.go:122", after := #[{ on := 0, ground := Ground.data }], guard := none } : Oper)) (v := ?_) rfl (by kernel_rfl) (by kernel_rfl) (by kernel_rfl) (fun _ _ _ h => h) (Or.inl ⟨by rfl, ?_⟩) hS20 ?_
  rotate_left
  · intro w hSw; (try dsimp only at hSw); go_simp; (try with_reducible rfl)
  simp only [Act.put, List.setIfInBounds_toArray, List.set_cons_zero, List.set_cons_succ]
  refine wpAnyH_take (i := 3) (oi := ({ dst := some 13, op := Op.fieldAddr 30 (Operand.tmp 1) 2, type := 0, pos := "schema.go:122", after := #[], guard := none } : Oper)) (v := ?_) rfl (by kernel_rfl) (by kernel_rfl) (by kernel_rfl) (fun _ _ _ h => h) (Or.inl ⟨by rfl, ?_⟩) hS20 ?_
  rotate_left
  · intro w hSw; (try dsimp only at hSw); go_simp; (try with_reducible rfl)
  simp only [Act.put, List.setIfInBounds_toArray, List.set_cons_zero, List.set_cons_succ]
  refine wpAnyH_take (i := 4) (oi := ({ dst := some 14, op := Op.load 3 (Operand.tmp 13), type := 3, pos := "schema.go:122", after := #[{ on := 3, ground := Ground.data }], guard := none } : Oper)) (v := ?_) rfl (by kernel_rfl) (by kernel_rfl) (by kernel_rfl) (fun _ _ _ h => h) (Or.inl ⟨by rfl, ?_⟩) hS20 ?_
  rotate_left
  · intro w hSw; (try dsimp only at hSw); go_simp; (try with_reducible rfl)
  simp only [Act.put, List.setIfInBounds_toArray, List.set_cons_zero, List.set_cons_succ]
  refine wpAnyH_take (i := 5) (oi := ({ dst := some 15, op := Op.convert 3 57 (Operand.tmp 14), type := 57, pos := "schema.go:122", after := #[{ on := 4, ground := Ground.data }], guard := none } : Oper)) (v := ?_) rfl (by kernel_rfl) (by kernel_rfl) (by kernel_rfl) (fun _ _ _ h => h) (Or.inl ⟨by rfl, ?_⟩) hS20 ?_
  rotate_left
  · intro w hSw; (try dsimp only at hSw); go_simp; (try with_reducible rfl)
  simp only [Act.put, List.setIfInBounds_toArray, List.set_cons_zero, List.set_cons_succ]
  refine wpAnyH_take (i := 8) (oi := ({ dst := some 18, op := Op.fieldAddr 30 (Operand.tmp 1) 1, type := 0, pos := "schema.go:122", after := #[], guard := none } : Oper)) (v := ?_) rfl (by kernel_rfl) (by kernel_rfl) (by kernel_rfl) (fun _ _ _ h => h) (Or.inl ⟨by rfl, ?_⟩) hS20 ?_
  rotate_left
  · intro w hSw; (try dsimp only at hSw); go_simp; (try with_reducible rfl)
  simp only [Act.put, List.setIfInBounds_toArray, List.set_cons_zero, List.set_cons_succ]
  refine wpAnyH_take (i := 9) (oi := ({ dst := some 19, op := Op.load 28 (Operand.tmp 18), type := 28, pos := "schema.go:122", after := #[{ on := 8, ground := Ground.data }], guard := none } : Oper)) (v := ?_) rfl (by kernel_rfl) (by kernel_rfl) (by kernel_rfl) (fun _ _ _ h => h) (Or.inl ⟨by rfl, ?_⟩) hS20 ?_
  rotate_left
  · intro w hSw; (try dsimp only at hSw); go_simp; (try with_reducible rfl)
  simp only [Act.put, List.setIfInBounds_toArray, List.set_cons_zero, List.set_cons_succ]
  refine wpAnyH_take (i := 10) (oi := ({ dst := some 20, op := Op.call { callee := Callee.builtin Builtin.len, args := #[Operand.tmp 19], argTypes := #[28] }, type := 3, pos := "schema.go:122", after := #[{ on := 9, ground := Ground.data }], guard := none } : Oper)) (v := ?_) rfl (by kernel_rfl) (by kernel_rfl) (by kernel_rfl) (fun _ _ _ h => h) (Or.inl ⟨by rfl, ?_⟩) hS20 ?_
  rotate_left
  · intro w hSw; (try dsimp only at hSw); go_simp; (try with_reducible rfl)
  simp only [Act.put, List.setIfInBounds_toArray, List.set_cons_zero, List.set_cons_succ]
  refine wpAnyH_take (i := 11) (oi := ({ dst := some 21, op := Op.convert 3 57 (Operand.tmp 20), type := 57, pos := "schema.go:122", after := #[{ on := 10, ground := Ground.data }], guard := none } : Oper)) (v := ?_) rfl (by kernel_rfl) (by kernel_rfl) (by kernel_rfl) (fun _ _ _ h => h) (Or.inl ⟨by rfl, ?_⟩) hS20 ?_
  rotate_left
  · intro w hSw; (try dsimp only at hSw); go_simp; (try with_reducible rfl)
  simp only [Act.put, List.setIfInBounds_toArray, List.set_cons_zero, List.set_cons_succ]
  refine wpAnyH_ready (rs := [2]) (by kernel_rfl) (by simp) ?_
  refine AllReadyH.cons (o := ({ dst := some 12, op := Op.call { callee := Callee.value (Operand.func 61), args := #[Operand.tmp 11], argTypes := #[9] }, type := 9, pos := "schema.go:122", after := #[{ on := 1, ground := Ground.data }], guard := none } : Oper)) rfl (fun K hK => ?_) AllReadyH.nil
  go_simp
  refine (CA.out _).mono ?_; rintro e w21 ⟨rfl, hb21⟩
  go_wp2_with fail
  refine hK.out _ _ (mk20 _ (hnext hS20.1 hb21)) (fun hS21 => ?_)
  clear hK K
  (try simp only [Act.put, List.setIfInBounds_toArray, List.set_cons_zero, List.set_cons_succ])
  clear hb21 hS20
  refine wpAnyH_ready (rs := [6]) (by kernel_rfl) (by simp) ?_
  refine AllReadyH.cons (o := ({ dst := some 16, op := Op.call { callee := Callee.value (Operand.func 60), args := #[Operand.tmp 15], argTypes := #[57] }, type := 9, pos := "schema.go:122", after := #[{ on := 5, ground := Ground.data }, { on := 2, ground := Ground.chain }], guard := none } : Oper)) rfl (fun K hK => ?_) AllReadyH.nil
  go_simp
  refine (CK.out _).mono ?_; rintro e w22 ⟨rfl, hb22⟩
  go_wp2_with fail
  refine hK.out _ _ (mk20 _ (hnext hS21.1 hb22)) (fun hS22 => ?_)
  clear hK K
  (try simp only [Act.put, List.setIfInBounds_toArray, List.set_cons_zero, List.set_cons_succ])
  clear hb22 hS21
  refine wpAnyH_take (i := 7) (oi := ({ dst := some 17, op := Op.binOp BinOp.add 9 (Operand.tmp 12) (Operand.tmp 16) 9, type := 9, pos := "schema.go:122", after := #[{ on := 2, ground := Ground.data }, { on := 6, ground := Ground.data }], guard := none } : Oper)) (v := ?_) rfl (by kernel_rfl) (by kernel_rfl) (by kernel_rfl) (fun _ _ _ h => h) (Or.inl ⟨by rfl, ?_⟩) hS22 ?_
  rotate_left
  · intro w hSw; (try dsimp only at hSw); go_simp; (try with_reducible rfl)
  simp only [Act.put, List.setIfInBounds_toArray, List.set_cons_zero, List.set_cons_succ]
  refine wpAnyH_ready (rs := [12]) (by kernel_rfl) (by simp) ?_
  refine AllReadyH.cons (o := ({ dst := some 22, op := Op.call { callee := Callee.value (Operand.func 60), args := #[Operand.tmp 21], argTypes := #[57] }, type := 9, pos := "schema.go:122", after := #[{ on := 11, ground := Ground.data }, { on := 6, ground := Ground.chain }], guard := none } : Oper)) rfl (fun K hK => ?_) AllReadyH.nil
  go_simp
  refine (CN.out _).mono ?_; rintro e w23 ⟨rfl, hb23⟩
  go_wp2_with fail
  refine hK.out _ _ (mk20 _ (hnext hS22.1 hb23)) (fun hS23 => ?_)
  clear hK K
  (try simp only [Act.put, List.setIfInBounds_toArray, List.set_cons_zero, List.set_cons_succ])
  clear hb23 hS22
  refine wpAnyH_take (i := 13) (oi := ({ dst := some 23, op := Op.binOp BinOp.add 9 (Operand.tmp 17) (Operand.tmp 22) 9, type := 9, pos := "schema.go:122", after := #[{ on := 7, ground := Ground.data }, { on := 12, ground := Ground.data }], guard := none } : Oper)) (v := ?_) rfl (by kernel_rfl) (by kernel_rfl) (by kernel_rfl) (fun _ _ _ h => h) (Or.inl ⟨by rfl, ?_⟩) hS23 ?_
  rotate_left
  · intro w hSw; (try dsimp only at hSw); go_simp; (try with_reducible rfl)
  simp only [Act.put, List.setIfInBounds_toArray, List.set_cons_zero, List.set_cons_succ]
  refine wpAnyH_take (i := 14) (oi := ({ dst := some 3, op := Op.assign (Operand.tmp 23), type := 9, pos := "schema.go:122", after := #[{ on := 13, ground := Ground.data }, { on := 12, ground := Ground.chain }, { on := 0, ground := Ground.phase }, { on := 1, ground := Ground.phase }, { on := 2, ground := Ground.phase }, { on := 3, ground := Ground.phase }, { on := 4, ground := Ground.phase }, { on := 5, ground := Ground.phase }, { on := 6, ground := Ground.phase }, { on := 7, ground := Ground.phase }, { on := 8, ground := Ground.phase }, { on := 9, ground := Ground.phase }, { on := 10, ground := Ground.phase }, { on := 11, ground := Ground.phase }, { on := 12, ground := Ground.phase }, { on := 13, ground := Ground.phase }], guard := none } : Oper)) (v := ?_) rfl (by kernel_rfl) (by kernel_rfl) (by kernel_rfl) (fun _ _ _ h => h) (Or.inl ⟨by rfl, ?_⟩) hS23 ?_
  rotate_left
  · intro w hSw; (try dsimp only at hSw); go_simp; (try with_reducible rfl)
  simp only [Act.put, List.setIfInBounds_toArray, List.set_cons_zero, List.set_cons_succ]
  refine wpAnyH_done (by kernel_rfl) ?_ _
  have hS1 := HS20.out.keep hS23.1
  have HL1 := hid (hnext HB20.out hS23.1)
  obtain ⟨s0, s1, s2, sl⟩ := hS1.cells
  clear mk20
  clear CA CK CN hcvk hcvn hx1 hx2 HS20 HB20
  go_wp2_with fail
  clear s0 s1 s2 sl
  generalize A ++ K ++ N = T0 at h0 HT0
  go_loopw [3, 27] (fun b q wr => ∃ (k : Nat) (t : ByteArray), k ≤ cs.length ∧ q = .int .i64 (k : Int) ∧ b = .string t ∧ Hid (t = bstr (Sc.encTo ⟨nm, cs, (kn : Int)⟩ k)) ∧ t.size ≤ 62 + 62 * k ∧ BS wr w.heap.size nm (.slice adr cs.length cap) (kn : Int) ∧ Hid (Below w.heap.size w wr)) (fun _ q _ => cs.length - (intOf q).toNat)
  case atStart => exact ⟨0, T0, by omega, rfl, rfl, h0, by have := HT0.out; omega, hS1, HL1⟩
  case round =>
    obtain ⟨k, t, hk, rfl, rfl, ht, hts, hS, hL⟩ := hrel
    clear hS1 HL1 h0 HT0
    obtain ⟨w4, rfl⟩ : ∃ w4 : World, w4 = wr := ⟨_, rfl⟩
    have hk0 : (0 : Int) ≤ (k : Int) := by omega
    obtain ⟨s0, s1, s2, sl⟩ := hS.cells
    by_cases hlk : k < cs.length
    · have hlk' : (k : Int) < (cs.length : Int) := by omega
      obtain ⟨g, off, rfl, q0, q1, q2⟩ := HC.out k hlk
      replace q0 := hkeep q0 hL.out
      replace q1 := hkeep q1 hL.out
      replace q2 := hkeep q2 hL.out
      obtain ⟨y1, y2, y3⟩ := HCOL.out k hlk
      have HNX := hid (hnx.out k hlk)
      have hk16 : k < 16 := by have := Z4.out; omega
      generalize cs[k] = c at q0 q1 q2 y1 y2 y3 HNX
      have hba4 := hba w4 (.cells #[.string c.name, .int .i64 c.kind, .bool c.need] 88)
      have hC5 := BC.new w4 c
      have hS5 := hS.keep hba4
      have HL5 := hid (hnext hL.out hba4)
      clear hba4 hS hL
      obtain ⟨cn, ck, cd⟩ := c
      simp only at q0 q1 q2 y1 y2 y3 HNX hC5 hS5 HL5
      obtain ⟨kk, rfl⟩ : ∃ kk : Nat, ck = (kk : Int) := ⟨ck.toNat, by omega⟩
      cases cd
      · skip
        have CA := hid (fun W => text_any cn (by omega) W)
        have CK := hid (fun W => uint_any kk (by omega) W)
        have CN := hid (fun W => uint_any 0 (by omega) W)
        rw [show ((0 : Nat) : Int) = 0 from rfl] at CN
        have hA := text_small cn y1
        have hK := enc_small kk
        have hN := enc_small 0
        have HQ : Hid (t ++ (bstr (Cd.text cn) ++ bstr (Cd.enc kk) ++ bstr (Cd.enc 0)) = bstr (Sc.encTo ⟨nm, cs, (kn : Int)⟩ (k + 1))) := by
          show _ = _
          rw [HNX.out, ht.out]
          unfold Sc.colB
          simp only [bstr_append, List.append_assoc, Int.toNat_natCast, Bool.false_eq_true, if_false]
        generalize bstr (Cd.text cn) = A at CA hA HQ
        generalize bstr (Cd.enc kk) = K at CK hK HQ
        generalize bstr (Cd.enc 0) = N at CN hN HQ
        have hcvk : IntKind.u64.wrap (kk : Int) = (kk : Int) := by rw [IntKind.wrap_u64]; omega
        have hx0 : ¬ 9223372036854775807 < A.size + K.size := by omega
        have hx1 : ¬ 9223372036854775807 < A.size + K.size + N.size := by omega
        have hx2 : ¬ 9223372036854775807 < t.size + (A.size + K.size + N.size) := by omega
        have HQS := hid (show (t ++ (A ++ K ++ N)).size ≤ 62 + 62 * (k + 1) by simp only [ByteArray.size_append]; omega)
        clear hA hK hN y1 y2 y3 HNX ht
        go_wp2_with fail
        obtain ⟨cb, hcb⟩ : ∃ cb, w4.heap.size = cb := ⟨_, rfl⟩
        rw [hcb] at hC5
        rw [hcb]
        generalize w4.alloc (.cells #[.string cn, .int .i64 (kk : Int), .bool false] 88) = w5 at *
        clear hcb q0 q1 q2 s0 s1 s2 sl
        obtain ⟨t0, t1, t2, tl⟩ := hC5.cells
        obtain ⟨w30, hw30⟩ : ∃ w30, (w5).drew = w30 := ⟨_, rfl⟩
        have hd30 : Below (w5).heap.size (w5) w30 := hw30 ▸ (Below.refl _ _).drew
        have mk30 : ∀ W, Below w30.heap.size w30 W → Below w30.heap.size w30 W ∧ W.cell? ⟨cb, 0, none⟩ = some (.string cn) ∧ W.cell? ⟨cb, 1, none⟩ = some (.int .i64 (kk : Int)) ∧ W.cell? ⟨cb, 2, none⟩ = some (.bool false) := fun W h => ⟨h, hkeep (hkeep t0 hd30) h, hkeep (hkeep t1 hd30) h, hkeep (hkeep t2 hd30) h⟩
        have HS30 := hid (hS5.keep hd30)
        have HB30 := hid (hnext HL5.out hd30)
        clear t0 t1 t2 tl hS5 HL5 hC5 hd30
        refine wp_region_held_drew (S := (fun W => Below w30.heap.size w30 W ∧ W.cell? ⟨cb, 0, none⟩ = some (.string cn) ∧ W.cell? ⟨cb, 1, none⟩ = some (.int .i64 (kk : Int)) ∧ W.cell? ⟨cb, 2, none⟩ = some (.bool false))) (by kernel_rfl) (by rw [hw30]; exact mk30 _ (Below.refl _ _)) (fun hS30 => ?_)
        rw [hw30] at hS30 ⊢
        clear hw30
        refine wpAnyH_take (i := 0) (oi := ({ dst := some 33, op := Op.move (Operand.tmp 3), type := 9, pos := "schema.go:128", after := #[], guard := none } : Oper)) (v := ?_) rfl (by kernel_rfl) (by kernel_rfl) (by kernel_rfl) (fun _ _ _ h => h) (Or.inl ⟨by rfl, ?_⟩) hS30 ?_
        rotate_left
        · intro w hSw; (try dsimp only at hSw); go_simp; (try with_reducible rfl)
        simp only [Act.put, List.setIfInBounds_toArray, List.set_cons_zero, List.set_cons_succ]
        refine wpAnyH_take (i := 1) (oi := ({ dst := some 34, op := Op.fieldAddr 88 (Operand.tmp 5) 0, type := 0, pos := "schema.go:128", after := #[], guard := none } : Oper)) (v := ?_) rfl (by kernel_rfl) (by kernel_rfl) (by kernel_rfl) (fun _ _ _ h => h) (Or.inl ⟨by rfl, ?_⟩) hS30 ?_
        rotate_left
        · intro w hSw; (try dsimp only at hSw); go_simp; (try with_reducible rfl)
        simp only [Act.put, List.setIfInBounds_toArray, List.set_cons_zero, List.set_cons_succ]
        refine wpAnyH_take (i := 2) (oi := ({ dst := some 35, op := Op.load 9 (Operand.tmp 34), type := 9, pos := "schema.go:128", after := #[{ on := 1, ground := Ground.data }], guard := none } : Oper)) (v := ?_) rfl (by kernel_rfl) (by kernel_rfl) (by kernel_rfl) (fun _ _ _ h => h) (Or.inl ⟨by rfl, ?_⟩) hS30 ?_
        rotate_left
        · intro w hSw; (try dsimp only at hSw); go_simp; (try with_reducible rfl)
        simp only [Act.put, List.setIfInBounds_toArray, List.set_cons_zero, List.set_cons_succ]
        refine wpAnyH_take (i := 4) (oi := ({ dst := some 37, op := Op.fieldAddr 88 (Operand.tmp 5) 1, type := 0, pos := "schema.go:128", after := #[], guard := none } : Oper)) (v := ?_) rfl (by kernel_rfl) (by kernel_rfl) (by kernel_rfl) (fun _ _ _ h => h) (Or.inl ⟨by rfl, ?_⟩) hS30 ?_
        rotate_left
        · intro w hSw; (try dsimp only at hSw); go_simp; (try with_reducible rfl)
        simp only [Act.put, List.setIfInBounds_toArray, List.set_cons_zero, List.set_cons_succ]
        refine wpAnyH_take (i := 5) (oi := ({ dst := some 38, op := Op.load 3 (Operand.tmp 37), type := 3, pos := "schema.go:128", after := #[{ on := 4, ground := Ground.data }], guard := none } : Oper)) (v := ?_) rfl (by kernel_rfl) (by kernel_rfl) (by kernel_rfl) (fun _ _ _ h => h) (Or.inl ⟨by rfl, ?_⟩) hS30 ?_
        rotate_left
        · intro w hSw; (try dsimp only at hSw); go_simp; (try with_reducible rfl)
        simp only [Act.put, List.setIfInBounds_toArray, List.set_cons_zero, List.set_cons_succ]
        refine wpAnyH_take (i := 6) (oi := ({ dst := some 39, op := Op.convert 3 57 (Operand.tmp 38), type := 57, pos := "schema.go:128", after := #[{ on := 5, ground := Ground.data }], guard := none } : Oper)) (v := ?_) rfl (by kernel_rfl) (by kernel_rfl) (by kernel_rfl) (fun _ _ _ h => h) (Or.inl ⟨by rfl, ?_⟩) hS30 ?_
        rotate_left
        · intro w hSw; (try dsimp only at hSw); go_simp; (try with_reducible rfl)
        simp only [Act.put, List.setIfInBounds_toArray, List.set_cons_zero, List.set_cons_succ]
        refine wpAnyH_take (i := 9) (oi := ({ dst := some 42, op := Op.move (Operand.tmp 6), type := 57, pos := "schema.go:128", after := #[], guard := none } : Oper)) (v := ?_) rfl (by kernel_rfl) (by kernel_rfl) (by kernel_rfl) (fun _ _ _ h => h) (Or.inl ⟨by rfl, ?_⟩) hS30 ?_
        rotate_left
        · intro w hSw; (try dsimp only at hSw); go_simp; (try with_reducible rfl)
        simp only [Act.put, List.setIfInBounds_toArray, List.set_cons_zero, List.set_cons_succ]
        refine wpAnyH_ready (rs := [3]) (by kernel_rfl) (by simp) ?_
        refine AllReadyH.cons (o := ({ dst := some 36, op := Op.call { callee := Callee.value (Operand.func 61), args := #[Operand.tmp 35], argTypes := #[9] }, type := 9, pos := "schema.go:128", after := #[{ on := 2, ground := Ground.data }], guard := none } : Oper)) rfl (fun K hK => ?_) AllReadyH.nil
        go_simp
        refine (CA.out _).mono ?_; rintro e w31 ⟨rfl, hb31⟩
        go_wp2_with fail
        refine hK.out _ _ (mk30 _ (hnext hS30.1 hb31)) (fun hS31 => ?_)
        clear hK K
        (try simp only [Act.put, List.setIfInBounds_toArray, List.set_cons_zero, List.set_cons_succ])
        clear hb31 hS30
        refine wpAnyH_ready (rs := [7]) (by kernel_rfl) (by simp) ?_
        refine AllReadyH.cons (o := ({ dst := some 40, op := Op.call { callee := Callee.value (Operand.func 60), args := #[Operand.tmp 39], argTypes := #[57] }, type := 9, pos := "schema.go:128", after := #[{ on := 6, ground := Ground.data }, { on := 3, ground := Ground.chain }], guard := none } : Oper)) rfl (fun K hK => ?_) AllReadyH.nil
        go_simp
        refine (CK.out _).mono ?_; rintro e w32 ⟨rfl, hb32⟩
        go_wp2_with fail
        refine hK.out _ _ (mk30 _ (hnext hS31.1 hb32)) (fun hS32 => ?_)
        clear hK K
        (try simp only [Act.put, List.setIfInBounds_toArray, List.set_cons_zero, List.set_cons_succ])
        clear hb32 hS31
        refine wpAnyH_take (i := 8) (oi := ({ dst := some 41, op := Op.binOp BinOp.add 9 (Operand.tmp 36) (Operand.tmp 40) 9, type := 9, pos := "schema.go:128", after := #[{ on := 3, ground := Ground.data }, { on := 7, ground := Ground.data }], guard := none } : Oper)) (v := ?_) rfl (by kernel_rfl) (by kernel_rfl) (by kernel_rfl) (fun _ _ _ h => h) (Or.inl ⟨by rfl, ?_⟩) hS32 ?_
        rotate_left
        · intro w hSw; (try dsimp only at hSw); go_simp; (try with_reducible rfl)
        simp only [Act.put, List.setIfInBounds_toArray, List.set_cons_zero, List.set_cons_succ]
        refine wpAnyH_ready (rs := [10]) (by kernel_rfl) (by simp) ?_
        refine AllReadyH.cons (o := ({ dst := some 43, op := Op.call { callee := Callee.value (Operand.func 60), args := #[Operand.tmp 42], argTypes := #[57] }, type := 9, pos := "schema.go:128", after := #[{ on := 9, ground := Ground.data }, { on := 7, ground := Ground.chain }], guard := none } : Oper)) rfl (fun K hK => ?_) AllReadyH.nil
        go_simp
        refine (CN.out _).mono ?_; rintro e w33 ⟨rfl, hb33⟩
        go_wp2_with fail
        refine hK.out _ _ (mk30 _ (hnext hS32.1 hb33)) (fun hS33 => ?_)
        clear hK K
        (try simp only [Act.put, List.setIfInBounds_toArray, List.set_cons_zero, List.set_cons_succ])
        clear hb33 hS32
        refine wpAnyH_take (i := 11) (oi := ({ dst := some 44, op := Op.binOp BinOp.add 9 (Operand.tmp 41) (Operand.tmp 43) 9, type := 9, pos := "schema.go:128", after := #[{ on := 8, ground := Ground.data }, { on := 10, ground := Ground.data }], guard := none } : Oper)) (v := ?_) rfl (by kernel_rfl) (by kernel_rfl) (by kernel_rfl) (fun _ _ _ h => h) (Or.inl ⟨by rfl, ?_⟩) hS33 ?_
        rotate_left
        · intro w hSw; (try dsimp only at hSw); go_simp; (try with_reducible rfl)
        simp only [Act.put, List.setIfInBounds_toArray, List.set_cons_zero, List.set_cons_succ]
        refine wpAnyH_take (i := 12) (oi := ({ dst := some 45, op := Op.binOp BinOp.add 9 (Operand.tmp 33) (Operand.tmp 44) 9, type := 9, pos := "schema.go:128", after := #[{ on := 0, ground := Ground.data }, { on := 11, ground := Ground.data }], guard := none } : Oper)) (v := ?_) rfl (by kernel_rfl) (by kernel_rfl) (by kernel_rfl) (fun _ _ _ h => h) (Or.inl ⟨by rfl, ?_⟩) hS33 ?_
        rotate_left
        · intro w hSw; (try dsimp only at hSw); go_simp; (try with_reducible rfl)
        simp only [Act.put, List.setIfInBounds_toArray, List.set_cons_zero, List.set_cons_succ]
        refine wpAnyH_take (i := 13) (oi := ({ dst := some 3, op := Op.assign (Operand.tmp 45), type := 9, pos := "schema.go:128", after := #[{ on := 12, ground := Ground.data }, { on := 10, ground := Ground.chain }, { on := 0, ground := Ground.phase }, { on := 1, ground := Ground.phase }, { on := 2, ground := Ground.phase }, { on := 3, ground := Ground.phase }, { on := 4, ground := Ground.phase }, { on := 5, ground := Ground.phase }, { on := 6, ground := Ground.phase }, { on := 7, ground := Ground.phase }, { on := 8, ground := Ground.phase }, { on := 9, ground := Ground.phase }, { on := 10, ground := Ground.phase }, { on := 11, ground := Ground.phase }, { on := 12, ground := Ground.phase }], guard := none } : Oper)) (v := ?_) rfl (by kernel_rfl) (by kernel_rfl) (by kernel_rfl) (fun _ _ _ h => h) (Or.inl ⟨by rfl, ?_⟩) hS33 ?_
        rotate_left
        · intro w hSw; (try dsimp only at hSw); go_simp; (try with_reducible rfl)
        simp only [Act.put, List.setIfInBounds_toArray, List.set_cons_zero, List.set_cons_succ]
        refine wpAnyH_done (by kernel_rfl) ?_ _
        have hS6 := HS30.out.keep hS33.1
        have HL6 := hid (hnext HB30.out hS33.1)
        go_wp2_with fail
        go_roundw
        case rel => exact ⟨k + 1, _, by omega, by go_num, rfl, HQ, HQS.out, hS6, HL6⟩
        case measure => simp [intOf]; omega
      · skip
        have CA := hid (fun W => text_any cn (by omega) W)
        have CK := hid (fun W => uint_any kk (by omega) W)
        have CN := hid (fun W => uint_any 1 (by omega) W)
        rw [show ((1 : Nat) : Int) = 1 from rfl] at CN
        have hA := text_small cn y1
        have hK := enc_small kk
        have hN := enc_small 1
        have HQ : Hid (t ++ (bstr (Cd.text cn) ++ bstr (Cd.enc kk) ++ bstr (Cd.enc 1)) = bstr (Sc.encTo ⟨nm, cs, (kn : Int)⟩ (k + 1))) := by
          show _ = _
          rw [HNX.out, ht.out]
          unfold Sc.colB
          simp only [bstr_append, List.append_assoc, Int.toNat_natCast, if_true]
        generalize bstr (Cd.text cn) = A at CA hA HQ
        generalize bstr (Cd.enc kk) = K at CK hK HQ
        generalize bstr (Cd.enc 1) = N at CN hN HQ
        have hcvk : IntKind.u64.wrap (kk : Int) = (kk : Int) := by rw [IntKind.wrap_u64]; omega
        have hx0 : ¬ 9223372036854775807 < A.size + K.size := by omega
        have hx1 : ¬ 9223372036854775807 < A.size + K.size + N.size := by omega
        have hx2 : ¬ 9223372036854775807 < t.size + (A.size + K.size + N.size) := by omega
        have HQS := hid (show (t ++ (A ++ K ++ N)).size ≤ 62 + 62 * (k + 1) by simp only [ByteArray.size_append]; omega)
        clear hA hK hN y1 y2 y3 HNX ht
        go_wp2_with fail
        obtain ⟨cb, hcb⟩ : ∃ cb, w4.heap.size = cb := ⟨_, rfl⟩
        rw [hcb] at hC5
        rw [hcb]
        generalize w4.alloc (.cells #[.string cn, .int .i64 (kk : Int), .bool true] 88) = w5 at *
        clear hcb q0 q1 q2 s0 s1 s2 sl
        obtain ⟨t0, t1, t2, tl⟩ := hC5.cells
        obtain ⟨w30, hw30⟩ : ∃ w30, (w5).drew = w30 := ⟨_, rfl⟩
        have hd30 : Below (w5).heap.size (w5) w30 := hw30 ▸ (Below.refl _ _).drew
        have mk30 : ∀ W, Below w30.heap.size w30 W → Below w30.heap.size w30 W ∧ W.cell? ⟨cb, 0, none⟩ = some (.string cn) ∧ W.cell? ⟨cb, 1, none⟩ = some (.int .i64 (kk : Int)) ∧ W.cell? ⟨cb, 2, none⟩ = some (.bool true) := fun W h => ⟨h, hkeep (hkeep t0 hd30) h, hkeep (hkeep t1 hd30) h, hkeep (hkeep t2 hd30) h⟩
        have HS30 := hid (hS5.keep hd30)
        have HB30 := hid (hnext HL5.out hd30)
        clear t0 t1 t2 tl hS5 HL5 hC5 hd30
        refine wp_region_held_drew (S := (fun W => Below w30.heap.size w30 W ∧ W.cell? ⟨cb, 0, none⟩ = some (.string cn) ∧ W.cell? ⟨cb, 1, none⟩ = some (.int .i64 (kk : Int)) ∧ W.cell? ⟨cb, 2, none⟩ = some (.bool true))) (by kernel_rfl) (by rw [hw30]; exact mk30 _ (Below.refl _ _)) (fun hS30 => ?_)
        rw [hw30] at hS30 ⊢
        clear hw30
        refine wpAnyH_take (i := 0) (oi := ({ dst := some 33, op := Op.move (Operand.tmp 3), type := 9, pos := "schema.go:128", after := #[], guard := none } : Oper)) (v := ?_) rfl (by kernel_rfl) (by kernel_rfl) (by kernel_rfl) (fun _ _ _ h => h) (Or.inl ⟨by rfl, ?_⟩) hS30 ?_
        rotate_left
        · intro w hSw; (try dsimp only at hSw); go_simp; (try with_reducible rfl)
        simp only [Act.put, List.setIfInBounds_toArray, List.set_cons_zero, List.set_cons_succ]
        refine wpAnyH_take (i := 1) (oi := ({ dst := some 34, op := Op.fieldAddr 88 (Operand.tmp 5) 0, type := 0, pos := "schema.go:128", after := #[], guard := none } : Oper)) (v := ?_) rfl (by kernel_rfl) (by kernel_rfl) (by kernel_rfl) (fun _ _ _ h => h) (Or.inl ⟨by rfl, ?_⟩) hS30 ?_
        rotate_left
        · intro w hSw; (try dsimp only at hSw); go_simp; (try with_reducible rfl)
        simp only [Act.put, List.setIfInBounds_toArray, List.set_cons_zero, List.set_cons_succ]
        refine wpAnyH_take (i := 2) (oi := ({ dst := some 35, op := Op.load 9 (Operand.tmp 34), type := 9, pos := "schema.go:128", after := #[{ on := 1, ground := Ground.data }], guard := none } : Oper)) (v := ?_) rfl (by kernel_rfl) (by kernel_rfl) (by kernel_rfl) (fun _ _ _ h => h) (Or.inl ⟨by rfl, ?_⟩) hS30 ?_
        rotate_left
        · intro w hSw; (try dsimp only at hSw); go_simp; (try with_reducible rfl)
        simp only [Act.put, List.setIfInBounds_toArray, List.set_cons_zero, List.set_cons_succ]
        refine wpAnyH_take (i := 4) (oi := ({ dst := some 37, op := Op.fieldAddr 88 (Operand.tmp 5) 1, type := 0, pos := "schema.go:128", after := #[], guard := none } : Oper)) (v := ?_) rfl (by kernel_rfl) (by kernel_rfl) (by kernel_rfl) (fun _ _ _ h => h) (Or.inl ⟨by rfl, ?_⟩) hS30 ?_
        rotate_left
        · intro w hSw; (try dsimp only at hSw); go_simp; (try with_reducible rfl)
        simp only [Act.put, List.setIfInBounds_toArray, List.set_cons_zero, List.set_cons_succ]
        refine wpAnyH_take (i := 5) (oi := ({ dst := some 38, op := Op.load 3 (Operand.tmp 37), type := 3, pos := "schema.go:128", after := #[{ on := 4, ground := Ground.data }], guard := none } : Oper)) (v := ?_) rfl (by kernel_rfl) (by kernel_rfl) (by kernel_rfl) (fun _ _ _ h => h) (Or.inl ⟨by rfl, ?_⟩) hS30 ?_
        rotate_left
        · intro w hSw; (try dsimp only at hSw); go_simp; (try with_reducible rfl)
        simp only [Act.put, List.setIfInBounds_toArray, List.set_cons_zero, List.set_cons_succ]
        refine wpAnyH_take (i := 6) (oi := ({ dst := some 39, op := Op.convert 3 57 (Operand.tmp 38), type := 57, pos := "schema.go:128", after := #[{ on := 5, ground := Ground.data }], guard := none } : Oper)) (v := ?_) rfl (by kernel_rfl) (by kernel_rfl) (by kernel_rfl) (fun _ _ _ h => h) (Or.inl ⟨by rfl, ?_⟩) hS30 ?_
        rotate_left
        · intro w hSw; (try dsimp only at hSw); go_simp; (try with_reducible rfl)
        simp only [Act.put, List.setIfInBounds_toArray, List.set_cons_zero, List.set_cons_succ]
        refine wpAnyH_take (i := 9) (oi := ({ dst := some 42, op := Op.move (Operand.tmp 6), type := 57, pos := "schema.go:128", after := #[], guard := none } : Oper)) (v := ?_) rfl (by kernel_rfl) (by kernel_rfl) (by kernel_rfl) (fun _ _ _ h => h) (Or.inl ⟨by rfl, ?_⟩) hS30 ?_
        rotate_left
        · intro w hSw; (try dsimp only at hSw); go_simp; (try with_reducible rfl)
        simp only [Act.put, List.setIfInBounds_toArray, List.set_cons_zero, List.set_cons_succ]
        refine wpAnyH_ready (rs := [3]) (by kernel_rfl) (by simp) ?_
        refine AllReadyH.cons (o := ({ dst := some 36, op := Op.call { callee := Callee.value (Operand.func 61), args := #[Operand.tmp 35], argTypes := #[9] }, type := 9, pos := "schema.go:128", after := #[{ on := 2, ground := Ground.data }], guard := none } : Oper)) rfl (fun K hK => ?_) AllReadyH.nil
        go_simp
        refine (CA.out _).mono ?_; rintro e w31 ⟨rfl, hb31⟩
        go_wp2_with fail
        refine hK.out _ _ (mk30 _ (hnext hS30.1 hb31)) (fun hS31 => ?_)
        clear hK K
        (try simp only [Act.put, List.setIfInBounds_toArray, List.set_cons_zero, List.set_cons_succ])
        clear hb31 hS30
        refine wpAnyH_ready (rs := [7]) (by kernel_rfl) (by simp) ?_
        refine AllReadyH.cons (o := ({ dst := some 40, op := Op.call { callee := Callee.value (Operand.func 60), args := #[Operand.tmp 39], argTypes := #[57] }, type := 9, pos := "schema.go:128", after := #[{ on := 6, ground := Ground.data }, { on := 3, ground := Ground.chain }], guard := none } : Oper)) rfl (fun K hK => ?_) AllReadyH.nil
        go_simp
        refine (CK.out _).mono ?_; rintro e w32 ⟨rfl, hb32⟩
        go_wp2_with fail
        refine hK.out _ _ (mk30 _ (hnext hS31.1 hb32)) (fun hS32 => ?_)
        clear hK K
        (try simp only [Act.put, List.setIfInBounds_toArray, List.set_cons_zero, List.set_cons_succ])
        clear hb32 hS31
        refine wpAnyH_take (i := 8) (oi := ({ dst := some 41, op := Op.binOp BinOp.add 9 (Operand.tmp 36) (Operand.tmp 40) 9, type := 9, pos := "schema.go:128", after := #[{ on := 3, ground := Ground.data }, { on := 7, ground := Ground.data }], guard := none } : Oper)) (v := ?_) rfl (by kernel_rfl) (by kernel_rfl) (by kernel_rfl) (fun _ _ _ h => h) (Or.inl ⟨by rfl, ?_⟩) hS32 ?_
        rotate_left
        · intro w hSw; (try dsimp only at hSw); go_simp; (try with_reducible rfl)
        simp only [Act.put, List.setIfInBounds_toArray, List.set_cons_zero, List.set_cons_succ]
        refine wpAnyH_ready (rs := [10]) (by kernel_rfl) (by simp) ?_
        refine AllReadyH.cons (o := ({ dst := some 43, op := Op.call { callee := Callee.value (Operand.func 60), args := #[Operand.tmp 42], argTypes := #[57] }, type := 9, pos := "schema.go:128", after := #[{ on := 9, ground := Ground.data }, { on := 7, ground := Ground.chain }], guard := none } : Oper)) rfl (fun K hK => ?_) AllReadyH.nil
        go_simp
        refine (CN.out _).mono ?_; rintro e w33 ⟨rfl, hb33⟩
        go_wp2_with fail
        refine hK.out _ _ (mk30 _ (hnext hS32.1 hb33)) (fun hS33 => ?_)
        clear hK K
        (try simp only [Act.put, List.setIfInBounds_toArray, List.set_cons_zero, List.set_cons_succ])
        clear hb33 hS32
        refine wpAnyH_take (i := 11) (oi := ({ dst := some 44, op := Op.binOp BinOp.add 9 (Operand.tmp 41) (Operand.tmp 43) 9, type := 9, pos := "schema.go:128", after := #[{ on := 8, ground := Ground.data }, { on := 10, ground := Ground.data }], guard := none } : Oper)) (v := ?_) rfl (by kernel_rfl) (by kernel_rfl) (by kernel_rfl) (fun _ _ _ h => h) (Or.inl ⟨by rfl, ?_⟩) hS33 ?_
        rotate_left
        · intro w hSw; (try dsimp only at hSw); go_simp; (try with_reducible rfl)
        simp only [Act.put, List.setIfInBounds_toArray, List.set_cons_zero, List.set_cons_succ]
        refine wpAnyH_take (i := 12) (oi := ({ dst := some 45, op := Op.binOp BinOp.add 9 (Operand.tmp 33) (Operand.tmp 44) 9, type := 9, pos := "schema.go:128", after := #[{ on := 0, ground := Ground.data }, { on := 11, ground := Ground.data }], guard := none } : Oper)) (v := ?_) rfl (by kernel_rfl) (by kernel_rfl) (by kernel_rfl) (fun _ _ _ h => h) (Or.inl ⟨by rfl, ?_⟩) hS33 ?_
        rotate_left
        · intro w hSw; (try dsimp only at hSw); go_simp; (try with_reducible rfl)
        simp only [Act.put, List.setIfInBounds_toArray, List.set_cons_zero, List.set_cons_succ]
        refine wpAnyH_take (i := 13) (oi := ({ dst := some 3, op := Op.assign (Operand.tmp 45), type := 9, pos := "schema.go:128", after := #[{ on := 12, ground := Ground.data }, { on := 10, ground := Ground.chain }, { on := 0, ground := Ground.phase }, { on := 1, ground := Ground.phase }, { on := 2, ground := Ground.phase }, { on := 3, ground := Ground.phase }, { on := 4, ground := Ground.phase }, { on := 5, ground := Ground.phase }, { on := 6, ground := Ground.phase }, { on := 7, ground := Ground.phase }, { on := 8, ground := Ground.phase }, { on := 9, ground := Ground.phase }, { on := 10, ground := Ground.phase }, { on := 11, ground := Ground.phase }, { on := 12, ground := Ground.phase }], guard := none } : Oper)) (v := ?_) rfl (by kernel_rfl) (by kernel_rfl) (by kernel_rfl) (fun _ _ _ h => h) (Or.inl ⟨by rfl, ?_⟩) hS33 ?_
        rotate_left
        · intro w hSw; (try dsimp only at hSw); go_simp; (try with_reducible rfl)
        simp only [Act.put, List.setIfInBounds_toArray, List.set_cons_zero, List.set_cons_succ]
        refine wpAnyH_done (by kernel_rfl) ?_ _
        have hS6 := HS30.out.keep hS33.1
        have HL6 := hid (hnext HB30.out hS33.1)
        go_wp2_with fail
        go_roundw
        case rel => exact ⟨k + 1, _, by omega, by go_num, rfl, HQ, HQS.out, hS6, HL6⟩
        case measure => simp [intOf]; omega
    · obtain rfl : k = cs.length := by omega
      have HE : Hid (bstr (Sc.encode ⟨nm, cs, (kn : Int)⟩) = t) := by show _ = _; rw [← HALL.out, ht.out]
      clear hS hnx
      go_wp2_with fail
      go_ret
      rw [HE.out]
      exact ⟨rfl, hL.out⟩
set_option maxRecDepth 100000 in
set_option maxHeartbeats 12800000 in
theorem encodeR_any (s : Sc.S) (v : Value) (w : World) (h : CsAt w v s.cols) (hsz : Sok s) :
    Calls Try.prog 42 #[sv s v] w fun e w' => e = .returned (.string (bstr (Sc.encode s))) ∧ Below w.heap.size w w' := by
  have hbox := hba w (.cells #[.string s.name, v, .int .i64 s.keys] 30)
  have hR := hid (rightR_sc s v _ (h.below hbox) hsz)
  obtain ⟨adr, cap, rfl, hc1, hc2, hc⟩ := h
  have HC := hid hc
  unfold maxLen at hc2
  have HBOX := hid hbox
  have HS0 := hid (BS.new w s.name (.slice adr s.cols.length cap) s.keys)
  have hno := hid (fun h => Sc.encode_no (s := s) h)
  have hhd := hid (fun h => Sc.right_head (s := s) h)
  have hcol := hid (fun h => Sc.right_col (s := s) h)
  have hall := hid (fun h => Sc.encTo_all s h)
  have hnx := hid (fun k hk => Sc.encTo_next s k hk)
  have h0 : Hid (bstr (Cd.text s.name) ++ bstr (Cd.enc s.keys.toNat) ++ bstr (Cd.enc s.cols.length) = bstr (Sc.encTo s 0)) := by
    show _ = _
    unfold Sc.encTo Sc.headB
    rw [bstr_append, bstr_append]
    simp
  clear hbox hc hsz
  cases hr : Sc.right s
  · rw [hr] at hR
    have HE := hid (hno.out hr)
    clear hr hno hhd hcol hall hnx h0
    unfold sv at hR ⊢
    go_enter Try.func42, Try.ntmps42
    go_wp2_with fail
    refine (hR.out).mono ?_; rintro e w1 ⟨rfl, hb1⟩
    go_wp2_with fail
    go_ret
    rw [HE.out]
    exact ⟨rfl, hnext HBOX.out hb1⟩
  rw [hr] at hR
  obtain ⟨z1, z2, z3, z4⟩ := hhd.out hr
  have HCOL := hid (hcol.out hr)
  have HALL := hid (hall.out hr)
  clear hhd hcol hall hno hr
  unfold sv at hR ⊢
  obtain ⟨nm, cs, ks⟩ := s
  simp only at hR HC hc1 HBOX HS0 z1 z2 z3 z4 HCOL HALL hnx h0 ⊢
  obtain ⟨kn, rfl⟩ : ∃ kn : Nat, ks = (kn : Int) := ⟨ks.toNat, by omega⟩
  rw [Int.toNat_natCast] at h0
  have hA := text_small nm z1
  have hK := enc_small kn
  have hN := enc_small cs.length
  have CA := hid (fun W => textR_any nm (by omega) W)
  have CK := hid (fun W => uintR_exact kn (by omega) W)
  have CN := hid (fun W => uintR_exact cs.length (by omega) W)
  generalize bstr (Cd.text nm) = A at CA hA h0
  generalize bstr (Cd.enc kn) = K at CK hK h0
  generalize bstr (Cd.enc cs.length) = N at CN hN h0
  have hcvk : IntKind.u64.wrap (kn : Int) = (kn : Int) := by rw [IntKind.wrap_u64]; omega
  have hcvn : IntKind.u64.wrap (cs.length : Int) = (cs.length : Int) := by rw [IntKind.wrap_u64]; omega
  have hx1 : ¬ 9223372036854775807 < A.size + K.size := by omega
  have hx2 : ¬ 9223372036854775807 < A.size + K.size + N.size := by omega
  have hT0 : (A ++ K ++ N).size ≤ 62 := by rw [ByteArray.size_append, ByteArray.size_append]; omega
  have HT0 := hid hT0
  have Z4 := hid z4
  clear z1 z2 z3 z4 hA hK hN hT0
  go_enter Try.func42, Try.ntmps42
  go_wp2_with fail
  refine (hR.out).mono ?_; rintro e w1 ⟨rfl, hb1⟩
  have hS1 := HS0.out.keep hb1
  have hB1 := hid (hnext HBOX.out hb1)
  clear hb1 HS0 HBOX hR
  obtain ⟨s0, s1, s2, sl⟩ := hS1.cells
  go_wp2_with fail
  obtain ⟨w20, hw20⟩ : ∃ w20, (w1).drew = w20 := ⟨_, rfl⟩
  have hd20 : Below (w1).heap.size (w1) w20 := hw20 ▸ (Below.refl _ _).drew
  have mk20 : ∀ W, Below w20.heap.size w20 W → Below w20.heap.size w20 W ∧ W.cell? ⟨w.heap.size, 0, none⟩ = some (.string nm) ∧ W.cell? ⟨w.heap.size, 1, none⟩ = some (.slice adr cs.length cap) ∧ W.cell? ⟨w.heap.size, 2, none⟩ = some (.int .i64 (kn : Int)) := fun W h => ⟨h, hkeep (hkeep s0 hd20) h, hkeep (hkeep s1 hd20) h, hkeep (hkeep s2 hd20) h⟩
  have HS20 := hid (hS1.keep hd20)
  have HB20 := hid (hnext hB1.out hd20)
  clear s0 s1 s2 sl hS1 hB1 hd20
  refine wp_region_held_drew (S := (fun W => Below w20.heap.size w20 W ∧ W.cell? ⟨w.heap.size, 0, none⟩ = some (.string nm) ∧ W.cell? ⟨w.heap.size, 1, none⟩ = some (.slice adr cs.length cap) ∧ W.cell? ⟨w.heap.size, 2, none⟩ = some (.int .i64 (kn : Int)))) (by kernel_rfl) (by rw [hw20]; exact mk20 _ (Below.refl _ _)) (fun hS20 => ?_)
  rw [hw20] at hS20 ⊢
  clear hw20
  refine wpAnyH_take (i := 0) (oi := ({ dst := some 10, op := Op.fieldAddr 30 (Operand.tmp 1) 0, type := 0, pos := "ref.go:120", after := #[], guard := none } : Oper)) (v := ?_) rfl (by kernel_rfl) (by kernel_rfl) (by kernel_rfl) (fun _ _ _ h => h) (Or.inl ⟨by rfl, ?_⟩) hS20 ?_
  rotate_left
  · intro w hSw; (try dsimp only at hSw); go_simp; (try with_reducible rfl)
  simp only [Act.put, List.setIfInBounds_toArray, List.set_cons_zero, List.set_cons_succ]
  refine wpAnyH_take (i := 1) (oi := ({ dst := some 11, op := Op.load 9 (Operand.tmp 10), type := 9, pos := "ref.go:120", after := #[{ on := 0, ground := Ground.data }], guard := none } : Oper)) (v := ?_) rfl (by kernel_rfl) (by kernel_rfl) (by kernel_rfl) (fun _ _ _ h => h) (Or.inl ⟨by rfl, ?_⟩) hS20 ?_
  rotate_left
  · intro w hSw; (try dsimp only at hSw); go_simp; (try with_reducible rfl)
  simp only [Act.put, List.setIfInBounds_toArray, List.set_cons_zero, List.set_cons_succ]
  refine wpAnyH_take (i := 3) (oi := ({ dst := some 13, op := Op.fieldAddr 30 (Operand.tmp 1) 2, type := 0, pos := "ref.go:120", after := #[], guard := none } : Oper)) (v := ?_) rfl (by kernel_rfl) (by kernel_rfl) (by kernel_rfl) (fun _ _ _ h => h) (Or.inl ⟨by rfl, ?_⟩) hS20 ?_
  rotate_left
  · intro w hSw; (try dsimp only at hSw); go_simp; (try with_reducible rfl)
  simp only [Act.put, List.setIfInBounds_toArray, List.set_cons_zero, List.set_cons_succ]
  refine wpAnyH_take (i := 4) (oi := ({ dst := some 14, op := Op.load 3 (Operand.tmp 13), type := 3, pos := "ref.go:120", after := #[{ on := 3, ground := Ground.data }], guard := none } : Oper)) (v := ?_) rfl (by kernel_rfl) (by kernel_rfl) (by kernel_rfl) (fun _ _ _ h => h) (Or.inl ⟨by rfl, ?_⟩) hS20 ?_
  rotate_left
  · intro w hSw; (try dsimp only at hSw); go_simp; (try with_reducible rfl)
  simp only [Act.put, List.setIfInBounds_toArray, List.set_cons_zero, List.set_cons_succ]
  refine wpAnyH_take (i := 5) (oi := ({ dst := some 15, op := Op.convert 3 57 (Operand.tmp 14), type := 57, pos := "ref.go:120", after := #[{ on := 4, ground := Ground.data }], guard := none } : Oper)) (v := ?_) rfl (by kernel_rfl) (by kernel_rfl) (by kernel_rfl) (fun _ _ _ h => h) (Or.inl ⟨by rfl, ?_⟩) hS20 ?_
  rotate_left
  · intro w hSw; (try dsimp only at hSw); go_simp; (try with_reducible rfl)
  simp only [Act.put, List.setIfInBounds_toArray, List.set_cons_zero, List.set_cons_succ]
  refine wpAnyH_take (i := 8) (oi := ({ dst := some 18, op := Op.fieldAddr 30 (Operand.tmp 1) 1, type := 0, pos := "ref.go:120", after := #[], guard := none } : Oper)) (v := ?_) rfl (by kernel_rfl) (by kernel_rfl) (by kernel_rfl) (fun _ _ _ h => h) (Or.inl ⟨by rfl, ?_⟩) hS20 ?_
  rotate_left
  · intro w hSw; (try dsimp only at hSw); go_simp; (try with_reducible rfl)
  simp only [Act.put, List.setIfInBounds_toArray, List.set_cons_zero, List.set_cons_succ]
  refine wpAnyH_take (i := 9) (oi := ({ dst := some 19, op := Op.load 28 (Operand.tmp 18), type := 28, pos := "ref.go:120", after := #[{ on := 8, ground := Ground.data }], guard := none } : Oper)) (v := ?_) rfl (by kernel_rfl) (by kernel_rfl) (by kernel_rfl) (fun _ _ _ h => h) (Or.inl ⟨by rfl, ?_⟩) hS20 ?_
  rotate_left
  · intro w hSw; (try dsimp only at hSw); go_simp; (try with_reducible rfl)
  simp only [Act.put, List.setIfInBounds_toArray, List.set_cons_zero, List.set_cons_succ]
  refine wpAnyH_take (i := 10) (oi := ({ dst := some 20, op := Op.call { callee := Callee.builtin Builtin.len, args := #[Operand.tmp 19], argTypes := #[28] }, type := 3, pos := "ref.go:120", after := #[{ on := 9, ground := Ground.data }], guard := none } : Oper)) (v := ?_) rfl (by kernel_rfl) (by kernel_rfl) (by kernel_rfl) (fun _ _ _ h => h) (Or.inl ⟨by rfl, ?_⟩) hS20 ?_
  rotate_left
  · intro w hSw; (try dsimp only at hSw); go_simp; (try with_reducible rfl)
  simp only [Act.put, List.setIfInBounds_toArray, List.set_cons_zero, List.set_cons_succ]
  refine wpAnyH_take (i := 11) (oi := ({ dst := some 21, op := Op.convert 3 57 (Operand.tmp 20), type := 57, pos := "ref.go:120", after := #[{ on := 10, ground := Ground.data }], guard := none } : Oper)) (v := ?_) rfl (by kernel_rfl) (by kernel_rfl) (by kernel_rfl) (fun _ _ _ h => h) (Or.inl ⟨by rfl, ?_⟩) hS20 ?_
  rotate_left
  · intro w hSw; (try dsimp only at hSw); go_simp; (try with_reducible rfl)
  simp only [Act.put, List.setIfInBounds_toArray, List.set_cons_zero, List.set_cons_succ]
  refine wpAnyH_ready (rs := [2]) (by kernel_rfl) (by simp) ?_
  refine AllReadyH.cons (o := ({ dst := some 12, op := Op.call { callee := Callee.value (Operand.func 41), args := #[Operand.tmp 11], argTypes := #[9] }, type := 9, pos := "ref.go:120", after := #[{ on := 1, ground := Ground.data }], guard := none } : Oper)) rfl (fun K hK => ?_) AllReadyH.nil
  go_simp
  refine (CA.out _).mono ?_; rintro e w21 ⟨rfl, hb21⟩
  go_wp2_with fail
  refine hK.out _ _ (mk20 _ (hnext hS20.1 hb21)) (fun hS21 => ?_)
  clear hK K
  (try simp only [Act.put, List.setIfInBounds_toArray, List.set_cons_zero, List.set_cons_succ])
  clear hb21 hS20
  refine wpAnyH_ready (rs := [6]) (by kernel_rfl) (by simp) ?_
  refine AllReadyH.cons (o := ({ dst := some 16, op := Op.call { callee := Callee.value (Operand.func 40), args := #[Operand.tmp 15], argTypes := #[57] }, type := 9, pos := "ref.go:120", after := #[{ on := 5, ground := Ground.data }, { on := 2, ground := Ground.chain }], guard := none } : Oper)) rfl (fun K hK => ?_) AllReadyH.nil
  go_simp
  refine (CK.out _).mono ?_; rintro e w22 ⟨rfl, hb22⟩
  go_wp2_with fail
  refine hK.out _ _ (mk20 _ (hnext hS21.1 hb22)) (fun hS22 => ?_)
  clear hK K
  (try simp only [Act.put, List.setIfInBounds_toArray, List.set_cons_zero, List.set_cons_succ])
  clear hb22 hS21
  refine wpAnyH_take (i := 7) (oi := ({ dst := some 17, op := Op.binOp BinOp.add 9 (Operand.tmp 12) (Operand.tmp 16) 9, type := 9, pos := "ref.go:120", after := #[{ on := 2, ground := Ground.data }, { on := 6, ground := Ground.data }], guard := none } : Oper)) (v := ?_) rfl (by kernel_rfl) (by kernel_rfl) (by kernel_rfl) (fun _ _ _ h => h) (Or.inl ⟨by rfl, ?_⟩) hS22 ?_
  rotate_left
  · intro w hSw; (try dsimp only at hSw); go_simp; (try with_reducible rfl)
  simp only [Act.put, List.setIfInBounds_toArray, List.set_cons_zero, List.set_cons_succ]
  refine wpAnyH_ready (rs := [12]) (by kernel_rfl) (by simp) ?_
  refine AllReadyH.cons (o := ({ dst := some 22, op := Op.call { callee := Callee.value (Operand.func 40), args := #[Operand.tmp 21], argTypes := #[57] }, type := 9, pos := "ref.go:120", after := #[{ on := 11, ground := Ground.data }, { on := 6, ground := Ground.chain }], guard := none } : Oper)) rfl (fun K hK => ?_) AllReadyH.nil
  go_simp
  refine (CN.out _).mono ?_; rintro e w23 ⟨rfl, hb23⟩
  go_wp2_with fail
  refine hK.out _ _ (mk20 _ (hnext hS22.1 hb23)) (fun hS23 => ?_)
  clear hK K
  (try simp only [Act.put, List.setIfInBounds_toArray, List.set_cons_zero, List.set_cons_succ])
  clear hb23 hS22
  refine wpAnyH_take (i := 13) (oi := ({ dst := some 23, op := Op.binOp BinOp.add 9 (Operand.tmp 17) (Operand.tmp 22) 9, type := 9, pos := "ref.go:120", after := #[{ on := 7, ground := Ground.data }, { on := 12, ground := Ground.data }], guard := none } : Oper)) (v := ?_) rfl (by kernel_rfl) (by kernel_rfl) (by kernel_rfl) (fun _ _ _ h => h) (Or.inl ⟨by rfl, ?_⟩) hS23 ?_
  rotate_left
  · intro w hSw; (try dsimp only at hSw); go_simp; (try with_reducible rfl)
  simp only [Act.put, List.setIfInBounds_toArray, List.set_cons_zero, List.set_cons_succ]
  refine wpAnyH_take (i := 14) (oi := ({ dst := some 3, op := Op.assign (Operand.tmp 23), type := 9, pos := "ref.go:120", after := #[{ on := 13, ground := Ground.data }, { on := 12, ground := Ground.chain }, { on := 0, ground := Ground.phase }, { on := 1, ground := Ground.phase }, { on := 2, ground := Ground.phase }, { on := 3, ground := Ground.phase }, { on := 4, ground := Ground.phase }, { on := 5, ground := Ground.phase }, { on := 6, ground := Ground.phase }, { on := 7, ground := Ground.phase }, { on := 8, ground := Ground.phase }, { on := 9, ground := Ground.phase }, { on := 10, ground := Ground.phase }, { on := 11, ground := Ground.phase }, { on := 12, ground := Ground.phase }, { on := 13, ground := Ground.phase }], guard := none } : Oper)) (v := ?_) rfl (by kernel_rfl) (by kernel_rfl) (by kernel_rfl) (fun _ _ _ h => h) (Or.inl ⟨by rfl, ?_⟩) hS23 ?_
  rotate_left
  · intro w hSw; (try dsimp only at hSw); go_simp; (try with_reducible rfl)
  simp only [Act.put, List.setIfInBounds_toArray, List.set_cons_zero, List.set_cons_succ]
  refine wpAnyH_done (by kernel_rfl) ?_ _
  have hS1 := HS20.out.keep hS23.1
  have HL1 := hid (hnext HB20.out hS23.1)
  obtain ⟨s0, s1, s2, sl⟩ := hS1.cells
  clear mk20
  clear CA CK CN hcvk hcvn hx1 hx2 HS20 HB20
  go_wp2_with fail
  clear s0 s1 s2 sl
  generalize A ++ K ++ N = T0 at h0 HT0
  go_loopw [3, 4] (fun b q wr => ∃ (k : Nat) (t : ByteArray), k ≤ cs.length ∧ q = .int .i64 (k : Int) ∧ b = .string t ∧ Hid (t = bstr (Sc.encTo ⟨nm, cs, (kn : Int)⟩ k)) ∧ t.size ≤ 62 + 62 * k ∧ BS wr w.heap.size nm (.slice adr cs.length cap) (kn : Int) ∧ Hid (Below w.heap.size w wr)) (fun _ q _ => cs.length - (intOf q).toNat)
  case atStart => exact ⟨0, T0, by omega, rfl, rfl, h0, by have := HT0.out; omega, hS1, HL1⟩
  case round =>
    obtain ⟨k, t, hk, rfl, rfl, ht, hts, hS, hL⟩ := hrel
    clear hS1 HL1 h0 HT0
    obtain ⟨w4, rfl⟩ : ∃ w4 : World, w4 = wr := ⟨_, rfl⟩
    have hk0 : (0 : Int) ≤ (k : Int) := by omega
    obtain ⟨s0, s1, s2, sl⟩ := hS.cells
    by_cases hlk : k < cs.length
    · have hlk' : (k : Int) < (cs.length : Int) := by omega
      obtain ⟨g, off, rfl, q0, q1, q2⟩ := HC.out k hlk
      replace q0 := hkeep q0 hL.out
      replace q1 := hkeep q1 hL.out
      replace q2 := hkeep q2 hL.out
      obtain ⟨y1, y2, y3⟩ := HCOL.out k hlk
      have HNX := hid (hnx.out k hlk)
      have hk16 : k < 16 := by have := Z4.out; omega
      generalize cs[k] = c at q0 q1 q2 y1 y2 y3 HNX
      have hba4 := hba w4 (.cells #[.string c.name, .int .i64 c.kind, .bool c.need] 88)
      have hC5 := BC.new w4 c
      have hS5 := hS.keep hba4
      have HL5 := hid (hnext hL.out hba4)
      clear hba4 hS hL
      obtain ⟨cn, ck, cd⟩ := c
      simp only at q0 q1 q2 y1 y2 y3 HNX hC5 hS5 HL5
      obtain ⟨kk, rfl⟩ : ∃ kk : Nat, ck = (kk : Int) := ⟨ck.toNat, by omega⟩
      cases cd
      · skip
        have CA := hid (fun W => textR_any cn (by omega) W)
        have CK := hid (fun W => uintR_exact kk (by omega) W)
        have CN := hid (fun W => uintR_exact 0 (by omega) W)
        rw [show ((0 : Nat) : Int) = 0 from rfl] at CN
        have hA := text_small cn y1
        have hK := enc_small kk
        have hN := enc_small 0
        have HQ : Hid (t ++ bstr (Cd.text cn) ++ bstr (Cd.enc kk) ++ bstr (Cd.enc 0) = bstr (Sc.encTo ⟨nm, cs, (kn : Int)⟩ (k + 1))) := by
          show _ = _
          rw [HNX.out, ht.out]
          unfold Sc.colB
          simp only [bstr_append, List.append_assoc, Int.toNat_natCast, Bool.false_eq_true, if_false]
        generalize bstr (Cd.text cn) = A at CA hA HQ
        generalize bstr (Cd.enc kk) = K at CK hK HQ
        generalize bstr (Cd.enc 0) = N at CN hN HQ
        have hcvk : IntKind.u64.wrap (kk : Int) = (kk : Int) := by rw [IntKind.wrap_u64]; omega
        have hx0 : ¬ 9223372036854775807 < t.size + A.size := by omega
        have hx1 : ¬ 9223372036854775807 < t.size + A.size + K.size := by omega
        have hx2 : ¬ 9223372036854775807 < t.size + A.size + K.size + N.size := by omega
        have HQS := hid (show (t ++ A ++ K ++ N).size ≤ 62 + 62 * (k + 1) by simp only [ByteArray.size_append]; omega)
        clear hA hK hN y1 y2 y3 HNX ht
        go_wp2_with fail
        obtain ⟨cb, hcb⟩ : ∃ cb, w4.heap.size = cb := ⟨_, rfl⟩
        rw [hcb] at hC5
        rw [hcb]
        generalize w4.alloc (.cells #[.string cn, .int .i64 (kk : Int), .bool false] 88) = w5 at *
        clear hcb q0 q1 q2 s0 s1 s2 sl
        obtain ⟨t0, t1, t2, tl⟩ := hC5.cells
        obtain ⟨w30, hw30⟩ : ∃ w30, (w5).drew = w30 := ⟨_, rfl⟩
        have hd30 : Below (w5).heap.size (w5) w30 := hw30 ▸ (Below.refl _ _).drew
        have mk30 : ∀ W, Below w30.heap.size w30 W → Below w30.heap.size w30 W ∧ W.cell? ⟨cb, 0, none⟩ = some (.string cn) ∧ W.cell? ⟨cb, 1, none⟩ = some (.int .i64 (kk : Int)) ∧ W.cell? ⟨cb, 2, none⟩ = some (.bool false) := fun W h => ⟨h, hkeep (hkeep t0 hd30) h, hkeep (hkeep t1 hd30) h, hkeep (hkeep t2 hd30) h⟩
        have HS30 := hid (hS5.keep hd30)
        have HB30 := hid (hnext HL5.out hd30)
        clear t0 t1 t2 tl hS5 HL5 hC5 hd30
        refine wp_region_held_drew (S := (fun W => Below w30.heap.size w30 W ∧ W.cell? ⟨cb, 0, none⟩ = some (.string cn) ∧ W.cell? ⟨cb, 1, none⟩ = some (.int .i64 (kk : Int)) ∧ W.cell? ⟨cb, 2, none⟩ = some (.bool false))) (by kernel_rfl) (by rw [hw30]; exact mk30 _ (Below.refl _ _)) (fun hS30 => ?_)
        rw [hw30] at hS30 ⊢
        clear hw30
        refine wpAnyH_take (i := 0) (oi := ({ dst := some 38, op := Op.move (Operand.tmp 3), type := 9, pos := "ref.go:127", after := #[], guard := none } : Oper)) (v := ?_) rfl (by kernel_rfl) (by kernel_rfl) (by kernel_rfl) (fun _ _ _ h => h) (Or.inl ⟨by rfl, ?_⟩) hS30 ?_
        rotate_left
        · intro w hSw; (try dsimp only at hSw); go_simp; (try with_reducible rfl)
        simp only [Act.put, List.setIfInBounds_toArray, List.set_cons_zero, List.set_cons_succ]
        refine wpAnyH_take (i := 1) (oi := ({ dst := some 39, op := Op.fieldAddr 88 (Operand.tmp 5) 0, type := 0, pos := "ref.go:127", after := #[], guard := none } : Oper)) (v := ?_) rfl (by kernel_rfl) (by kernel_rfl) (by kernel_rfl) (fun _ _ _ h => h) (Or.inl ⟨by rfl, ?_⟩) hS30 ?_
        rotate_left
        · intro w hSw; (try dsimp only at hSw); go_simp; (try with_reducible rfl)
        simp only [Act.put, List.setIfInBounds_toArray, List.set_cons_zero, List.set_cons_succ]
        refine wpAnyH_take (i := 2) (oi := ({ dst := some 40, op := Op.load 9 (Operand.tmp 39), type := 9, pos := "ref.go:127", after := #[{ on := 1, ground := Ground.data }], guard := none } : Oper)) (v := ?_) rfl (by kernel_rfl) (by kernel_rfl) (by kernel_rfl) (fun _ _ _ h => h) (Or.inl ⟨by rfl, ?_⟩) hS30 ?_
        rotate_left
        · intro w hSw; (try dsimp only at hSw); go_simp; (try with_reducible rfl)
        simp only [Act.put, List.setIfInBounds_toArray, List.set_cons_zero, List.set_cons_succ]
        refine wpAnyH_take (i := 5) (oi := ({ dst := some 43, op := Op.fieldAddr 88 (Operand.tmp 5) 1, type := 0, pos := "ref.go:127", after := #[], guard := none } : Oper)) (v := ?_) rfl (by kernel_rfl) (by kernel_rfl) (by kernel_rfl) (fun _ _ _ h => h) (Or.inl ⟨by rfl, ?_⟩) hS30 ?_
        rotate_left
        · intro w hSw; (try dsimp only at hSw); go_simp; (try with_reducible rfl)
        simp only [Act.put, List.setIfInBounds_toArray, List.set_cons_zero, List.set_cons_succ]
        refine wpAnyH_take (i := 6) (oi := ({ dst := some 44, op := Op.load 3 (Operand.tmp 43), type := 3, pos := "ref.go:127", after := #[{ on := 5, ground := Ground.data }], guard := none } : Oper)) (v := ?_) rfl (by kernel_rfl) (by kernel_rfl) (by kernel_rfl) (fun _ _ _ h => h) (Or.inl ⟨by rfl, ?_⟩) hS30 ?_
        rotate_left
        · intro w hSw; (try dsimp only at hSw); go_simp; (try with_reducible rfl)
        simp only [Act.put, List.setIfInBounds_toArray, List.set_cons_zero, List.set_cons_succ]
        refine wpAnyH_take (i := 7) (oi := ({ dst := some 45, op := Op.convert 3 57 (Operand.tmp 44), type := 57, pos := "ref.go:127", after := #[{ on := 6, ground := Ground.data }], guard := none } : Oper)) (v := ?_) rfl (by kernel_rfl) (by kernel_rfl) (by kernel_rfl) (fun _ _ _ h => h) (Or.inl ⟨by rfl, ?_⟩) hS30 ?_
        rotate_left
        · intro w hSw; (try dsimp only at hSw); go_simp; (try with_reducible rfl)
        simp only [Act.put, List.setIfInBounds_toArray, List.set_cons_zero, List.set_cons_succ]
        refine wpAnyH_take (i := 10) (oi := ({ dst := some 48, op := Op.move (Operand.tmp 6), type := 57, pos := "ref.go:127", after := #[], guard := none } : Oper)) (v := ?_) rfl (by kernel_rfl) (by kernel_rfl) (by kernel_rfl) (fun _ _ _ h => h) (Or.inl ⟨by rfl, ?_⟩) hS30 ?_
        rotate_left
        · intro w hSw; (try dsimp only at hSw); go_simp; (try with_reducible rfl)
        simp only [Act.put, List.setIfInBounds_toArray, List.set_cons_zero, List.set_cons_succ]
        refine wpAnyH_ready (rs := [3]) (by kernel_rfl) (by simp) ?_
        refine AllReadyH.cons (o := ({ dst := some 41, op := Op.call { callee := Callee.value (Operand.func 41), args := #[Operand.tmp 40], argTypes := #[9] }, type := 9, pos := "ref.go:127", after := #[{ on := 2, ground := Ground.data }], guard := none } : Oper)) rfl (fun K hK => ?_) AllReadyH.nil
        go_simp
        refine (CA.out _).mono ?_; rintro e w31 ⟨rfl, hb31⟩
        go_wp2_with fail
        refine hK.out _ _ (mk30 _ (hnext hS30.1 hb31)) (fun hS31 => ?_)
        clear hK K
        (try simp only [Act.put, List.setIfInBounds_toArray, List.set_cons_zero, List.set_cons_succ])
        clear hb31 hS30
        refine wpAnyH_take (i := 4) (oi := ({ dst := some 42, op := Op.binOp BinOp.add 9 (Operand.tmp 38) (Operand.tmp 41) 9, type := 9, pos := "ref.go:127", after := #[{ on := 0, ground := Ground.data }, { on := 3, ground := Ground.data }], guard := none } : Oper)) (v := ?_) rfl (by kernel_rfl) (by kernel_rfl) (by kernel_rfl) (fun _ _ _ h => h) (Or.inl ⟨by rfl, ?_⟩) hS31 ?_
        rotate_left
        · intro w hSw; (try dsimp only at hSw); go_simp; (try with_reducible rfl)
        simp only [Act.put, List.setIfInBounds_toArray, List.set_cons_zero, List.set_cons_succ]
        refine wpAnyH_ready (rs := [8]) (by kernel_rfl) (by simp) ?_
        refine AllReadyH.cons (o := ({ dst := some 46, op := Op.call { callee := Callee.value (Operand.func 40), args := #[Operand.tmp 45], argTypes := #[57] }, type := 9, pos := "ref.go:127", after := #[{ on := 7, ground := Ground.data }, { on := 3, ground := Ground.chain }], guard := none } : Oper)) rfl (fun K hK => ?_) AllReadyH.nil
        go_simp
        refine (CK.out _).mono ?_; rintro e w32 ⟨rfl, hb32⟩
        go_wp2_with fail
        refine hK.out _ _ (mk30 _ (hnext hS31.1 hb32)) (fun hS32 => ?_)
        clear hK K
        (try simp only [Act.put, List.setIfInBounds_toArray, List.set_cons_zero, List.set_cons_succ])
        clear hb32 hS31
        refine wpAnyH_take (i := 9) (oi := ({ dst := some 47, op := Op.binOp BinOp.add 9 (Operand.tmp 42) (Operand.tmp 46) 9, type := 9, pos := "ref.go:127", after := #[{ on := 4, ground := Ground.data }, { on := 8, ground := Ground.data }], guard := none } : Oper)) (v := ?_) rfl (by kernel_rfl) (by kernel_rfl) (by kernel_rfl) (fun _ _ _ h => h) (Or.inl ⟨by rfl, ?_⟩) hS32 ?_
        rotate_left
        · intro w hSw; (try dsimp only at hSw); go_simp; (try with_reducible rfl)
        simp only [Act.put, List.setIfInBounds_toArray, List.set_cons_zero, List.set_cons_succ]
        refine wpAnyH_ready (rs := [11]) (by kernel_rfl) (by simp) ?_
        refine AllReadyH.cons (o := ({ dst := some 49, op := Op.call { callee := Callee.value (Operand.func 40), args := #[Operand.tmp 48], argTypes := #[57] }, type := 9, pos := "ref.go:127", after := #[{ on := 10, ground := Ground.data }, { on := 8, ground := Ground.chain }], guard := none } : Oper)) rfl (fun K hK => ?_) AllReadyH.nil
        go_simp
        refine (CN.out _).mono ?_; rintro e w33 ⟨rfl, hb33⟩
        go_wp2_with fail
        refine hK.out _ _ (mk30 _ (hnext hS32.1 hb33)) (fun hS33 => ?_)
        clear hK K
        (try simp only [Act.put, List.setIfInBounds_toArray, List.set_cons_zero, List.set_cons_succ])
        clear hb33 hS32
        refine wpAnyH_take (i := 12) (oi := ({ dst := some 50, op := Op.binOp BinOp.add 9 (Operand.tmp 47) (Operand.tmp 49) 9, type := 9, pos := "ref.go:127", after := #[{ on := 9, ground := Ground.data }, { on := 11, ground := Ground.data }], guard := none } : Oper)) (v := ?_) rfl (by kernel_rfl) (by kernel_rfl) (by kernel_rfl) (fun _ _ _ h => h) (Or.inl ⟨by rfl, ?_⟩) hS33 ?_
        rotate_left
        · intro w hSw; (try dsimp only at hSw); go_simp; (try with_reducible rfl)
        simp only [Act.put, List.setIfInBounds_toArray, List.set_cons_zero, List.set_cons_succ]
        refine wpAnyH_take (i := 13) (oi := ({ dst := some 3, op := Op.assign (Operand.tmp 50), type := 9, pos := "ref.go:127", after := #[{ on := 12, ground := Ground.data }, { on := 11, ground := Ground.chain }, { on := 0, ground := Ground.phase }, { on := 1, ground := Ground.phase }, { on := 2, ground := Ground.phase }, { on := 3, ground := Ground.phase }, { on := 4, ground := Ground.phase }, { on := 5, ground := Ground.phase }, { on := 6, ground := Ground.phase }, { on := 7, ground := Ground.phase }, { on := 8, ground := Ground.phase }, { on := 9, ground := Ground.phase }, { on := 10, ground := Ground.phase }, { on := 11, ground := Ground.phase }, { on := 12, ground := Ground.phase }], guard := none } : Oper)) (v := ?_) rfl (by kernel_rfl) (by kernel_rfl) (by kernel_rfl) (fun _ _ _ h => h) (Or.inl ⟨by rfl, ?_⟩) hS33 ?_
        rotate_left
        · intro w hSw; (try dsimp only at hSw); go_simp; (try with_reducible rfl)
        simp only [Act.put, List.setIfInBounds_toArray, List.set_cons_zero, List.set_cons_succ]
        refine wpAnyH_done (by kernel_rfl) ?_ _
        have hS6 := HS30.out.keep hS33.1
        have HL6 := hid (hnext HB30.out hS33.1)
        go_wp2_with fail
        go_roundw
        case rel => exact ⟨k + 1, _, by omega, by go_num, rfl, HQ, HQS.out, hS6, HL6⟩
        case measure => simp [intOf]; omega
      · skip
        have CA := hid (fun W => textR_any cn (by omega) W)
        have CK := hid (fun W => uintR_exact kk (by omega) W)
        have CN := hid (fun W => uintR_exact 1 (by omega) W)
        rw [show ((1 : Nat) : Int) = 1 from rfl] at CN
        have hA := text_small cn y1
        have hK := enc_small kk
        have hN := enc_small 1
        have HQ : Hid (t ++ bstr (Cd.text cn) ++ bstr (Cd.enc kk) ++ bstr (Cd.enc 1) = bstr (Sc.encTo ⟨nm, cs, (kn : Int)⟩ (k + 1))) := by
          show _ = _
          rw [HNX.out, ht.out]
          unfold Sc.colB
          simp only [bstr_append, List.append_assoc, Int.toNat_natCast, if_true]
        generalize bstr (Cd.text cn) = A at CA hA HQ
        generalize bstr (Cd.enc kk) = K at CK hK HQ
        generalize bstr (Cd.enc 1) = N at CN hN HQ
        have hcvk : IntKind.u64.wrap (kk : Int) = (kk : Int) := by rw [IntKind.wrap_u64]; omega
        have hx0 : ¬ 9223372036854775807 < t.size + A.size := by omega
        have hx1 : ¬ 9223372036854775807 < t.size + A.size + K.size := by omega
        have hx2 : ¬ 9223372036854775807 < t.size + A.size + K.size + N.size := by omega
        have HQS := hid (show (t ++ A ++ K ++ N).size ≤ 62 + 62 * (k + 1) by simp only [ByteArray.size_append]; omega)
        clear hA hK hN y1 y2 y3 HNX ht
        go_wp2_with fail
        obtain ⟨cb, hcb⟩ : ∃ cb, w4.heap.size = cb := ⟨_, rfl⟩
        rw [hcb] at hC5
        rw [hcb]
        generalize w4.alloc (.cells #[.string cn, .int .i64 (kk : Int), .bool true] 88) = w5 at *
        clear hcb q0 q1 q2 s0 s1 s2 sl
        obtain ⟨t0, t1, t2, tl⟩ := hC5.cells
        obtain ⟨w30, hw30⟩ : ∃ w30, (w5).drew = w30 := ⟨_, rfl⟩
        have hd30 : Below (w5).heap.size (w5) w30 := hw30 ▸ (Below.refl _ _).drew
        have mk30 : ∀ W, Below w30.heap.size w30 W → Below w30.heap.size w30 W ∧ W.cell? ⟨cb, 0, none⟩ = some (.string cn) ∧ W.cell? ⟨cb, 1, none⟩ = some (.int .i64 (kk : Int)) ∧ W.cell? ⟨cb, 2, none⟩ = some (.bool true) := fun W h => ⟨h, hkeep (hkeep t0 hd30) h, hkeep (hkeep t1 hd30) h, hkeep (hkeep t2 hd30) h⟩
        have HS30 := hid (hS5.keep hd30)
        have HB30 := hid (hnext HL5.out hd30)
        clear t0 t1 t2 tl hS5 HL5 hC5 hd30
        refine wp_region_held_drew (S := (fun W => Below w30.heap.size w30 W ∧ W.cell? ⟨cb, 0, none⟩ = some (.string cn) ∧ W.cell? ⟨cb, 1, none⟩ = some (.int .i64 (kk : Int)) ∧ W.cell? ⟨cb, 2, none⟩ = some (.bool true))) (by kernel_rfl) (by rw [hw30]; exact mk30 _ (Below.refl _ _)) (fun hS30 => ?_)
        rw [hw30] at hS30 ⊢
        clear hw30
        refine wpAnyH_take (i := 0) (oi := ({ dst := some 38, op := Op.move (Operand.tmp 3), type := 9, pos := "ref.go:127", after := #[], guard := none } : Oper)) (v := ?_) rfl (by kernel_rfl) (by kernel_rfl) (by kernel_rfl) (fun _ _ _ h => h) (Or.inl ⟨by rfl, ?_⟩) hS30 ?_
        rotate_left
        · intro w hSw; (try dsimp only at hSw); go_simp; (try with_reducible rfl)
        simp only [Act.put, List.setIfInBounds_toArray, List.set_cons_zero, List.set_cons_succ]
        refine wpAnyH_take (i := 1) (oi := ({ dst := some 39, op := Op.fieldAddr 88 (Operand.tmp 5) 0, type := 0, pos := "ref.go:127", after := #[], guard := none } : Oper)) (v := ?_) rfl (by kernel_rfl) (by kernel_rfl) (by kernel_rfl) (fun _ _ _ h => h) (Or.inl ⟨by rfl, ?_⟩) hS30 ?_
        rotate_left
        · intro w hSw; (try dsimp only at hSw); go_simp; (try with_reducible rfl)
        simp only [Act.put, List.setIfInBounds_toArray, List.set_cons_zero, List.set_cons_succ]
        refine wpAnyH_take (i := 2) (oi := ({ dst := some 40, op := Op.load 9 (Operand.tmp 39), type := 9, pos := "ref.go:127", after := #[{ on := 1, ground := Ground.data }], guard := none } : Oper)) (v := ?_) rfl (by kernel_rfl) (by kernel_rfl) (by kernel_rfl) (fun _ _ _ h => h) (Or.inl ⟨by rfl, ?_⟩) hS30 ?_
        rotate_left
        · intro w hSw; (try dsimp only at hSw); go_simp; (try with_reducible rfl)
        simp only [Act.put, List.setIfInBounds_toArray, List.set_cons_zero, List.set_cons_succ]
        refine wpAnyH_take (i := 5) (oi := ({ dst := some 43, op := Op.fieldAddr 88 (Operand.tmp 5) 1, type := 0, pos := "ref.go:127", after := #[], guard := none } : Oper)) (v := ?_) rfl (by kernel_rfl) (by kernel_rfl) (by kernel_rfl) (fun _ _ _ h => h) (Or.inl ⟨by rfl, ?_⟩) hS30 ?_
        rotate_left
        · intro w hSw; (try dsimp only at hSw); go_simp; (try with_reducible rfl)
        simp only [Act.put, List.setIfInBounds_toArray, List.set_cons_zero, List.set_cons_succ]
        refine wpAnyH_take (i := 6) (oi := ({ dst := some 44, op := Op.load 3 (Operand.tmp 43), type := 3, pos := "ref.go:127", after := #[{ on := 5, ground := Ground.data }], guard := none } : Oper)) (v := ?_) rfl (by kernel_rfl) (by kernel_rfl) (by kernel_rfl) (fun _ _ _ h => h) (Or.inl ⟨by rfl, ?_⟩) hS30 ?_
        rotate_left
        · intro w hSw; (try dsimp only at hSw); go_simp; (try with_reducible rfl)
        simp only [Act.put, List.setIfInBounds_toArray, List.set_cons_zero, List.set_cons_succ]
        refine wpAnyH_take (i := 7) (oi := ({ dst := some 45, op := Op.convert 3 57 (Operand.tmp 44), type := 57, pos := "ref.go:127", after := #[{ on := 6, ground := Ground.data }], guard := none } : Oper)) (v := ?_) rfl (by kernel_rfl) (by kernel_rfl) (by kernel_rfl) (fun _ _ _ h => h) (Or.inl ⟨by rfl, ?_⟩) hS30 ?_
        rotate_left
        · intro w hSw; (try dsimp only at hSw); go_simp; (try with_reducible rfl)
        simp only [Act.put, List.setIfInBounds_toArray, List.set_cons_zero, List.set_cons_succ]
        refine wpAnyH_take (i := 10) (oi := ({ dst := some 48, op := Op.move (Operand.tmp 6), type := 57, pos := "ref.go:127", after := #[], guard := none } : Oper)) (v := ?_) rfl (by kernel_rfl) (by kernel_rfl) (by kernel_rfl) (fun _ _ _ h => h) (Or.inl ⟨by rfl, ?_⟩) hS30 ?_
        rotate_left
        · intro w hSw; (try dsimp only at hSw); go_simp; (try with_reducible rfl)
        simp only [Act.put, List.setIfInBounds_toArray, List.set_cons_zero, List.set_cons_succ]
        refine wpAnyH_ready (rs := [3]) (by kernel_rfl) (by simp) ?_
        refine AllReadyH.cons (o := ({ dst := some 41, op := Op.call { callee := Callee.value (Operand.func 41), args := #[Operand.tmp 40], argTypes := #[9] }, type := 9, pos := "ref.go:127", after := #[{ on := 2, ground := Ground.data }], guard := none } : Oper)) rfl (fun K hK => ?_) AllReadyH.nil
        go_simp
        refine (CA.out _).mono ?_; rintro e w31 ⟨rfl, hb31⟩
        go_wp2_with fail
        refine hK.out _ _ (mk30 _ (hnext hS30.1 hb31)) (fun hS31 => ?_)
        clear hK K
        (try simp only [Act.put, List.setIfInBounds_toArray, List.set_cons_zero, List.set_cons_succ])
        clear hb31 hS30
        refine wpAnyH_take (i := 4) (oi := ({ dst := some 42, op := Op.binOp BinOp.add 9 (Operand.tmp 38) (Operand.tmp 41) 9, type := 9, pos := "ref.go:127", after := #[{ on := 0, ground := Ground.data }, { on := 3, ground := Ground.data }], guard := none } : Oper)) (v := ?_) rfl (by kernel_rfl) (by kernel_rfl) (by kernel_rfl) (fun _ _ _ h => h) (Or.inl ⟨by rfl, ?_⟩) hS31 ?_
        rotate_left
        · intro w hSw; (try dsimp only at hSw); go_simp; (try with_reducible rfl)
        simp only [Act.put, List.setIfInBounds_toArray, List.set_cons_zero, List.set_cons_succ]
        refine wpAnyH_ready (rs := [8]) (by kernel_rfl) (by simp) ?_
        refine AllReadyH.cons (o := ({ dst := some 46, op := Op.call { callee := Callee.value (Operand.func 40), args := #[Operand.tmp 45], argTypes := #[57] }, type := 9, pos := "ref.go:127", after := #[{ on := 7, ground := Ground.data }, { on := 3, ground := Ground.chain }], guard := none } : Oper)) rfl (fun K hK => ?_) AllReadyH.nil
        go_simp
        refine (CK.out _).mono ?_; rintro e w32 ⟨rfl, hb32⟩
        go_wp2_with fail
        refine hK.out _ _ (mk30 _ (hnext hS31.1 hb32)) (fun hS32 => ?_)
        clear hK K
        (try simp only [Act.put, List.setIfInBounds_toArray, List.set_cons_zero, List.set_cons_succ])
        clear hb32 hS31
        refine wpAnyH_take (i := 9) (oi := ({ dst := some 47, op := Op.binOp BinOp.add 9 (Operand.tmp 42) (Operand.tmp 46) 9, type := 9, pos := "ref.go:127", after := #[{ on := 4, ground := Ground.data }, { on := 8, ground := Ground.data }], guard := none } : Oper)) (v := ?_) rfl (by kernel_rfl) (by kernel_rfl) (by kernel_rfl) (fun _ _ _ h => h) (Or.inl ⟨by rfl, ?_⟩) hS32 ?_
        rotate_left
        · intro w hSw; (try dsimp only at hSw); go_simp; (try with_reducible rfl)
        simp only [Act.put, List.setIfInBounds_toArray, List.set_cons_zero, List.set_cons_succ]
        refine wpAnyH_ready (rs := [11]) (by kernel_rfl) (by simp) ?_
        refine AllReadyH.cons (o := ({ dst := some 49, op := Op.call { callee := Callee.value (Operand.func 40), args := #[Operand.tmp 48], argTypes := #[57] }, type := 9, pos := "ref.go:127", after := #[{ on := 10, ground := Ground.data }, { on := 8, ground := Ground.chain }], guard := none } : Oper)) rfl (fun K hK => ?_) AllReadyH.nil
        go_simp
        refine (CN.out _).mono ?_; rintro e w33 ⟨rfl, hb33⟩
        go_wp2_with fail
        refine hK.out _ _ (mk30 _ (hnext hS32.1 hb33)) (fun hS33 => ?_)
        clear hK K
        (try simp only [Act.put, List.setIfInBounds_toArray, List.set_cons_zero, List.set_cons_succ])
        clear hb33 hS32
        refine wpAnyH_take (i := 12) (oi := ({ dst := some 50, op := Op.binOp BinOp.add 9 (Operand.tmp 47) (Operand.tmp 49) 9, type := 9, pos := "ref.go:127", after := #[{ on := 9, ground := Ground.data }, { on := 11, ground := Ground.data }], guard := none } : Oper)) (v := ?_) rfl (by kernel_rfl) (by kernel_rfl) (by kernel_rfl) (fun _ _ _ h => h) (Or.inl ⟨by rfl, ?_⟩) hS33 ?_
        rotate_left
        · intro w hSw; (try dsimp only at hSw); go_simp; (try with_reducible rfl)
        simp only [Act.put, List.setIfInBounds_toArray, List.set_cons_zero, List.set_cons_succ]
        refine wpAnyH_take (i := 13) (oi := ({ dst := some 3, op := Op.assign (Operand.tmp 50), type := 9, pos := "ref.go:127", after := #[{ on := 12, ground := Ground.data }, { on := 11, ground := Ground.chain }, { on := 0, ground := Ground.phase }, { on := 1, ground := Ground.phase }, { on := 2, ground := Ground.phase }, { on := 3, ground := Ground.phase }, { on := 4, ground := Ground.phase }, { on := 5, ground := Ground.phase }, { on := 6, ground := Ground.phase }, { on := 7, ground := Ground.phase }, { on := 8, ground := Ground.phase }, { on := 9, ground := Ground.phase }, { on := 10, ground := Ground.phase }, { on := 11, ground := Ground.phase }, { on := 12, ground := Ground.phase }], guard := none } : Oper)) (v := ?_) rfl (by kernel_rfl) (by kernel_rfl) (by kernel_rfl) (fun _ _ _ h => h) (Or.inl ⟨by rfl, ?_⟩) hS33 ?_
        rotate_left
        · intro w hSw; (try dsimp only at hSw); go_simp; (try with_reducible rfl)
        simp only [Act.put, List.setIfInBounds_toArray, List.set_cons_zero, List.set_cons_succ]
        refine wpAnyH_done (by kernel_rfl) ?_ _
        have hS6 := HS30.out.keep hS33.1
        have HL6 := hid (hnext HB30.out hS33.1)
        go_wp2_with fail
        go_roundw
        case rel => exact ⟨k + 1, _, by omega, by go_num, rfl, HQ, HQS.out, hS6, HL6⟩
        case measure => simp [intOf]; omega
    · obtain rfl : k = cs.length := by omega
      have HE : Hid (bstr (Sc.encode ⟨nm, cs, (kn : Int)⟩) = t) := by show _ = _; rw [← HALL.out, ht.out]
      clear hS hnx
      go_wp2_with fail
      go_ret
      rw [HE.out]
      exact ⟨rfl, hL.out⟩
end Go.Proofs.Ytmmegicaeaifaaa

namespace Go.Proofs.Ytmmegicaeaifaaa
open Go.RowKit
namespace Sc
def holdsB (c : C) (v : Cd.V) : Bool := v.right && (if v.k = 0 then !c.need else decide (v.k = c.kind))
def fitAll (cs : List C) (l : List Cd.V) : Bool := (cs.zip l).all fun p => holdsB p.1 p.2
/-- what is wrong with a row -/
def fits (s : S) (l : List Cd.V) : Int := if right s = false then 11 else if l.length ≠ s.cols.length then 10 else if fitAll s.cols l then 0 else 10
end Sc

end Go.Proofs.Ytmmegicaeaifaaa

namespace Go.Proofs.Ytmmegicaeaifaaa
open Go.RowKit

theorem VsAt.len {w : World} {v : Value} {l : List Cd.V} (h : VsAt w v l) : ∃ adr cap, v = .slice adr l.length cap := by
  obtain ⟨adr, cap, rfl, _⟩ := h; exact ⟨adr, cap, rfl⟩
end Go.Proofs.Ytmmegicaeaifaaa
