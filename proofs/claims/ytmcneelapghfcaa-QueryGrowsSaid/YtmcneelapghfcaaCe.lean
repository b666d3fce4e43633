/-
  The layers below: schemas, which extend one another.
-/
import Derived.Test.YtmcneelapghfcaaCb
import Derived.Laws.RangeAny
import Derived.Maps.OwnOps
import Derived.Maps.Views
import Derived.Laws.AppendOwnNone
import Derived.Laws.CopyOwn
import Derived.Laws.MakeOwn

namespace Go.Proofs.Ytmcneelapghfcaa
namespace Sc

theorem nameTo_le {s : ByteArray} {j : Nat} (k : Nat) (h : nameTo s (j + k) = true) : nameTo s j = true := by
  induction k with
  | zero => exact h
  | succ k ih =>
    apply ih
    rw [show j + (k + 1) = (j + k) + 1 from by omega] at h
    unfold nameTo at h
    simp only [Bool.and_eq_true] at h
    exact h.1
theorem nameTo_succ (s : ByteArray) (k : Nat) (hk : k < s.size) : nameTo s (k + 1) = (nameTo s k && okAt k s[k].toNat) := by
  show (nameTo s k && _) = _
  have hl : k < s.data.toList.length := by simpa using hk
  rw [List.getElem?_eq_getElem hl]
  rfl
theorem name_no {s : ByteArray} {k : Nat} (hk : k < s.size) (h : okAt k s[k].toNat = false) : nameB s = false := by
  have h1 : nameTo s s.size = false := by
    cases e : nameTo s s.size with
    | false => rfl
    | true =>
      have := nameTo_le (s.size - (k + 1)) (by rw [show k + 1 + (s.size - (k + 1)) = s.size from by omega]; exact e)
      rw [nameTo_succ s k hk, h, Bool.and_false] at this
      cases this
  unfold nameB
  rw [h1]; rfl
theorem name_end {s : ByteArray} (h : nameTo s s.size = true) : nameB s = (decide (1 ≤ s.size) && decide (s.size ≤ 32)) := by
  unfold nameB; rw [h, Bool.true_and]
theorem name_len {s : ByteArray} (h : nameB s = true) : 1 ≤ s.size ∧ s.size ≤ 32 := by
  unfold nameB at h
  simp only [Bool.and_eq_true, decide_eq_true_eq] at h
  exact ⟨h.1.2, h.2⟩

theorem goodTo_le {s : S} {j : Nat} (k : Nat) (h : goodTo s (j + k) = true) : goodTo s j = true := by
  induction k with
  | zero => exact h
  | succ k ih =>
    apply ih
    rw [show j + (k + 1) = (j + k) + 1 from by omega] at h
    unfold goodTo at h
    simp only [Bool.and_eq_true] at h
    exact h.1
theorem good1_at (s : S) (k : Nat) (hk : k < s.cols.length) : good1 s k = (colOk s.keys k s.cols[k] && fresh s.cols k s.cols[k].name) := by
  unfold good1
  rw [List.getElem?_eq_getElem hk]
theorem goodTo_succ (s : S) (k : Nat) (hk : k < s.cols.length) : goodTo s (k + 1) = (goodTo s k && (colOk s.keys k s.cols[k] && fresh s.cols k s.cols[k].name)) := by
  show (goodTo s k && good1 s k) = _
  rw [good1_at s k hk]
theorem right_no {s : S} {k : Nat} (hk : k < s.cols.length) (h : (colOk s.keys k s.cols[k] && fresh s.cols k s.cols[k].name) = false) : right s = false := by
  have h1 : goodTo s s.cols.length = false := by
    cases e : goodTo s s.cols.length with
    | false => rfl
    | true =>
      have := goodTo_le (s.cols.length - (k + 1)) (by rw [show k + 1 + (s.cols.length - (k + 1)) = s.cols.length from by omega]; exact e)
      rw [goodTo_succ s k hk, h, Bool.and_false] at this
      cases this
  unfold right
  rw [h1, Bool.and_false]
theorem fresh_zero (l : List C) (n : ByteArray) : fresh l 0 n = true := by unfold fresh; simp
theorem fresh_succ (l : List C) (k : Nat) (n : ByteArray) (hk : k < l.length) : fresh l (k + 1) n = (fresh l k n && decide (l[k].name ≠ n)) := by
  unfold fresh
  rw [List.take_succ_eq_append_getElem hk, List.all_append]
  simp only [List.all_cons, List.all_nil, Bool.and_true]
theorem fresh_no {l : List C} {k i : Nat} {n : ByteArray} (hk : k < l.length) (hi : i ≤ l.length) (h : k < i) (he : l[k].name = n) : fresh l i n = false := by
  unfold fresh
  rw [List.all_eq_false]
  refine ⟨l[k], ?_, by simp [he]⟩
  rw [List.mem_take_iff_getElem]
  exact ⟨k, by omega, rfl⟩
end Sc
end Go.Proofs.Ytmcneelapghfcaa

namespace Go.Proofs.Ytmcneelapghfcaa
open Go.RowKit

/-- where a byte lies, of those that a name asks for -/
theorem okAt_cases (i c : Nat) : (Sc.okAt i c = true ∧ ((97 ≤ c ∧ c ≤ 122) ∨ c = 95 ∨ (48 ≤ c ∧ c ≤ 57 ∧ i ≠ 0))) ∨
    (Sc.okAt i c = false ∧ (c < 48 ∨ (57 < c ∧ c < 95) ∨ c = 96 ∨ 122 < c ∨ (48 ≤ c ∧ c ≤ 57 ∧ i = 0))) := by
  unfold Sc.okAt Sc.letter Sc.digit
  by_cases h1 : 97 ≤ c ∧ c ≤ 122
  · exact .inl ⟨by simp [h1], .inl h1⟩
  by_cases h2 : c = 95
  · exact .inl ⟨by simp [h2], .inr (.inl h2)⟩
  by_cases h3 : 48 ≤ c ∧ c ≤ 57
  · by_cases h4 : i = 0
    · exact .inr ⟨by simp [h1, h2, h4], .inr (.inr (.inr (.inr ⟨h3.1, h3.2, h4⟩)))⟩
    · exact .inl ⟨by simp [h3, h4], .inr (.inr ⟨h3.1, h3.2, h4⟩)⟩
  · exact .inr ⟨by simp [h1, h2, h3], by omega⟩

end Go.Proofs.Ytmcneelapghfcaa

namespace Go.Proofs.Ytmcneelapghfcaa
open Go.RowKit

set_option maxRecDepth 100000 in
set_option maxHeartbeats 3200000 in
theorem nameR_any (s : ByteArray) (hs : s.size ≤ maxLen) (w : World) : Calls Try.prog 94 #[.string s] w fun e w' => e = .returned (.bool (Sc.nameB s)) ∧ w = w' := by
  unfold maxLen at hs
  go_enter Try.func94, Try.ntmps94
  go_wp2_with fail
  go_loop [3, 4, 5] (fun a _ _ => ∃ p : Nat, p ≤ s.size ∧ a = .int .i64 (p : Int) ∧ Hid (Sc.nameTo s p = true)) (fun a _ _ => s.size - (intOf a).toNat)
  case atStart => exact ⟨0, by omega, rfl, rfl⟩
  case round =>
    obtain ⟨p, hp, rfl, hN⟩ := hrel
    by_cases hlt : p < s.size
    · have hp0 : (0 : Int) ≤ (p : Int) := by omega
      have hlt' : (p : Int) < s.size := by omega
      have hno : Hid (Sc.okAt p s[p].toNat = false → Sc.nameB s = false) := Sc.name_no hlt
      have hyes : Hid (Sc.okAt p s[p].toNat = true → Sc.nameTo s (p + 1) = true) := fun h => by rw [Sc.nameTo_succ s p hlt, hN.out, h]; rfl
      have hcc := okAt_cases p s[p].toNat
      obtain ⟨c, hc⟩ : ∃ c, s[p].toNat = c := ⟨_, rfl⟩
      rw [hc] at hno hyes hcc
      rcases hcc with ⟨hok, hcs⟩ | ⟨hok, hcs⟩
      · have HT := hid (hyes.out hok)
        clear hok hno hyes hN
        have fin : p + 1 ≤ s.size := hlt
        rcases hcs with h1 | h1 | h1
        · have h2 : (97 : Int) ≤ (c : Int) := by omega
          have h3 : (c : Int) ≤ 122 := by omega
          go_wp2_with fail
          go_round
          case rel => exact ⟨p + 1, fin, by go_num, HT⟩
          case measure => simp [intOf]; omega
        · obtain rfl : 95 = c := h1.symm
          go_wp2_with fail
          go_round
          case rel => exact ⟨p + 1, fin, by go_num, HT⟩
          case measure => simp [intOf]; omega
        · have h2 : (48 : Int) ≤ (c : Int) := by omega
          have h3 : (c : Int) ≤ 57 := by omega
          have h4 : ((c : Int) == 95) = false := by rw [beq_eq_false_iff_ne]; omega
          have h5 : ((p : Int) == 0) = false := by rw [beq_eq_false_iff_ne]; omega
          have h6 : decide ((57 : Int) < (c : Int)) = false := decide_eq_false (by omega)
          go_wp2_with fail
          go_round
          case rel => exact ⟨p + 1, fin, by go_num, HT⟩
          case measure => simp [intOf]; omega
      · have HF := hid (hno.out hok)
        clear hok hno hyes hN
        have h4 : ((c : Int) == 95) = false := by rw [beq_eq_false_iff_ne]; omega
        rcases hcs with h1 | h1 | h1 | h1 | h1
        · have h2 : (c : Int) < 48 := by omega
          obtain ⟨p5, h5⟩ : ∃ b, ((p : Int) == 0) = b := ⟨_, rfl⟩
          cases p5
          all_goals
            go_wp2_with fail
            go_ret
            rw [HF.out]
            exact ⟨rfl, rfl⟩
        · have h2 : (57 : Int) < (c : Int) := by omega
          have h3 : (c : Int) < 95 := by omega
          obtain ⟨p5, h5⟩ : ∃ b, ((p : Int) == 0) = b := ⟨_, rfl⟩
          have h6 : decide ((57 : Int) < (c : Int)) = true := decide_eq_true (by omega)
          cases p5
          all_goals
            go_wp2_with fail
            go_ret
            rw [HF.out]
            exact ⟨rfl, rfl⟩
        · obtain rfl : 96 = c := h1.symm
          obtain ⟨p5, h5⟩ : ∃ b, ((p : Int) == 0) = b := ⟨_, rfl⟩
          cases p5
          all_goals
            go_wp2_with fail
            go_ret
            rw [HF.out]
            exact ⟨rfl, rfl⟩
        · have h2 : (122 : Int) < (c : Int) := by omega
          have h6 : decide ((c : Int) ≤ 122) = false := decide_eq_false (by omega)
          have h7 : decide ((57 : Int) < (c : Int)) = true := decide_eq_true (by omega)
          obtain ⟨p5, h5⟩ : ∃ b, ((p : Int) == 0) = b := ⟨_, rfl⟩
          cases p5
          all_goals
            go_wp2_with fail
            go_ret
            rw [HF.out]
            exact ⟨rfl, rfl⟩
        · obtain ⟨h1, h2, rfl⟩ := h1
          have h3 : (48 : Int) ≤ (c : Int) := by omega
          have h5 : (c : Int) ≤ 57 := by omega
          go_wp2_with fail
          go_ret
          rw [HF.out]
          exact ⟨rfl, rfl⟩
    · obtain rfl : p = s.size := by omega
      have HE := hid (Sc.name_end hN.out)
      clear hN hp
      by_cases h0 : s.size = 0
      · have h2 : (s.size : Int) < 1 := by omega
        have HE2 : Hid (Sc.nameB s = false) := by show _ = _; rw [HE.out, h0]; rfl
        clear h0
        go_wp2_with fail
        go_ret
        rw [HE2.out]
        exact ⟨rfl, rfl⟩
      · have h2 : (1 : Int) ≤ (s.size : Int) := by omega
        have HE2 : Hid (Sc.nameB s = decide ((s.size : Int) ≤ 32)) := by show _ = _; rw [HE.out, decide_eq_true (show 1 ≤ s.size by omega), Bool.true_and, Bool.eq_iff_iff]; simp only [decide_eq_true_eq]; omega
        clear h0
        go_wp2_with fail
        all_goals
          go_ret
          rw [HE2.out]
          first | exact ⟨rfl, rfl⟩ | exact ⟨by rw [decide_eq_true (by omega)], rfl⟩ | exact ⟨by rw [decide_eq_false (by omega)], rfl⟩

theorem Try.cHeld : Try.prog.stoodInHeld 68 = false := by kernel_rfl
/-- a column as a value -/
def cv (c : Sc.C) : Value := .agg #[.string c.name, .int .i64 c.kind, .bool c.need]
theorem c_equalIn (a b : Sc.C) (w : World) : (Op.equalIn 10000 68 (cv a) (cv b)).run Try.prog w = .ok (decide (a = b)) w := by
  have hd : decide (a = b) = (a.name.toList == b.name.toList && (a.kind == b.kind && a.need == b.need)) := by
    rw [bytes_beq, Bool.eq_iff_iff]
    cases a; cases b
    simp
  rw [hd]
  unfold cv
  rw [run_equalIn_agg w 9999 68 _ _ (by kernel_rfl) Try.cHeld]
  cases h1 : (a.name.toList == b.name.toList) <;> cases h2 : (a.kind == b.kind) <;> cases h3 : (a.need == b.need)
  all_goals
    go_simp
theorem c_neq (a b : Sc.C) (r : Bool) (h : decide (a = b) = r) (w : World) : (binOp .neq 68 (cv a) (cv b)).run Try.prog w = .ok (.bool (!r)) w := by
  subst h
  have h := c_equalIn a b w
  unfold cv at h ⊢
  simp [binOp, Op.equal, Op.maxDepth, h]
end Go.Proofs.Ytmcneelapghfcaa

namespace Go.Proofs.Ytmcneelapghfcaa
open Go.RowKit

/-- two schemas are alike -/
def Sc.same (a b : Sc.S) : Bool := decide (a.name = b.name) && (decide (a.keys = b.keys) && decide (a.cols = b.cols))
end Go.Proofs.Ytmcneelapghfcaa

namespace Go.Proofs.Ytmcneelapghfcaa
open Go.RowKit Go.Maps

theorem law_str : Keyed Try.prog 9 := string_keyed Try.underlying9
/-- a map of the call's own: which names it has, each with 1 -/
def HadAt (w : World) (b n : Nat) (had : ByteArray → Bool) : Prop :=
  ∃ D : DataW Unit, w.ownsMap Try.prog 9 (plainElem Try.prog 3) b n D ∧ IsMap D ∧ ∀ s : ByteArray, D.atKey (.string s.data.toList) (.lit (.int .i64 0)) = .lit (.int .i64 (if had s = true then 1 else 0))
theorem HadAt.below {w w' : World} {b n : Nat} {had : ByteArray → Bool} (h : HadAt w b n had) (hb : Below w.heap.size w w') : HadAt w' b n had := by
  obtain ⟨D, h1, h2, h3⟩ := h
  refine ⟨D, h1.kept (row := none) ⟨hb.os, hb.tape, hb.output, hb.size, fun i hi _ => hb.block i hi⟩ (by simp), h2, h3⟩
theorem HadAt.lt {w : World} {b n : Nat} {had : ByteArray → Bool} (h : HadAt w b n had) : b < w.heap.size := by
  obtain ⟨D, h1, _⟩ := h
  exact h1.lt
theorem HadAt.congr {w : World} {b n : Nat} {had had' : ByteArray → Bool} (h : HadAt w b n had) (he : ∀ t, had t = had' t) : HadAt w b n had' := by
  obtain ⟨D, h1, h2, h3⟩ := h
  exact ⟨D, h1, h2, fun s => by rw [h3 s, he s]⟩
/-- a column in a block of its own -/
def BC (w : World) (g : Nat) (c : Sc.C) : Prop := w.heap[g]? = some (.cells #[.string c.name, .int .i64 c.kind, .bool c.need] 68 (0, 0))
theorem BC.cells {w : World} {g : Nat} {c : Sc.C} (h : BC w g c) : w.cell? ⟨g, 0, none⟩ = some (.string c.name) ∧ w.cell? ⟨g, 1, none⟩ = some (.int .i64 c.kind) ∧ w.cell? ⟨g, 2, none⟩ = some (.bool c.need) ∧ g < w.heap.size :=
  ⟨cell_of_row w g 0 _ _ _ h, cell_of_row w g 1 _ _ _ h, cell_of_row w g 2 _ _ _ h, (Array.getElem?_eq_some_iff.1 h).1⟩
theorem BC.keep {w w' : World} {g : Nat} {c : Sc.C} (h : BC w g c) (hb : Below w.heap.size w w') : BC w' g c := keepBlock h hb
theorem BC.new (w : World) (c : Sc.C) : BC (w.alloc (.cells #[.string c.name, .int .i64 c.kind, .bool c.need] 68)) w.heap.size c := heap_alloc_new w _
/-- a schema in a block of its own -/
def BS (w : World) (g : Nat) (n : ByteArray) (v : Value) (k : Int) : Prop := w.heap[g]? = some (.cells #[.string n, v, .int .i64 k] 31 (0, 0))
theorem BS.cells {w : World} {g : Nat} {n : ByteArray} {v : Value} {k : Int} (h : BS w g n v k) : w.cell? ⟨g, 0, none⟩ = some (.string n) ∧ w.cell? ⟨g, 1, none⟩ = some v ∧ w.cell? ⟨g, 2, none⟩ = some (.int .i64 k) ∧ g < w.heap.size :=
  ⟨cell_of_row w g 0 _ _ _ h, cell_of_row w g 1 _ _ _ h, cell_of_row w g 2 _ _ _ h, (Array.getElem?_eq_some_iff.1 h).1⟩
theorem BS.keep {w w' : World} {g : Nat} {n : ByteArray} {v : Value} {k : Int} (h : BS w g n v k) (hb : Below w.heap.size w w') : BS w' g n v k := keepBlock h hb
theorem BS.new (w : World) (n : ByteArray) (v : Value) (k : Int) : BS (w.alloc (.cells #[.string n, v, .int .i64 k] 31)) w.heap.size n v k := heap_alloc_new w _
/-- why a column is not right, or that it is -/
theorem col_ways (keys : Int) (l : List Sc.C) (i : Nat) (c : Sc.C) :
    ((Sc.colOk keys i c && Sc.fresh l i c.name) = false ∧ (Sc.nameB c.name = false ∨ (Sc.nameB c.name = true ∧ (Sc.fresh l i c.name = false ∨ (Sc.fresh l i c.name = true ∧ (c.kind < 1 ∨ (1 ≤ c.kind ∧ (5 < c.kind ∨ (c.kind ≤ 5 ∧ (i : Int) < keys ∧ c.need = false)))))))))
    ∨ ((Sc.colOk keys i c && Sc.fresh l i c.name) = true ∧ Sc.nameB c.name = true ∧ Sc.fresh l i c.name = true ∧ 1 ≤ c.kind ∧ c.kind ≤ 5 ∧ (keys ≤ (i : Int) ∨ ((i : Int) < keys ∧ c.need = true))) := by
  unfold Sc.colOk
  cases h1 : Sc.nameB c.name
  · exact .inl ⟨by simp, .inl rfl⟩
  cases h2 : Sc.fresh l i c.name
  · exact .inl ⟨by simp, .inr ⟨rfl, .inl rfl⟩⟩
  by_cases h3 : c.kind < 1
  · exact .inl ⟨by rw [decide_eq_false (show ¬ 1 ≤ c.kind by omega)]; simp, .inr ⟨rfl, .inr ⟨rfl, .inl h3⟩⟩⟩
  by_cases h4 : 5 < c.kind
  · exact .inl ⟨by rw [decide_eq_false (show ¬ c.kind ≤ 5 by omega)]; simp, .inr ⟨rfl, .inr ⟨rfl, .inr ⟨by omega, .inl h4⟩⟩⟩⟩
  by_cases h5 : keys ≤ (i : Int)
  · exact .inr ⟨by rw [decide_eq_true (show 1 ≤ c.kind by omega), decide_eq_true (show c.kind ≤ 5 by omega), decide_eq_true h5]; rfl, rfl, rfl, by omega, by omega, .inl h5⟩
  cases h6 : c.need
  · exact .inl ⟨by rw [decide_eq_false h5]; simp, .inr ⟨rfl, .inr ⟨rfl, .inr ⟨by omega, .inr ⟨by omega, by omega, rfl⟩⟩⟩⟩⟩
  · exact .inr ⟨by rw [decide_eq_true (show 1 ≤ c.kind by omega), decide_eq_true (show c.kind ≤ 5 by omega)]; simp, rfl, rfl, by omega, by omega, .inr ⟨by omega, rfl⟩⟩
/-- why a schema is not right at once, or that its columns are to be asked -/
theorem head_ways (s : Sc.S) : (Sc.right s = false ∧ (Sc.nameB s.name = false ∨ (Sc.nameB s.name = true ∧ (16 < s.cols.length ∨ (s.cols.length ≤ 16 ∧ (s.keys < 1 ∨ (1 ≤ s.keys ∧ (8 < s.keys ∨ (s.keys ≤ 8 ∧ (s.cols.length : Int) < s.keys))))))))) ∨
    (Sc.nameB s.name = true ∧ s.cols.length ≤ 16 ∧ 1 ≤ s.keys ∧ s.keys ≤ 8 ∧ s.keys ≤ (s.cols.length : Int) ∧ Sc.right s = Sc.goodTo s s.cols.length) := by
  unfold Sc.right
  cases h1 : Sc.nameB s.name
  · exact .inl ⟨by simp, .inl rfl⟩
  by_cases h2 : 16 < s.cols.length
  · exact .inl ⟨by rw [decide_eq_false (show ¬ s.cols.length ≤ 16 by omega)]; simp, .inr ⟨rfl, .inl h2⟩⟩
  by_cases h3 : s.keys < 1
  · exact .inl ⟨by rw [decide_eq_false (show ¬ 1 ≤ s.keys by omega)]; simp, .inr ⟨rfl, .inr ⟨by omega, .inl h3⟩⟩⟩
  by_cases h4 : 8 < s.keys
  · exact .inl ⟨by rw [decide_eq_false (show ¬ s.keys ≤ 8 by omega)]; simp, .inr ⟨rfl, .inr ⟨by omega, .inr ⟨by omega, .inl h4⟩⟩⟩⟩
  by_cases h5 : (s.cols.length : Int) < s.keys
  · exact .inl ⟨by rw [decide_eq_false (show ¬ s.keys ≤ (s.cols.length : Int) by omega)]; simp, .inr ⟨rfl, .inr ⟨by omega, .inr ⟨by omega, .inr ⟨by omega, h5⟩⟩⟩⟩⟩
  · exact .inr ⟨rfl, by omega, by omega, by omega, by omega, by rw [decide_eq_true (show s.cols.length ≤ 16 by omega), decide_eq_true (show 1 ≤ s.keys by omega), decide_eq_true (show s.keys ≤ 8 by omega), decide_eq_true (show s.keys ≤ (s.cols.length : Int) by omega)]; simp⟩
end Go.Proofs.Ytmcneelapghfcaa

namespace Go.Proofs.Ytmcneelapghfcaa
open Go.RowKit

set_option maxRecDepth 100000 in
set_option maxHeartbeats 12800000 in
theorem rightR_sc (s : Sc.S) (v : Value) (w : World) (h : CsAt w v s.cols) (hsz : Sok s) :
    Calls Try.prog 60 #[sv s v] w fun e w' => e = .returned (.bool (Sc.right s)) ∧ Below w.heap.size w w' := by
  obtain ⟨adr, cap, rfl, hc1, hc2, hc⟩ := h
  have HC := hid hc
  unfold maxLen at hc2
  clear hc
  have hways := head_ways s
  have hno : Hid (∀ k (hk : k < s.cols.length), (Sc.colOk s.keys k s.cols[k] && Sc.fresh s.cols k s.cols[k].name) = false → Sc.right s = false) := fun k hk h => Sc.right_no hk h
  have hgo : Hid (∀ k (hk : k < s.cols.length), Sc.goodTo s (k + 1) = (Sc.goodTo s k && (Sc.colOk s.keys k s.cols[k] && Sc.fresh s.cols k s.cols[k].name))) := fun k hk => Sc.goodTo_succ s k hk
  have hg0 : Hid (Sc.goodTo s 0 = true) := rfl
  obtain ⟨hsz1, hsz2⟩ := hsz
  have HSZ := hid hsz2
  clear hsz2
  have hn := hid (fun W => nameR_any s.name hsz1 W)
  generalize Sc.right s = R at hways hno ⊢
  generalize Sc.goodTo s = G at hways hgo hg0
  unfold sv
  obtain ⟨nm, cs, ks⟩ := s
  simp only at hc1 HC hways hno hgo hsz1 HSZ hn ⊢
  rcases hways with ⟨hF, hw⟩ | ⟨h1, h2, h3, h4, h5, hG⟩
  · have HF := hid hF
    clear hF hno hgo hg0
    rcases hw with h1 | ⟨h1, hw⟩
    · rw [h1] at hn
      clear h1
      go_enter Try.func60, Try.ntmps60
      go_wp2_with fail
      refine (hn.out _).mono ?_; rintro e w1 ⟨rfl, rfl⟩
      have hS1 := BS.new w nm (.slice adr cs.length cap) ks
      have hB1 := hba w (.cells #[.string nm, .slice adr cs.length cap, .int .i64 ks] 31)
      generalize w.alloc (.cells #[.string nm, .slice adr cs.length cap, .int .i64 ks] 31) = w1 at *
      obtain ⟨s0, s1, s2, sl⟩ := hS1.cells
      go_wp2_with fail
      all_goals
        go_ret
        rw [HF.out]
        exact ⟨rfl, hB1⟩
    rw [h1] at hn
    clear h1
    rcases hw with h2 | ⟨h2, hw⟩
    · have h2' : (16 : Int) < (cs.length : Int) := by omega
      go_enter Try.func60, Try.ntmps60
      go_wp2_with fail
      refine (hn.out _).mono ?_; rintro e w1 ⟨rfl, rfl⟩
      have hS1 := BS.new w nm (.slice adr cs.length cap) ks
      have hB1 := hba w (.cells #[.string nm, .slice adr cs.length cap, .int .i64 ks] 31)
      generalize w.alloc (.cells #[.string nm, .slice adr cs.length cap, .int .i64 ks] 31) = w1 at *
      obtain ⟨s0, s1, s2, sl⟩ := hS1.cells
      go_wp2_with fail
      all_goals
        go_ret
        rw [HF.out]
        exact ⟨rfl, hB1⟩
    have h2' : ¬ (16 : Int) < (cs.length : Int) := by omega
    rcases hw with h3 | ⟨h3, hw⟩
    · skip
      go_enter Try.func60, Try.ntmps60
      go_wp2_with fail
      refine (hn.out _).mono ?_; rintro e w1 ⟨rfl, rfl⟩
      have hS1 := BS.new w nm (.slice adr cs.length cap) ks
      have hB1 := hba w (.cells #[.string nm, .slice adr cs.length cap, .int .i64 ks] 31)
      generalize w.alloc (.cells #[.string nm, .slice adr cs.length cap, .int .i64 ks] 31) = w1 at *
      obtain ⟨s0, s1, s2, sl⟩ := hS1.cells
      go_wp2_with fail
      all_goals
        go_ret
        rw [HF.out]
        exact ⟨rfl, hB1⟩
    have h3' : ¬ ks < 1 := by omega
    rcases hw with h8 | ⟨h8, h9⟩
    · skip
      go_enter Try.func60, Try.ntmps60
      go_wp2_with fail
      refine (hn.out _).mono ?_; rintro e w1 ⟨rfl, rfl⟩
      have hS1 := BS.new w nm (.slice adr cs.length cap) ks
      have hB1 := hba w (.cells #[.string nm, .slice adr cs.length cap, .int .i64 ks] 31)
      generalize w.alloc (.cells #[.string nm, .slice adr cs.length cap, .int .i64 ks] 31) = w1 at *
      obtain ⟨s0, s1, s2, sl⟩ := hS1.cells
      go_wp2_with fail
      all_goals
        go_ret
        rw [HF.out]
        exact ⟨rfl, hB1⟩
    · have h8' : ¬ 8 < ks := by omega
      go_enter Try.func60, Try.ntmps60
      go_wp2_with fail
      refine (hn.out _).mono ?_; rintro e w1 ⟨rfl, rfl⟩
      have hS1 := BS.new w nm (.slice adr cs.length cap) ks
      have hB1 := hba w (.cells #[.string nm, .slice adr cs.length cap, .int .i64 ks] 31)
      generalize w.alloc (.cells #[.string nm, .slice adr cs.length cap, .int .i64 ks] 31) = w1 at *
      obtain ⟨s0, s1, s2, sl⟩ := hS1.cells
      go_wp2_with fail
      all_goals
        go_ret
        rw [HF.out]
        exact ⟨rfl, hB1⟩
  · rw [h1] at hn
    clear h1
    have h2' : ¬ (16 : Int) < (cs.length : Int) := by omega
    have h3' : ¬ ks < 1 := by omega
    have h4' : ¬ 8 < ks := by omega
    have h5' : ¬ (cs.length : Int) < ks := by omega
    have h6' : ¬ (cs.length : Int) < 1 := by omega
    have HG := hid hG
    clear hG h5
    go_enter Try.func60, Try.ntmps60
    go_wp2_with fail
    refine (hn.out _).mono ?_; rintro e w1 ⟨rfl, rfl⟩
    have hS1 := BS.new w nm (.slice adr cs.length cap) ks
    have hB1 := hba w (.cells #[.string nm, .slice adr cs.length cap, .int .i64 ks] 31)
    generalize w.alloc (.cells #[.string nm, .slice adr cs.length cap, .int .i64 ks] 31) = w1 at *
    obtain ⟨s0, s1, s2, sl⟩ := hS1.cells
    go_wp2_with fail
    clear s0 s1 s2 sl
    go_loopw [4, 5, 6] (fun q _ _ wr => ∃ k : Nat, k ≤ cs.length ∧ q = .int .i64 (k : Int) ∧ Hid (G k = true) ∧ BS wr w.heap.size nm (.slice adr cs.length cap) ks ∧ Below w.heap.size w wr) (fun q _ _ _ => cs.length - (intOf q).toNat)
    case atStart => exact ⟨0, by omega, rfl, hg0, hS1, hB1⟩
    case round =>
      obtain ⟨k, hk, rfl, hGk, hS, hB⟩ := hrel
      clear hS1 hB1
      obtain ⟨w4, rfl⟩ : ∃ w4 : World, w4 = wr := ⟨_, rfl⟩
      obtain ⟨s0, s1, s2, sl⟩ := hS.cells
      have hk0 : (0 : Int) ≤ (k : Int) := by omega
      by_cases hlk : k < cs.length
      · have hlk' : (k : Int) < (cs.length : Int) := by omega
        obtain ⟨g, off, rfl, q0, q1, q2⟩ := HC.out k hlk
        replace q0 := hkeep q0 hB
        replace q1 := hkeep q1 hB
        replace q2 := hkeep q2 hB
        have HN2 := hid (hno.out k hlk)
        have HG2 := hid (hgo.out k hlk)
        have hcw := col_ways ks cs k cs[k]
        have hcs := HSZ.out _ (List.getElem_mem hlk)
        have hnc := hid (fun W => nameR_any cs[k].name hcs W)
        have hfn : Hid (∀ j (hj : j < k), cs[j].name = cs[k].name → Sc.fresh cs k cs[k].name = false) := fun j hj he => Sc.fresh_no (by omega) (by omega) hj he
        generalize cs[k] = c at q0 q1 q2 HN2 HG2 hcw hcs hnc hfn
        have HNW := hid (BC.new w4 c)
        have HSA := hid (hS.keep (hba w4 (.cells #[.string c.name, .int .i64 c.kind, .bool c.need] 68)))
        have HBA := hid (hnext hB (hba w4 (.cells #[.string c.name, .int .i64 c.kind, .bool c.need] 68)))
        clear hB hS
        have HFF : Hid (Sc.fresh cs k c.name = false → R = false) := fun e => HN2.out (by rw [e, Bool.and_false])
        have HTT : Hid (Sc.fresh cs k c.name = true → Sc.colOk ks k c = true → G (k + 1) = true) := fun e e' => by rw [HG2.out, hGk.out, e, e']; rfl
        -- the column itself
        by_cases hok : Sc.colOk ks k c = true
        · have hown : Sc.nameB c.name = true ∧ 1 ≤ c.kind ∧ c.kind ≤ 5 ∧ (ks ≤ (k : Int) ∨ ((k : Int) < ks ∧ c.need = true)) := by
            unfold Sc.colOk at hok
            simp only [Bool.and_eq_true, decide_eq_true_eq, Bool.or_eq_true] at hok
            obtain ⟨⟨⟨a1, a2⟩, a3⟩, a4⟩ := hok
            refine ⟨a1, a2, a3, ?_⟩
            rcases a4 with a4 | a4
            · exact .inl a4
            · by_cases hh : ks ≤ (k : Int)
              · exact .inl hh
              · exact .inr ⟨by omega, a4⟩
          have HOK := hid hok
          clear hok hcw HN2 HG2
          obtain ⟨e1, e3, e4, e5⟩ := hown
          rw [e1] at hnc
          clear e1
          have e3' : ¬ c.kind < 1 := by omega
          have e4' : ¬ 5 < c.kind := by omega
          rcases e5 with e5 | ⟨e5, e6⟩
          · have e5' : ¬ (k : Int) < ks := by omega
            go_wp2_with fail
            refine (hnc.out _).mono ?_; rintro e w5 ⟨rfl, rfl⟩
            have hC5 := HNW.out
            have hS5 := HSA.out
            have hB5 := HBA.out
            obtain ⟨cb, hcb⟩ : ∃ cb, w4.heap.size = cb := ⟨_, rfl⟩
            rw [hcb] at hC5
            generalize w4.alloc (.cells #[.string c.name, .int .i64 c.kind, .bool c.need] 68) = w5 at *
            have hwc : w.heap.size < cb := by rw [← hcb]; exact sl
            rw [hcb]
            clear HNW HSA HBA hcb s0 s1 s2 sl
            obtain ⟨t0, t1, t2, tl⟩ := hC5.cells
            obtain ⟨s0, s1, s2, sl⟩ := hS5.cells
            go_wp2_with fail
            clear s0 s1 s2 sl t0 t1 t2 tl
            go_loopw [6] (fun q wr => ∃ j : Nat, j ≤ k ∧ q = .int .i64 (j : Int) ∧ Hid (Sc.fresh cs j c.name = true) ∧ BS wr w.heap.size nm (.slice (some ⟨g, off, none⟩) cs.length cap) ks ∧ BC wr cb c ∧ Below w.heap.size w wr) (fun q _ => k - (intOf q).toNat)
            case atStart => exact ⟨0, by omega, rfl, Sc.fresh_zero _ _, hS5, hC5, hB5⟩
            case round =>
              obtain ⟨j, hj, rfl, hfj, hS6, hC6, hB6⟩ := hrel
              clear hS5 hC5 hB5
              obtain ⟨w6, rfl⟩ : ∃ w6 : World, w6 = wr := ⟨_, rfl⟩
              obtain ⟨t0, t1, t2, tl⟩ := hC6.cells
              obtain ⟨s0, s1, s2, sl⟩ := hS6.cells
              have hj0 : (0 : Int) ≤ (j : Int) := by omega
              by_cases hjk : j < k
              · have hjl : j < cs.length := by omega
                have hjk' : (j : Int) < (k : Int) := by omega
                have hjl' : (j : Int) < (cs.length : Int) := by omega
                obtain ⟨g2, off2, hgg, p0, p1, p2⟩ := HC.out j hjl
                cases hgg
                replace p0 := hkeep p0 hB6
                have HFS := hid (Sc.fresh_succ cs j c.name hjl)
                have HFN := hid (hfn.out j hjk)
                generalize cs[j] = d at p0 HFS HFN
                clear p1 p2
                by_cases hd : d.name = c.name
                · have hdd : (d.name.toList == c.name.toList) = true := by rw [bytes_beq]; exact decide_eq_true hd
                  have HF : Hid (R = false) := HFF.out (HFN.out hd)
                  have hbq := hid hd
                  clear hd HFS HFN
                  go_wp2_with fail
                  go_quiet (fail)
                  go_wp2_with fail
                  go_ret
                  rw [HF.out]
                  exact ⟨rfl, hdrewN hB6 _⟩
                · have hdd : (d.name.toList == c.name.toList) = false := by rw [bytes_beq]; exact decide_eq_false hd
                  have HT : Hid (Sc.fresh cs (j + 1) c.name = true) := by show _ = _; rw [HFS.out, hfj.out, decide_eq_true (show d.name ≠ c.name from hd)]; rfl
                  clear hd HFS HFN
                  go_wp2_with fail
                  go_quiet (fail)
                  go_wp2_with fail
                  go_roundw
                  case rel => exact ⟨j + 1, by omega, by go_num, HT, hS6, hC6, hdrewN hB6 _⟩
                  case measure => simp [intOf]; omega
              · obtain rfl : j = k := by omega
                have HK := hid (HTT.out hfj.out HOK.out)
                go_wp2_with fail
                go_roundw
                case rel => exact ⟨j + 1, hlk, by go_num, HK, hS6, hB6⟩
                case measure => simp [intOf]; omega
          · have e6' := hid e6
            clear e6
            go_wp2_with fail
            refine (hnc.out _).mono ?_; rintro e w5 ⟨rfl, rfl⟩
            have hC5 := HNW.out
            have hS5 := HSA.out
            have hB5 := HBA.out
            obtain ⟨cb, hcb⟩ : ∃ cb, w4.heap.size = cb := ⟨_, rfl⟩
            rw [hcb] at hC5
            generalize w4.alloc (.cells #[.string c.name, .int .i64 c.kind, .bool c.need] 68) = w5 at *
            have hwc : w.heap.size < cb := by rw [← hcb]; exact sl
            rw [hcb]
            clear HNW HSA HBA hcb s0 s1 s2 sl
            obtain ⟨t0, t1, t2, tl⟩ := hC5.cells
            obtain ⟨s0, s1, s2, sl⟩ := hS5.cells
            rw [e6'.out] at t2
            go_wp2_with fail
            clear s0 s1 s2 sl t0 t1 t2 tl
            go_loopw [6] (fun q wr => ∃ j : Nat, j ≤ k ∧ q = .int .i64 (j : Int) ∧ Hid (Sc.fresh cs j c.name = true) ∧ BS wr w.heap.size nm (.slice (some ⟨g, off, none⟩) cs.length cap) ks ∧ BC wr cb c ∧ Below w.heap.size w wr) (fun q _ => k - (intOf q).toNat)
            case atStart => exact ⟨0, by omega, rfl, Sc.fresh_zero _ _, hS5, hC5, hB5⟩
            case round =>
              obtain ⟨j, hj, rfl, hfj, hS6, hC6, hB6⟩ := hrel
              clear hS5 hC5 hB5
              obtain ⟨w6, rfl⟩ : ∃ w6 : World, w6 = wr := ⟨_, rfl⟩
              obtain ⟨t0, t1, t2, tl⟩ := hC6.cells
              obtain ⟨s0, s1, s2, sl⟩ := hS6.cells
              have hj0 : (0 : Int) ≤ (j : Int) := by omega
              by_cases hjk : j < k
              · have hjl : j < cs.length := by omega
                have hjk' : (j : Int) < (k : Int) := by omega
                have hjl' : (j : Int) < (cs.length : Int) := by omega
                obtain ⟨g2, off2, hgg, p0, p1, p2⟩ := HC.out j hjl
                cases hgg
                replace p0 := hkeep p0 hB6
                have HFS := hid (Sc.fresh_succ cs j c.name hjl)
                have HFN := hid (hfn.out j hjk)
                generalize cs[j] = d at p0 HFS HFN
                clear p1 p2
                by_cases hd : d.name = c.name
                · have hdd : (d.name.toList == c.name.toList) = true := by rw [bytes_beq]; exact decide_eq_true hd
                  have HF : Hid (R = false) := HFF.out (HFN.out hd)
                  have hbq := hid hd
                  clear hd HFS HFN
                  go_wp2_with fail
                  go_quiet (fail)
                  go_wp2_with fail
                  go_ret
                  rw [HF.out]
                  exact ⟨rfl, hdrewN hB6 _⟩
                · have hdd : (d.name.toList == c.name.toList) = false := by rw [bytes_beq]; exact decide_eq_false hd
                  have HT : Hid (Sc.fresh cs (j + 1) c.name = true) := by show _ = _; rw [HFS.out, hfj.out, decide_eq_true (show d.name ≠ c.name from hd)]; rfl
                  clear hd HFS HFN
                  go_wp2_with fail
                  go_quiet (fail)
                  go_wp2_with fail
                  go_roundw
                  case rel => exact ⟨j + 1, by omega, by go_num, HT, hS6, hC6, hdrewN hB6 _⟩
                  case measure => simp [intOf]; omega
              · obtain rfl : j = k := by omega
                have HK := hid (HTT.out hfj.out HOK.out)
                go_wp2_with fail
                go_roundw
                case rel => exact ⟨j + 1, hlk, by go_num, HK, hS6, hB6⟩
                case measure => simp [intOf]; omega
        · have hF : R = false := HN2.out (by rw [Bool.eq_false_iff.2 hok]; rfl)
          have HF := hid hF
          have hok' : Sc.colOk ks k c = false := Bool.eq_false_iff.2 hok
          unfold Sc.colOk at hok'
          clear hF hok hcw HN2 HG2 HFF HTT
          cases e1 : Sc.nameB c.name
          · rw [e1] at hnc
            clear e1 hok'
            go_wp2_with fail
            refine (hnc.out _).mono ?_; rintro e w5 ⟨rfl, rfl⟩
            have hC5 := HNW.out
            have hS5 := HSA.out
            have hB5 := HBA.out
            obtain ⟨cb, hcb⟩ : ∃ cb, w4.heap.size = cb := ⟨_, rfl⟩
            rw [hcb] at hC5
            generalize w4.alloc (.cells #[.string c.name, .int .i64 c.kind, .bool c.need] 68) = w5 at *
            have hwc : w.heap.size < cb := by rw [← hcb]; exact sl
            rw [hcb]
            clear HNW HSA HBA hcb s0 s1 s2 sl
            obtain ⟨t0, t1, t2, tl⟩ := hC5.cells
            obtain ⟨s0, s1, s2, sl⟩ := hS5.cells
            go_wp2_with fail
            go_ret
            rw [HF.out]
            exact ⟨rfl, hB5⟩
          rw [e1] at hnc hok'
          clear e1
          by_cases e3 : c.kind < 1
          · clear hok'
            go_wp2_with fail
            refine (hnc.out _).mono ?_; rintro e w5 ⟨rfl, rfl⟩
            have hC5 := HNW.out
            have hS5 := HSA.out
            have hB5 := HBA.out
            obtain ⟨cb, hcb⟩ : ∃ cb, w4.heap.size = cb := ⟨_, rfl⟩
            rw [hcb] at hC5
            generalize w4.alloc (.cells #[.string c.name, .int .i64 c.kind, .bool c.need] 68) = w5 at *
            have hwc : w.heap.size < cb := by rw [← hcb]; exact sl
            rw [hcb]
            clear HNW HSA HBA hcb s0 s1 s2 sl
            obtain ⟨t0, t1, t2, tl⟩ := hC5.cells
            obtain ⟨s0, s1, s2, sl⟩ := hS5.cells
            go_wp2_with fail
            go_ret
            rw [HF.out]
            exact ⟨rfl, hB5⟩
          have e3' : 1 ≤ c.kind := by omega
          by_cases e4 : 5 < c.kind
          · clear hok'
            go_wp2_with fail
            refine (hnc.out _).mono ?_; rintro e w5 ⟨rfl, rfl⟩
            have hC5 := HNW.out
            have hS5 := HSA.out
            have hB5 := HBA.out
            obtain ⟨cb, hcb⟩ : ∃ cb, w4.heap.size = cb := ⟨_, rfl⟩
            rw [hcb] at hC5
            generalize w4.alloc (.cells #[.string c.name, .int .i64 c.kind, .bool c.need] 68) = w5 at *
            have hwc : w.heap.size < cb := by rw [← hcb]; exact sl
            rw [hcb]
            clear HNW HSA HBA hcb s0 s1 s2 sl
            obtain ⟨t0, t1, t2, tl⟩ := hC5.cells
            obtain ⟨s0, s1, s2, sl⟩ := hS5.cells
            go_wp2_with fail
            go_ret
            rw [HF.out]
            exact ⟨rfl, hB5⟩
          have e4' : c.kind ≤ 5 := by omega
          rw [decide_eq_true e3', decide_eq_true e4'] at hok'
          have hk2 : (k : Int) < ks := by
            by_cases hh : ks ≤ (k : Int)
            · rw [decide_eq_true hh] at hok'; simp at hok'
            · omega
          have hne : c.need = false := by
            rw [decide_eq_false (show ¬ ks ≤ (k : Int) by omega)] at hok'
            simpa using hok'
          have e6' := hid hne
          clear hok' hne
          go_wp2_with fail
          refine (hnc.out _).mono ?_; rintro e w5 ⟨rfl, rfl⟩
          have hC5 := HNW.out
          have hS5 := HSA.out
          have hB5 := HBA.out
          obtain ⟨cb, hcb⟩ : ∃ cb, w4.heap.size = cb := ⟨_, rfl⟩
          rw [hcb] at hC5
          generalize w4.alloc (.cells #[.string c.name, .int .i64 c.kind, .bool c.need] 68) = w5 at *
          have hwc : w.heap.size < cb := by rw [← hcb]; exact sl
          rw [hcb]
          clear HNW HSA HBA hcb s0 s1 s2 sl
          obtain ⟨t0, t1, t2, tl⟩ := hC5.cells
          obtain ⟨s0, s1, s2, sl⟩ := hS5.cells
          rw [e6'.out] at t2
          go_wp2_with fail
          go_ret
          rw [HF.out]
          exact ⟨rfl, hB5⟩
      · obtain rfl : k = cs.length := by omega
        have HR : Hid (R = true) := by show _ = _; rw [HG.out, hGk.out]
        go_wp2_with fail
        go_ret
        rw [HR.out]
        exact ⟨rfl, hB⟩
end Go.Proofs.Ytmcneelapghfcaa

namespace Go.Proofs.Ytmcneelapghfcaa
open Go.RowKit
namespace Sc
/-- a column's bytes -/
def colB (c : C) : List UInt8 := Cd.text c.name ++ (Cd.enc c.kind.toNat ++ Cd.enc (if c.need = true then 1 else 0))
def headB (s : S) : List UInt8 := Cd.text s.name ++ (Cd.enc s.keys.toNat ++ Cd.enc s.cols.length)
/-- a schema's bytes -/
def encode (s : S) : List UInt8 := if right s = true then headB s ++ s.cols.flatMap colB else []
theorem good1_of {s : S} (h : goodTo s s.cols.length = true) (k : Nat) (hk : k < s.cols.length) : good1 s k = true := by
  have h1 := goodTo_le (s.cols.length - (k + 1)) (by rw [show k + 1 + (s.cols.length - (k + 1)) = s.cols.length from by omega]; exact h)
  unfold goodTo at h1
  simp only [Bool.and_eq_true] at h1
  exact h1.2
theorem right_col {s : S} (h : right s = true) (k : Nat) (hk : k < s.cols.length) : s.cols[k].name.size ≤ 32 ∧ 1 ≤ s.cols[k].kind ∧ s.cols[k].kind ≤ 5 := by
  unfold right at h
  simp only [Bool.and_eq_true, decide_eq_true_eq] at h
  have h1 := good1_of h.2 k hk
  rw [good1_at s k hk] at h1
  unfold colOk at h1
  simp only [Bool.and_eq_true, decide_eq_true_eq] at h1
  obtain ⟨⟨⟨⟨a1, a2⟩, a3⟩, _⟩, _⟩ := h1
  exact ⟨(name_len a1).2, a2, a3⟩
end Sc

end Go.Proofs.Ytmcneelapghfcaa

namespace Go.Proofs.Ytmcneelapghfcaa
namespace Sc

def need01 (c : C) : Nat := if c.need = true then 1 else 0
theorem col_back {b : ByteArray} {c : C} {r : List UInt8} {i : Nat} (hn : c.name.size ≤ 32) (h1 : 1 ≤ c.kind) (h2 : c.kind ≤ 5) (h : b.data.toList.drop i = colB c ++ r) :
    ∃ j1 j2 j3, Cd.textR b 1000000 i = .ok (c.name, j1) ∧ Cd.uintR b.data.toList j1 = .ok (c.kind.toNat, j2) ∧ Cd.uintR b.data.toList j2 = .ok (need01 c, j3) ∧ b.data.toList.drop j3 = r := by
  unfold colB at h
  rw [List.append_assoc, List.append_assoc] at h
  obtain ⟨a1, a2⟩ := Cd.text_back (most := 1000000) (by omega) (by decide) h
  obtain ⟨b1, b2⟩ := Cd.uint_back (by omega) a2
  obtain ⟨c1, c2⟩ := Cd.uint_back (by split <;> decide) b2
  exact ⟨_, _, _, a1, b1, c1, c2⟩
theorem read_col {b : ByteArray} {s : S} (hr : right s = true) {k i : Nat} (hk : k < s.cols.length) (h : b.data.toList.drop i = (s.cols.drop k).flatMap colB) :
    ∃ j1 j2 j3, Cd.top ⟨#[]⟩ (Cd.textR b 1000000) i 0 = (s.cols[k].name, j1, 0) ∧ Cd.top 0 (Cd.uintR b.data.toList) j1 0 = (s.cols[k].kind.toNat, j2, 0) ∧ Cd.top 0 (Cd.uintR b.data.toList) j2 0 = (need01 s.cols[k], j3, 0) ∧
      b.data.toList.drop j3 = (s.cols.drop (k + 1)).flatMap colB ∧ 1 ≤ s.cols[k].kind ∧ s.cols[k].kind ≤ 5 := by
  obtain ⟨y1, y2, y3⟩ := right_col hr k hk
  rw [List.drop_eq_getElem_cons hk, List.flatMap_cons] at h
  obtain ⟨j1, j2, j3, a, b1, c, d⟩ := col_back y1 y2 y3 h
  exact ⟨j1, j2, j3, top_ok a, top_ok b1, top_ok c, d, y2, y3⟩
/-- how far bytes are read, were they a schema's -/
def ReadSt (b nm : ByteArray) (ks : Int) (cols : List C) (n j : Nat) (e : Int) : Prop :=
  ∀ s : S, right s = true → b = bstr (encode s) → nm = s.name ∧ ks = s.keys ∧ e = 0 ∧ cols.length ≤ s.cols.length ∧ cols = s.cols.take cols.length ∧ n = s.cols.length - cols.length ∧ b.data.toList.drop j = (s.cols.drop cols.length).flatMap colB
theorem ReadSt.next {b nm : ByteArray} {ks : Int} {cols : List C} {n j : Nat} (h : ReadSt b nm ks cols n j 0) (hn : 0 < n) {g : Nat → Nat} (hg : ∀ m, m ≤ 5 → g m = m) {d : Nat → Bool} (hd0 : d 0 = false) (hd1 : d 1 = true)
    {cn : ByteArray} {j1 kd j2 nd j3 : Nat} {e1 e2 e3 : Int} (h1 : Cd.top ⟨#[]⟩ (Cd.textR b 1000000) j 0 = (cn, j1, e1))
    (h2 : Cd.top 0 (Cd.uintR b.data.toList) j1 e1 = (kd, j2, e2)) (h3 : Cd.top 0 (Cd.uintR b.data.toList) j2 e2 = (nd, j3, e3)) : ReadSt b nm ks (cols ++ [⟨cn, (g kd : Int), d nd⟩]) (n - 1) j3 e3 := by
  intro s hr hb
  obtain ⟨q1, q2, _, q4, q5, q6, q7⟩ := h s hr hb
  have hk : cols.length < s.cols.length := by omega
  obtain ⟨i1, i2, i3, a1, a2, a3, a4, a5, a6⟩ := read_col hr hk q7
  have x1 := a1.symm.trans h1
  simp only [Prod.mk.injEq] at x1
  obtain ⟨rfl, rfl, rfl⟩ := x1
  have x2 := a2.symm.trans h2
  simp only [Prod.mk.injEq] at x2
  obtain ⟨rfl, rfl, rfl⟩ := x2
  have x3 := a3.symm.trans h3
  simp only [Prod.mk.injEq] at x3
  obtain ⟨rfl, rfl, rfl⟩ := x3
  have hc : (⟨s.cols[cols.length].name, (g s.cols[cols.length].kind.toNat : Int), d (need01 s.cols[cols.length])⟩ : C) = s.cols[cols.length] := by
    rw [hg _ (by omega), Int.toNat_of_nonneg (by omega)]
    unfold need01
    cases e : s.cols[cols.length].need with
    | false => rw [if_neg (by simp), hd0, ← e]
    | true => rw [if_pos rfl, hd1, ← e]
  rw [hc]
  have hl : (cols ++ [s.cols[cols.length]]).length = cols.length + 1 := by simp
  rw [hl]
  refine ⟨q1, q2, rfl, hk, ?_, by omega, a4⟩
  rw [List.take_succ_eq_append_getElem hk, ← q5]
theorem top_zero {α : Type} {z : α} {f : Nat → Cd.R α} {i j : Nat} {e : Int} {v : α} (h : Cd.top z f i e = (v, j, 0)) (he : ∀ x, f i = .error x → x ≠ 0) : e = 0 ∧ f i = .ok (v, j) := by
  unfold Cd.top at h
  split at h
  · cases h; omega
  · rename_i h0
    refine ⟨by omega, ?_⟩
    cases hf : f i with
    | error x => rw [hf] at h; cases h; exact absurd rfl (he 0 hf)
    | ok p =>
      obtain ⟨y, m⟩ := p
      rw [hf] at h
      cases h
      rfl
end Sc
end Go.Proofs.Ytmcneelapghfcaa

namespace Go.Proofs.Ytmcneelapghfcaa
open Go.RowKit
namespace Sc
def holdsB (c : C) (v : Cd.V) : Bool := v.right && (if v.k = 0 then !c.need else decide (v.k = c.kind))
def fitAll (cs : List C) (l : List Cd.V) : Bool := (cs.zip l).all fun p => holdsB p.1 p.2
/-- what is wrong with a row -/
def fits (s : S) (l : List Cd.V) : Int := if right s = false then 11 else if l.length ≠ s.cols.length then 10 else if fitAll s.cols l then 0 else 10
end Sc

end Go.Proofs.Ytmcneelapghfcaa

namespace Go.Proofs.Ytmcneelapghfcaa
open Go.RowKit

theorem VsAt.len {w : World} {v : Value} {l : List Cd.V} (h : VsAt w v l) : ∃ adr cap, v = .slice adr l.length cap := by
  obtain ⟨adr, cap, rfl, _⟩ := h; exact ⟨adr, cap, rfl⟩
end Go.Proofs.Ytmcneelapghfcaa

namespace Go.Proofs.Ytmcneelapghfcaa
open Go.RowKit

/-- a row's key -/
def Sc.key (s : Sc.S) (l : List Cd.V) : List Cd.V := if Sc.fits s l = 0 then l.take s.keys.toNat else []
end Go.Proofs.Ytmcneelapghfcaa

namespace Go.Proofs.Ytmcneelapghfcaa
open Go.RowKit

end Go.Proofs.Ytmcneelapghfcaa

namespace Go.Proofs.Ytmcneelapghfcaa
open Go.RowKit

/-- the columns' cells, one behind the other -/
def ccells (l : List Sc.C) : List Value := l.flatMap fun c => [.string c.name, .int .i64 c.kind, .bool c.need]
theorem ccells_get {l : List Sc.C} {j : Nat} {s : Sc.C} (h : l[j]? = some s) : (ccells l)[j * 3]? = some (.string s.name) ∧ (ccells l)[j * 3 + 1]? = some (.int .i64 s.kind) ∧ (ccells l)[j * 3 + 2]? = some (.bool s.need) := by
  induction l generalizing j with
  | nil => simp at h
  | cons x l ih =>
    show (_ :: _ :: _ :: ccells l)[j * 3]? = _ ∧ (_ :: _ :: _ :: ccells l)[j * 3 + 1]? = _ ∧ (_ :: _ :: _ :: ccells l)[j * 3 + 2]? = _
    cases j with
    | zero => simp at h; subst h; exact ⟨rfl, rfl, rfl⟩
    | succ j =>
      simp only [List.getElem?_cons_succ] at h
      rw [show (j + 1) * 3 = j * 3 + 1 + 1 + 1 from by omega, show j * 3 + 1 + 1 + 1 + 1 = (j * 3 + 1) + 1 + 1 + 1 from by omega, show j * 3 + 1 + 1 + 1 + 2 = (j * 3 + 2) + 1 + 1 + 1 from by omega]
      simp only [List.getElem?_cons_succ]
      exact ih h
theorem CsAt.own {w : World} {B : Nat} {v : Value} {l : List Sc.C} (h : w.ownsRow B 68 3 v l.length (ccells l)) : CsAt w v l := by
  rcases h.2 with ⟨rfl, hn⟩ | ⟨g, cap, cur, rfl, hB, hg, hn, hm, hs, ht⟩
  · exact ⟨none, 0, by rw [hn], by omega, by decide, fun k hk => by omega⟩
  · refine ⟨_, cap, rfl, hn, hm, fun k hk => ⟨g, 0, rfl, ?_⟩⟩
    have hc : ∀ i u, (ccells l)[i]? = some u → w.cell? ⟨g, 0 + i, none⟩ = some u := by
      intro i u hi
      rw [Nat.zero_add, cell_of_row w g i cur _ (0, 0) hg]
      rw [← ht, List.getElem?_take] at hi
      split at hi
      · simpa using hi
      · cases hi
    obtain ⟨g0, g1, g2⟩ := ccells_get (List.getElem?_eq_getElem hk)
    exact ⟨hc _ _ g0, by rw [Nat.add_assoc]; exact hc _ _ g1, by rw [Nat.add_assoc]; exact hc _ _ g2⟩
theorem BS.upd {w w' : World} {g g0 : Nat} {n : ByteArray} {v : Value} {k : Int} (h : BS w g0 n v k) (hu : Upd g w w') (hne : g0 ≠ g) : BS w' g0 n v k := by
  show w'.heap[g0]? = _
  rw [hu.block g0 h.cells.2.2.2 (by simpa using hne)]; exact h
theorem BC.upd {w w' : World} {g g0 : Nat} {c : Sc.C} (h : BC w g0 c) (hu : Upd g w w') (hne : g0 ≠ g) : BC w' g0 c := by
  show w'.heap[g0]? = _
  rw [hu.block g0 h.cells.2.2.2 (by simpa using hne)]; exact h
theorem BS.setO {w : World} {g r o : Nat} {n : ByteArray} {v u : Value} {k : Int} (h : BS w g n v k) (hne : r ≠ g) : BS (w.setCell ⟨r, o, none⟩ u) g n v k :=
  (heap_setCell_other w ⟨r, o, none⟩ g u (by simpa [eq_comm] using hne)).trans h
theorem BS.grown {w w' : World} {g : Nat} {r : Option Nat} {n : ByteArray} {v : Value} {k : Int} (h : BS w g n v k) (hg : w.grownBy w' r) (hne : some g ≠ r) : BS w' g n v k := by
  show w'.heap[g]? = _
  rw [hg.block g h.cells.2.2.2 hne]; exact h
theorem Rdr.grown {w w' : World} {g : Nat} {r : Option Nat} {s : ByteArray} {i : Nat} {e : Int} (h : Rdr w g s i e) (hg : w.grownBy w' r) (hne : some g ≠ r) : Rdr w' g s i e := by
  show w'.heap[g]? = _
  rw [hg.block g h.cells.2.2.2.2.2 hne]; exact h
/-- texts and numbers that are read -/
theorem top_text {s : ByteArray} {i j : Nat} {er e : Int} {t : ByteArray} (h : Cd.top ⟨#[]⟩ (Cd.textR s 1000000) i er = (t, j, e)) : t.size ≤ 1000000 ∧ (e = 0 → er = 0 ∧ i < s.size) := by
  unfold Cd.top at h
  split at h
  · cases h; exact ⟨by show 0 ≤ _; omega, fun h => absurd h (by assumption)⟩
  · rename_i h0
    cases hf : Cd.textR s 1000000 i with
    | error x =>
      rw [hf] at h
      cases h
      have := Cd.text_errs 1000000 s i _ hf
      exact ⟨by show 0 ≤ _; omega, fun h => by omega⟩
    | ok p =>
      obtain ⟨y, m⟩ := p
      rw [hf] at h
      cases h
      obtain ⟨q1, _, q2, q3⟩ := Cd.text_inv hf
      exact ⟨q1, fun _ => ⟨by omega, by omega⟩⟩
theorem top_uint {s : ByteArray} {i j : Nat} {er e : Int} {n : Nat} (h : Cd.top 0 (Cd.uintR s.data.toList) i er = (n, j, e)) : n < 18446744073709551616 ∧ (e = 0 → er = 0) := by
  unfold Cd.top at h
  split at h
  · cases h; exact ⟨by decide, fun h => absurd h (by assumption)⟩
  · rename_i h0
    cases hf : Cd.uintR s.data.toList i with
    | error x => rw [hf] at h; cases h; exact ⟨by decide, fun _ => by omega⟩
    | ok p =>
      obtain ⟨y, m⟩ := p
      rw [hf] at h
      cases h
      exact ⟨(Cd.uint_inv hf).1, fun _ => by omega⟩
end Go.Proofs.Ytmcneelapghfcaa

namespace Go.Proofs.Ytmcneelapghfcaa
open Go.RowKit

end Go.Proofs.Ytmcneelapghfcaa

namespace Go.Proofs.Ytmcneelapghfcaa
open Go.RowKit

/-- none of the columns behind asks for a value -/
def Sc.loose (n : Nat) (l : List Sc.C) : Bool := (l.drop n).all fun c => !c.need
/-- b has a's columns, and more -/
def Sc.extends (a b : Sc.S) : Bool := Sc.right a && (Sc.right b && (decide (a.cols.length ≤ b.cols.length) && (Sc.loose a.cols.length b.cols && Sc.same a ⟨b.name, b.cols.take a.cols.length, b.keys⟩)))
theorem Sc.loose_no {n k : Nat} {l : List Sc.C} (h : n + k < l.length) (h0 : (l[n + k]).need = true) : Sc.loose n l = false := by
  unfold Sc.loose
  rw [List.all_eq_false]
  refine ⟨l[n + k], ?_, by simp [h0]⟩
  rw [List.mem_drop_iff_getElem]
  exact ⟨k, by omega, by congr 1⟩
/-- none of the first k columns behind asks for a value -/
def Sc.looseTo (n : Nat) (l : List Sc.C) (k : Nat) : Bool := ((l.drop n).take k).all fun c => !c.need
theorem Sc.looseTo_zero (n : Nat) (l : List Sc.C) : Sc.looseTo n l 0 = true := by unfold Sc.looseTo; simp
theorem Sc.looseTo_next {n k : Nat} {l : List Sc.C} (h : n + k < l.length) (h1 : Sc.looseTo n l k = true) (h0 : (l[n + k]).need = false) : Sc.looseTo n l (k + 1) = true := by
  unfold Sc.looseTo at *
  rw [List.take_succ_eq_append_getElem (by rw [List.length_drop]; omega), List.all_append, h1]
  simp [h0]
theorem Sc.looseTo_all {n : Nat} {l : List Sc.C} (h : Sc.looseTo n l (l.length - n) = true) : Sc.loose n l = true := by
  unfold Sc.looseTo at h
  rw [List.take_of_length_le (by rw [List.length_drop]; exact Nat.le_refl _)] at h
  exact h
/-- how far the reference has come -/
def Sc.ExtTo (ac bc : List Sc.C) (k : Nat) : Prop := (k ≤ ac.length ∧ ac.take k = bc.take k) ∨ (ac.length ≤ k ∧ ac = bc.take ac.length ∧ Sc.looseTo ac.length bc (k - ac.length) = true)
theorem Sc.ExtTo.in_ {ac bc : List Sc.C} {k : Nat} (h : Sc.ExtTo ac bc k) (hk : k < ac.length) (hle : ac.length ≤ bc.length) (he : ac[k] = bc[k]'(by omega)) : Sc.ExtTo ac bc (k + 1) := by
  rcases h with ⟨_, h⟩ | ⟨h, _⟩
  · refine .inl ⟨hk, ?_⟩
    rw [List.take_succ_eq_append_getElem hk, List.take_succ_eq_append_getElem (by omega), h, he]
  · omega
theorem Sc.ExtTo.out {ac bc : List Sc.C} {k : Nat} (h : Sc.ExtTo ac bc k) (hk : ac.length ≤ k) : ac = bc.take ac.length ∧ Sc.looseTo ac.length bc (k - ac.length) = true := by
  rcases h with ⟨h1, h⟩ | ⟨_, h1, h2⟩
  · obtain rfl : k = ac.length := by omega
    rw [List.take_length] at h
    exact ⟨h, by rw [Nat.sub_self]; exact Sc.looseTo_zero _ _⟩
  · exact ⟨h1, h2⟩
theorem Sc.ExtTo.next {ac bc : List Sc.C} {k : Nat} (h : Sc.ExtTo ac bc k) (hk : ac.length ≤ k) (hb : k < bc.length) (h0 : bc[k].need = false) : Sc.ExtTo ac bc (k + 1) := by
  obtain ⟨h1, h2⟩ := h.out hk
  refine .inr ⟨by omega, h1, ?_⟩
  rw [show k + 1 - ac.length = (k - ac.length) + 1 by omega]
  have e : ac.length + (k - ac.length) = k := by omega
  exact Sc.looseTo_next (by omega) h2 (by simp only [e]; exact h0)
theorem Sc.take_ne {ac bc : List Sc.C} {k : Nat} (hk : k < ac.length) (hle : ac.length ≤ bc.length) (he : ac[k] ≠ bc[k]'(by omega)) : ac ≠ bc.take ac.length := by
  intro h
  apply he
  have h1 : (bc.take ac.length)[k]'(by rw [List.length_take]; omega) = bc[k]'(by omega) := List.getElem_take ..
  rw [← h1]
  congr 1
theorem CsAt.take {w : World} {adr : Option Addr} {cap : Nat} {l : List Sc.C} (h : CsAt w (.slice adr l.length cap) l) (n : Nat) (hn : n ≤ l.length) : CsAt w (.slice adr n cap) (l.take n) := by
  obtain ⟨adr', cap', e, h1, h2, hc⟩ := h
  cases e
  have hl : (l.take n).length = n := by rw [List.length_take]; omega
  refine ⟨adr, cap, by rw [hl], by omega, h2, fun k hk => ?_⟩
  have hk' : k < l.length := by omega
  have hg : (l.take n)[k] = l[k] := List.getElem_take ..
  rw [hg]
  exact hc k hk'
set_option maxRecDepth 100000 in
set_option maxHeartbeats 12800000 in
theorem extendsR_any (a b : Sc.S) (va vb : Value) (w : World) (h1 : CsAt w va a.cols) (h2 : CsAt w vb b.cols) (hza : Sok a) (hzb : Sok b) :
    Calls Try.prog 25 #[sv a va, sv b vb] w fun e w' => e = .returned (.bool (Sc.extends a b)) ∧ Below w.heap.size w w' := by
  have hRa := hid (fun W h => rightR_sc a va W h hza)
  have hRb := hid (fun W h => rightR_sc b vb W h hzb)
  have HCA := hid h1
  have HCB := hid h2
  have HX : Hid (Sc.extends a b = (Sc.right a && (Sc.right b && (decide (a.cols.length ≤ b.cols.length) && (Sc.loose a.cols.length b.cols && Sc.same a ⟨b.name, b.cols.take a.cols.length, b.keys⟩))))) := rfl
  have HRL : Hid (Sc.right b = true → 1 ≤ b.cols.length ∧ b.cols.length ≤ 16) := fun h => by
    unfold Sc.right at h
    simp only [Bool.and_eq_true, decide_eq_true_eq] at h
    omega
  obtain ⟨adr, cap, rfl, hc1, hc2, hc⟩ := h1
  obtain ⟨adr2, cap2, rfl, hd1, hd2, hd⟩ := h2
  have HC := hid hc
  have HD := hid hd
  unfold maxLen at hc2 hd2
  clear hc hd hza hzb
  obtain ⟨an, ac, ak⟩ := a
  obtain ⟨bn, bc, bk⟩ := b
  simp only at hc1 hd1 HC HD HCA HCB HRL
  unfold sv at hRa hRb ⊢
  simp only at hRa hRb HX ⊢
  have hb2 : Below w.heap.size w ((w.alloc (.cells #[.string an, .slice adr ac.length cap, .int .i64 ak] 31)).alloc (.cells #[.string bn, .slice adr2 bc.length cap2, .int .i64 bk] 31)) := hnext (hba w _) (hba _ _)
  have hA0 := (BS.new w an (.slice adr ac.length cap) ak).keep (hba _ (.cells #[.string bn, .slice adr2 bc.length cap2, .int .i64 bk] 31))
  have hB0 := BS.new (w.alloc (.cells #[.string an, .slice adr ac.length cap, .int .i64 ak] 31)) bn (.slice adr2 bc.length cap2) bk
  have hs1 : (w.alloc (.cells #[.string an, .slice adr ac.length cap, .int .i64 ak] 31)).heap.size = w.heap.size + 1 := by simp
  rw [hs1] at hB0
  have HB2 := hid hb2
  have HA0 := hid hA0
  have HB0 := hid hB0
  clear hb2 hA0 hB0 hs1
  cases hra : Sc.right ⟨an, ac, ak⟩
  · rw [hra] at hRa
    have HE : Hid (Sc.extends ⟨an, ac, ak⟩ ⟨bn, bc, bk⟩ = false) := by show _ = _; rw [HX.out, hra]; rfl
    clear hra HX
    go_enter Try.func25, Try.ntmps25
    go_wp2_with fail
    refine (hRa.out _ (HCA.out.below HB2.out)).mono ?_; rintro e w1 ⟨rfl, hb1⟩
    have hA1 := HA0.out.keep hb1
    have hB1 := HB0.out.keep hb1
    have HL1 := hid (hnext HB2.out hb1)
    clear hb1 HA0 HB0 HB2
    obtain ⟨a0, a1, a2, al⟩ := hA1.cells
    obtain ⟨b0, b1, b2, bl⟩ := hB1.cells
    go_wp2_with fail
    go_ret
    rw [HE.out]
    exact ⟨rfl, HL1.out⟩
  rw [hra] at hRa HX
  clear hra
  cases hrb : Sc.right ⟨bn, bc, bk⟩
  · rw [hrb] at hRb
    have HE : Hid (Sc.extends ⟨an, ac, ak⟩ ⟨bn, bc, bk⟩ = false) := by show _ = _; rw [HX.out, hrb]; rfl
    clear hrb HX
    go_enter Try.func25, Try.ntmps25
    go_wp2_with fail
    refine (hRa.out _ (HCA.out.below HB2.out)).mono ?_; rintro e w1 ⟨rfl, hb1⟩
    have hA1 := HA0.out.keep hb1
    have hB1 := HB0.out.keep hb1
    have HL1 := hid (hnext HB2.out hb1)
    clear hb1 HA0 HB0 HB2
    obtain ⟨a0, a1, a2, al⟩ := hA1.cells
    obtain ⟨b0, b1, b2, bl⟩ := hB1.cells
    go_wp2_with fail
    refine (hRb.out _ (HCB.out.below HL1.out)).mono ?_; rintro e w2 ⟨rfl, hb2⟩
    have hA2 := hA1.keep hb2
    have hB2 := hB1.keep hb2
    have HL2 := hid (hnext HL1.out hb2)
    clear hb2 hA1 hB1 a0 a1 a2 b0 b1 b2 al bl HL1
    obtain ⟨a0, a1, a2, al⟩ := hA2.cells
    obtain ⟨b0, b1, b2, bl⟩ := hB2.cells
    go_wp2_with fail
    go_ret
    rw [HE.out]
    exact ⟨rfl, HL2.out⟩
  have HLB := hid (HRL.out hrb)
  rw [hrb] at hRb HX
  clear hrb
  by_cases hn : an = bn
  · subst hn
    by_cases hkk : ak = bk
    · subst hkk
      by_cases hlen : bc.length < ac.length
      · have hlen' : decide (bc.length < ac.length) = true := decide_eq_true hlen
        have HE : Hid (Sc.extends ⟨an, ac, ak⟩ ⟨an, bc, ak⟩ = false) := by show _ = _; rw [HX.out, decide_eq_false (show ¬ ac.length ≤ bc.length by omega)]; rfl
        clear hlen HX
        go_enter Try.func25, Try.ntmps25
        go_wp2_with fail
        refine (hRa.out _ (HCA.out.below HB2.out)).mono ?_; rintro e w1 ⟨rfl, hb1⟩
        have hA1 := HA0.out.keep hb1
        have hB1 := HB0.out.keep hb1
        have HL1 := hid (hnext HB2.out hb1)
        clear hb1 HA0 HB0 HB2
        obtain ⟨a0, a1, a2, al⟩ := hA1.cells
        obtain ⟨b0, b1, b2, bl⟩ := hB1.cells
        go_wp2_with fail
        refine (hRb.out _ (HCB.out.below HL1.out)).mono ?_; rintro e w2 ⟨rfl, hb2⟩
        have hA2 := hA1.keep hb2
        have hB2 := hB1.keep hb2
        have HL2 := hid (hnext HL1.out hb2)
        clear hb2 hA1 hB1 a0 a1 a2 b0 b1 b2 al bl HL1
        obtain ⟨a0, a1, a2, al⟩ := hA2.cells
        obtain ⟨b0, b1, b2, bl⟩ := hB2.cells
        go_wp2_with fail
        go_ret
        rw [HE.out]
        exact ⟨rfl, HL2.out⟩
      have hle : ac.length ≤ bc.length := by omega
      have HLE := hid hle
      have hlen' : decide (bc.length < ac.length) = false := decide_eq_false hlen
      have HX2 : Hid (Sc.extends ⟨an, ac, ak⟩ ⟨an, bc, ak⟩ = (Sc.loose ac.length bc && decide (ac = bc.take ac.length))) := by show _ = _; rw [HX.out, decide_eq_true hle]; unfold Sc.same; simp
      clear hlen hle HX
      go_enter Try.func25, Try.ntmps25
      go_wp2_with fail
      refine (hRa.out _ (HCA.out.below HB2.out)).mono ?_; rintro e w1 ⟨rfl, hb1⟩
      have hA1 := HA0.out.keep hb1
      have hB1 := HB0.out.keep hb1
      have HL1 := hid (hnext HB2.out hb1)
      clear hb1 HA0 HB0 HB2
      obtain ⟨a0, a1, a2, al⟩ := hA1.cells
      obtain ⟨b0, b1, b2, bl⟩ := hB1.cells
      go_wp2_with fail
      refine (hRb.out _ (HCB.out.below HL1.out)).mono ?_; rintro e w2 ⟨rfl, hb2⟩
      have hA2 := hA1.keep hb2
      have hB2 := hB1.keep hb2
      have HL2 := hid (hnext HL1.out hb2)
      clear hb2 hA1 hB1 a0 a1 a2 b0 b1 b2 al bl HL1
      obtain ⟨a0, a1, a2, al⟩ := hA2.cells
      obtain ⟨b0, b1, b2, bl⟩ := hB2.cells
      go_wp2_with fail
      clear a0 a1 a2 b0 b1 b2 bl
      go_loopw [5] (fun q wr => ∃ k : Nat, k ≤ bc.length ∧ q = .int .i64 (k : Int) ∧ Hid (Sc.ExtTo ac bc k) ∧ BS wr w.heap.size an (.slice adr ac.length cap) ak ∧ BS wr (w.heap.size + 1) an (.slice adr2 bc.length cap2) ak ∧ Hid (Below w.heap.size w wr)) (fun q _ => bc.length - (intOf q).toNat)
      case atStart => exact ⟨0, by omega, rfl, .inl ⟨by omega, by simp⟩, hA2, hB2, HL2⟩
      case round =>
        obtain ⟨k, hk, rfl, hex, hA, hB, hL⟩ := hrel
        clear hA2 hB2 HL2
        obtain ⟨w4, rfl⟩ : ∃ w4 : World, w4 = wr := ⟨_, rfl⟩
        have hk0 : (0 : Int) ≤ (k : Int) := by omega
        obtain ⟨a0, a1, a2, al⟩ := hA.cells
        obtain ⟨b0, b1, b2, bl⟩ := hB.cells
        by_cases hlk : k < bc.length
        · have hlk' : (k : Int) < (bc.length : Int) := by omega
          obtain ⟨g3, off3, rfl, q0, q1, q2⟩ := HD.out k hlk
          replace q0 := hkeep q0 hL.out
          replace q1 := hkeep q1 hL.out
          replace q2 := hkeep q2 hL.out
          by_cases hka : k < ac.length
          · obtain ⟨g4, off4, rfl, p0, p1, p2⟩ := HC.out k hka
            replace p0 := hkeep p0 hL.out
            replace p1 := hkeep p1 hL.out
            replace p2 := hkeep p2 hL.out
            have hka' : decide (k < ac.length) = true := decide_eq_true hka
            have hka2 : decide (ac.length ≤ k) = false := decide_eq_false (by omega)
            have hka3 : (k : Int) < (ac.length : Int) := by omega
            have HIN := hid (hex.out.in_ hka HLE.out)
            have HNE := hid (fun h => Sc.take_ne hka HLE.out h)
            have hq := c_neq ac[k] bc[k] _ rfl
            generalize ac[k] = x at p0 p1 p2 HIN HNE hq
            generalize bc[k] = y at q0 q1 q2 HIN HNE hq
            unfold cv at hq
            by_cases hxy : x = y
            · have HT := hid (HIN.out hxy)
              rw [decide_eq_true hxy] at hq
              clear hxy HIN HNE
              go_wp2_with fail
              go_quiet (fail)
              go_wp2_with fail
              go_roundw
              case rel => exact ⟨k + 1, by omega, by go_num, HT, hA, hB, hdrewN hL.out _⟩
              case measure => simp [intOf]; omega
            · have HE : Hid (Sc.extends ⟨an, ac, ak⟩ ⟨an, bc, ak⟩ = false) := by show _ = _; rw [HX2.out, decide_eq_false (HNE.out hxy), Bool.and_false]
              rw [decide_eq_false hxy] at hq
              clear hxy HIN HNE
              go_wp2_with fail
              go_quiet (fail)
              go_wp2_with fail
              go_ret
              rw [HE.out]
              exact ⟨rfl, hdrewN hL.out _⟩
          · have hka' : decide (k < ac.length) = false := decide_eq_false hka
            have hka2 : decide (ac.length ≤ k) = true := decide_eq_true (by omega)
            have hka4 : ac.length ≤ k := by omega
            have HN := hid (hex.out.next hka4 hlk)
            have HLO : Hid ((bc[k]).need = true → Sc.loose ac.length bc = false) := fun h => Sc.loose_no (n := ac.length) (k := k - ac.length) (by omega) (by simp only [show ac.length + (k - ac.length) = k by omega]; exact h)
            generalize bc[k] = y at q0 q1 q2 HN HLO
            obtain ⟨yn, yk, yd⟩ := y
            simp only at q0 q1 q2 HN HLO
            cases yd
            · have HT := hid (HN.out rfl)
              clear hka HN HLO hka4
              go_wp2_with fail
              go_quiet (fail)
              go_wp2_with fail
              go_roundw
              case rel => exact ⟨k + 1, by omega, by go_num, HT, hA, hB, hdrewN hL.out _⟩
              case measure => simp [intOf]; omega
            · have HE : Hid (Sc.extends ⟨an, ac, ak⟩ ⟨an, bc, ak⟩ = false) := by show _ = _; rw [HX2.out, HLO.out rfl, Bool.false_and]
              clear hka HN HLO hka4
              go_wp2_with fail
              go_quiet (fail)
              go_wp2_with fail
              go_ret
              rw [HE.out]
              exact ⟨rfl, hdrewN hL.out _⟩
        · obtain rfl : k = bc.length := by omega
          obtain ⟨f1, f2⟩ := hex.out.out HLE.out
          have HE : Hid (Sc.extends ⟨an, ac, ak⟩ ⟨an, bc, ak⟩ = true) := by show _ = _; rw [HX2.out, Sc.looseTo_all f2, decide_eq_true f1]; rfl
          clear f1 f2
          go_wp2_with fail
          go_ret
          rw [HE.out]
          exact ⟨rfl, hL.out⟩
    · have e2 : (ak == bk) = false := beq_eq_false_iff_ne.2 hkk
      have e2b : (ak != bk) = true := by rw [bne_iff_ne]; exact hkk
      have HE : Hid (Sc.extends ⟨an, ac, ak⟩ ⟨an, bc, bk⟩ = false) := by show _ = _; rw [HX.out]; unfold Sc.same; simp [hkk]
      clear hkk HX
      go_enter Try.func25, Try.ntmps25
      go_wp2_with fail
      refine (hRa.out _ (HCA.out.below HB2.out)).mono ?_; rintro e w1 ⟨rfl, hb1⟩
      have hA1 := HA0.out.keep hb1
      have hB1 := HB0.out.keep hb1
      have HL1 := hid (hnext HB2.out hb1)
      clear hb1 HA0 HB0 HB2
      obtain ⟨a0, a1, a2, al⟩ := hA1.cells
      obtain ⟨b0, b1, b2, bl⟩ := hB1.cells
      go_wp2_with fail
      refine (hRb.out _ (HCB.out.below HL1.out)).mono ?_; rintro e w2 ⟨rfl, hb2⟩
      have hA2 := hA1.keep hb2
      have hB2 := hB1.keep hb2
      have HL2 := hid (hnext HL1.out hb2)
      clear hb2 hA1 hB1 a0 a1 a2 b0 b1 b2 al bl HL1
      obtain ⟨a0, a1, a2, al⟩ := hA2.cells
      obtain ⟨b0, b1, b2, bl⟩ := hB2.cells
      go_wp2_with fail
      go_ret
      rw [HE.out]
      exact ⟨rfl, HL2.out⟩
  · have e1 : (an.toList == bn.toList) = false := by rw [bytes_beq]; exact decide_eq_false hn
    have HE : Hid (Sc.extends ⟨an, ac, ak⟩ ⟨bn, bc, bk⟩ = false) := by show _ = _; rw [HX.out]; unfold Sc.same; simp [hn]
    clear hn HX
    go_enter Try.func25, Try.ntmps25
    go_wp2_with fail
    refine (hRa.out _ (HCA.out.below HB2.out)).mono ?_; rintro e w1 ⟨rfl, hb1⟩
    have hA1 := HA0.out.keep hb1
    have hB1 := HB0.out.keep hb1
    have HL1 := hid (hnext HB2.out hb1)
    clear hb1 HA0 HB0 HB2
    obtain ⟨a0, a1, a2, al⟩ := hA1.cells
    obtain ⟨b0, b1, b2, bl⟩ := hB1.cells
    go_wp2_with fail
    refine (hRb.out _ (HCB.out.below HL1.out)).mono ?_; rintro e w2 ⟨rfl, hb2⟩
    have hA2 := hA1.keep hb2
    have hB2 := hB1.keep hb2
    have HL2 := hid (hnext HL1.out hb2)
    clear hb2 hA1 hB1 a0 a1 a2 b0 b1 b2 al bl HL1
    obtain ⟨a0, a1, a2, al⟩ := hA2.cells
    obtain ⟨b0, b1, b2, bl⟩ := hB2.cells
    go_wp2_with fail
    go_ret
    rw [HE.out]
    exact ⟨rfl, HL2.out⟩
end Go.Proofs.Ytmcneelapghfcaa
