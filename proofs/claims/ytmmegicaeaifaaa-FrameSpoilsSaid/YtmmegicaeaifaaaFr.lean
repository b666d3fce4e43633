/-
  Transactions plainly: changes, which are right, their bytes, their frames; and in memory. No condition.
-/
import Derived.Test.YtmmegicaeaifaaaFt
import Derived.Test.YtmmegicaeaifaaaFc
namespace Go.Proofs.Ytmmegicaeaifaaa
open Go.RowKit

namespace Fr
/-- a change -/
structure Ch where
  op : Int
  table : ByteArray
  row : List Cd.V
  fr : Int
  to : Int
  df : Sc.S
/-- a transaction -/
structure Tx where
  seq : Int
  time : Int
  cs : List Ch
def noS : Sc.S := ⟨⟨#[]⟩, [], 0⟩
def noC : Ch := ⟨0, ⟨#[]⟩, [], 0, 0, noS⟩
def noT : Tx := ⟨0, 0, []⟩
def rowB (l : List Cd.V) (m : Nat) : Bool := l.all Cd.V.right && (decide (1 ≤ l.length) && decide (l.length ≤ m))
def spanB (f t : Int) : Bool := decide (0 ≤ f) && (decide (f < t) && decide (t ≤ 1099511627776))
def tabB (c : Ch) : Bool := Sc.right c.df && (decide (c.table = c.df.name) && (decide (c.row.length = 0) && (decide (c.fr = 0) && decide (c.to = 0))))
def putB (c : Ch) (m : Nat) : Bool := Sc.nameB c.table && (rowB c.row m && (spanB c.fr c.to && Sc.same c.df noS))
def chB (c : Ch) : Bool := if c.op = 3 then tabB c else if c.op = 1 then putB c 16 else if c.op = 2 then putB c 8 else false
def headB (t : Tx) : Bool := decide (1 ≤ t.seq) && (decide (t.seq ≤ 1099511627776) && (decide (0 ≤ t.time) && (decide (t.time < 1099511627776) && decide (t.cs.length ≤ 100))))
def txB (t : Tx) : Bool := t.cs.all chB && headB t
/-- a change's bytes -/
def chL (c : Ch) : List UInt8 := if c.op = 3 then Cd.enc c.op.toNat ++ Cd.text (bstr (Sc.encode c.df)) else Cd.enc c.op.toNat ++ Cd.text c.table ++ Cd.row c.row ++ Cd.enc c.fr.toNat ++ Cd.enc c.to.toNat
def headL (t : Tx) : List UInt8 := Cd.enc t.seq.toNat ++ Cd.enc t.time.toNat ++ Cd.enc t.cs.length
def bodyL (t : Tx) : List UInt8 := headL t ++ t.cs.flatMap chL
def body (t : Tx) : List UInt8 := if txB t then (if 100000 < (bodyL t).length then [] else bodyL t) else []
/-- a number as four bytes, the highest first -/
def four (n : Nat) : List UInt8 := [UInt8.ofNat (n / 16777216), UInt8.ofNat (n / 65536), UInt8.ofNat (n / 256), UInt8.ofNat n]
def frame (t : Tx) : List UInt8 := if body t = [] then [] else four (body t).length ++ Crc.put (body t)

theorem same_no (s : Sc.S) : Sc.same s noS = true ↔ s = noS := by
  unfold Sc.same
  rw [Bool.and_eq_true, Bool.and_eq_true, decide_eq_true_iff, decide_eq_true_iff, decide_eq_true_iff]
  obtain ⟨n, c, k⟩ := s
  constructor
  · rintro ⟨a, b, d⟩
    have a' : n = ⟨#[]⟩ := a
    have b' : k = 0 := b
    have d' : c = [] := d
    rw [a', b', d']; rfl
  · intro e
    injection e with a b d
    exact ⟨a, d, b⟩
theorem rowB_iff {l : List Cd.V} {m : Nat} : rowB l m = true ↔ l.all Cd.V.right = true ∧ 1 ≤ l.length ∧ l.length ≤ m := by
  unfold rowB; simp
theorem chB_ways {c : Ch} (h : chB c = true) : (c.op = 3 ∧ tabB c = true) ∨ (c.op = 1 ∧ putB c 16 = true) ∨ (c.op = 2 ∧ putB c 8 = true) := by
  unfold chB at h
  split at h
  · exact .inl ⟨by assumption, h⟩
  · split at h
    · exact .inr (.inl ⟨by assumption, h⟩)
    · split at h
      · exact .inr (.inr ⟨by assumption, h⟩)
      · cases h
theorem tabB_iff {c : Ch} : tabB c = true ↔ Sc.right c.df = true ∧ c.table = c.df.name ∧ c.row = [] ∧ c.fr = 0 ∧ c.to = 0 := by
  unfold tabB; simp
theorem putB_iff {c : Ch} {m : Nat} : putB c m = true ↔ Sc.nameB c.table = true ∧ (c.row.all Cd.V.right = true ∧ 1 ≤ c.row.length ∧ c.row.length ≤ m) ∧ (0 ≤ c.fr ∧ c.fr < c.to ∧ c.to ≤ 1099511627776) ∧ c.df = noS := by
  unfold putB
  rw [Bool.and_eq_true, Bool.and_eq_true, Bool.and_eq_true, same_no, rowB_iff]
  unfold spanB
  simp
theorem headB_iff {t : Tx} : headB t = true ↔ 1 ≤ t.seq ∧ t.seq ≤ 1099511627776 ∧ 0 ≤ t.time ∧ t.time < 1099511627776 ∧ t.cs.length ≤ 100 := by
  unfold headB; simp
theorem txB_iff {t : Tx} : txB t = true ↔ (∀ c ∈ t.cs, chB c = true) ∧ headB t = true := by
  unfold txB
  rw [Bool.and_eq_true, List.all_eq_true]
/-- the numbers of a right change -/
theorem ch_nums {c : Ch} (h : chB c = true) : 1 ≤ c.op ∧ c.op ≤ 3 ∧ 0 ≤ c.fr ∧ 0 ≤ c.to ∧ c.fr ≤ 1099511627776 ∧ c.to ≤ 1099511627776 ∧ c.table.size ≤ 32 ∧ c.row.length ≤ 16 := by
  rcases chB_ways h with ⟨e, h⟩ | ⟨e, h⟩ | ⟨e, h⟩
  · obtain ⟨h1, h2, h3, h4, h5⟩ := tabB_iff.1 h
    have := (Sc.right_head h1).1
    rw [h2, h3, h4, h5, e]
    simp; omega
  · obtain ⟨h1, ⟨_, h2, h3⟩, ⟨h4, h5, h6⟩, _⟩ := putB_iff.1 h
    have := (Sc.name_len h1).2
    omega
  · obtain ⟨h1, ⟨_, h2, h3⟩, ⟨h4, h5, h6⟩, _⟩ := putB_iff.1 h
    have := (Sc.name_len h1).2
    omega
theorem encode_len (s : Sc.S) : (Sc.encode s).length ≤ 1100 := by
  unfold Sc.encode
  split
  · rename_i hr
    obtain ⟨h1, h2, h3, h4⟩ := Sc.right_head hr
    have hc : ∀ c ∈ s.cols, (Sc.colB c).length ≤ 62 := by
      intro c hc
      have := (Sc.right_cols hr c hc).1
      unfold Sc.colB
      rw [List.length_append, List.length_append]
      have a := text_length c.name
      have b := (Cd.enc_length c.kind.toNat).2
      have d := (Cd.enc_length (if c.need = true then 1 else 0)).2
      omega
    have hf : ∀ l : List Sc.C, (∀ c ∈ l, (Sc.colB c).length ≤ 62) → (l.flatMap Sc.colB).length ≤ l.length * 62 := by
      intro l
      induction l with
      | nil => intro _; exact Nat.le_refl _
      | cons c l ih =>
        intro h
        rw [List.flatMap_cons, List.length_append, List.length_cons]
        have a := h c (List.mem_cons_self ..)
        have b := ih (fun x hx => h x (List.mem_cons_of_mem _ hx))
        omega
    have h5 := hf _ hc
    have a := text_length s.name
    have b := (Cd.enc_length s.keys.toNat).2
    have d := (Cd.enc_length s.cols.length).2
    unfold Sc.headB
    simp only [List.length_append]
    have : s.cols.length * 62 ≤ 16 * 62 := Nat.mul_le_mul_right _ h4
    omega
  · simp
end Fr
open Fr
/-- a change as a value: its row and its columns lie elsewhere -/
def cvv (c : Ch) (vr vc : Value) : Value := .agg #[.int .i64 c.op, .string c.table, vr, .int .i64 c.fr, .int .i64 c.to, .string c.df.name, vc, .int .i64 c.df.keys]
/-- the slice v holds the changes l -/
def HsAt (w : World) (v : Value) (l : List Ch) : Prop :=
  ∃ adr cap, v = .slice adr l.length cap ∧ ∀ k (hk : k < l.length), ∃ g off vr vc, adr = some ⟨g, off, none⟩ ∧ w.cell? ⟨g, off + k * 8, none⟩ = some (.int .i64 l[k].op) ∧ w.cell? ⟨g, off + k * 8 + 1, none⟩ = some (.string l[k].table) ∧
    w.cell? ⟨g, off + k * 8 + 2, none⟩ = some vr ∧ w.cell? ⟨g, off + k * 8 + 3, none⟩ = some (.int .i64 l[k].fr) ∧ w.cell? ⟨g, off + k * 8 + 4, none⟩ = some (.int .i64 l[k].to) ∧ w.cell? ⟨g, off + k * 8 + 5, none⟩ = some (.string l[k].df.name) ∧
    w.cell? ⟨g, off + k * 8 + 6, none⟩ = some vc ∧ w.cell? ⟨g, off + k * 8 + 7, none⟩ = some (.int .i64 l[k].df.keys) ∧ VsAt w vr l[k].row ∧ CsAt w vc l[k].df.cols
theorem HsAt.below {w w' : World} {v : Value} {l : List Ch} (h : HsAt w v l) (hb : Below w.heap.size w w') : HsAt w' v l := by
  obtain ⟨adr, cap, rfl, hc⟩ := h
  refine ⟨adr, cap, rfl, fun k hk => ?_⟩
  obtain ⟨g, off, vr, vc, rfl, q0, q1, q2, q3, q4, q5, q6, q7, h1, h2⟩ := hc k hk
  exact ⟨g, off, vr, vc, rfl, hkeep q0 hb, hkeep q1 hb, hkeep q2 hb, hkeep q3 hb, hkeep q4 hb, hkeep q5 hb, hkeep q6 hb, hkeep q7 hb, h1.below hb, h2.below hb⟩
theorem HsAt.slc {w : World} {v : Value} {l : List Ch} (h : HsAt w v l) : ∃ adr cap, v = .slice adr l.length cap := by
  obtain ⟨adr, cap, rfl, _⟩ := h; exact ⟨adr, cap, rfl⟩
theorem HsAt.nil (w : World) : HsAt w (.slice none 0 0) [] := ⟨none, 0, rfl, fun k hk => absurd hk (Nat.not_lt_zero k)⟩
theorem vs_slc {w : World} {u : Value} {row : List Cd.V} (h : VsAt w u row) : ∃ adr cap, u = .slice adr row.length cap := by obtain ⟨adr, cap, rfl, _⟩ := h; exact ⟨adr, cap, rfl⟩
theorem VsAt.nil0 (w : World) : VsAt w (.slice none 0 0) [] := ⟨none, 0, rfl, fun k hk => absurd hk (Nat.not_lt_zero k)⟩
theorem CsAt.nil0 (w : World) : CsAt w (.slice none 0 0) [] := ⟨none, 0, rfl, Nat.le_refl _, Nat.zero_le _, fun k hk => absurd hk (Nat.not_lt_zero k)⟩
/-- a change that can stand in memory; sizes as far as the statements hold -/
def Chk (c : Ch) : Prop := (-9223372036854775808 ≤ c.op ∧ c.op ≤ 9223372036854775807) ∧ (-9223372036854775808 ≤ c.fr ∧ c.fr ≤ 9223372036854775807) ∧ (-9223372036854775808 ≤ c.to ∧ c.to ≤ 9223372036854775807) ∧
  c.table.size ≤ maxLen ∧ (∀ x ∈ c.row, Vok x) ∧ Sok c.df
/-- a transaction as a value -/
def tv (t : Tx) (v : Value) : Value := .agg #[.int .i64 t.seq, .int .i64 t.time, v]
/-- cells of a block of its own that hold a change -/
def BH (w : World) (g : Nat) (c : Ch) (vr vc : Value) : Prop := w.heap[g]? = some (.cells #[.int .i64 c.op, .string c.table, vr, .int .i64 c.fr, .int .i64 c.to, .string c.df.name, vc, .int .i64 c.df.keys] 32 (0, 0))
theorem BH.cells {w : World} {g : Nat} {c : Ch} {vr vc : Value} (h : BH w g c vr vc) : w.cell? ⟨g, 0, none⟩ = some (.int .i64 c.op) ∧ w.cell? ⟨g, 1, none⟩ = some (.string c.table) ∧ w.cell? ⟨g, 2, none⟩ = some vr ∧ w.cell? ⟨g, 3, none⟩ = some (.int .i64 c.fr) ∧ w.cell? ⟨g, 4, none⟩ = some (.int .i64 c.to) ∧
    w.cell? ⟨g, 5, none⟩ = some (.string c.df.name) ∧ w.cell? ⟨g, 6, none⟩ = some vc ∧ w.cell? ⟨g, 7, none⟩ = some (.int .i64 c.df.keys) ∧ w.frozen? ⟨g, 0, none⟩ = false ∧ w.frozen? ⟨g, 1, none⟩ = false ∧ w.frozen? ⟨g, 2, none⟩ = false ∧ w.frozen? ⟨g, 3, none⟩ = false ∧ w.frozen? ⟨g, 4, none⟩ = false ∧
    w.frozen? ⟨g, 5, none⟩ = false ∧ w.frozen? ⟨g, 6, none⟩ = false ∧ w.frozen? ⟨g, 7, none⟩ = false ∧ g < w.heap.size :=
  ⟨cell_of_row w g 0 _ _ _ h, cell_of_row w g 1 _ _ _ h, cell_of_row w g 2 _ _ _ h, cell_of_row w g 3 _ _ _ h, cell_of_row w g 4 _ _ _ h, cell_of_row w g 5 _ _ _ h, cell_of_row w g 6 _ _ _ h, cell_of_row w g 7 _ _ _ h,
   frozen_of_row w g 0 _ _ h, frozen_of_row w g 1 _ _ h, frozen_of_row w g 2 _ _ h, frozen_of_row w g 3 _ _ h, frozen_of_row w g 4 _ _ h, frozen_of_row w g 5 _ _ h, frozen_of_row w g 6 _ _ h, frozen_of_row w g 7 _ _ h, (Array.getElem?_eq_some_iff.1 h).1⟩
theorem BH.keep {w w' : World} {g : Nat} {c : Ch} {vr vc : Value} (h : BH w g c vr vc) (hb : Below w.heap.size w w') : BH w' g c vr vc := keepBlock h hb
theorem BH.new (w : World) (c : Ch) (vr vc : Value) : BH (w.alloc (.cells #[.int .i64 c.op, .string c.table, vr, .int .i64 c.fr, .int .i64 c.to, .string c.df.name, vc, .int .i64 c.df.keys] 32)) w.heap.size c vr vc := heap_alloc_new w _
/-- cells of a block of its own that hold a transaction -/
def BT (w : World) (g : Nat) (t : Tx) (v : Value) : Prop := w.heap[g]? = some (.cells #[.int .i64 t.seq, .int .i64 t.time, v] 24 (0, 0))
theorem BT.cells {w : World} {g : Nat} {t : Tx} {v : Value} (h : BT w g t v) : w.cell? ⟨g, 0, none⟩ = some (.int .i64 t.seq) ∧ w.cell? ⟨g, 1, none⟩ = some (.int .i64 t.time) ∧ w.cell? ⟨g, 2, none⟩ = some v ∧ w.frozen? ⟨g, 0, none⟩ = false ∧ w.frozen? ⟨g, 1, none⟩ = false ∧ w.frozen? ⟨g, 2, none⟩ = false ∧ g < w.heap.size :=
  ⟨cell_of_row w g 0 _ _ _ h, cell_of_row w g 1 _ _ _ h, cell_of_row w g 2 _ _ _ h, frozen_of_row w g 0 _ _ h, frozen_of_row w g 1 _ _ h, frozen_of_row w g 2 _ _ h, (Array.getElem?_eq_some_iff.1 h).1⟩
theorem BT.keep {w w' : World} {g : Nat} {t : Tx} {v : Value} (h : BT w g t v) (hb : Below w.heap.size w w') : BT w' g t v := keepBlock h hb
theorem BT.new (w : World) (t : Tx) (v : Value) : BT (w.alloc (.cells #[.int .i64 t.seq, .int .i64 t.time, v] 24)) w.heap.size t v := heap_alloc_new w _
theorem spHeld : Try.prog.stoodInHeld 27 = false := by kernel_rfl
theorem sp_equalIn (f t f' t' : Int) (w : World) : (Op.equalIn 10000 27 (.agg #[.int .i64 f, .int .i64 t]) (.agg #[.int .i64 f', .int .i64 t'])).run Try.prog w = .ok (f == f' && t == t') w := by
  rw [run_equalIn_agg w 9999 27 _ _ (by kernel_rfl) spHeld]
  cases h1 : (f == f') <;> cases h2 : (t == t') <;> go_simp
theorem sp_eql (f t f' t' : Int) (r : Bool) (h : (f == f' && t == t') = r) (w : World) : (binOp .eql 27 (.agg #[.int .i64 f, .int .i64 t]) (.agg #[.int .i64 f', .int .i64 t'])).run Try.prog w = .ok (.bool r) w := by
  subst h
  have h := sp_equalIn f t f' t' w
  simp [binOp, Op.equal, Op.maxDepth, h]
theorem sp_neq (f t f' t' : Int) (r : Bool) (h : (f == f' && t == t') = r) (w : World) : (binOp .neq 27 (.agg #[.int .i64 f, .int .i64 t]) (.agg #[.int .i64 f', .int .i64 t'])).run Try.prog w = .ok (.bool (!r)) w := by
  subst h
  have h := sp_equalIn f t f' t' w
  simp [binOp, Op.equal, Op.maxDepth, h]
end Go.Proofs.Ytmmegicaeaifaaa
