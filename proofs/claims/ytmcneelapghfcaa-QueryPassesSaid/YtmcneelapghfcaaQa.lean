/-
  Queries plainly: which are right, which rows they pass, what they ask of a row, their bytes; and in memory. No condition.
-/
import Derived.Test.YtmcneelapghfcaaBb
import Derived.Test.YtmcneelapghfcaaPr
namespace Go.Proofs.Ytmcneelapghfcaa
open Go.RowKit Pd

namespace Qu
/-- a query -/
structure Q where
  kind : Int
  table : ByteArray
  key : List Cd.V
  t : Int
  v : Int
  fr : Int
  to : Int
  wh : List N
  cols : List Int
  limit : Int
  desc : Bool
def noQ : Q := ⟨0, ⟨#[]⟩, [], 0, 0, 0, 0, [], [], 0, false⟩
/-- the value at a place can stand in a key at that column -/
def keyAt (cs : List Sc.C) (l : List Cd.V) (i : Nat) : Bool := match l[i]?, cs[i]? with
  | some x, some c => x.right && decide (x.k = c.kind)
  | _, _ => false
def keyedB (s : Sc.S) (l : List Cd.V) : Bool := decide ((l.length : Int) = s.keys ∧ s.keys ≤ (s.cols.length : Int)) && (List.range l.length).all (keyAt s.cols l)
def colsB (n : Nat) (l : List Int) : Bool := l.all fun c => decide (0 ≤ c ∧ c < (n : Int))
def spanB (f t : Int) : Bool := decide (0 ≤ f ∧ f < t ∧ t ≤ 1099511627776)
def shapeB (s : Sc.S) (q : Q) : Bool :=
  if q.kind = 1 then decide (q.v = 0) && (decide (q.fr = 0 ∧ q.to = 0) && decide (q.key.length = 0))
  else if q.kind = 2 then decide (0 ≤ q.v ∧ q.v < 1099511627776) && (decide (q.fr = 0 ∧ q.to = 0) && decide (q.key.length = 0))
  else if q.kind = 3 then decide (q.t = 0) && (decide (q.v = 0) && (spanB q.fr q.to && keyedB s q.key))
  else if q.kind = 4 then decide (q.t = 0) && (decide (q.v = 0) && (decide (q.fr = 0 ∧ q.to = 0) && keyedB s q.key))
  else false
def rightB (s : Sc.S) (q : Q) : Bool :=
  decide (q.table = s.name) && (decide (q.cols.length ≤ 16) && (decide (0 ≤ q.limit ∧ q.limit ≤ 1099511627776) && (shapeB s q && (colsB s.cols.length q.cols && (decide (q.wh.length = 0) || rightL s.cols q.wh)))))
def passB (q : Q) (row : List Cd.V) : Bool := decide (q.wh.length = 0) || decide (evalI q.wh row = 1)
/-- the value of a column -/
def colV (row : List Cd.V) (c : Int) : Cd.V := if 0 ≤ c ∧ c < (row.length : Int) then row.getD c.toNat nul else nul
def projL (q : Q) (row : List Cd.V) : List Cd.V := if q.cols.length = 0 then row else q.cols.map (colV row)
def numL (n : Int) : List UInt8 := Cd.enc (Cd.zig n)
def nodeL (x : N) : List UInt8 := numL x.op ++ numL x.col ++ Cd.row [x.v]
def headL (q : Q) : List UInt8 := Cd.enc q.kind.toNat ++ Cd.text q.table ++ Cd.row q.key
def spotL (q : Q) : List UInt8 := numL q.t ++ numL q.v ++ numL q.fr ++ numL q.to
def whL (q : Q) : List UInt8 := Cd.enc q.wh.length ++ q.wh.flatMap nodeL
def colsL (q : Q) : List UInt8 := Cd.enc q.cols.length ++ q.cols.flatMap numL
def endL (q : Q) : List UInt8 := numL q.limit ++ Cd.enc (if q.desc = true then 1 else 0)
def encL (q : Q) : List UInt8 := headL q ++ spotL q ++ whL q ++ colsL q ++ endL q
def fits (q : Q) : Bool := decide (0 ≤ q.kind) && (q.key.all Cd.V.right && decide (q.key.length ≤ 1000 ∧ q.wh.length ≤ 1000 ∧ q.cols.length ≤ 1000))
def encB (q : Q) : Bool := fits q && q.wh.all (fun x => x.v.right)
/-- a query's bytes -/
def enc (q : Q) : List UInt8 := if encB q = true then encL q else []

theorem keyedB_len {s : Sc.S} {l : List Cd.V} (h : ¬ ((l.length : Int) = s.keys ∧ s.keys ≤ (s.cols.length : Int))) : keyedB s l = false := by unfold keyedB; rw [decide_eq_false h]; rfl
theorem keyedB_no {s : Sc.S} {l : List Cd.V} {k : Nat} (hk : k < l.length) (h : keyAt s.cols l k = false) : keyedB s l = false := by
  unfold keyedB
  have : (List.range l.length).all (keyAt s.cols l) = false := by
    rw [List.all_eq_false]
    exact ⟨k, List.mem_range.2 hk, by rw [h]; decide⟩
  rw [this, Bool.and_false]
theorem keyedB_yes {s : Sc.S} {l : List Cd.V} (h0 : (l.length : Int) = s.keys) (h1 : s.keys ≤ (s.cols.length : Int)) (h : ∀ k, k < l.length → keyAt s.cols l k = true) : keyedB s l = true := by
  unfold keyedB
  rw [decide_eq_true ⟨h0, h1⟩, Bool.true_and, List.all_eq_true]
  exact fun k hk => h k (List.mem_range.1 hk)
theorem keyAt_of {cs : List Sc.C} {l : List Cd.V} {k : Nat} (h1 : k < l.length) (h2 : k < cs.length) : keyAt cs l k = (l[k].right && decide (l[k].k = cs[k].kind)) := by
  unfold keyAt
  rw [List.getElem?_eq_getElem h1, List.getElem?_eq_getElem h2]
theorem colsB_no {n : Nat} {l : List Int} {k : Nat} (hk : k < l.length) (h : ¬ (0 ≤ l[k] ∧ l[k] < (n : Int))) : colsB n l = false := by
  unfold colsB
  rw [List.all_eq_false]
  exact ⟨l[k], List.getElem_mem hk, by rw [decide_eq_false h]; decide⟩
theorem colsB_yes {n : Nat} {l : List Int} (h : ∀ k (hk : k < l.length), 0 ≤ l[k] ∧ l[k] < (n : Int)) : colsB n l = true := by
  unfold colsB
  rw [List.all_eq_true]
  intro x hx
  obtain ⟨k, hk, rfl⟩ := List.mem_iff_getElem.1 hx
  exact decide_eq_true (h k hk)
end Qu
open Qu
/-- the slice v holds the numbers l -/
def IsAt (w : World) (v : Value) (l : List Int) : Prop :=
  ∃ adr cap, v = .slice adr l.length cap ∧ ∀ k (hk : k < l.length), ∃ g off, adr = some ⟨g, off, none⟩ ∧ w.cell? ⟨g, off + k, none⟩ = some (.int .i64 l[k])
theorem IsAt.below {w w' : World} {v : Value} {l : List Int} (h : IsAt w v l) (hb : Below w.heap.size w w') : IsAt w' v l := by
  obtain ⟨adr, cap, rfl, hc⟩ := h
  refine ⟨adr, cap, rfl, fun k hk => ?_⟩
  obtain ⟨g, off, rfl, q0⟩ := hc k hk
  exact ⟨g, off, rfl, hkeep q0 hb⟩
theorem IsAt.slc {w : World} {v : Value} {l : List Int} (h : IsAt w v l) : ∃ adr cap, v = .slice adr l.length cap := by
  obtain ⟨adr, cap, rfl, _⟩ := h; exact ⟨adr, cap, rfl⟩
theorem IsAt.nil (w : World) : IsAt w (.slice none 0 0) [] := ⟨none, 0, rfl, fun k hk => absurd hk (Nat.not_lt_zero k)⟩
/-- a query as a value: its key, its nodes and its columns lie elsewhere -/
def qv (q : Q) (vk vw vc : Value) : Value := .agg #[.int .i64 q.kind, .string q.table, vk, .int .i64 q.t, .int .i64 q.v, .int .i64 q.fr, .int .i64 q.to, vw, vc, .int .i64 q.limit, .bool q.desc]
def QIn (w : World) (q : Q) (vk vw vc : Value) : Prop := VsAt w vk q.key ∧ NsAt w vw q.wh ∧ IsAt w vc q.cols
theorem QIn.below {w w' : World} {q : Q} {vk vw vc : Value} (h : QIn w q vk vw vc) (hb : Below w.heap.size w w') : QIn w' q vk vw vc := ⟨h.1.below hb, h.2.1.below hb, h.2.2.below hb⟩
def I64 (n : Int) : Prop := -9223372036854775808 ≤ n ∧ n ≤ 9223372036854775807
/-- a query that can stand in memory -/
structure Qok (q : Q) : Prop where
  kind : I64 q.kind
  table : q.table.size ≤ maxLen
  key : ∀ x ∈ q.key, Vok x
  t : I64 q.t
  v : I64 q.v
  fr : I64 q.fr
  to : I64 q.to
  wh : ∀ x ∈ q.wh, Nok x
  cols : ∀ c ∈ q.cols, I64 c
  limit : I64 q.limit
  lk : q.key.length ≤ maxLen
  lw : q.wh.length ≤ maxLen
  lc : q.cols.length ≤ maxLen
/-- a block that holds a schema -/
def BS3 (w : World) (g : Nat) (s : Sc.S) (u : Value) : Prop := w.heap[g]? = some (.cells #[.string s.name, u, .int .i64 s.keys] 31 (0, 0))
theorem BS3.cells {w : World} {g : Nat} {s : Sc.S} {u : Value} (h : BS3 w g s u) : w.cell? ⟨g, 0, none⟩ = some (.string s.name) ∧ w.cell? ⟨g, 1, none⟩ = some u ∧ w.cell? ⟨g, 2, none⟩ = some (.int .i64 s.keys) ∧ g < w.heap.size :=
  ⟨cell_of_row w g 0 _ _ _ h, cell_of_row w g 1 _ _ _ h, cell_of_row w g 2 _ _ _ h, (Array.getElem?_eq_some_iff.1 h).1⟩
theorem BS3.keep {w w' : World} {g : Nat} {s : Sc.S} {u : Value} (h : BS3 w g s u) (hb : Below w.heap.size w w') : BS3 w' g s u := keepBlock h hb
theorem BS3.new (w : World) (s : Sc.S) (u : Value) : BS3 (w.alloc (.cells #[.string s.name, u, .int .i64 s.keys] 31)) w.heap.size s u := heap_alloc_new w _
/-- a block that holds a query, of the program's type or of the reference's -/
def BQ (w : World) (T : TypeId) (g : Nat) (q : Q) (vk vw vc : Value) : Prop := w.heap[g]? = some (.cells #[.int .i64 q.kind, .string q.table, vk, .int .i64 q.t, .int .i64 q.v, .int .i64 q.fr, .int .i64 q.to, vw, vc, .int .i64 q.limit, .bool q.desc] T (0, 0))
theorem BQ.cells {w : World} {T : TypeId} {g : Nat} {q : Q} {vk vw vc : Value} (h : BQ w T g q vk vw vc) : w.cell? ⟨g, 0, none⟩ = some (.int .i64 q.kind) ∧ w.cell? ⟨g, 1, none⟩ = some (.string q.table) ∧ w.cell? ⟨g, 2, none⟩ = some vk ∧ w.cell? ⟨g, 3, none⟩ = some (.int .i64 q.t) ∧ w.cell? ⟨g, 4, none⟩ = some (.int .i64 q.v) ∧
    w.cell? ⟨g, 5, none⟩ = some (.int .i64 q.fr) ∧ w.cell? ⟨g, 6, none⟩ = some (.int .i64 q.to) ∧ w.cell? ⟨g, 7, none⟩ = some vw ∧ w.cell? ⟨g, 8, none⟩ = some vc ∧ w.cell? ⟨g, 9, none⟩ = some (.int .i64 q.limit) ∧ w.cell? ⟨g, 10, none⟩ = some (.bool q.desc) ∧ g < w.heap.size :=
  ⟨cell_of_row w g 0 _ _ _ h, cell_of_row w g 1 _ _ _ h, cell_of_row w g 2 _ _ _ h, cell_of_row w g 3 _ _ _ h, cell_of_row w g 4 _ _ _ h, cell_of_row w g 5 _ _ _ h, cell_of_row w g 6 _ _ _ h, cell_of_row w g 7 _ _ _ h, cell_of_row w g 8 _ _ _ h, cell_of_row w g 9 _ _ _ h, cell_of_row w g 10 _ _ _ h, (Array.getElem?_eq_some_iff.1 h).1⟩
theorem BQ.keep {w w' : World} {T : TypeId} {g : Nat} {q : Q} {vk vw vc : Value} (h : BQ w T g q vk vw vc) (hb : Below w.heap.size w w') : BQ w' T g q vk vw vc := keepBlock h hb
theorem BQ.new (w : World) (T : TypeId) (q : Q) (vk vw vc : Value) : BQ (w.alloc (.cells #[.int .i64 q.kind, .string q.table, vk, .int .i64 q.t, .int .i64 q.v, .int .i64 q.fr, .int .i64 q.to, vw, vc, .int .i64 q.limit, .bool q.desc] T)) T w.heap.size q vk vw vc := heap_alloc_new w _
theorem vs_slc {w : World} {u : Value} {row : List Cd.V} (h : VsAt w u row) : ∃ adr cap, u = .slice adr row.length cap := by obtain ⟨adr, cap, rfl, _⟩ := h; exact ⟨adr, cap, rfl⟩
theorem below_drew (w : World) : Below w.heap.size w w.drew := (Below.refl _ _).drew
theorem spHeld : Try.prog.stoodInHeld 24 = false := by kernel_rfl
theorem sp_equalIn (f t f' t' : Int) (w : World) : (Op.equalIn 10000 24 (.agg #[.int .i64 f, .int .i64 t]) (.agg #[.int .i64 f', .int .i64 t'])).run Try.prog w = .ok (f == f' && t == t') w := by
  rw [run_equalIn_agg w 9999 24 _ _ (by kernel_rfl) spHeld]
  cases h1 : (f == f') <;> cases h2 : (t == t') <;> go_simp
theorem sp_eql (f t f' t' : Int) (r : Bool) (h : (f == f' && t == t') = r) (w : World) : (binOp .eql 24 (.agg #[.int .i64 f, .int .i64 t]) (.agg #[.int .i64 f', .int .i64 t'])).run Try.prog w = .ok (.bool r) w := by
  subst h
  have h := sp_equalIn f t f' t' w
  simp [binOp, Op.equal, Op.maxDepth, h]
theorem sp_neq (f t f' t' : Int) (r : Bool) (h : (f == f' && t == t') = r) (w : World) : (binOp .neq 24 (.agg #[.int .i64 f, .int .i64 t]) (.agg #[.int .i64 f', .int .i64 t'])).run Try.prog w = .ok (.bool (!r)) w := by
  subst h
  have h := sp_equalIn f t f' t' w
  simp [binOp, Op.equal, Op.maxDepth, h]
end Go.Proofs.Ytmcneelapghfcaa
