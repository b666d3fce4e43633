/-
  Nodes put together by appends, in a world of the call's own. No condition.
-/
import Derived.Test.YtfdehigepgeknaaAp
import Derived.Test.YtfdehigepgeknaaTw
namespace Go.Proofs.Ytfdehigepgeknaa
open Go.RowKit Pd

/-- nodes of the call's own, laid behind the world W -/
def Bld (W w : World) (v : Value) (l : List N) : Prop := OwnN w W.heap.size v l ∧ Below W.heap.size W w
theorem Bld.new (W : World) (x : N) : Bld W (W.alloc (.cells #[.int .i64 x.op, .int .i64 x.col, .int .i64 x.v.k, .int .i64 x.v.n, .int .u64 (x.v.b : Int), .string x.v.s] 41)) (.slice (some ⟨W.heap.size, 0, none⟩) 1 1) [x] := ⟨OwnN.new W x, hba W _⟩
theorem OwnN.mk1 (w : World) (x : N) (cs : Array Value) (t : TypeId) (hc : cs = #[.int .i64 x.op, .int .i64 x.col, .int .i64 x.v.k, .int .i64 x.v.n, .int .u64 (x.v.b : Int), .string x.v.s]) (ht : t = 41) : OwnN (w.alloc (.cells cs t)) w.heap.size (.slice (some ⟨w.heap.size, 0, none⟩) 1 1) [x] := by subst hc; subst ht; exact OwnN.new w x
theorem Bld.mk1 (W : World) (x : N) (cs : Array Value) (t : TypeId) (hc : cs = #[.int .i64 x.op, .int .i64 x.col, .int .i64 x.v.k, .int .i64 x.v.n, .int .u64 (x.v.b : Int), .string x.v.s]) (ht : t = 41) : Bld W (W.alloc (.cells cs t)) (.slice (some ⟨W.heap.size, 0, none⟩) 1 1) [x] := ⟨OwnN.mk1 W x cs t hc ht, hba W _⟩
theorem Bld.mkL (W : World) (l : List N) (cs : Array Value) (t : TypeId) (n : Nat) (hc : cs = (ncells l).toArray) (ht : t = 41) (hn : n = l.length) (hl : l.length ≤ maxLen) : Bld W (W.alloc (.cells cs t)) (.slice (some ⟨W.heap.size, 0, none⟩) n n) l := by
  subst hc; subst ht; subst hn
  refine ⟨⟨ncells_length l, .inr ⟨W.heap.size, l.length, _, rfl, Nat.le_refl _, heap_alloc_new W _, Nat.le_refl _, hl, ?_, ?_⟩⟩, hba W _⟩
  · rw [List.size_toArray, ncells_length]
  · show (ncells l).toArray.toList.take (l.length * 6) = ncells l
    rw [List.take_of_length_le (by rw [ncells_length]; exact Nat.le_refl _)]
theorem Bld.at {W w : World} {v : Value} {l : List N} (h : Bld W w v l) : NsAt w v l := h.1.at
theorem Bld.ge {W w : World} {v : Value} {l : List N} (h : Bld W w v l) : W.heap.size ≤ w.heap.size := h.2.size
/-- nodes of somebody else's are put behind them -/
theorem bld_nodes {w : World} {ops : Array Oper} {rest : List Oper} {o : Oper} {a : Act} {Q : Exit → Act → World → Prop} (hgd : o.guard = none) (s x : Operand)
    (ho : o.op = .call { callee := .builtin .append, args := #[s, x], argTypes := #[22, 22] })
    {W : World} {v : Value} {l : List N} (hb : Bld W w v l) (hs : a.eval s = v) {r : List N} {u : Value} (hr : NsAt W u r) (hx : a.eval x = u) (h0 : 0 < r.length)
    (hlen : l.length + r.length ≤ 1000000)
    (hK : ∀ v' w', Bld W w' v' (l ++ r) → wpList Try.prog ops Q rest (a.put o.dst v') w') : wpList Try.prog ops Q (o :: rest) a w := by
  have hr' := hr.below hb.2
  obtain ⟨adr, cap, rfl⟩ := hr.slc
  exact append_nodes w hgd s x ho W.heap.size v l hs hb.1 r adr r.length cap hx hr' h0 hlen hb.ge (fun v' w' own gr => hK v' w' ⟨own, Below.grown hb.2 gr hb.ge (fun q e => (World.ownsRow.lt hb.1 q e).1)⟩)
/-- one more node is put behind them -/
theorem bld_node {u : World} {ops : Array Oper} {rest : List Oper} {o : Oper} {a : Act} {Q : Exit → Act → World → Prop} (hgd : o.guard = none) (s x : Operand)
    (ho : o.op = .call { callee := .builtin .append, args := #[s, x], argTypes := #[22, 22] })
    {W : World} {v : Value} {l : List N} (hb : Bld W u v l) (hs : a.eval s = v) (p : N) {g : Nat} (hx : a.eval x = .slice (some ⟨g, 0, none⟩) 1 1) (hg : g = u.heap.size) {w : World} {cs : Array Value} {t : TypeId} (hw : w = u.alloc (.cells cs t)) (hc : cs = #[.int .i64 p.op, .int .i64 p.col, .int .i64 p.v.k, .int .i64 p.v.n, .int .u64 (p.v.b : Int), .string p.v.s]) (ht : t = 41)
    (hlen : l.length + 1 ≤ 1000000)
    (hK : ∀ v' w', Bld W w' v' (l ++ [p]) → wpList Try.prog ops Q rest (a.put o.dst v') w') : wpList Try.prog ops Q (o :: rest) a w := by
  subst hg; subst hc; subst ht; subst hw
  exact append_node u hgd s x ho W.heap.size v l hs hb.1 p u.heap.size rfl hx (by omega) hb.ge (fun v' w' own gr => hK v' w' ⟨own, Below.grown hb.2 gr hb.ge (fun q e => (World.ownsRow.lt hb.1 q e).1)⟩)
end Go.Proofs.Ytfdehigepgeknaa
