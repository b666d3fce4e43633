/-
  BYTES THAT A CALL ITSELF MAKES: a slice of bytes, nil or at the head of a block of the call's own, whatever mark the block bears: made out of a string, appended to, made a string again. Over any program. No condition.
-/
import Derived.WalkKit
import Derived.WalkSpells
import Derived.WalkLawsBesides
import Derived.Handy
namespace Go.Proofs.Ytmgafcblbbbanaa
open Go.RowKit

theorem hid {p : Prop} (h : p) : Hid p := h
theorem int_eq {k : IntKind} {a b : Int} (h : a = b) : Value.int k a = Value.int k b := by rw [h]
theorem ret_eq {k : IntKind} {a b : Int} (h : a = b) : Ending.returned (.int k a) = .returned (.int k b) := by rw [h]
theorem str_eq {a b : ByteArray} (h : a = b) : Value.string a = Value.string b := by rw [h]
theorem ba_eq {a b : ByteArray} (h : a.data.toList = b.data.toList) : a = b := by
  cases a; cases b; simp only [Array.toList_inj] at h; subst h; rfl

theorem bnext {w a b : World} (h : Below w.heap.size w a) (k : Below a.heap.size a b) : Below w.heap.size w b := h.trans (k.mono h.size)
/-- a contract, told of the world in which the caller began -/
theorem after {P : Program} {f : FuncId} {args : Array Value} {w0 w : World} {r : Ending} (h0 : Below w0.heap.size w0 w) (hc : Calls P f args w fun e w' => e = r ∧ Below w.heap.size w w') :
    Calls P f args w fun e w' => e = r ∧ Below w0.heap.size w0 w' := hc.mono fun _ _ ⟨h1, h2⟩ => ⟨h1, h0.trans (h2.mono h0.size)⟩

theorem keepBlock {W W' : World} {g : Nat} {o : Obj} (h : W.heap[g]? = some o) (hb : Below W.heap.size W W') : W'.heap[g]? = some o := by
  rw [hb.block g (Array.getElem?_eq_some_iff.1 h).1]; exact h
/-- a string out of its bytes -/
def bstr (l : List UInt8) : ByteArray := ⟨l.toArray⟩
theorem bstr_toList (l : List UInt8) : (bstr l).data.toList = l := rfl
theorem bstr_append (l r : List UInt8) : bstr l ++ bstr r = bstr (l ++ r) := by
  apply ba_eq
  rw [bstr_toList, ByteArray.data_append, Array.toList_append]; rfl
theorem bytes_beq (a b : ByteArray) : (a.toList == b.toList) = decide (a = b) := by
  rw [ByteArray.toList_eq, ByteArray.toList_eq]
  by_cases h : a = b
  · subst h; simp
  · simp only [h, decide_false, beq_eq_false_iff_ne]
    intro e; exact h (ba_eq e)
theorem bstr_size (l : List UInt8) : (bstr l).size = l.length := rfl
theorem bstr_of (s : ByteArray) : bstr s.data.toList = s := by cases s; simp [bstr]

def byteV (c : UInt8) : Value := .int .u8 (c.toNat : Int)

/-- the slice v holds the bytes l, and lies in a block from B on (or is nil) -/
def BytesAt (w : World) (B : Nat) (v : Value) (l : List UInt8) : Prop :=
  (v = .slice none 0 0 ∧ l = []) ∨ ∃ g cap, v = .slice (some ⟨g, 0, none⟩) l.length cap ∧ B ≤ g ∧ g < w.heap.size ∧ l.length ≤ cap ∧
    (∀ j u, (l.map byteV)[j]? = some u → w.cell? ⟨g, j, none⟩ = some u) ∧ (∀ j, j < cap → (w.cell? ⟨g, j, none⟩).isSome = true ∧ w.frozen? ⟨g, j, none⟩ = false)

theorem BytesAt.nil (w : World) (B : Nat) : BytesAt w B (.slice none 0 0) [] := .inl ⟨rfl, rfl⟩

theorem BytesAt.keep {w w' : World} {B : Nat} {v : Value} {l : List UInt8} (h : BytesAt w B v l) (hs : w.heap.size ≤ w'.heap.size) (hk : ∀ k, k < w.heap.size → some k = v.ownBlock → w'.heap[k]? = w.heap[k]?) : BytesAt w' B v l := by
  rcases h with h | ⟨g, cap, rfl, hB, hg, hl, hc, hf⟩
  · exact .inl h
  · have hb := hk g hg rfl
    exact .inr ⟨g, cap, rfl, hB, by omega, hl, fun j u hj => (World.cell?_of_block (a := ⟨g, j, none⟩) hb).trans (hc j u hj),
      fun j hj => ⟨by rw [World.cell?_of_block (a := ⟨g, j, none⟩) hb]; exact (hf j hj).1, by rw [World.frozen?_of_block (a := ⟨g, j, none⟩) hb]; exact (hf j hj).2⟩⟩

theorem BytesAt.alloc {w : World} {B : Nat} {v : Value} {l : List UInt8} (h : BytesAt w B v l) (o : Obj) : BytesAt (w.alloc o) B v l :=
  h.keep (by simp) fun k hk _ => Below.heap_alloc w o k hk
theorem BytesAt.drew {w : World} {B : Nat} {v : Value} {l : List UInt8} (h : BytesAt w B v l) : BytesAt w.drew B v l :=
  h.keep (Nat.le_refl _) fun _ _ _ => rfl
theorem BytesAt.below {w w' : World} {B C : Nat} {v : Value} {l : List UInt8} (h : BytesAt w B v l) (hb : Below C w w') (hC : w.heap.size ≤ C) : BytesAt w' B v l :=
  h.keep hb.size fun k hk _ => hb.block k (by omega)
theorem BytesAt.mono {w : World} {B B' : Nat} {v : Value} {l : List UInt8} (h : BytesAt w B v l) (hB : B' ≤ B) : BytesAt w B' v l := by
  rcases h with h | ⟨g, cap, rfl, h1, h2⟩
  · exact .inl h
  · exact .inr ⟨g, cap, rfl, by omega, h2⟩

theorem BytesAt.block {w : World} {B : Nat} {v : Value} {l : List UInt8} (h : BytesAt w B v l) : ∀ k, v.ownBlock = some k → B ≤ k := by
  intro k hk
  rcases h with ⟨rfl, _⟩ | ⟨g, cap, rfl, hB, _⟩
  · cases hk
  · simp only [Value.ownBlock, Option.some.injEq] at hk
    omega
theorem cell_one_byte (w : World) (x : Value) (e : TypeId) (c : UInt8) (h : x = byteV c) : ∀ j u, ([c].map byteV)[j]? = some u → (w.alloc (.cells #[x] e)).cell? ((⟨w.heap.size, 0, none⟩ : Addr).add j) = some u := by
  subst h
  exact cell_one_new w _ _

theorem BytesAt.own {w : World} {B e : Nat} {v : Value} {l : List UInt8} (h : w.ownsRow B e 1 v l.length (l.map byteV)) : BytesAt w B v l := by
  rcases h.2 with ⟨rfl, hn⟩ | ⟨g, cap, cur, rfl, hB, hg, hn, _, hs, ht⟩
  · exact .inl ⟨rfl, List.eq_nil_of_length_eq_zero hn⟩
  · refine .inr ⟨g, cap, rfl, hB, (Array.getElem?_eq_some_iff.1 hg).1, hn, fun j u hj => ?_, fun j hj => ⟨?_, ?_⟩⟩
    · rw [cell_of_row w g j cur e (0, 0) hg]
      rw [← ht, List.getElem?_take] at hj
      split at hj
      · simpa using hj
      · cases hj
    · rw [cell_of_row w g j cur e (0, 0) hg, Array.getElem?_eq_getElem (by omega)]; rfl
    · exact frozen_of_row w g j cur e hg

section
variable {P : Program}

/-- 'string([]byte{c})' -/
theorem run_string_one (w : World) (src dst e : Nat) (x : Value) (c : UInt8) (hx : x = byteV c) (hs : P.underlying src = some (.slice e)) (he : P.underlying e = some (.int .u8)) (hd : P.underlying dst = some .string) :
    (convert src dst (.slice (some ⟨w.heap.size, 0, none⟩) 1 1)).run P (w.alloc (.cells #[x] e)) = .ok (.string (bstr [c])) (w.alloc (.cells #[x] e)) := by
  refine run_convert_bytes_back (w.alloc (.cells #[x] e)) src dst e ⟨w.heap.size, 0, none⟩ 1 [c] hs he hd fun j hj => ?_
  have h0 := cell_one_byte w x e c hx
  exact h0 j _ (by rw [List.getElem?_map, List.getElem?_eq_getElem hj]; rfl)

/-- 'string([]byte{c})', wherever the byte lies -/
theorem run_string_cell (src dst e : Nat) (c : UInt8) (hs : P.underlying src = some (.slice e)) (he : P.underlying e = some (.int .u8)) (hd : P.underlying dst = some .string) :
    ∀ (w : World) (b : Nat), w.cell? ⟨b, 0, none⟩ = some (.int .u8 (c.toNat : Int)) → (convert src dst (.slice (some ⟨b, 0, none⟩) 1 1)).run P w = .ok (.string (bstr [c])) w := by
  intro w b h
  refine run_convert_bytes_back w src dst e ⟨b, 0, none⟩ 1 [c] hs he hd fun j hj => ?_
  have : j = 0 := by simp at hj; omega
  subst this
  exact h

end
end Go.Proofs.Ytmgafcblbbbanaa
