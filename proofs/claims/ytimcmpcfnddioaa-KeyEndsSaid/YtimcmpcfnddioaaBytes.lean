/-
  BYTES THAT A CALL ITSELF MAKES: a slice of bytes, nil or at the head of a block of the call's own, whatever mark the block bears: made out of a string, appended to, made a string again. Over any program. No condition.
-/
import Derived.WalkKit
import Derived.WalkSpells
import Derived.WalkLawsBesides
import Derived.Handy
namespace Go.Proofs.Ytimcmpcfnddioaa
open Go.RowKit

theorem hid {p : Prop} (h : p) : Hid p := h
theorem int_eq {k : IntKind} {a b : Int} (h : a = b) : Value.int k a = Value.int k b := by rw [h]
theorem str_eq {a b : ByteArray} (h : a = b) : Value.string a = Value.string b := by rw [h]
theorem ba_eq {a b : ByteArray} (h : a.data.toList = b.data.toList) : a = b := by
  cases a; cases b; simp only [Array.toList_inj] at h; subst h; rfl

theorem keepBlock {W W' : World} {g : Nat} {o : Obj} (h : W.heap[g]? = some o) (hb : Below W.heap.size W W') : W'.heap[g]? = some o := by
  rw [hb.block g (Array.getElem?_eq_some_iff.1 h).1]; exact h
/-- a string out of its bytes -/
def bstr (l : List UInt8) : ByteArray := ⟨l.toArray⟩
theorem bstr_toList (l : List UInt8) : (bstr l).data.toList = l := rfl
theorem bstr_append (l r : List UInt8) : bstr l ++ bstr r = bstr (l ++ r) := by
  apply ba_eq
  rw [bstr_toList, ByteArray.data_append, Array.toList_append]; rfl
theorem bytes_beq (a b : ByteArray) : (a.toList == b.toList) = decide (a = b) := by
  rw [ByteArray.toList_eq, ByteArray.toList_eq]
  by_cases h : a = b
  · subst h; simp
  · simp only [h, decide_false, beq_eq_false_iff_ne]
    intro e; exact h (ba_eq e)
theorem extract_take (s : ByteArray) (n : Nat) : (s.extract 0 n).data.toList = s.data.toList.take n := by
  rw [ByteArray.data_extract, Array.toList_extract]; simp [List.extract]
theorem extract_drop (s : ByteArray) (n : Nat) : (s.extract n s.size).data.toList = s.data.toList.drop n := by
  rw [ByteArray.data_extract, Array.toList_extract]
  simp only [List.extract]
  rw [List.take_of_length_le]
  simp
theorem extract_bstr (s : ByteArray) (n : Nat) : s.extract 0 n = bstr (s.data.toList.take n) := ba_eq (by rw [extract_take]; rfl)
theorem bstr_size (l : List UInt8) : (bstr l).size = l.length := rfl
theorem bstr_of (s : ByteArray) : bstr s.data.toList = s := by cases s; simp [bstr]

def byteV (c : UInt8) : Value := .int .u8 (c.toNat : Int)

/-- the slice v holds the bytes l, and lies in a block from B on (or is nil) -/
def BytesAt (w : World) (B : Nat) (v : Value) (l : List UInt8) : Prop :=
  (v = .slice none 0 0 ∧ l = []) ∨ ∃ g cap, v = .slice (some ⟨g, 0, none⟩) l.length cap ∧ B ≤ g ∧ g < w.heap.size ∧ l.length ≤ cap ∧
    (∀ j u, (l.map byteV)[j]? = some u → w.cell? ⟨g, j, none⟩ = some u) ∧ (∀ j, j < cap → (w.cell? ⟨g, j, none⟩).isSome = true ∧ w.frozen? ⟨g, j, none⟩ = false)

theorem BytesAt.nil (w : World) (B : Nat) : BytesAt w B (.slice none 0 0) [] := .inl ⟨rfl, rfl⟩

theorem BytesAt.keep {w w' : World} {B : Nat} {v : Value} {l : List UInt8} (h : BytesAt w B v l) (hs : w.heap.size ≤ w'.heap.size) (hk : ∀ k, k < w.heap.size → some k = v.ownBlock → w'.heap[k]? = w.heap[k]?) : BytesAt w' B v l := by
  rcases h with h | ⟨g, cap, rfl, hB, hg, hl, hc, hf⟩
  · exact .inl h
  · have hb := hk g hg rfl
    exact .inr ⟨g, cap, rfl, hB, by omega, hl, fun j u hj => (World.cell?_of_block (a := ⟨g, j, none⟩) hb).trans (hc j u hj),
      fun j hj => ⟨by rw [World.cell?_of_block (a := ⟨g, j, none⟩) hb]; exact (hf j hj).1, by rw [World.frozen?_of_block (a := ⟨g, j, none⟩) hb]; exact (hf j hj).2⟩⟩

theorem BytesAt.alloc {w : World} {B : Nat} {v : Value} {l : List UInt8} (h : BytesAt w B v l) (o : Obj) : BytesAt (w.alloc o) B v l :=
  h.keep (by simp) fun k hk _ => Below.heap_alloc w o k hk
theorem BytesAt.drew {w : World} {B : Nat} {v : Value} {l : List UInt8} (h : BytesAt w B v l) : BytesAt w.drew B v l :=
  h.keep (Nat.le_refl _) fun _ _ _ => rfl
theorem BytesAt.below {w w' : World} {B C : Nat} {v : Value} {l : List UInt8} (h : BytesAt w B v l) (hb : Below C w w') (hC : w.heap.size ≤ C) : BytesAt w' B v l :=
  h.keep hb.size fun k hk _ => hb.block k (by omega)
theorem BytesAt.mono {w : World} {B B' : Nat} {v : Value} {l : List UInt8} (h : BytesAt w B v l) (hB : B' ≤ B) : BytesAt w B' v l := by
  rcases h with h | ⟨g, cap, rfl, h1, h2⟩
  · exact .inl h
  · exact .inr ⟨g, cap, rfl, by omega, h2⟩

theorem BytesAt.block {w : World} {B : Nat} {v : Value} {l : List UInt8} (h : BytesAt w B v l) : ∀ k, v.ownBlock = some k → B ≤ k := by
  intro k hk
  rcases h with ⟨rfl, _⟩ | ⟨g, cap, rfl, hB, _⟩
  · cases hk
  · simp only [Value.ownBlock, Option.some.injEq] at hk
    omega
theorem cell_one_byte (w : World) (x : Value) (e : TypeId) (c : UInt8) (h : x = byteV c) : ∀ j u, ([c].map byteV)[j]? = some u → (w.alloc (.cells #[x] e)).cell? ((⟨w.heap.size, 0, none⟩ : Addr).add j) = some u := by
  subst h
  exact cell_one_new w _ _

theorem BytesAt.own {w : World} {B e : Nat} {v : Value} {l : List UInt8} (h : w.ownsRow B e 1 v l.length (l.map byteV)) : BytesAt w B v l := by
  rcases h.2 with ⟨rfl, hn⟩ | ⟨g, cap, cur, rfl, hB, hg, hn, _, hs, ht⟩
  · exact .inl ⟨rfl, List.eq_nil_of_length_eq_zero hn⟩
  · refine .inr ⟨g, cap, rfl, hB, (Array.getElem?_eq_some_iff.1 hg).1, hn, fun j u hj => ?_, fun j hj => ⟨?_, ?_⟩⟩
    · rw [cell_of_row w g j cur e (0, 0) hg]
      rw [← ht, List.getElem?_take] at hj
      split at hj
      · simpa using hj
      · cases hj
    · rw [cell_of_row w g j cur e (0, 0) hg, Array.getElem?_eq_getElem (by omega)]; rfl
    · exact frozen_of_row w g j cur e hg

section
variable {P : Program}

theorem run_string_of_bytes (w : World) (B src dst e : Nat) (v : Value) (l : List UInt8) (hs : P.underlying src = some (.slice e)) (he : P.underlying e = some (.int .u8)) (hd : P.underlying dst = some .string) (h : BytesAt w B v l) :
    (convert src dst v).run P w = .ok (.string (bstr l)) w := by
  rcases h with ⟨rfl, rfl⟩ | ⟨g, cap, rfl, hB, hg, hl, hc, hf⟩
  · exact run_convert_bytes_nil w src e hs he 0 0 dst hd
  · refine run_convert_bytes_back w src dst e ⟨g, 0, none⟩ cap l hs he hd fun j hj => ?_
    rw [Addr.add_lit, Nat.zero_add]
    exact hc j _ (by rw [List.getElem?_map, List.getElem?_eq_getElem hj]; rfl)

/-- 'string([]byte{c})' -/
theorem run_string_one (w : World) (src dst e : Nat) (x : Value) (c : UInt8) (hx : x = byteV c) (hs : P.underlying src = some (.slice e)) (he : P.underlying e = some (.int .u8)) (hd : P.underlying dst = some .string) :
    (convert src dst (.slice (some ⟨w.heap.size, 0, none⟩) 1 1)).run P (w.alloc (.cells #[x] e)) = .ok (.string (bstr [c])) (w.alloc (.cells #[x] e)) := by
  refine run_convert_bytes_back (w.alloc (.cells #[x] e)) src dst e ⟨w.heap.size, 0, none⟩ 1 [c] hs he hd fun j hj => ?_
  have h0 := cell_one_byte w x e c hx
  exact h0 j _ (by rw [List.getElem?_map, List.getElem?_eq_getElem hj]; rfl)

/-- 'string([]byte{c})', wherever the byte lies -/
theorem run_string_cell (src dst e : Nat) (c : UInt8) (hs : P.underlying src = some (.slice e)) (he : P.underlying e = some (.int .u8)) (hd : P.underlying dst = some .string) :
    ∀ (w : World) (b : Nat), w.cell? ⟨b, 0, none⟩ = some (.int .u8 (c.toNat : Int)) → (convert src dst (.slice (some ⟨b, 0, none⟩) 1 1)).run P w = .ok (.string (bstr [c])) w := by
  intro w b h
  refine run_convert_bytes_back w src dst e ⟨b, 0, none⟩ 1 [c] hs he hd fun j hj => ?_
  have : j = 0 := by simp at hj; omega
  subst this
  exact h

/-- 'string(b)', b a whole block of bytes -/
theorem run_string_block (src dst e : Nat) (l : List UInt8) (cs : Array Value) (fr : Nat × Nat) (hcs : cs = (l.map byteV).toArray) (hs : P.underlying src = some (.slice e)) (he : P.underlying e = some (.int .u8)) (hd : P.underlying dst = some .string) (g n cap : Nat) (hn : l.length = n) :
    ∀ w : World, w.heap[g]? = some (.cells cs e fr) → (convert src dst (.slice (some ⟨g, 0, none⟩) n cap)).run P w = .ok (.string (bstr l)) w := by
  intro w h
  subst hcs
  rw [← hn]
  refine run_convert_bytes_back w src dst e ⟨g, 0, none⟩ cap l hs he hd fun j hj => ?_
  rw [Addr.add_lit, Nat.zero_add, cell_of_row w g j _ e fr h]
  rw [List.getElem?_toArray, List.getElem?_map, List.getElem?_eq_getElem hj]; rfl

/-- 'append(b, ..)', b bytes of the call's own -/
theorem wpList_append_bytes (w : World) {ops : Array Oper} {rest : List Oper} {o : Oper} {a : Act} {Q : Exit → Act → World → Prop}
    (hg : o.guard = none) (s x : Operand) (t : TypeId) (hop : o.op = Op.call { callee := Callee.builtin Builtin.append, args := #[s, x], argTypes := #[t, t] })
    (e : TypeId) (i : TypeInfo) (z : Value) (h1 : P.underlying t = some (.slice e)) (h2 : P.info? e = some i) (h3 : i.zero = some z) (h4 : i.size = 1) (h5 : i.bytes = 1) (h6 : z.cells.size = 1)
    (B : Nat) (v : Value) (l : List UInt8) (hs : a.eval s = v) (hv : BytesAt w B v l)
    (ad : Addr) (m c : Nat) (news : List UInt8) (hx : a.eval x = .slice (some ad) m c) (hn : news.length = m) (hc : ∀ j u, (news.map byteV)[j]? = some u → w.cell? (ad.add j) = some u)
    (hB : B ≤ w.heap.size) (b1 : l.length + m ≤ 140737488355328)
    (hK : ∀ v' w', BytesAt w' B v' (l ++ news) → w.grownBy w' v.ownBlock → wpList P ops Q rest (a.put o.dst v') w') :
    wpList P ops Q (o :: rest) a w := by
  have hone : ∀ u ∈ news.map byteV, u.oneCell' = true := by
    intro u hu
    obtain ⟨c, _, rfl⟩ := List.mem_map.1 hu
    rfl
  have hml : l.length + m ≤ maxLen := by unfold maxLen; omega
  have hbytes : (l.length + m) * 1 ≤ 140737488355328 := by omega
  rcases hv with ⟨rfl, rfl⟩ | ⟨g, cap, rfl, hBg, hg', hl, hcc, hf⟩
  · refine wpList_append_own w hg s x t hop B e i z 1 1 h1 h2 h3 h4 h5 h6 (by omega) _ 0 [] hs (World.ownsRow_nil w B e 1) ad m c (news.map byteV) hx (by simp [hn]) hc hone (by simpa using hml) (by simpa using hbytes) hB ?_
    intro v' w' hown hgr _
    refine hK v' w' (.own (e := e) ?_) hgr
    simpa [hn] using hown
  · refine wpList_append_arg w hg s x t hop e i z 1 1 h1 h2 h3 h4 h5 h6 (by omega) g 0 l.length cap (l.map byteV) hs (by simp) (fun j u hj => by rw [Nat.zero_add]; exact hcc j u hj) ad m c (news.map byteV) hx (by simp [hn]) hc hone ?_ hml hbytes ?_ ?_
    · intro hr j hj
      rw [List.length_map] at hj
      rw [show 0 + l.length * 1 + j = l.length + j from by omega]
      exact hf _ (by omega)
    · intro hr
      have hcell : ∀ j, j < (news.map byteV).length → (w.cell? ⟨g, 0 + l.length * 1 + j, none⟩).isSome = true := by
        intro j hj
        rw [List.length_map] at hj
        rw [show 0 + l.length * 1 + j = l.length + j from by omega]
        exact (hf _ (by omega)).1
      have hin := World.cell?_setCells_in g (news.map byteV) (0 + l.length * 1) w hcell
      have hsz : ∀ (vs : List Value) (o : Nat) (w : World), (w.setCells g o vs).heap.size = w.heap.size ∧ (∀ k, k ≠ g → (w.setCells g o vs).heap[k]? = w.heap[k]?) ∧ (w.setCells g o vs).os = w.os ∧ (w.setCells g o vs).tape = w.tape ∧ (w.setCells g o vs).output = w.output := by
        intro vs
        induction vs with
        | nil => intro o w; exact ⟨rfl, fun _ _ => rfl, rfl, rfl, rfl⟩
        | cons v r ih =>
          intro o w
          rw [World.setCells.eq_2]
          obtain ⟨i1, i2, i3, i4, i5⟩ := ih (o + 1) (w.setCell ⟨g, o, none⟩ v)
          refine ⟨i1.trans (by simp [World.setCell]), fun k hk => (i2 k hk).trans (heap_setCell_other w _ k v hk), i3, i4, i5⟩
      obtain ⟨s1, s2, s3, s4, s5⟩ := hsz (news.map byteV) (0 + l.length * 1) w
      refine hK _ _ (.inr ⟨g, cap, by rw [List.length_append, hn], hBg, by rw [s1]; exact hg', by rw [List.length_append]; omega, ?_, ?_⟩) ⟨s3, s4, s5, by rw [s1]; exact Nat.le_refl _, fun k hk hne => s2 k (fun e => hne (by rw [e]; rfl))⟩
      · intro j u hj
        rw [List.map_append] at hj
        by_cases hjl : j < l.length
        · rw [List.getElem?_append_left (by simpa using hjl)] at hj
          rw [World.cell?_setCells_out g _ _ w ⟨g, j, none⟩ (fun _ _ => .inl (by show j < _; omega))]
          exact hcc j u hj
        · rw [List.getElem?_append_right (by simpa using hjl), List.length_map] at hj
          have hjn : j - l.length < (news.map byteV).length := by
            rcases Nat.lt_or_ge (j - l.length) (news.map byteV).length with h | h
            · exact h
            · rw [List.getElem?_eq_none h] at hj; cases hj
          have := hin (j - l.length) hjn
          rw [show 0 + l.length * 1 + (j - l.length) = j from by omega] at this
          rw [this]
          rw [List.getElem?_eq_getElem hjn] at hj
          exact hj
      · intro j hj
        rw [World.frozen?_setCells]
        refine ⟨?_, (hf j hj).2⟩
        by_cases h : j < l.length ∨ l.length + news.length ≤ j
        · rw [World.cell?_setCells_out g _ _ w ⟨g, j, none⟩ (fun _ _ => by simp only [List.length_map]; show j < _ ∨ _ ≤ j; omega)]
          exact (hf j hj).1
        · have := hin (j - l.length) (by rw [List.length_map]; omega)
          rw [show 0 + l.length * 1 + (j - l.length) = j from by omega] at this
          rw [this]; rfl
    · intro hr v' w' hown hgr
      refine hK v' w' (BytesAt.mono (BytesAt.own (e := e) (by simpa [hn] using hown)) hB) ⟨hgr.os, hgr.tape, hgr.output, hgr.size, fun k hk _ => hgr.block k hk (by simp)⟩
end
end Go.Proofs.Ytimcmpcfnddioaa
