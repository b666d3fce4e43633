/-
  How a change is read: plainly, and the contracts of bound, read, of the program, of number, change, of the reference. Condition: the text has at most 1000000 bytes.
-/
import Derived.Test.YtmmegicaeaifaaaFy
namespace Go.Proofs.Ytmmegicaeaifaaa
open Go.RowKit Fr

namespace Fr
/-- a number that is read, not much above 2^40 -/
def clamp (n : Nat) : Int := ((min n 1099511627777 : Nat) : Int)
open Classical in
/-- the schema whose bytes these are -/
noncomputable def dec (b : ByteArray) : Sc.S := if h : ∃ s, Sc.right s = true ∧ b = bstr (Sc.encode s) then Classical.choose h else noS
theorem dec_yes {b : ByteArray} {s : Sc.S} (hr : Sc.right s = true) (hb : b = bstr (Sc.encode s)) : dec b = s := by
  have h : ∃ s, Sc.right s = true ∧ b = bstr (Sc.encode s) := ⟨s, hr, hb⟩
  unfold dec
  rw [dif_pos h]
  have := Classical.choose_spec h
  exact Sc.encode_inj this.1 hr (by rw [← bstr_toList (Sc.encode (Classical.choose h)), ← bstr_toList (Sc.encode s), this.2.symm.trans hb])
theorem dec_no {b : ByteArray} (h : ∀ t, Sc.right t = true → b ≠ bstr (Sc.encode t)) : dec b = noS := by
  unfold dec
  rw [dif_neg (fun ⟨s, hr, hb⟩ => h s hr hb)]
/-- a change, read at a place, with what was wrong before: what is told, the place, what is wrong then -/
noncomputable def chR (s : ByteArray) (i : Nat) (er : Int) : Ch × Nat × Int :=
  let p := Cd.top 0 (Cd.uintR s.data.toList) i er
  if clamp p.1 = 3 then
    let q := Cd.top ⟨#[]⟩ (Cd.textR s 1000000) p.2.1 p.2.2
    (⟨3, (dec q.1).name, [], 0, 0, dec q.1⟩, q.2.1, q.2.2)
  else
    let q := Cd.top ⟨#[]⟩ (Cd.textR s 1000000) p.2.1 p.2.2
    let r := Cd.top [] (Cd.rowR s) q.2.1 q.2.2
    let f := Cd.top 0 (Cd.uintR s.data.toList) r.2.1 r.2.2
    let t := Cd.top 0 (Cd.uintR s.data.toList) f.2.1 f.2.2
    (⟨clamp p.1, q.1, r.1, clamp f.1, clamp t.1, noS⟩, t.2.1, t.2.2)
theorem clamp_range (n : Nat) : 0 ≤ clamp n ∧ clamp n ≤ 1099511627777 := by unfold clamp; omega
theorem clamp_of (n : Nat) {p : Nat} (h : p = min n 1099511627777) : (p : Int) = clamp n := by subst h; rfl
end Fr
/-- the change that is read, its result's block, the reader -/
structure RS (t : TypeId) (w0 : World) (g C : Nat) (s : ByteArray) (cs : Array Value) (i : Nat) (er : Int) (w : World) : Prop where
  upd : Upd g w0 w
  rd : w.heap[g]? = some (.cells #[.string s, .int .i64 (i : Int), .int .i64 er] t (0, 0))
  blk : Var w C cs 32
  res : Var w w0.heap.size #[.int .i64 0, .string ⟨#[]⟩, .slice none 0 0, .int .i64 0, .int .i64 0, .string ⟨#[]⟩, .slice none 0 0, .int .i64 0] 32
  gl : g < w0.heap.size
  cl : w0.heap.size < C
theorem RS.call {t : TypeId} {w0 w w' : World} {g C : Nat} {s : ByteArray} {cs : Array Value} {i i' : Nat} {er er' : Int} (h : RS t w0 g C s cs i er w) (u : Upd g w w') (r : w'.heap[g]? = some (.cells #[.string s, .int .i64 (i' : Int), .int .i64 er'] t (0, 0))) : RS t w0 g C s cs i' er' w' :=
  ⟨h.upd.trans u, r, h.blk.upd u (by have := h.gl; have := h.cl; omega), h.res.upd u (by have := h.gl; omega), h.gl, h.cl⟩
theorem RS.below {t : TypeId} {w0 w w' : World} {g C : Nat} {s : ByteArray} {cs : Array Value} {i : Nat} {er : Int} (h : RS t w0 g C s cs i er w) (b : Below w.heap.size w w') : RS t w0 g C s cs i er w' :=
  ⟨h.upd.trans (Upd.of b), keepBlock h.rd b, h.blk.keep b, h.res.keep b, h.gl, h.cl⟩
theorem RS.set {t : TypeId} {w0 w : World} {g C : Nat} {s : ByteArray} {cs : Array Value} {i : Nat} {er : Int} (h : RS t w0 g C s cs i er w) (o : Nat) (v : Value) : RS t w0 g C s (cs.setIfInBounds o v) i er (w.setCell ⟨C, o, none⟩ v) :=
  ⟨Upd.setNew h.upd v (Nat.le_of_lt h.cl), (heap_setCell_other w ⟨C, o, none⟩ g v (by have := h.gl; have := h.cl; simp; omega)).trans h.rd, h.blk.set o v, h.res.setO v (by have := h.cl; omega), h.gl, h.cl⟩
theorem RS.lt {t : TypeId} {w0 w : World} {g C : Nat} {s : ByteArray} {cs : Array Value} {i : Nat} {er : Int} (h : RS t w0 g C s cs i er w) : C < w.heap.size := h.blk.lt
theorem no_bool8 (op : Int) (tb : ByteArray) (a : Option Addr) (n c : Nat) (fr to : Int) (nm : ByteArray) (a' : Option Addr) (n' c' : Nat) (ky : Int) : ∀ (o : Nat) (b : Bool), (#[.int .i64 op, .string tb, .slice a n c, .int .i64 fr, .int .i64 to, .string nm, .slice a' n' c', .int .i64 ky] : Array Value)[o]? ≠ some (.bool b) := by
  intro o b h
  match o, h with
  | 0, h => cases h
  | 1, h => cases h
  | 2, h => cases h
  | 3, h => cases h
  | 4, h => cases h
  | 5, h => cases h
  | 6, h => cases h
  | 7, h => cases h
  | o + 8, h => simp at h
/-- columns are in no block that holds no bool -/
theorem CsAt.setV {w : World} {C o : Nat} {cs : Array Value} {t : TypeId} {v x : Value} {l : List Sc.C} (h : CsAt w v l) (hb : Var w C cs t) (hn : ∀ (o : Nat) (b : Bool), cs[o]? ≠ some (.bool b)) : CsAt (w.setCell ⟨C, o, none⟩ x) v l := by
  obtain ⟨adr, cap, rfl, h1, h2, hc⟩ := h
  refine ⟨adr, cap, rfl, h1, h2, fun k hk => ?_⟩
  obtain ⟨g, off, rfl, q0, q1, q2⟩ := hc k hk
  have hne : g ≠ C := by
    rintro rfl
    have h := hb.cell (off + k * 3 + 2)
    rw [q2] at h
    exact hn _ _ h.symm
  exact ⟨g, off, rfl, cset q0 hne, cset q1 hne, cset q2 hne⟩
/-- the result's block is filled -/
def set8 (w : World) (R : Nat) (c0 c1 c2 c3 c4 c5 c6 c7 : Value) : World := ((((((((w.setCell ⟨R, 0, none⟩ c0).setCell ⟨R, 1, none⟩ c1).setCell ⟨R, 2, none⟩ c2).setCell ⟨R, 3, none⟩ c3).setCell ⟨R, 4, none⟩ c4).setCell ⟨R, 5, none⟩ c5).setCell ⟨R, 6, none⟩ c6).setCell ⟨R, 7, none⟩ c7)
theorem RS.fin {t : TypeId} {w0 w : World} {g C : Nat} {s : ByteArray} {cs : Array Value} {i : Nat} {er : Int} (h : RS t w0 g C s cs i er w) (c0 c1 c2 c3 c4 c5 c6 c7 : Value) : Upd g w0 (set8 w w0.heap.size c0 c1 c2 c3 c4 c5 c6 c7) ∧ (set8 w w0.heap.size c0 c1 c2 c3 c4 c5 c6 c7).heap[g]? = some (.cells #[.string s, .int .i64 (i : Int), .int .i64 er] t (0, 0)) := by
  have hg := h.gl
  have e : ∀ (W : World) (o : Nat) (v : Value), W.heap[g]? = some (.cells #[.string s, .int .i64 (i : Int), .int .i64 er] t (0, 0)) → (W.setCell ⟨w0.heap.size, o, none⟩ v).heap[g]? = some (.cells #[.string s, .int .i64 (i : Int), .int .i64 er] t (0, 0)) := fun W o v hw => (heap_setCell_other W ⟨w0.heap.size, o, none⟩ g v (by simp; omega)).trans hw
  have le := Nat.le_refl w0.heap.size
  exact ⟨Upd.setNew (Upd.setNew (Upd.setNew (Upd.setNew (Upd.setNew (Upd.setNew (Upd.setNew (Upd.setNew h.upd _ le) _ le) _ le) _ le) _ le) _ le) _ le) _ le, e _ _ _ (e _ _ _ (e _ _ _ (e _ _ _ (e _ _ _ (e _ _ _ (e _ _ _ (e _ _ _ h.rd)))))))⟩
theorem own_set8 {w : World} {B e size : Nat} {v : Value} {n R : Nat} {xs : List Value} (h : w.ownsRow B e size v n xs) (hr : R < B) (c0 c1 c2 c3 c4 c5 c6 c7 : Value) : (set8 w R c0 c1 c2 c3 c4 c5 c6 c7).ownsRow B e size v n xs :=
  own_setO (own_setO (own_setO (own_setO (own_setO (own_setO (own_setO (own_setO h hr) hr) hr) hr) hr) hr) hr) hr
theorem CsAt.set8 {w : World} {R : Nat} {cs : Array Value} {t : TypeId} {v : Value} {l : List Sc.C} (h : CsAt w v l) (hb : Var w R cs t) (hn : ∀ (o : Nat) (b : Bool), cs[o]? ≠ some (.bool b)) (c0 c1 c2 c3 c4 c5 c6 c7 : Value) (hc : ∀ c ∈ [c0, c1, c2, c3, c4, c5, c6, c7], ∀ b, c ≠ .bool b) : CsAt (set8 w R c0 c1 c2 c3 c4 c5 c6 c7) v l := by
  have st : ∀ (W : World) (ds : Array Value) (o : Nat) (x : Value), (∀ b, x ≠ .bool b) → (CsAt W v l ∧ Var W R ds t ∧ ∀ (o : Nat) (b : Bool), ds[o]? ≠ some (.bool b)) → (CsAt (W.setCell ⟨R, o, none⟩ x) v l ∧ Var (W.setCell ⟨R, o, none⟩ x) R (ds.setIfInBounds o x) t ∧ ∀ (p : Nat) (b : Bool), (ds.setIfInBounds o x)[p]? ≠ some (.bool b)) := by
    intro W ds o x hx ⟨a1, a2, a3⟩
    refine ⟨a1.setV a2 a3, a2.set o x, fun p b => ?_⟩
    rw [Array.getElem?_setIfInBounds]
    split
    · split
      · intro e; injection e with e; exact hx b e
      · intro e; cases e
    · exact a3 p b
  have h0 := st w cs 0 c0 (hc c0 (by simp)) ⟨h, hb, hn⟩
  have h1 := st _ _ 1 c1 (hc c1 (by simp)) h0
  have h2 := st _ _ 2 c2 (hc c2 (by simp)) h1
  have h3 := st _ _ 3 c3 (hc c3 (by simp)) h2
  have h4 := st _ _ 4 c4 (hc c4 (by simp)) h3
  have h5 := st _ _ 5 c5 (hc c5 (by simp)) h4
  have h6 := st _ _ 6 c6 (hc c6 (by simp)) h5
  exact (st _ _ 7 c7 (hc c7 (by simp)) h6).1
/-- what reading a change leaves -/
def ReadC (t : TypeId) (g : Nat) (s : ByteArray) (r : Ch × Nat × Int) (w : World) (e : Ending) (w' : World) : Prop :=
  (∃ vr vc, e = .returned (cvv r.1 vr vc) ∧ w'.ownsRow w.heap.size 59 4 vr r.1.row.length (vcells r.1.row) ∧ w'.ownsRow w.heap.size 88 3 vc r.1.df.cols.length (ccells r.1.df.cols)) ∧ Upd g w w' ∧ w'.heap[g]? = some (.cells #[.string s, .int .i64 (r.2.1 : Int), .int .i64 r.2.2] t (0, 0)) ∧ r.2.1 ≤ s.size
theorem decP_dec {b : ByteArray} {w : World} {e : Ending} {w' : World} (h : DecP b w e w') : ∃ (v : Value) (er : Int), e = .returned (.tuple #[sv (dec b) v, .int .i64 er]) ∧ w'.ownsRow w.heap.size 88 3 v (dec b).cols.length (ccells (dec b).cols) ∧ Below w.heap.size w w' ∧ ((er = 0) ∨ (er = 7 ∧ dec b = noS)) := by
  obtain ⟨s, v, er, he, hc, hf, _, hb, hw⟩ := h
  rcases hw with ⟨h1, h2, h3⟩ | ⟨h1, h2, h3⟩
  · have := dec_yes h2 h3
    exact ⟨v, er, by rw [this]; exact he, by rw [this]; exact hf, hb, .inl h1⟩
  · have := dec_no h3
    subst h2
    exact ⟨v, er, by rw [this]; exact he, by rw [this]; exact hf, hb, .inr ⟨h1, this⟩⟩
set_option maxRecDepth 100000 in
set_option maxHeartbeats 12800000 in
theorem fbound_any (g : Nat) (s : ByteArray) (i : Nat) (er : Int) (w : World) (hr : Rdr w g s i er) (hi : i ≤ s.size) (hs : s.size ≤ 1000000000) : Calls Try.prog 51 #[.pointer (some ⟨g, 0, none⟩)] w (Top (fun n : Nat => .int .i64 (clamp n)) g s (Cd.top 0 (Cd.uintR s.data.toList) i er) w) := by
  have m := hid (mUint g s i er w hr hi hs)
  obtain ⟨⟨n, j, e2⟩, ht⟩ : ∃ t, Cd.top 0 (Cd.uintR s.data.toList) i er = t := ⟨_, rfl⟩
  have h64 := (top_uint ht).1
  rw [ht] at m ⊢
  clear ht
  go_enter Try.func51, Try.ntmps51
  go_wp2_with fail
  refine m.out.mono ?_; rintro e w1 ⟨rfl, u1, R1, hj⟩
  simp only at R1 hj
  have U1 := hid u1
  have RR := hid R1
  clear u1 R1 m
  dsimp only
  go_wp2_with (with_reducible refine min_u64 _ rfl (.tmp 4) (.const (.int .u64 1099511627777)) _ rfl n 1099511627777 1099511627777 rfl rfl rfl ?_; intro p hp9 hp)
  have hw : IntKind.i64.wrap (p : Int) = (p : Int) := by rw [IntKind.wrap_i64]; omega
  go_wp2_with fail
  go_ret
  exact ⟨by show Ending.returned (.int .i64 (p : Int)) = .returned (.int .i64 (clamp n)); rw [clamp_of n hp.out], U1.out, RR.out, hj⟩
set_option maxRecDepth 100000 in
set_option maxHeartbeats 12800000 in
theorem fnumR_any (n : Nat) (hn : n < 18446744073709551616) (w : World) : Calls Try.prog 55 #[.int .u64 (n : Int)] w fun e w' => e = .returned (.int .i64 (clamp n)) ∧ w = w' := by
  by_cases h : n ≤ 1099511627776
  · have h1 : ¬ (1099511627776 : Int) < (n : Int) := by omega
    have hw : (n : Int) = clamp n := by unfold clamp; omega
    have HW := hid hw
    have hv : IntKind.i64.wrap (n : Int) = (n : Int) := by rw [IntKind.wrap_i64]; omega
    clear h hw
    go_enter Try.func55, Try.ntmps55
    go_wp2_with fail
    go_ret
    exact ⟨by show Ending.returned (.int .i64 (n : Int)) = _; rw [HW.out], rfl⟩
  · have h1 : (1099511627776 : Int) < (n : Int) := by omega
    have hw : (1099511627777 : Int) = clamp n := by unfold clamp; omega
    have HW := hid hw
    clear h hw
    go_enter Try.func55, Try.ntmps55
    go_wp2_with fail
    go_ret
    exact ⟨by show Ending.returned (.int .i64 1099511627777) = _; rw [HW.out], rfl⟩
set_option maxRecDepth 100000 in
set_option maxHeartbeats 12800000 in
theorem fread_any (g : Nat) (s : ByteArray) (i : Nat) (er : Int) (w : World) (hr : Rdr w g s i er) (hi : i ≤ s.size) (hs : s.size ≤ 1000000) : Calls Try.prog 53 #[.pointer (some ⟨g, 0, none⟩)] w (ReadC 95 g s (chR s i er) w) := by
  have hs9 : s.size ≤ 1000000000 := by omega
  have hgl : g < w.heap.size := hr.cells.2.2.2.2.2
  obtain ⟨⟨n1, j1, e1⟩, hT1⟩ : ∃ t, Cd.top 0 (Cd.uintR s.data.toList) i er = t := ⟨_, rfl⟩
  obtain ⟨⟨tb, j2, e2⟩, hT2⟩ : ∃ t, Cd.top ⟨#[]⟩ (Cd.textR s 1000000) j1 e1 = t := ⟨_, rfl⟩
  obtain ⟨⟨row, j3, e3⟩, hT3⟩ : ∃ t, Cd.top [] (Cd.rowR s) j2 e2 = t := ⟨_, rfl⟩
  obtain ⟨⟨n4, j4, e4⟩, hT4⟩ : ∃ t, Cd.top 0 (Cd.uintR s.data.toList) j3 e3 = t := ⟨_, rfl⟩
  obtain ⟨⟨n5, j5, e5⟩, hT5⟩ : ∃ t, Cd.top 0 (Cd.uintR s.data.toList) j4 e4 = t := ⟨_, rfl⟩
  have m1 := hid (fun W h hj => fbound_any g s i er W h hj hs9)
  rw [hT1] at m1
  have m2 := hid (fun W h hj => mText g s j1 e1 W h hj hs9)
  rw [hT2] at m2
  have m3 := hid (fun W h hj => mRow g s j2 e2 W h hj hs9)
  rw [hT3] at m3
  have m4 := hid (fun W h hj => fbound_any g s j3 e3 W h hj hs9)
  rw [hT4] at m4
  have m5 := hid (fun W h hj => fbound_any g s j4 e4 W h hj hs9)
  rw [hT5] at m5
  have htz := (top_text hT2).1
  have md := hid (fun W => (decode_any tb htz W).mono (fun e w' h => decP_dec h))
  have HC3 : Hid (clamp n1 = 3 → chR s i er = (⟨3, (dec tb).name, [], 0, 0, dec tb⟩, j2, e2)) := fun h => by
    unfold chR
    simp only [hT1, hT2]
    rw [if_pos h]
  have HCN : Hid (clamp n1 ≠ 3 → chR s i er = (⟨clamp n1, tb, row, clamp n4, clamp n5, noS⟩, j5, e5)) := fun h => by
    unfold chR
    simp only [hT1, hT2, hT3, hT4, hT5]
    rw [if_neg h]
  clear hT1 hT2 hT3 hT4 hT5 htz
  have hb0 := hba w (.cells #[.int .i64 0, .string ⟨#[]⟩, .slice none 0 0, .int .i64 0, .int .i64 0, .string ⟨#[]⟩, .slice none 0 0, .int .i64 0] 32)
  have R0 := hr.keep hb0
  have hz0 : Var (w.alloc (.cells #[.int .i64 0, .string ⟨#[]⟩, .slice none 0 0, .int .i64 0, .int .i64 0, .string ⟨#[]⟩, .slice none 0 0, .int .i64 0] 32)) w.heap.size #[.int .i64 0, .string ⟨#[]⟩, .slice none 0 0, .int .i64 0, .int .i64 0, .string ⟨#[]⟩, .slice none 0 0, .int .i64 0] 32 := heap_alloc_new w _
  clear hr
  go_enter Try.func53, Try.ntmps53
  go_wp2_with fail
  obtain ⟨W0, hW0⟩ : ∃ W0, w.alloc (.cells #[.int .i64 0, .string ⟨#[]⟩, .slice none 0 0, .int .i64 0, .int .i64 0, .string ⟨#[]⟩, .slice none 0 0, .int .i64 0] 32) = W0 := ⟨_, rfl⟩
  rw [hW0] at hb0 R0 hz0 ⊢
  clear hW0
  refine (m1.out _ R0 hi).mono ?_; rintro e W1 ⟨rfl, u1, R1, hj1⟩
  simp only at R1 hj1
  dsimp only
  generalize hop : clamp n1 = op at HC3 HCN ⊢
  clear hop
  have rs1 : RS 95 w g W1.heap.size s #[.int .i64 op, .string ⟨#[]⟩, .slice none 0 0, .int .i64 0, .int .i64 0, .string ⟨#[]⟩, .slice none 0 0, .int .i64 0] j1 e1 (W1.alloc (.cells #[.int .i64 op, .string ⟨#[]⟩, .slice none 0 0, .int .i64 0, .int .i64 0, .string ⟨#[]⟩, .slice none 0 0, .int .i64 0] 32)) := by
    have hb1 := hba W1 (.cells #[.int .i64 op, .string ⟨#[]⟩, .slice none 0 0, .int .i64 0, .int .i64 0, .string ⟨#[]⟩, .slice none 0 0, .int .i64 0] 32)
    have hz1 := hz0.upd u1 (by omega)
    exact ⟨((Upd.of hb0).trans u1).trans (Upd.of hb1), keepBlock R1 hb1, heap_alloc_new W1 _, hz1.keep hb1, hgl, hz1.lt⟩
  clear u1 R1 hz0 hb0 R0 m1
  obtain ⟨C, hC⟩ : ∃ C, W1.heap.size = C := ⟨_, rfl⟩
  rw [hC] at rs1
  by_cases h3 : op = 3
  · subst h3
    have HC := hid (HC3.out rfl)
    clear HC3 HCN m3 m4 m5
    go_wp2_with fail
    (try rw [hC])
    generalize W1.alloc (.cells #[.int .i64 3, .string ⟨#[]⟩, .slice none 0 0, .int .i64 0, .int .i64 0, .string ⟨#[]⟩, .slice none 0 0, .int .i64 0] 32) = w2 at rs1 ⊢
    clear hC
    refine (m2.out _ rs1.rd hj1).mono ?_; rintro e w3 ⟨rfl, u3, R3, hj3⟩
    simp only at R3 hj3
    have rs3 := rs1.call u3 R3
    clear u3 R3 rs1 m2
    dsimp only
    go_wp2_with fail
    refine (md.out _).mono ?_; rintro e w4 ⟨v, ed, rfl, hcs, b4, hed⟩
    have rs4 := rs3.below b4
    have HS3 := hid rs3.upd.size
    have hC3 : C < w3.heap.size := rs3.lt
    have hW3 : w.heap.size < w3.heap.size := Nat.lt_trans rs3.cl hC3
    clear rs3 b4 md
    unfold sv
    obtain ⟨adr, cap, hv⟩ := (CsAt.own hcs).slc
    subst hv
    generalize hdd : dec tb = d at *
    clear hdd hed
    obtain ⟨nm, cols, ky⟩ := d
    simp only at hcs ⊢
    have x0 : w4.cell? ⟨C, 0, none⟩ = some (.int .i64 3) := rs4.blk.cell 0
    have f0 : w4.frozen? ⟨C, 0, none⟩ = false := rs4.blk.free 0
    have x1 : w4.cell? ⟨C, 1, none⟩ = some (.string ⟨#[]⟩) := rs4.blk.cell 1
    have f1 : w4.frozen? ⟨C, 1, none⟩ = false := rs4.blk.free 1
    have x2 : w4.cell? ⟨C, 2, none⟩ = some (.slice none 0 0) := rs4.blk.cell 2
    have f2 : w4.frozen? ⟨C, 2, none⟩ = false := rs4.blk.free 2
    have x3 : w4.cell? ⟨C, 3, none⟩ = some (.int .i64 0) := rs4.blk.cell 3
    have f3 : w4.frozen? ⟨C, 3, none⟩ = false := rs4.blk.free 3
    have x4 : w4.cell? ⟨C, 4, none⟩ = some (.int .i64 0) := rs4.blk.cell 4
    have f4 : w4.frozen? ⟨C, 4, none⟩ = false := rs4.blk.free 4
    have x5 : w4.cell? ⟨C, 5, none⟩ = some (.string ⟨#[]⟩) := rs4.blk.cell 5
    have f5 : w4.frozen? ⟨C, 5, none⟩ = false := rs4.blk.free 5
    have x6 : w4.cell? ⟨C, 6, none⟩ = some (.slice none 0 0) := rs4.blk.cell 6
    have f6 : w4.frozen? ⟨C, 6, none⟩ = false := rs4.blk.free 6
    have x7 : w4.cell? ⟨C, 7, none⟩ = some (.int .i64 0) := rs4.blk.cell 7
    have f7 : w4.frozen? ⟨C, 7, none⟩ = false := rs4.blk.free 7
    have cc0 := own_setO (o := 5) (u := .string nm) hcs hC3
    have rt0 : RS 95 w g C s #[.int .i64 3, .string ⟨#[]⟩, .slice none 0 0, .int .i64 0, .int .i64 0, .string nm, .slice none 0 0, .int .i64 0] j2 e2 (w4.setCell ⟨C, 5, none⟩ (.string nm)) := rs4.set 5 (.string nm)
    have cc1 := own_setO (o := 6) (u := .slice adr cols.length cap) cc0 hC3
    have rt1 : RS 95 w g C s #[.int .i64 3, .string ⟨#[]⟩, .slice none 0 0, .int .i64 0, .int .i64 0, .string nm, .slice adr cols.length cap, .int .i64 0] j2 e2 ((w4.setCell ⟨C, 5, none⟩ (.string nm)).setCell ⟨C, 6, none⟩ (.slice adr cols.length cap)) := rt0.set 6 (.slice adr cols.length cap)
    have cc2 := own_setO (o := 7) (u := .int .i64 ky) cc1 hC3
    have rt2 : RS 95 w g C s #[.int .i64 3, .string ⟨#[]⟩, .slice none 0 0, .int .i64 0, .int .i64 0, .string nm, .slice adr cols.length cap, .int .i64 ky] j2 e2 (((w4.setCell ⟨C, 5, none⟩ (.string nm)).setCell ⟨C, 6, none⟩ (.slice adr cols.length cap)).setCell ⟨C, 7, none⟩ (.int .i64 ky)) := rt1.set 7 (.int .i64 ky)
    have cc3 := own_setO (o := 1) (u := .string nm) cc2 hC3
    have rt3 : RS 95 w g C s #[.int .i64 3, .string nm, .slice none 0 0, .int .i64 0, .int .i64 0, .string nm, .slice adr cols.length cap, .int .i64 ky] j2 e2 ((((w4.setCell ⟨C, 5, none⟩ (.string nm)).setCell ⟨C, 6, none⟩ (.slice adr cols.length cap)).setCell ⟨C, 7, none⟩ (.int .i64 ky)).setCell ⟨C, 1, none⟩ (.string nm)) := rt2.set 1 (.string nm)
    have HFIN := hid rt3
    have HCS := hid cc3
    clear cc0 cc1 cc2 cc3 rt0 rt1 rt2 rt3
    have z : True := trivial
    have z0 : w4.cell? ⟨w.heap.size, 0, none⟩ = some ((.int .i64 0 : Value)) := rs4.res.cell 0
    have y0 : w4.frozen? ⟨w.heap.size, 0, none⟩ = false := rs4.res.free 0
    have z1 : w4.cell? ⟨w.heap.size, 1, none⟩ = some (.string ⟨#[]⟩) := rs4.res.cell 1
    have y1 : w4.frozen? ⟨w.heap.size, 1, none⟩ = false := rs4.res.free 1
    have z2 : w4.cell? ⟨w.heap.size, 2, none⟩ = some (.slice none 0 0) := rs4.res.cell 2
    have y2 : w4.frozen? ⟨w.heap.size, 2, none⟩ = false := rs4.res.free 2
    have z3 : w4.cell? ⟨w.heap.size, 3, none⟩ = some (.int .i64 0) := rs4.res.cell 3
    have y3 : w4.frozen? ⟨w.heap.size, 3, none⟩ = false := rs4.res.free 3
    have z4 : w4.cell? ⟨w.heap.size, 4, none⟩ = some (.int .i64 0) := rs4.res.cell 4
    have y4 : w4.frozen? ⟨w.heap.size, 4, none⟩ = false := rs4.res.free 4
    have z5 : w4.cell? ⟨w.heap.size, 5, none⟩ = some (.string ⟨#[]⟩) := rs4.res.cell 5
    have y5 : w4.frozen? ⟨w.heap.size, 5, none⟩ = false := rs4.res.free 5
    have z6 : w4.cell? ⟨w.heap.size, 6, none⟩ = some (.slice none 0 0) := rs4.res.cell 6
    have y6 : w4.frozen? ⟨w.heap.size, 6, none⟩ = false := rs4.res.free 6
    have z7 : w4.cell? ⟨w.heap.size, 7, none⟩ = some (.int .i64 0) := rs4.res.cell 7
    have y7 : w4.frozen? ⟨w.heap.size, 7, none⟩ = false := rs4.res.free 7
    have hgc : w.heap.size ≠ C := Nat.ne_of_lt rs4.cl
    have hgc' : C ≠ w.heap.size := fun h => hgc h.symm
    clear rs4 z
    have hfin := hid (HFIN.out.fin (.int .i64 3) (.string nm) (.slice none 0 0) (.int .i64 0) (.int .i64 0) (.string nm) (.slice adr cols.length cap) (.int .i64 ky))
    have HCF := hid (own_set8 HCS.out hW3 (.int .i64 3) (.string nm) (.slice none 0 0) (.int .i64 0) (.int .i64 0) (.string nm) (.slice adr cols.length cap) (.int .i64 ky))
    unfold set8 at hfin HCF
    clear HFIN HCS hcs
    go_wp2_with fail
    exact bodyPost_ret (v := .agg #[.int .i64 3, .string nm, .slice none 0 0, .int .i64 0, .int .i64 0, .string nm, .slice adr cols.length cap, .int .i64 ky]) (by simp [results, Try.results53, go_sem, z0, z1, z2, z3, z4, z5, z6, z7]) rfl ⟨⟨.slice none 0 0, .slice adr cols.length cap, by rw [HC.out]; rfl, by rw [HC.out]; exact World.ownsRow_nil _ _ _ _, by rw [HC.out]; exact own_base HCF.out HS3.out⟩, hfin.out.1, by rw [HC.out]; exact hfin.out.2, by rw [HC.out]; exact hj3⟩
  · have n3 : (op == 3) = false := by rw [beq_eq_false_iff_ne]; exact h3
    have HC := hid (HCN.out h3)
    clear HC3 HCN md h3
    go_wp2_with fail
    (try rw [hC])
    generalize W1.alloc (.cells #[.int .i64 op, .string ⟨#[]⟩, .slice none 0 0, .int .i64 0, .int .i64 0, .string ⟨#[]⟩, .slice none 0 0, .int .i64 0] 32) = w2 at rs1 ⊢
    clear hC
    refine (m2.out _ rs1.rd hj1).mono ?_; rintro e w3 ⟨rfl, u3, R3, hj3⟩
    simp only at R3 hj3
    have rs3 := rs1.call u3 R3
    clear u3 R3 rs1 m2
    dsimp only
    have x0 : w3.cell? ⟨C, 0, none⟩ = some (.int .i64 op) := rs3.blk.cell 0
    have f0 : w3.frozen? ⟨C, 0, none⟩ = false := rs3.blk.free 0
    have x1 : w3.cell? ⟨C, 1, none⟩ = some (.string ⟨#[]⟩) := rs3.blk.cell 1
    have f1 : w3.frozen? ⟨C, 1, none⟩ = false := rs3.blk.free 1
    have x2 : w3.cell? ⟨C, 2, none⟩ = some (.slice none 0 0) := rs3.blk.cell 2
    have f2 : w3.frozen? ⟨C, 2, none⟩ = false := rs3.blk.free 2
    have x3 : w3.cell? ⟨C, 3, none⟩ = some (.int .i64 0) := rs3.blk.cell 3
    have f3 : w3.frozen? ⟨C, 3, none⟩ = false := rs3.blk.free 3
    have x4 : w3.cell? ⟨C, 4, none⟩ = some (.int .i64 0) := rs3.blk.cell 4
    have f4 : w3.frozen? ⟨C, 4, none⟩ = false := rs3.blk.free 4
    have x5 : w3.cell? ⟨C, 5, none⟩ = some (.string ⟨#[]⟩) := rs3.blk.cell 5
    have f5 : w3.frozen? ⟨C, 5, none⟩ = false := rs3.blk.free 5
    have x6 : w3.cell? ⟨C, 6, none⟩ = some (.slice none 0 0) := rs3.blk.cell 6
    have f6 : w3.frozen? ⟨C, 6, none⟩ = false := rs3.blk.free 6
    have x7 : w3.cell? ⟨C, 7, none⟩ = some (.int .i64 0) := rs3.blk.cell 7
    have f7 : w3.frozen? ⟨C, 7, none⟩ = false := rs3.blk.free 7
    have rs4 : RS 95 w g C s #[.int .i64 op, .string tb, .slice none 0 0, .int .i64 0, .int .i64 0, .string ⟨#[]⟩, .slice none 0 0, .int .i64 0] j2 e2 (w3.setCell ⟨C, 1, none⟩ (.string tb)) := rs3.set 1 (.string tb)
    clear rs3
    go_wp2_with fail
    clear x0 f0 x1 f1 x2 f2 x3 f3 x4 f4 x5 f5 x6 f6 x7 f7
    generalize w3.setCell ⟨C, 1, none⟩ (.string tb) = w4 at rs4 ⊢
    refine (m3.out _ rs4.rd hj3).mono ?_; rintro e w5 ⟨⟨vr, rfl, own⟩, u5, R5, hj5⟩
    simp only at R5 hj5 own
    have rs5 := rs4.call u5 R5
    have hC4 : C < w4.heap.size := rs4.lt
    have hg4 : g < w4.heap.size := by have := rs4.gl; have := rs4.cl; omega
    clear u5 R5 rs4 m3
    obtain ⟨radr, rcap, hvr⟩ := vs_slc (VsAt.own own)
    subst hvr
    have x0 : w5.cell? ⟨C, 0, none⟩ = some (.int .i64 op) := rs5.blk.cell 0
    have f0 : w5.frozen? ⟨C, 0, none⟩ = false := rs5.blk.free 0
    have x1 : w5.cell? ⟨C, 1, none⟩ = some (.string tb) := rs5.blk.cell 1
    have f1 : w5.frozen? ⟨C, 1, none⟩ = false := rs5.blk.free 1
    have x2 : w5.cell? ⟨C, 2, none⟩ = some (.slice none 0 0) := rs5.blk.cell 2
    have f2 : w5.frozen? ⟨C, 2, none⟩ = false := rs5.blk.free 2
    have x3 : w5.cell? ⟨C, 3, none⟩ = some (.int .i64 0) := rs5.blk.cell 3
    have f3 : w5.frozen? ⟨C, 3, none⟩ = false := rs5.blk.free 3
    have x4 : w5.cell? ⟨C, 4, none⟩ = some (.int .i64 0) := rs5.blk.cell 4
    have f4 : w5.frozen? ⟨C, 4, none⟩ = false := rs5.blk.free 4
    have x5 : w5.cell? ⟨C, 5, none⟩ = some (.string ⟨#[]⟩) := rs5.blk.cell 5
    have f5 : w5.frozen? ⟨C, 5, none⟩ = false := rs5.blk.free 5
    have x6 : w5.cell? ⟨C, 6, none⟩ = some (.slice none 0 0) := rs5.blk.cell 6
    have f6 : w5.frozen? ⟨C, 6, none⟩ = false := rs5.blk.free 6
    have x7 : w5.cell? ⟨C, 7, none⟩ = some (.int .i64 0) := rs5.blk.cell 7
    have f7 : w5.frozen? ⟨C, 7, none⟩ = false := rs5.blk.free 7
    have rs6 : RS 95 w g C s #[.int .i64 op, .string tb, .slice radr row.length rcap, .int .i64 0, .int .i64 0, .string ⟨#[]⟩, .slice none 0 0, .int .i64 0] j3 e3 (w5.setCell ⟨C, 2, none⟩ (.slice radr row.length rcap)) := rs5.set 2 (.slice radr row.length rcap)
    have own6 := own_setO (o := 2) (u := .slice radr row.length rcap) own hC4
    clear rs5 own
    go_wp2_with fail
    clear x0 f0 x1 f1 x2 f2 x3 f3 x4 f4 x5 f5 x6 f6 x7 f7
    generalize w5.setCell ⟨C, 2, none⟩ (.slice radr row.length rcap) = w6 at rs6 own6 ⊢
    refine (m4.out _ rs6.rd hj5).mono ?_; rintro e W4 ⟨rfl, u4, R4, hj4⟩
    simp only at R4 hj4
    dsimp only
    have rs7 := rs6.call u4 R4
    have own7 := own_upd own6 u4 hg4
    clear u4 R4 rs6 own6 m4
    have x0 : W4.cell? ⟨C, 0, none⟩ = some (.int .i64 op) := rs7.blk.cell 0
    have f0 : W4.frozen? ⟨C, 0, none⟩ = false := rs7.blk.free 0
    have x1 : W4.cell? ⟨C, 1, none⟩ = some (.string tb) := rs7.blk.cell 1
    have f1 : W4.frozen? ⟨C, 1, none⟩ = false := rs7.blk.free 1
    have x2 : W4.cell? ⟨C, 2, none⟩ = some (.slice radr row.length rcap) := rs7.blk.cell 2
    have f2 : W4.frozen? ⟨C, 2, none⟩ = false := rs7.blk.free 2
    have x3 : W4.cell? ⟨C, 3, none⟩ = some (.int .i64 0) := rs7.blk.cell 3
    have f3 : W4.frozen? ⟨C, 3, none⟩ = false := rs7.blk.free 3
    have x4 : W4.cell? ⟨C, 4, none⟩ = some (.int .i64 0) := rs7.blk.cell 4
    have f4 : W4.frozen? ⟨C, 4, none⟩ = false := rs7.blk.free 4
    have x5 : W4.cell? ⟨C, 5, none⟩ = some (.string ⟨#[]⟩) := rs7.blk.cell 5
    have f5 : W4.frozen? ⟨C, 5, none⟩ = false := rs7.blk.free 5
    have x6 : W4.cell? ⟨C, 6, none⟩ = some (.slice none 0 0) := rs7.blk.cell 6
    have f6 : W4.frozen? ⟨C, 6, none⟩ = false := rs7.blk.free 6
    have x7 : W4.cell? ⟨C, 7, none⟩ = some (.int .i64 0) := rs7.blk.cell 7
    have f7 : W4.frozen? ⟨C, 7, none⟩ = false := rs7.blk.free 7
    have rs8 : RS 95 w g C s #[.int .i64 op, .string tb, .slice radr row.length rcap, .int .i64 (clamp n4), .int .i64 0, .string ⟨#[]⟩, .slice none 0 0, .int .i64 0] j4 e4 (W4.setCell ⟨C, 3, none⟩ (.int .i64 (clamp n4))) := rs7.set 3 (.int .i64 (clamp n4))
    have own8 := own_setO (o := 3) (u := .int .i64 (clamp n4)) own7 hC4
    clear rs7 own7
    go_wp2_with fail
    clear x0 f0 x1 f1 x2 f2 x3 f3 x4 f4 x5 f5 x6 f6 x7 f7
    generalize W4.setCell ⟨C, 3, none⟩ (.int .i64 (clamp n4)) = w8 at rs8 own8 ⊢
    refine (m5.out _ rs8.rd hj4).mono ?_; rintro e W5 ⟨rfl, u5, R5, hj5x⟩
    simp only at R5 hj5x
    dsimp only
    have rs9 := rs8.call u5 R5
    have own9 := own_upd own8 u5 hg4
    clear u5 R5 rs8 own8 m5
    have x0 : W5.cell? ⟨C, 0, none⟩ = some (.int .i64 op) := rs9.blk.cell 0
    have f0 : W5.frozen? ⟨C, 0, none⟩ = false := rs9.blk.free 0
    have x1 : W5.cell? ⟨C, 1, none⟩ = some (.string tb) := rs9.blk.cell 1
    have f1 : W5.frozen? ⟨C, 1, none⟩ = false := rs9.blk.free 1
    have x2 : W5.cell? ⟨C, 2, none⟩ = some (.slice radr row.length rcap) := rs9.blk.cell 2
    have f2 : W5.frozen? ⟨C, 2, none⟩ = false := rs9.blk.free 2
    have x3 : W5.cell? ⟨C, 3, none⟩ = some (.int .i64 (clamp n4)) := rs9.blk.cell 3
    have f3 : W5.frozen? ⟨C, 3, none⟩ = false := rs9.blk.free 3
    have x4 : W5.cell? ⟨C, 4, none⟩ = some (.int .i64 0) := rs9.blk.cell 4
    have f4 : W5.frozen? ⟨C, 4, none⟩ = false := rs9.blk.free 4
    have x5 : W5.cell? ⟨C, 5, none⟩ = some (.string ⟨#[]⟩) := rs9.blk.cell 5
    have f5 : W5.frozen? ⟨C, 5, none⟩ = false := rs9.blk.free 5
    have x6 : W5.cell? ⟨C, 6, none⟩ = some (.slice none 0 0) := rs9.blk.cell 6
    have f6 : W5.frozen? ⟨C, 6, none⟩ = false := rs9.blk.free 6
    have x7 : W5.cell? ⟨C, 7, none⟩ = some (.int .i64 0) := rs9.blk.cell 7
    have f7 : W5.frozen? ⟨C, 7, none⟩ = false := rs9.blk.free 7
    have rt : RS 95 w g C s #[.int .i64 op, .string tb, .slice radr row.length rcap, .int .i64 (clamp n4), .int .i64 (clamp n5), .string ⟨#[]⟩, .slice none 0 0, .int .i64 0] j5 e5 (W5.setCell ⟨C, 4, none⟩ (.int .i64 (clamp n5))) := rs9.set 4 (.int .i64 (clamp n5))
    have ownt := own_setO (o := 4) (u := .int .i64 (clamp n5)) own9 hC4
    have z0 : W5.cell? ⟨w.heap.size, 0, none⟩ = some ((.int .i64 0 : Value)) := rs9.res.cell 0
    have y0 : W5.frozen? ⟨w.heap.size, 0, none⟩ = false := rs9.res.free 0
    have z1 : W5.cell? ⟨w.heap.size, 1, none⟩ = some (.string ⟨#[]⟩) := rs9.res.cell 1
    have y1 : W5.frozen? ⟨w.heap.size, 1, none⟩ = false := rs9.res.free 1
    have z2 : W5.cell? ⟨w.heap.size, 2, none⟩ = some (.slice none 0 0) := rs9.res.cell 2
    have y2 : W5.frozen? ⟨w.heap.size, 2, none⟩ = false := rs9.res.free 2
    have z3 : W5.cell? ⟨w.heap.size, 3, none⟩ = some (.int .i64 0) := rs9.res.cell 3
    have y3 : W5.frozen? ⟨w.heap.size, 3, none⟩ = false := rs9.res.free 3
    have z4 : W5.cell? ⟨w.heap.size, 4, none⟩ = some (.int .i64 0) := rs9.res.cell 4
    have y4 : W5.frozen? ⟨w.heap.size, 4, none⟩ = false := rs9.res.free 4
    have z5 : W5.cell? ⟨w.heap.size, 5, none⟩ = some (.string ⟨#[]⟩) := rs9.res.cell 5
    have y5 : W5.frozen? ⟨w.heap.size, 5, none⟩ = false := rs9.res.free 5
    have z6 : W5.cell? ⟨w.heap.size, 6, none⟩ = some (.slice none 0 0) := rs9.res.cell 6
    have y6 : W5.frozen? ⟨w.heap.size, 6, none⟩ = false := rs9.res.free 6
    have z7 : W5.cell? ⟨w.heap.size, 7, none⟩ = some (.int .i64 0) := rs9.res.cell 7
    have y7 : W5.frozen? ⟨w.heap.size, 7, none⟩ = false := rs9.res.free 7
    have hgc : w.heap.size ≠ C := Nat.ne_of_lt rs9.cl
    have hgc' : C ≠ w.heap.size := fun h => hgc h.symm
    have hwl : w.heap.size < w4.heap.size := Nat.lt_trans rs9.cl hC4
    clear rs9 own9
    have hfin := hid (rt.fin (.int .i64 op) (.string tb) (.slice radr row.length rcap) (.int .i64 (clamp n4)) (.int .i64 (clamp n5)) (.string ⟨#[]⟩) (.slice none 0 0) (.int .i64 0))
    have HOF := hid (own_set8 ownt hwl (.int .i64 op) (.string tb) (.slice radr row.length rcap) (.int .i64 (clamp n4)) (.int .i64 (clamp n5)) (.string ⟨#[]⟩) (.slice none 0 0) (.int .i64 0))
    unfold set8 at hfin HOF
    clear rt ownt
    go_wp2_with fail
    exact bodyPost_ret (v := .agg #[.int .i64 op, .string tb, .slice radr row.length rcap, .int .i64 (clamp n4), .int .i64 (clamp n5), .string ⟨#[]⟩, .slice none 0 0, .int .i64 0]) (by simp [results, Try.results53, go_sem, z0, z1, z2, z3, z4, z5, z6, z7]) rfl ⟨⟨.slice radr row.length rcap, .slice none 0 0, by rw [HC.out]; rfl, by rw [HC.out]; exact own_base HOF.out (Nat.le_of_lt hwl), by rw [HC.out]; exact World.ownsRow_nil _ _ _ _⟩, hfin.out.1, by rw [HC.out]; exact hfin.out.2, by rw [HC.out]; exact hj5x⟩
set_option maxRecDepth 100000 in
set_option maxHeartbeats 12800000 in
theorem freadR_any (g : Nat) (s : ByteArray) (i : Nat) (er : Int) (w : World) (hr : Rfx w g s i er) (hi : i ≤ s.size) (hs : s.size ≤ 1000000) : Calls Try.prog 57 #[.pointer (some ⟨g, 0, none⟩)] w (ReadC 85 g s (chR s i er) w) := by
  have hs9 : s.size ≤ 1000000000 := by omega
  have hgl : g < w.heap.size := hr.cells.2.2.2.2.2
  obtain ⟨⟨n1, j1, e1⟩, hT1⟩ : ∃ t, Cd.top 0 (Cd.uintR s.data.toList) i er = t := ⟨_, rfl⟩
  obtain ⟨⟨tb, j2, e2⟩, hT2⟩ : ∃ t, Cd.top ⟨#[]⟩ (Cd.textR s 1000000) j1 e1 = t := ⟨_, rfl⟩
  obtain ⟨⟨row, j3, e3⟩, hT3⟩ : ∃ t, Cd.top [] (Cd.rowR s) j2 e2 = t := ⟨_, rfl⟩
  obtain ⟨⟨n4, j4, e4⟩, hT4⟩ : ∃ t, Cd.top 0 (Cd.uintR s.data.toList) j3 e3 = t := ⟨_, rfl⟩
  obtain ⟨⟨n5, j5, e5⟩, hT5⟩ : ∃ t, Cd.top 0 (Cd.uintR s.data.toList) j4 e4 = t := ⟨_, rfl⟩
  have m1 := hid (fun W h hj => mUintX g s i er W h hj hs9)
  rw [hT1] at m1
  have m2 := hid (fun W h hj => mTextX g s j1 e1 W h hj hs9)
  rw [hT2] at m2
  have m3 := hid (fun W h hj => mRowX g s j2 e2 W h hj hs9)
  rw [hT3] at m3
  have m4 := hid (fun W h hj => mUintX g s j3 e3 W h hj hs9)
  rw [hT4] at m4
  have m5 := hid (fun W h hj => mUintX g s j4 e4 W h hj hs9)
  rw [hT5] at m5
  have htz := (top_text hT2).1
  have cn1 := hid (fun W => fnumR_any n1 (top_uint hT1).1 W)
  have cn4 := hid (fun W => fnumR_any n4 (top_uint hT4).1 W)
  have cn5 := hid (fun W => fnumR_any n5 (top_uint hT5).1 W)
  have md := hid (fun W => (decodeR_any tb htz W).mono (fun e w' h => decP_dec h))
  have HC3 : Hid (clamp n1 = 3 → chR s i er = (⟨3, (dec tb).name, [], 0, 0, dec tb⟩, j2, e2)) := fun h => by
    unfold chR
    simp only [hT1, hT2]
    rw [if_pos h]
  have HCN : Hid (clamp n1 ≠ 3 → chR s i er = (⟨clamp n1, tb, row, clamp n4, clamp n5, noS⟩, j5, e5)) := fun h => by
    unfold chR
    simp only [hT1, hT2, hT3, hT4, hT5]
    rw [if_neg h]
  clear hT1 hT2 hT3 hT4 hT5 htz
  have hb0 := hba w (.cells #[.int .i64 0, .string ⟨#[]⟩, .slice none 0 0, .int .i64 0, .int .i64 0, .string ⟨#[]⟩, .slice none 0 0, .int .i64 0] 32)
  have R0 := hr.keep hb0
  have hz0 : Var (w.alloc (.cells #[.int .i64 0, .string ⟨#[]⟩, .slice none 0 0, .int .i64 0, .int .i64 0, .string ⟨#[]⟩, .slice none 0 0, .int .i64 0] 32)) w.heap.size #[.int .i64 0, .string ⟨#[]⟩, .slice none 0 0, .int .i64 0, .int .i64 0, .string ⟨#[]⟩, .slice none 0 0, .int .i64 0] 32 := heap_alloc_new w _
  clear hr
  go_enter Try.func57, Try.ntmps57
  go_wp2_with fail
  obtain ⟨W0, hW0⟩ : ∃ W0, w.alloc (.cells #[.int .i64 0, .string ⟨#[]⟩, .slice none 0 0, .int .i64 0, .int .i64 0, .string ⟨#[]⟩, .slice none 0 0, .int .i64 0] 32) = W0 := ⟨_, rfl⟩
  rw [hW0] at hb0 R0 hz0 ⊢
  clear hW0
  refine (m1.out _ R0 hi).mono ?_; rintro e W1 ⟨rfl, u1, R1, hj1⟩
  simp only at R1 hj1
  dsimp only
  go_wp2_with fail
  refine (cn1.out _).mono ?_; rintro e W1' ⟨rfl, rfl⟩
  generalize hop : clamp n1 = op at HC3 HCN ⊢
  clear hop
  have rs1 : RS 85 w g W1.heap.size s #[.int .i64 op, .string ⟨#[]⟩, .slice none 0 0, .int .i64 0, .int .i64 0, .string ⟨#[]⟩, .slice none 0 0, .int .i64 0] j1 e1 (W1.alloc (.cells #[.int .i64 op, .string ⟨#[]⟩, .slice none 0 0, .int .i64 0, .int .i64 0, .string ⟨#[]⟩, .slice none 0 0, .int .i64 0] 32)) := by
    have hb1 := hba W1 (.cells #[.int .i64 op, .string ⟨#[]⟩, .slice none 0 0, .int .i64 0, .int .i64 0, .string ⟨#[]⟩, .slice none 0 0, .int .i64 0] 32)
    have hz1 := hz0.upd u1 (by omega)
    exact ⟨((Upd.of hb0).trans u1).trans (Upd.of hb1), keepBlock R1 hb1, heap_alloc_new W1 _, hz1.keep hb1, hgl, hz1.lt⟩
  clear u1 R1 hz0 hb0 R0 m1
  obtain ⟨C, hC⟩ : ∃ C, W1.heap.size = C := ⟨_, rfl⟩
  rw [hC] at rs1
  by_cases h3 : op = 3
  · subst h3
    have HC := hid (HC3.out rfl)
    clear HC3 HCN m3 m4 m5
    go_wp2_with fail
    (try rw [hC])
    generalize W1.alloc (.cells #[.int .i64 3, .string ⟨#[]⟩, .slice none 0 0, .int .i64 0, .int .i64 0, .string ⟨#[]⟩, .slice none 0 0, .int .i64 0] 32) = w2 at rs1 ⊢
    clear hC
    refine (m2.out _ rs1.rd hj1).mono ?_; rintro e w3 ⟨rfl, u3, R3, hj3⟩
    simp only at R3 hj3
    have rs3 := rs1.call u3 R3
    clear u3 R3 rs1 m2
    dsimp only
    go_wp2_with fail
    refine (md.out _).mono ?_; rintro e w4 ⟨v, ed, rfl, hcs, b4, hed⟩
    have rs4 := rs3.below b4
    have HS3 := hid rs3.upd.size
    have hC3 : C < w3.heap.size := rs3.lt
    have hW3 : w.heap.size < w3.heap.size := Nat.lt_trans rs3.cl hC3
    clear rs3 b4 md
    unfold sv
    obtain ⟨adr, cap, hv⟩ := (CsAt.own hcs).slc
    subst hv
    generalize hdd : dec tb = d at *
    clear hdd
    obtain ⟨nm, cols, ky⟩ := d
    simp only at hcs ⊢
    have hb5 := hba w4 (.cells #[.string nm, .slice adr cols.length cap, .int .i64 ky] 30)
    have rs5 := rs4.below hb5
    have hcs5 := own_keep hcs hb5
    have sx : Var (w4.alloc (.cells #[.string nm, .slice adr cols.length cap, .int .i64 ky] 30)) w4.heap.size #[.string nm, .slice adr cols.length cap, .int .i64 ky] 30 := heap_alloc_new w4 _
    have hsl := rs4.lt
    clear hcs hb5 rs4
    have HSZ : Hid (w4.heap.size ≤ (w4.alloc (.cells #[.string nm, .slice adr cols.length cap, .int .i64 ky] 30)).heap.size) := by show _ ≤ _; simp
    obtain ⟨w5, hw5⟩ : ∃ w5, w4.alloc (.cells #[.string nm, .slice adr cols.length cap, .int .i64 ky] 30) = w5 := ⟨_, rfl⟩
    obtain ⟨D, hD⟩ : ∃ D, w4.heap.size = D := ⟨_, rfl⟩
    rw [hw5] at rs5 hcs5 sx HSZ
    rw [hD] at sx hsl
    rcases hed with rfl | ⟨rfl, hno⟩
    · have x0 : w5.cell? ⟨C, 0, none⟩ = some (.int .i64 3) := rs5.blk.cell 0
      have f0 : w5.frozen? ⟨C, 0, none⟩ = false := rs5.blk.free 0
      have x1 : w5.cell? ⟨C, 1, none⟩ = some (.string ⟨#[]⟩) := rs5.blk.cell 1
      have f1 : w5.frozen? ⟨C, 1, none⟩ = false := rs5.blk.free 1
      have x2 : w5.cell? ⟨C, 2, none⟩ = some (.slice none 0 0) := rs5.blk.cell 2
      have f2 : w5.frozen? ⟨C, 2, none⟩ = false := rs5.blk.free 2
      have x3 : w5.cell? ⟨C, 3, none⟩ = some (.int .i64 0) := rs5.blk.cell 3
      have f3 : w5.frozen? ⟨C, 3, none⟩ = false := rs5.blk.free 3
      have x4 : w5.cell? ⟨C, 4, none⟩ = some (.int .i64 0) := rs5.blk.cell 4
      have f4 : w5.frozen? ⟨C, 4, none⟩ = false := rs5.blk.free 4
      have x5 : w5.cell? ⟨C, 5, none⟩ = some (.string ⟨#[]⟩) := rs5.blk.cell 5
      have f5 : w5.frozen? ⟨C, 5, none⟩ = false := rs5.blk.free 5
      have x6 : w5.cell? ⟨C, 6, none⟩ = some (.slice none 0 0) := rs5.blk.cell 6
      have f6 : w5.frozen? ⟨C, 6, none⟩ = false := rs5.blk.free 6
      have x7 : w5.cell? ⟨C, 7, none⟩ = some (.int .i64 0) := rs5.blk.cell 7
      have f7 : w5.frozen? ⟨C, 7, none⟩ = false := rs5.blk.free 7
      have d0 : w5.cell? ⟨D, 0, none⟩ = some (.string nm) := sx.cell 0
      have d1 : w5.cell? ⟨D, 1, none⟩ = some (.slice adr cols.length cap) := sx.cell 1
      have d2 : w5.cell? ⟨D, 2, none⟩ = some (.int .i64 ky) := sx.cell 2
      have cc0 := own_setO (o := 5) (u := .string nm) hcs5 hC3
      have rt0 : RS 85 w g C s #[.int .i64 3, .string ⟨#[]⟩, .slice none 0 0, .int .i64 0, .int .i64 0, .string nm, .slice none 0 0, .int .i64 0] j2 e2 (w5.setCell ⟨C, 5, none⟩ (.string nm)) := rs5.set 5 (.string nm)
      have cc1 := own_setO (o := 6) (u := .slice adr cols.length cap) cc0 hC3
      have rt1 : RS 85 w g C s #[.int .i64 3, .string ⟨#[]⟩, .slice none 0 0, .int .i64 0, .int .i64 0, .string nm, .slice adr cols.length cap, .int .i64 0] j2 e2 ((w5.setCell ⟨C, 5, none⟩ (.string nm)).setCell ⟨C, 6, none⟩ (.slice adr cols.length cap)) := rt0.set 6 (.slice adr cols.length cap)
      have cc2 := own_setO (o := 7) (u := .int .i64 ky) cc1 hC3
      have rt2 : RS 85 w g C s #[.int .i64 3, .string ⟨#[]⟩, .slice none 0 0, .int .i64 0, .int .i64 0, .string nm, .slice adr cols.length cap, .int .i64 ky] j2 e2 (((w5.setCell ⟨C, 5, none⟩ (.string nm)).setCell ⟨C, 6, none⟩ (.slice adr cols.length cap)).setCell ⟨C, 7, none⟩ (.int .i64 ky)) := rt1.set 7 (.int .i64 ky)
      have cc3 := own_setO (o := 1) (u := .string nm) cc2 hC3
      have rt3 : RS 85 w g C s #[.int .i64 3, .string nm, .slice none 0 0, .int .i64 0, .int .i64 0, .string nm, .slice adr cols.length cap, .int .i64 ky] j2 e2 ((((w5.setCell ⟨C, 5, none⟩ (.string nm)).setCell ⟨C, 6, none⟩ (.slice adr cols.length cap)).setCell ⟨C, 7, none⟩ (.int .i64 ky)).setCell ⟨C, 1, none⟩ (.string nm)) := rt2.set 1 (.string nm)
      have HFIN := hid rt3
      have HCS := hid cc3
      clear cc0 cc1 cc2 cc3 rt0 rt1 rt2 rt3
      have z0 : w5.cell? ⟨w.heap.size, 0, none⟩ = some ((.int .i64 0 : Value)) := rs5.res.cell 0
      have y0 : w5.frozen? ⟨w.heap.size, 0, none⟩ = false := rs5.res.free 0
      have z1 : w5.cell? ⟨w.heap.size, 1, none⟩ = some (.string ⟨#[]⟩) := rs5.res.cell 1
      have y1 : w5.frozen? ⟨w.heap.size, 1, none⟩ = false := rs5.res.free 1
      have z2 : w5.cell? ⟨w.heap.size, 2, none⟩ = some (.slice none 0 0) := rs5.res.cell 2
      have y2 : w5.frozen? ⟨w.heap.size, 2, none⟩ = false := rs5.res.free 2
      have z3 : w5.cell? ⟨w.heap.size, 3, none⟩ = some (.int .i64 0) := rs5.res.cell 3
      have y3 : w5.frozen? ⟨w.heap.size, 3, none⟩ = false := rs5.res.free 3
      have z4 : w5.cell? ⟨w.heap.size, 4, none⟩ = some (.int .i64 0) := rs5.res.cell 4
      have y4 : w5.frozen? ⟨w.heap.size, 4, none⟩ = false := rs5.res.free 4
      have z5 : w5.cell? ⟨w.heap.size, 5, none⟩ = some (.string ⟨#[]⟩) := rs5.res.cell 5
      have y5 : w5.frozen? ⟨w.heap.size, 5, none⟩ = false := rs5.res.free 5
      have z6 : w5.cell? ⟨w.heap.size, 6, none⟩ = some (.slice none 0 0) := rs5.res.cell 6
      have y6 : w5.frozen? ⟨w.heap.size, 6, none⟩ = false := rs5.res.free 6
      have z7 : w5.cell? ⟨w.heap.size, 7, none⟩ = some (.int .i64 0) := rs5.res.cell 7
      have y7 : w5.frozen? ⟨w.heap.size, 7, none⟩ = false := rs5.res.free 7
      have hgc : w.heap.size ≠ C := Nat.ne_of_lt rs5.cl
      have hgc' : C ≠ w.heap.size := fun h => hgc h.symm
      have hcd : C ≠ D := Nat.ne_of_lt hsl
      have hcd' : D ≠ C := fun h => hcd h.symm
      clear rs5 sx hsl
      have hfin := hid (HFIN.out.fin (.int .i64 3) (.string nm) (.slice none 0 0) (.int .i64 0) (.int .i64 0) (.string nm) (.slice adr cols.length cap) (.int .i64 ky))
      have HCF := hid (own_set8 HCS.out hW3 (.int .i64 3) (.string nm) (.slice none 0 0) (.int .i64 0) (.int .i64 0) (.string nm) (.slice adr cols.length cap) (.int .i64 ky))
      unfold set8 at hfin HCF
      clear HFIN HCS hcs5
      go_wp2_with fail
      exact bodyPost_ret (v := .agg #[.int .i64 3, .string nm, .slice none 0 0, .int .i64 0, .int .i64 0, .string nm, .slice adr cols.length cap, .int .i64 ky]) (by simp [results, Try.results57, go_sem, z0, z1, z2, z3, z4, z5, z6, z7]) rfl ⟨⟨.slice none 0 0, .slice adr cols.length cap, by rw [HC.out]; rfl, by rw [HC.out]; exact World.ownsRow_nil _ _ _ _, by rw [HC.out]; exact own_base HCF.out HS3.out⟩, hfin.out.1, by rw [HC.out]; exact hfin.out.2, by rw [HC.out]; exact hj3⟩
    · have HC2 : Hid (chR s i er = (⟨3, ⟨#[]⟩, [], 0, 0, noS⟩, j2, e2)) := by
        show _ = _
        have h := HC.out
        rw [hno] at h
        exact h
      replace HC := HC2
      clear hno HC2
      have x0 : w5.cell? ⟨C, 0, none⟩ = some (.int .i64 3) := rs5.blk.cell 0
      have f0 : w5.frozen? ⟨C, 0, none⟩ = false := rs5.blk.free 0
      have x1 : w5.cell? ⟨C, 1, none⟩ = some (.string ⟨#[]⟩) := rs5.blk.cell 1
      have f1 : w5.frozen? ⟨C, 1, none⟩ = false := rs5.blk.free 1
      have x2 : w5.cell? ⟨C, 2, none⟩ = some (.slice none 0 0) := rs5.blk.cell 2
      have f2 : w5.frozen? ⟨C, 2, none⟩ = false := rs5.blk.free 2
      have x3 : w5.cell? ⟨C, 3, none⟩ = some (.int .i64 0) := rs5.blk.cell 3
      have f3 : w5.frozen? ⟨C, 3, none⟩ = false := rs5.blk.free 3
      have x4 : w5.cell? ⟨C, 4, none⟩ = some (.int .i64 0) := rs5.blk.cell 4
      have f4 : w5.frozen? ⟨C, 4, none⟩ = false := rs5.blk.free 4
      have x5 : w5.cell? ⟨C, 5, none⟩ = some (.string ⟨#[]⟩) := rs5.blk.cell 5
      have f5 : w5.frozen? ⟨C, 5, none⟩ = false := rs5.blk.free 5
      have x6 : w5.cell? ⟨C, 6, none⟩ = some (.slice none 0 0) := rs5.blk.cell 6
      have f6 : w5.frozen? ⟨C, 6, none⟩ = false := rs5.blk.free 6
      have x7 : w5.cell? ⟨C, 7, none⟩ = some (.int .i64 0) := rs5.blk.cell 7
      have f7 : w5.frozen? ⟨C, 7, none⟩ = false := rs5.blk.free 7
      have d0 : w5.cell? ⟨D, 0, none⟩ = some (.string nm) := sx.cell 0
      have d1 : w5.cell? ⟨D, 1, none⟩ = some (.slice adr cols.length cap) := sx.cell 1
      have d2 : w5.cell? ⟨D, 2, none⟩ = some (.int .i64 ky) := sx.cell 2
      have HFIN := hid rs5
      have HCS := hid hcs5
      have z0 : w5.cell? ⟨w.heap.size, 0, none⟩ = some ((.int .i64 0 : Value)) := rs5.res.cell 0
      have y0 : w5.frozen? ⟨w.heap.size, 0, none⟩ = false := rs5.res.free 0
      have z1 : w5.cell? ⟨w.heap.size, 1, none⟩ = some (.string ⟨#[]⟩) := rs5.res.cell 1
      have y1 : w5.frozen? ⟨w.heap.size, 1, none⟩ = false := rs5.res.free 1
      have z2 : w5.cell? ⟨w.heap.size, 2, none⟩ = some (.slice none 0 0) := rs5.res.cell 2
      have y2 : w5.frozen? ⟨w.heap.size, 2, none⟩ = false := rs5.res.free 2
      have z3 : w5.cell? ⟨w.heap.size, 3, none⟩ = some (.int .i64 0) := rs5.res.cell 3
      have y3 : w5.frozen? ⟨w.heap.size, 3, none⟩ = false := rs5.res.free 3
      have z4 : w5.cell? ⟨w.heap.size, 4, none⟩ = some (.int .i64 0) := rs5.res.cell 4
      have y4 : w5.frozen? ⟨w.heap.size, 4, none⟩ = false := rs5.res.free 4
      have z5 : w5.cell? ⟨w.heap.size, 5, none⟩ = some (.string ⟨#[]⟩) := rs5.res.cell 5
      have y5 : w5.frozen? ⟨w.heap.size, 5, none⟩ = false := rs5.res.free 5
      have z6 : w5.cell? ⟨w.heap.size, 6, none⟩ = some (.slice none 0 0) := rs5.res.cell 6
      have y6 : w5.frozen? ⟨w.heap.size, 6, none⟩ = false := rs5.res.free 6
      have z7 : w5.cell? ⟨w.heap.size, 7, none⟩ = some (.int .i64 0) := rs5.res.cell 7
      have y7 : w5.frozen? ⟨w.heap.size, 7, none⟩ = false := rs5.res.free 7
      have hgc : w.heap.size ≠ C := Nat.ne_of_lt rs5.cl
      have hgc' : C ≠ w.heap.size := fun h => hgc h.symm
      have hcd : C ≠ D := Nat.ne_of_lt hsl
      have hcd' : D ≠ C := fun h => hcd h.symm
      clear rs5 sx hsl
      have hfin := hid (HFIN.out.fin (.int .i64 3) (.string ⟨#[]⟩) (.slice none 0 0) (.int .i64 0) (.int .i64 0) (.string ⟨#[]⟩) (.slice none 0 0) (.int .i64 0))
      have HCF := hid (own_set8 HCS.out hW3 (.int .i64 3) (.string ⟨#[]⟩) (.slice none 0 0) (.int .i64 0) (.int .i64 0) (.string ⟨#[]⟩) (.slice none 0 0) (.int .i64 0))
      unfold set8 at hfin HCF
      clear HFIN HCS hcs5
      go_wp2_with fail
      exact bodyPost_ret (v := .agg #[.int .i64 3, .string ⟨#[]⟩, .slice none 0 0, .int .i64 0, .int .i64 0, .string ⟨#[]⟩, .slice none 0 0, .int .i64 0]) (by simp [results, Try.results57, go_sem, z0, z1, z2, z3, z4, z5, z6, z7]) rfl ⟨⟨.slice none 0 0, .slice none 0 0, by rw [HC.out]; rfl, by rw [HC.out]; exact World.ownsRow_nil _ _ _ _, by rw [HC.out]; exact World.ownsRow_nil _ _ _ _⟩, hfin.out.1, by rw [HC.out]; exact hfin.out.2, by rw [HC.out]; exact hj3⟩
  · have n3 : (op == 3) = false := by rw [beq_eq_false_iff_ne]; exact h3
    have HC := hid (HCN.out h3)
    clear HC3 HCN md h3
    go_wp2_with fail
    (try rw [hC])
    generalize W1.alloc (.cells #[.int .i64 op, .string ⟨#[]⟩, .slice none 0 0, .int .i64 0, .int .i64 0, .string ⟨#[]⟩, .slice none 0 0, .int .i64 0] 32) = w2 at rs1 ⊢
    clear hC
    refine (m2.out _ rs1.rd hj1).mono ?_; rintro e w3 ⟨rfl, u3, R3, hj3⟩
    simp only at R3 hj3
    have rs3 := rs1.call u3 R3
    clear u3 R3 rs1 m2
    dsimp only
    have x0 : w3.cell? ⟨C, 0, none⟩ = some (.int .i64 op) := rs3.blk.cell 0
    have f0 : w3.frozen? ⟨C, 0, none⟩ = false := rs3.blk.free 0
    have x1 : w3.cell? ⟨C, 1, none⟩ = some (.string ⟨#[]⟩) := rs3.blk.cell 1
    have f1 : w3.frozen? ⟨C, 1, none⟩ = false := rs3.blk.free 1
    have x2 : w3.cell? ⟨C, 2, none⟩ = some (.slice none 0 0) := rs3.blk.cell 2
    have f2 : w3.frozen? ⟨C, 2, none⟩ = false := rs3.blk.free 2
    have x3 : w3.cell? ⟨C, 3, none⟩ = some (.int .i64 0) := rs3.blk.cell 3
    have f3 : w3.frozen? ⟨C, 3, none⟩ = false := rs3.blk.free 3
    have x4 : w3.cell? ⟨C, 4, none⟩ = some (.int .i64 0) := rs3.blk.cell 4
    have f4 : w3.frozen? ⟨C, 4, none⟩ = false := rs3.blk.free 4
    have x5 : w3.cell? ⟨C, 5, none⟩ = some (.string ⟨#[]⟩) := rs3.blk.cell 5
    have f5 : w3.frozen? ⟨C, 5, none⟩ = false := rs3.blk.free 5
    have x6 : w3.cell? ⟨C, 6, none⟩ = some (.slice none 0 0) := rs3.blk.cell 6
    have f6 : w3.frozen? ⟨C, 6, none⟩ = false := rs3.blk.free 6
    have x7 : w3.cell? ⟨C, 7, none⟩ = some (.int .i64 0) := rs3.blk.cell 7
    have f7 : w3.frozen? ⟨C, 7, none⟩ = false := rs3.blk.free 7
    have rs4 : RS 85 w g C s #[.int .i64 op, .string tb, .slice none 0 0, .int .i64 0, .int .i64 0, .string ⟨#[]⟩, .slice none 0 0, .int .i64 0] j2 e2 (w3.setCell ⟨C, 1, none⟩ (.string tb)) := rs3.set 1 (.string tb)
    clear rs3
    go_wp2_with fail
    clear x0 f0 x1 f1 x2 f2 x3 f3 x4 f4 x5 f5 x6 f6 x7 f7
    generalize w3.setCell ⟨C, 1, none⟩ (.string tb) = w4 at rs4 ⊢
    refine (m3.out _ rs4.rd hj3).mono ?_; rintro e w5 ⟨⟨vr, rfl, own⟩, u5, R5, hj5⟩
    simp only at R5 hj5 own
    have rs5 := rs4.call u5 R5
    have hC4 : C < w4.heap.size := rs4.lt
    have hg4 : g < w4.heap.size := by have := rs4.gl; have := rs4.cl; omega
    clear u5 R5 rs4 m3
    obtain ⟨radr, rcap, hvr⟩ := vs_slc (VsAt.own own)
    subst hvr
    have x0 : w5.cell? ⟨C, 0, none⟩ = some (.int .i64 op) := rs5.blk.cell 0
    have f0 : w5.frozen? ⟨C, 0, none⟩ = false := rs5.blk.free 0
    have x1 : w5.cell? ⟨C, 1, none⟩ = some (.string tb) := rs5.blk.cell 1
    have f1 : w5.frozen? ⟨C, 1, none⟩ = false := rs5.blk.free 1
    have x2 : w5.cell? ⟨C, 2, none⟩ = some (.slice none 0 0) := rs5.blk.cell 2
    have f2 : w5.frozen? ⟨C, 2, none⟩ = false := rs5.blk.free 2
    have x3 : w5.cell? ⟨C, 3, none⟩ = some (.int .i64 0) := rs5.blk.cell 3
    have f3 : w5.frozen? ⟨C, 3, none⟩ = false := rs5.blk.free 3
    have x4 : w5.cell? ⟨C, 4, none⟩ = some (.int .i64 0) := rs5.blk.cell 4
    have f4 : w5.frozen? ⟨C, 4, none⟩ = false := rs5.blk.free 4
    have x5 : w5.cell? ⟨C, 5, none⟩ = some (.string ⟨#[]⟩) := rs5.blk.cell 5
    have f5 : w5.frozen? ⟨C, 5, none⟩ = false := rs5.blk.free 5
    have x6 : w5.cell? ⟨C, 6, none⟩ = some (.slice none 0 0) := rs5.blk.cell 6
    have f6 : w5.frozen? ⟨C, 6, none⟩ = false := rs5.blk.free 6
    have x7 : w5.cell? ⟨C, 7, none⟩ = some (.int .i64 0) := rs5.blk.cell 7
    have f7 : w5.frozen? ⟨C, 7, none⟩ = false := rs5.blk.free 7
    have rs6 : RS 85 w g C s #[.int .i64 op, .string tb, .slice radr row.length rcap, .int .i64 0, .int .i64 0, .string ⟨#[]⟩, .slice none 0 0, .int .i64 0] j3 e3 (w5.setCell ⟨C, 2, none⟩ (.slice radr row.length rcap)) := rs5.set 2 (.slice radr row.length rcap)
    have own6 := own_setO (o := 2) (u := .slice radr row.length rcap) own hC4
    clear rs5 own
    go_wp2_with fail
    clear x0 f0 x1 f1 x2 f2 x3 f3 x4 f4 x5 f5 x6 f6 x7 f7
    generalize w5.setCell ⟨C, 2, none⟩ (.slice radr row.length rcap) = w6 at rs6 own6 ⊢
    refine (m4.out _ rs6.rd hj5).mono ?_; rintro e W4 ⟨rfl, u4, R4, hj4⟩
    simp only at R4 hj4
    dsimp only
    go_wp2_with fail
    refine (cn4.out _).mono ?_; rintro e W4' ⟨rfl, rfl⟩
    have rs7 := rs6.call u4 R4
    have own7 := own_upd own6 u4 hg4
    clear u4 R4 rs6 own6 m4
    have x0 : W4.cell? ⟨C, 0, none⟩ = some (.int .i64 op) := rs7.blk.cell 0
    have f0 : W4.frozen? ⟨C, 0, none⟩ = false := rs7.blk.free 0
    have x1 : W4.cell? ⟨C, 1, none⟩ = some (.string tb) := rs7.blk.cell 1
    have f1 : W4.frozen? ⟨C, 1, none⟩ = false := rs7.blk.free 1
    have x2 : W4.cell? ⟨C, 2, none⟩ = some (.slice radr row.length rcap) := rs7.blk.cell 2
    have f2 : W4.frozen? ⟨C, 2, none⟩ = false := rs7.blk.free 2
    have x3 : W4.cell? ⟨C, 3, none⟩ = some (.int .i64 0) := rs7.blk.cell 3
    have f3 : W4.frozen? ⟨C, 3, none⟩ = false := rs7.blk.free 3
    have x4 : W4.cell? ⟨C, 4, none⟩ = some (.int .i64 0) := rs7.blk.cell 4
    have f4 : W4.frozen? ⟨C, 4, none⟩ = false := rs7.blk.free 4
    have x5 : W4.cell? ⟨C, 5, none⟩ = some (.string ⟨#[]⟩) := rs7.blk.cell 5
    have f5 : W4.frozen? ⟨C, 5, none⟩ = false := rs7.blk.free 5
    have x6 : W4.cell? ⟨C, 6, none⟩ = some (.slice none 0 0) := rs7.blk.cell 6
    have f6 : W4.frozen? ⟨C, 6, none⟩ = false := rs7.blk.free 6
    have x7 : W4.cell? ⟨C, 7, none⟩ = some (.int .i64 0) := rs7.blk.cell 7
    have f7 : W4.frozen? ⟨C, 7, none⟩ = false := rs7.blk.free 7
    have rs8 : RS 85 w g C s #[.int .i64 op, .string tb, .slice radr row.length rcap, .int .i64 (clamp n4), .int .i64 0, .string ⟨#[]⟩, .slice none 0 0, .int .i64 0] j4 e4 (W4.setCell ⟨C, 3, none⟩ (.int .i64 (clamp n4))) := rs7.set 3 (.int .i64 (clamp n4))
    have own8 := own_setO (o := 3) (u := .int .i64 (clamp n4)) own7 hC4
    clear rs7 own7
    go_wp2_with fail
    clear x0 f0 x1 f1 x2 f2 x3 f3 x4 f4 x5 f5 x6 f6 x7 f7
    generalize W4.setCell ⟨C, 3, none⟩ (.int .i64 (clamp n4)) = w8 at rs8 own8 ⊢
    refine (m5.out _ rs8.rd hj4).mono ?_; rintro e W5 ⟨rfl, u5, R5, hj5x⟩
    simp only at R5 hj5x
    dsimp only
    go_wp2_with fail
    refine (cn5.out _).mono ?_; rintro e W5' ⟨rfl, rfl⟩
    have rs9 := rs8.call u5 R5
    have own9 := own_upd own8 u5 hg4
    clear u5 R5 rs8 own8 m5
    have x0 : W5.cell? ⟨C, 0, none⟩ = some (.int .i64 op) := rs9.blk.cell 0
    have f0 : W5.frozen? ⟨C, 0, none⟩ = false := rs9.blk.free 0
    have x1 : W5.cell? ⟨C, 1, none⟩ = some (.string tb) := rs9.blk.cell 1
    have f1 : W5.frozen? ⟨C, 1, none⟩ = false := rs9.blk.free 1
    have x2 : W5.cell? ⟨C, 2, none⟩ = some (.slice radr row.length rcap) := rs9.blk.cell 2
    have f2 : W5.frozen? ⟨C, 2, none⟩ = false := rs9.blk.free 2
    have x3 : W5.cell? ⟨C, 3, none⟩ = some (.int .i64 (clamp n4)) := rs9.blk.cell 3
    have f3 : W5.frozen? ⟨C, 3, none⟩ = false := rs9.blk.free 3
    have x4 : W5.cell? ⟨C, 4, none⟩ = some (.int .i64 0) := rs9.blk.cell 4
    have f4 : W5.frozen? ⟨C, 4, none⟩ = false := rs9.blk.free 4
    have x5 : W5.cell? ⟨C, 5, none⟩ = some (.string ⟨#[]⟩) := rs9.blk.cell 5
    have f5 : W5.frozen? ⟨C, 5, none⟩ = false := rs9.blk.free 5
    have x6 : W5.cell? ⟨C, 6, none⟩ = some (.slice none 0 0) := rs9.blk.cell 6
    have f6 : W5.frozen? ⟨C, 6, none⟩ = false := rs9.blk.free 6
    have x7 : W5.cell? ⟨C, 7, none⟩ = some (.int .i64 0) := rs9.blk.cell 7
    have f7 : W5.frozen? ⟨C, 7, none⟩ = false := rs9.blk.free 7
    have rt : RS 85 w g C s #[.int .i64 op, .string tb, .slice radr row.length rcap, .int .i64 (clamp n4), .int .i64 (clamp n5), .string ⟨#[]⟩, .slice none 0 0, .int .i64 0] j5 e5 (W5.setCell ⟨C, 4, none⟩ (.int .i64 (clamp n5))) := rs9.set 4 (.int .i64 (clamp n5))
    have ownt := own_setO (o := 4) (u := .int .i64 (clamp n5)) own9 hC4
    have z0 : W5.cell? ⟨w.heap.size, 0, none⟩ = some ((.int .i64 0 : Value)) := rs9.res.cell 0
    have y0 : W5.frozen? ⟨w.heap.size, 0, none⟩ = false := rs9.res.free 0
    have z1 : W5.cell? ⟨w.heap.size, 1, none⟩ = some (.string ⟨#[]⟩) := rs9.res.cell 1
    have y1 : W5.frozen? ⟨w.heap.size, 1, none⟩ = false := rs9.res.free 1
    have z2 : W5.cell? ⟨w.heap.size, 2, none⟩ = some (.slice none 0 0) := rs9.res.cell 2
    have y2 : W5.frozen? ⟨w.heap.size, 2, none⟩ = false := rs9.res.free 2
    have z3 : W5.cell? ⟨w.heap.size, 3, none⟩ = some (.int .i64 0) := rs9.res.cell 3
    have y3 : W5.frozen? ⟨w.heap.size, 3, none⟩ = false := rs9.res.free 3
    have z4 : W5.cell? ⟨w.heap.size, 4, none⟩ = some (.int .i64 0) := rs9.res.cell 4
    have y4 : W5.frozen? ⟨w.heap.size, 4, none⟩ = false := rs9.res.free 4
    have z5 : W5.cell? ⟨w.heap.size, 5, none⟩ = some (.string ⟨#[]⟩) := rs9.res.cell 5
    have y5 : W5.frozen? ⟨w.heap.size, 5, none⟩ = false := rs9.res.free 5
    have z6 : W5.cell? ⟨w.heap.size, 6, none⟩ = some (.slice none 0 0) := rs9.res.cell 6
    have y6 : W5.frozen? ⟨w.heap.size, 6, none⟩ = false := rs9.res.free 6
    have z7 : W5.cell? ⟨w.heap.size, 7, none⟩ = some (.int .i64 0) := rs9.res.cell 7
    have y7 : W5.frozen? ⟨w.heap.size, 7, none⟩ = false := rs9.res.free 7
    have hgc : w.heap.size ≠ C := Nat.ne_of_lt rs9.cl
    have hgc' : C ≠ w.heap.size := fun h => hgc h.symm
    have hwl : w.heap.size < w4.heap.size := Nat.lt_trans rs9.cl hC4
    clear rs9 own9
    have hfin := hid (rt.fin (.int .i64 op) (.string tb) (.slice radr row.length rcap) (.int .i64 (clamp n4)) (.int .i64 (clamp n5)) (.string ⟨#[]⟩) (.slice none 0 0) (.int .i64 0))
    have HOF := hid (own_set8 ownt hwl (.int .i64 op) (.string tb) (.slice radr row.length rcap) (.int .i64 (clamp n4)) (.int .i64 (clamp n5)) (.string ⟨#[]⟩) (.slice none 0 0) (.int .i64 0))
    unfold set8 at hfin HOF
    clear rt ownt
    go_wp2_with fail
    exact bodyPost_ret (v := .agg #[.int .i64 op, .string tb, .slice radr row.length rcap, .int .i64 (clamp n4), .int .i64 (clamp n5), .string ⟨#[]⟩, .slice none 0 0, .int .i64 0]) (by simp [results, Try.results57, go_sem, z0, z1, z2, z3, z4, z5, z6, z7]) rfl ⟨⟨.slice radr row.length rcap, .slice none 0 0, by rw [HC.out]; rfl, by rw [HC.out]; exact own_base HOF.out (Nat.le_of_lt hwl), by rw [HC.out]; exact World.ownsRow_nil _ _ _ _⟩, hfin.out.1, by rw [HC.out]; exact hfin.out.2, by rw [HC.out]; exact hj5x⟩
end Go.Proofs.Ytmmegicaeaifaaa
