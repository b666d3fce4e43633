/-
  SchemaGrows answers true at any schemas and row. No condition.
-/
import Derived.Test.YtmgafcblbbbanaaScP
import Derived.Test.YtmgafcblbbbanaaLro
namespace Go.Proofs.Ytmgafcblbbbanaa
open Go.RowKit Go.ChangeShapes Go.WideShapes Go.Joins Go.Deep

/-- three schemas in one array -/
def sv3 (a b c : Sc.S) (va vb vc : Value) : Value := .agg #[.string a.name, va, .int .i64 a.keys, .string b.name, vb, .int .i64 b.keys, .string c.name, vc, .int .i64 c.keys]
theorem cells3S : Try.prog.cellsOf 42 = 9 := by kernel_rfl
theorem array9 {α : Type} {cs : Array α} (h : cs.size = 9) : ∃ c0 c1 c2 c3 c4 c5 c6 c7 c8, cs = #[c0, c1, c2, c3, c4, c5, c6, c7, c8] := by
  match cs, h with
  | ⟨[c0, c1, c2, c3, c4, c5, c6, c7, c8]⟩, _ => exact ⟨c0, c1, c2, c3, c4, c5, c6, c7, c8, rfl⟩
theorem schema_cells {H : Type} {enc : TypeId × Value → H} {W : World} {base : Nat} {sp : Nat → Bool} {hd : Bool} {c0 c1 c2 : Value} {x : DataW H × List MemPlace} {fuel : Nat} (h : DataW.trod enc Try.prog W base sp hd fuel 24 [c0, c1, c2] = some x) :
    ∃ (s : Sc.S) (u : Value), c0 = .string s.name ∧ c1 = u ∧ c2 = .int .i64 s.keys ∧ SchemaIn W s u := by
  obtain ⟨y0, y1, y2, n, _, _, h0, h1, h2⟩ := trod_struct3 Try.underlying24 h
  simp [cellsS, cellsCs, cellsI] at h0 h1 h2
  obtain ⟨nm, e0, _, w0⟩ := DataW.trod_string Try.underlying9 h0
  obtain ⟨ks, e2, _, _⟩ := DataW.trod_int Try.underlying3 h2
  simp at e0 e2
  subst e0 e2
  obtain ⟨l, hl, hl2⟩ := open_cols h1
  exact ⟨⟨nm, l, ks⟩, c1, rfl, rfl, rfl, hl, w0, fun c hc => (hl2 c hc).1⟩
theorem open_schemas {H : Type} {enc : TypeId × Value → H} {W : World} {base b0 : Nat} {sp : Nat → Bool} {hd : Bool} {r : Reach} {v : Value} {d : DataW H} {p : List MemPlace} (hv : Value.okWide Try.prog W r b0 42 v) (h : DataW.Trod enc Try.prog W base sp hd 42 v d p) :
    ∃ (a b c : Sc.S) (va vb vc : Value), v = sv3 a b c va vb vc ∧ SchemaIn W a va ∧ SchemaIn W b vb ∧ SchemaIn W c vc := by
  have hu : Try.prog.underlying 42 = some (.array 3 24) := by kernel_rfl
  obtain ⟨cs, rfl, hsz⟩ : ∃ cs, v = .agg cs ∧ cs.size = Try.prog.cellsOf 42 := by
    simp only [Value.okWide, hu] at hv
    obtain ⟨cs, h1, h2, _⟩ := hv
    exact ⟨cs, h1, h2⟩
  rw [cells3S] at hsz
  obtain ⟨c0, c1, c2, c3, c4, c5, c6, c7, c8, rfl⟩ := array9 hsz
  obtain ⟨fuel, hf⟩ := h
  obtain ⟨xs, m, _, _, _, hn, hx⟩ := DataW.trod_array hu (show DataW.trod enc Try.prog W base sp hd fuel 42 [c0, c1, c2, c3, c4, c5, c6, c7, c8] = _ from hf)
  match xs, hn with
  | [y0, y1, y2], _ =>
    have h0 := hx 0 (by decide)
    have h1 := hx 1 (by decide)
    have h2 := hx 2 (by decide)
    rw [cellsSchema] at h0 h1 h2
    obtain ⟨a, va, rfl, rfl, rfl, ia⟩ := schema_cells (x := y0) (by simpa using h0)
    obtain ⟨b, vb, rfl, rfl, rfl, ib⟩ := schema_cells (x := y1) (by simpa using h1)
    obtain ⟨c, vc, rfl, rfl, rfl, ic⟩ := schema_cells (x := y2) (by simpa using h2)
    exact ⟨a, b, c, _, _, _, rfl, ia, ib, ic⟩
/-- a block that holds just these cells -/
def BG (w : World) (g : Nat) (cs : Array Value) : Prop := w.heap[g]? = some (.cells cs 42 (0, 0))
theorem BG.cells {w : World} {g : Nat} {c0 c1 c2 c3 c4 c5 c6 c7 c8 : Value} (h : BG w g #[c0, c1, c2, c3, c4, c5, c6, c7, c8]) : w.cell? ⟨g, 0, none⟩ = some c0 ∧ w.cell? ⟨g, 1, none⟩ = some c1 ∧ w.cell? ⟨g, 2, none⟩ = some c2 ∧ w.cell? ⟨g, 3, none⟩ = some c3 ∧ w.cell? ⟨g, 4, none⟩ = some c4 ∧ w.cell? ⟨g, 5, none⟩ = some c5 ∧
    w.cell? ⟨g, 6, none⟩ = some c6 ∧ w.cell? ⟨g, 7, none⟩ = some c7 ∧ w.cell? ⟨g, 8, none⟩ = some c8 ∧ g < w.heap.size :=
  ⟨cell_of_row w g 0 _ _ _ h, cell_of_row w g 1 _ _ _ h, cell_of_row w g 2 _ _ _ h, cell_of_row w g 3 _ _ _ h, cell_of_row w g 4 _ _ _ h, cell_of_row w g 5 _ _ _ h, cell_of_row w g 6 _ _ _ h, cell_of_row w g 7 _ _ _ h, cell_of_row w g 8 _ _ _ h, (Array.getElem?_eq_some_iff.1 h).1⟩
theorem BG.keep {w w' : World} {g : Nat} {cs : Array Value} (h : BG w g cs) (hb : Below w.heap.size w w') : BG w' g cs := keepBlock h hb
theorem BG.new (w : World) (cs : Array Value) : BG (w.alloc (.cells cs 42)) w.heap.size cs := heap_alloc_new w _
theorem Sc.wide_le {s : Sc.S} {l : List Cd.V} : l.length ≤ (Sc.wide s l).length := by unfold Sc.wide; rw [List.length_append]; omega

set_option maxRecDepth 100000 in
set_option maxHeartbeats 12800000 in
theorem schemaGrows_walk (a b c : Sc.S) (va vb vc : Value) (u : Value) (l : List Cd.V) (w : World) (hs : SchemaIn w a va ∧ SchemaIn w b vb ∧ SchemaIn w c vc) (hr : RowIn w l u) :
    Calls Try.prog 7 #[sv3 a b c va vb vc, u] w fun e w' => e = .returned (.bool true) ∧ Below w.heap.size w w' := by
  obtain ⟨⟨xa, za⟩, ⟨xb, zb⟩, ⟨xc, zc⟩⟩ := hs
  have HXA := hid xa
  have HXB := hid xb
  have HXC := hid xc
  have HRA := hid hr.1
  have hrk := hr.rok
  have hln := hr.1.len
  obtain ⟨adra, capa, rfl⟩ := xa.slc
  obtain ⟨adrb, capb, rfl⟩ := xb.slc
  obtain ⟨adrc, capc, rfl⟩ := xc.slc
  obtain ⟨adr2, cap2, rfl⟩ := hr.1.1.len
  have l0 := hid (fun W h h' => light_any a (.slice adra a.cols.length capa) l (.slice adr2 l.length cap2) W h h')
  have l1 := hid (fun W h => light_any b (.slice adrb b.cols.length capb) [] (.slice none 0 0) W h (RsAt.nil W).1)
  have l2 := hid (fun W h => light_any c (.slice adrc c.cols.length capc) [] (.slice none 0 0) W h (RsAt.nil W).1)
  have cr := hid (fun W h => right_sc a (.slice adra a.cols.length capa) W h za)
  have eaa := hid (fun W h h' => extends_any a a (.slice adra a.cols.length capa) (.slice adra a.cols.length capa) W h h' za za)
  have eab := hid (fun W h h' => extends_any a b (.slice adra a.cols.length capa) (.slice adrb b.cols.length capb) W h h' za zb)
  have eac := hid (fun W h h' => extends_any a c (.slice adra a.cols.length capa) (.slice adrc c.cols.length capc) W h h' za zc)
  have ebc := hid (fun W h h' => extends_any b c (.slice adrb b.cols.length capb) (.slice adrc c.cols.length capc) W h h' zb zc)
  have cw := hid (fun W h (h' : RsAt W (.slice adr2 l.length cap2) l) => widen_any b (.slice adrb b.cols.length capb) l _ W h zb h' hrk)
  have fa := hid (fun W h (h' : RsAt W (.slice adr2 l.length cap2) l) => fits_any a (.slice adra a.cols.length capa) l _ W h za h'.1 hln hrk)
  have ka := hid (fun W h (h' : RsAt W (.slice adr2 l.length cap2) l) => key_any a (.slice adra a.cols.length capa) l _ W h za h' hrk)
  have fb := hid (fun W X vx h (h' : RsAt W vx X) (hx : Rok X) => fits_any b (.slice adrb b.cols.length capb) X vx W h zb h'.1 h'.len hx)
  have kb := hid (fun W X vx h (h' : RsAt W vx X) (hx : Rok X) => key_any b (.slice adrb b.cols.length capb) X vx W h zb h' hx)
  have hly := hid (fun h => lightB_yes (s := a) (l := l) h)
  have htr := hid (fun h h' => Sc.extends_trans (a := a) (b := b) (c := c) h h')
  have hww := hid (fun h h' => Sc.widen_wide (a := a) (b := b) (l := l) h h')
  have hfw := hid (fun h h' => Sc.fits_wide (a := a) (b := b) (l := l) h h')
  have hkw := hid (fun h h' => Sc.key_wide (a := a) (b := b) (l := l) h h')
  have hwk := hid (Sc.wide_ok (s := b) hrk)
  have hwt := hid (Sc.wide_take (b := b) (l := l))
  have hwl := hid (Sc.wide_le (s := b) (l := l))
  have hkl := hid (key_length a l)
  rw [Sc.extends_self] at eaa
  generalize Sc.right a = ra at cr eaa
  clear xa za xb zb xc zc hr hrk hln
  unfold sv at l0 l1 l2 cr eaa eab eac ebc cw fa ka fb kb
  unfold sv3
  have hra : (ra != ra) = false := by simp
  have S0 := hid (BG.new w #[.string a.name, .slice adra a.cols.length capa, .int .i64 a.keys, .string b.name, .slice adrb b.cols.length capb, .int .i64 b.keys, .string c.name, .slice adrc c.cols.length capc, .int .i64 c.keys])
  have L0 := hid (hba w (.cells #[.string a.name, .slice adra a.cols.length capa, .int .i64 a.keys, .string b.name, .slice adrb b.cols.length capb, .int .i64 b.keys, .string c.name, .slice adrc c.cols.length capc, .int .i64 c.keys] 42))
  cases hli : lightB a l
  · rw [hli] at l0
    clear hli hly
    go_enter Try.func7, Try.ntmps7
    go_wp2_with fail
    refine (l0.out _ (HXA.out.below L0.out) (HRA.out.below L0.out).1).mono ?_; rintro e w1 ⟨rfl, b1⟩
    have LK := hid (hnext L0.out b1)
    go_wp2_with fail
    refine (known_any _).mono ?_; rintro e wZ ⟨rfl, bZ⟩
    go_wp2
    go_ret
    exact ⟨rfl, hnext LK.out bZ⟩
  rw [hli] at l0
  obtain ⟨_, _, y3, _, _⟩ := hly.out hli
  have Y3 := hid y3
  clear hly hli y3
  cases hmi : lightB b []
  · rw [hmi] at l1
    clear hmi
    go_enter Try.func7, Try.ntmps7
    go_wp2_with fail
    refine (l0.out _ (HXA.out.below L0.out) (HRA.out.below L0.out).1).mono ?_; rintro e w1 ⟨rfl, b1⟩
    have S1 := S0.out.keep b1
    have L1 := hid (hnext L0.out b1)
    clear b1 S0
    obtain ⟨s0, s1, s2, s3, s4, s5, s6, s7, s8, sl⟩ := S1.cells
    go_wp2_with fail
    refine (l1.out _ (HXB.out.below L1.out)).mono ?_; rintro e w2 ⟨rfl, b2⟩
    have LK := hid (hnext L1.out b2)
    go_wp2_with fail
    refine (known_any _).mono ?_; rintro e wZ ⟨rfl, bZ⟩
    go_wp2
    go_ret
    exact ⟨rfl, hnext LK.out bZ⟩
  rw [hmi] at l1
  clear hmi
  cases hni : lightB c []
  · rw [hni] at l2
    clear hni
    go_enter Try.func7, Try.ntmps7
    go_wp2_with fail
    refine (l0.out _ (HXA.out.below L0.out) (HRA.out.below L0.out).1).mono ?_; rintro e w1 ⟨rfl, b1⟩
    have S1 := S0.out.keep b1
    have L1 := hid (hnext L0.out b1)
    clear b1 S0
    obtain ⟨s0, s1, s2, s3, s4, s5, s6, s7, s8, sl⟩ := S1.cells
    go_wp2_with fail
    refine (l1.out _ (HXB.out.below L1.out)).mono ?_; rintro e w2 ⟨rfl, b2⟩
    have S2 := S1.keep b2
    have L2 := hid (hnext L1.out b2)
    clear b2 S1 s0 s1 s2 s3 s4 s5 s6 s7 s8 sl
    obtain ⟨s0, s1, s2, s3, s4, s5, s6, s7, s8, sl⟩ := S2.cells
    go_wp2_with fail
    refine (l2.out _ (HXC.out.below L2.out)).mono ?_; rintro e w3 ⟨rfl, b3⟩
    have LK := hid (hnext L2.out b3)
    go_wp2_with fail
    refine (known_any _).mono ?_; rintro e wZ ⟨rfl, bZ⟩
    go_wp2
    go_ret
    exact ⟨rfl, hnext LK.out bZ⟩
  rw [hni] at l2
  clear hni
  go_enter Try.func7, Try.ntmps7
  go_wp2_with fail
  refine (l0.out _ (HXA.out.below L0.out) (HRA.out.below L0.out).1).mono ?_; rintro e w1 ⟨rfl, b1⟩
  have S1 := S0.out.keep b1
  have L1 := hid (hnext L0.out b1)
  clear b1 S0
  obtain ⟨s0, s1, s2, s3, s4, s5, s6, s7, s8, sl⟩ := S1.cells
  go_wp2_with fail
  refine (l1.out _ (HXB.out.below L1.out)).mono ?_; rintro e w2 ⟨rfl, b2⟩
  have S2 := S1.keep b2
  have L2 := hid (hnext L1.out b2)
  clear b2 S1 s0 s1 s2 s3 s4 s5 s6 s7 s8 sl
  obtain ⟨s0, s1, s2, s3, s4, s5, s6, s7, s8, sl⟩ := S2.cells
  go_wp2_with fail
  refine (l2.out _ (HXC.out.below L2.out)).mono ?_; rintro e w3 ⟨rfl, b3⟩
  have S3 := S2.keep b3
  have L3 := hid (hnext L2.out b3)
  clear b3 S2 s0 s1 s2 s3 s4 s5 s6 s7 s8 sl
  obtain ⟨s0, s1, s2, s3, s4, s5, s6, s7, s8, sl⟩ := S3.cells
  go_wp2_with fail
  obtain ⟨w20, hw20⟩ : ∃ w20, (w3).drew = w20 := ⟨_, rfl⟩
  have hd20 : Below (w3).heap.size (w3) w20 := hw20 ▸ (Below.refl _ _).drew
  have mk20 : ∀ W, Below w20.heap.size w20 W → Below w20.heap.size w20 W ∧ W.cell? ⟨w.heap.size, 0, none⟩ = some (.string a.name) ∧ W.cell? ⟨w.heap.size, 1, none⟩ = some (.slice adra a.cols.length capa) ∧ W.cell? ⟨w.heap.size, 2, none⟩ = some (.int .i64 a.keys) ∧ W.cell? ⟨w.heap.size, 3, none⟩ = some (.string b.name) ∧ W.cell? ⟨w.heap.size, 4, none⟩ = some (.slice adrb b.cols.length capb) ∧ W.cell? ⟨w.heap.size, 5, none⟩ = some (.int .i64 b.keys) ∧ W.cell? ⟨w.heap.size, 6, none⟩ = some (.string c.name) ∧ W.cell? ⟨w.heap.size, 7, none⟩ = some (.slice adrc c.cols.length capc) ∧ W.cell? ⟨w.heap.size, 8, none⟩ = some (.int .i64 c.keys) := fun W h => ⟨h, hkeep (hkeep s0 hd20) h, hkeep (hkeep s1 hd20) h, hkeep (hkeep s2 hd20) h, hkeep (hkeep s3 hd20) h, hkeep (hkeep s4 hd20) h, hkeep (hkeep s5 hd20) h, hkeep (hkeep s6 hd20) h, hkeep (hkeep s7 hd20) h, hkeep (hkeep s8 hd20) h⟩
  have L20 := hid (hnext L3.out hd20)
  have S20 := S3.keep hd20
  have XA := hid (HXA.out.below L20.out)
  clear s0 s1 s2 s3 s4 s5 s6 s7 s8 sl S3 hd20
  refine wp_region_held_drew (S := (fun W => Below w20.heap.size w20 W ∧ W.cell? ⟨w.heap.size, 0, none⟩ = some (.string a.name) ∧ W.cell? ⟨w.heap.size, 1, none⟩ = some (.slice adra a.cols.length capa) ∧ W.cell? ⟨w.heap.size, 2, none⟩ = some (.int .i64 a.keys) ∧ W.cell? ⟨w.heap.size, 3, none⟩ = some (.string b.name) ∧ W.cell? ⟨w.heap.size, 4, none⟩ = some (.slice adrb b.cols.length capb) ∧ W.cell? ⟨w.heap.size, 5, none⟩ = some (.int .i64 b.keys) ∧ W.cell? ⟨w.heap.size, 6, none⟩ = some (.string c.name) ∧ W.cell? ⟨w.heap.size, 7, none⟩ = some (.slice adrc c.cols.length capc) ∧ W.cell? ⟨w.heap.size, 8, none⟩ = some (.int .i64 c.keys))) (by kernel_rfl) (by rw [hw20]; exact mk20 _ (Below.refl _ _)) (fun hS20 => ?_)
  rw [hw20] at hS20 ⊢
  clear hw20
  refine wpAnyH_take (i := 0) (oi := ({ dst := some 25, op := Op.indexAddr 42 (Operand.tmp 2) (Operand.const (Value.int IntKind.i64 0)), type := 0, pos := "law.go:89", after := #[], guard := none } : Oper)) (v := ?_) rfl (by kernel_rfl) (by kernel_rfl) (by kernel_rfl) (fun _ _ _ h => h) (Or.inl ⟨by rfl, ?_⟩) hS20 ?_
  rotate_left
  · intro w hSw; (try dsimp only at hSw); go_simp; (try with_reducible rfl)
  simp only [Act.put, List.setIfInBounds_toArray, List.set_cons_zero, List.set_cons_succ]
  refine wpAnyH_take (i := 1) (oi := ({ dst := some 26, op := Op.load 24 (Operand.tmp 25), type := 24, pos := "law.go:89", after := #[{ on := 0, ground := Ground.data }], guard := none } : Oper)) (v := ?_) rfl (by kernel_rfl) (by kernel_rfl) (by kernel_rfl) (fun _ _ _ h => h) (Or.inl ⟨by rfl, ?_⟩) hS20 ?_
  rotate_left
  · intro w hSw; (try dsimp only at hSw); go_simp; (try with_reducible rfl)
  simp only [Act.put, List.setIfInBounds_toArray, List.set_cons_zero, List.set_cons_succ]
  refine wpAnyH_take (i := 3) (oi := ({ dst := some 28, op := Op.indexAddr 42 (Operand.tmp 2) (Operand.const (Value.int IntKind.i64 0)), type := 0, pos := "law.go:89", after := #[], guard := none } : Oper)) (v := ?_) rfl (by kernel_rfl) (by kernel_rfl) (by kernel_rfl) (fun _ _ _ h => h) (Or.inl ⟨by rfl, ?_⟩) hS20 ?_
  rotate_left
  · intro w hSw; (try dsimp only at hSw); go_simp; (try with_reducible rfl)
  simp only [Act.put, List.setIfInBounds_toArray, List.set_cons_zero, List.set_cons_succ]
  refine wpAnyH_take (i := 4) (oi := ({ dst := some 29, op := Op.load 24 (Operand.tmp 28), type := 24, pos := "law.go:89", after := #[{ on := 3, ground := Ground.data }], guard := none } : Oper)) (v := ?_) rfl (by kernel_rfl) (by kernel_rfl) (by kernel_rfl) (fun _ _ _ h => h) (Or.inl ⟨by rfl, ?_⟩) hS20 ?_
  rotate_left
  · intro w hSw; (try dsimp only at hSw); go_simp; (try with_reducible rfl)
  simp only [Act.put, List.setIfInBounds_toArray, List.set_cons_zero, List.set_cons_succ]
  refine wpAnyH_take (i := 5) (oi := ({ dst := some 30, op := Op.indexAddr 42 (Operand.tmp 2) (Operand.const (Value.int IntKind.i64 0)), type := 0, pos := "law.go:89", after := #[], guard := none } : Oper)) (v := ?_) rfl (by kernel_rfl) (by kernel_rfl) (by kernel_rfl) (fun _ _ _ h => h) (Or.inl ⟨by rfl, ?_⟩) hS20 ?_
  rotate_left
  · intro w hSw; (try dsimp only at hSw); go_simp; (try with_reducible rfl)
  simp only [Act.put, List.setIfInBounds_toArray, List.set_cons_zero, List.set_cons_succ]
  refine wpAnyH_take (i := 6) (oi := ({ dst := some 31, op := Op.load 24 (Operand.tmp 30), type := 24, pos := "law.go:89", after := #[{ on := 5, ground := Ground.data }], guard := none } : Oper)) (v := ?_) rfl (by kernel_rfl) (by kernel_rfl) (by kernel_rfl) (fun _ _ _ h => h) (Or.inl ⟨by rfl, ?_⟩) hS20 ?_
  rotate_left
  · intro w hSw; (try dsimp only at hSw); go_simp; (try with_reducible rfl)
  simp only [Act.put, List.setIfInBounds_toArray, List.set_cons_zero, List.set_cons_succ]
  refine wpAnyH_ready (rs := [2]) (by kernel_rfl) (by simp) ?_
  refine AllReadyH.cons (o := ({ dst := some 27, op := Op.call { callee := Callee.value (Operand.func 11), args := #[Operand.tmp 26], argTypes := #[24] }, type := 4, pos := "law.go:89", after := #[{ on := 1, ground := Ground.data }], guard := none } : Oper)) rfl (fun K hK => ?_) AllReadyH.nil
  go_simp
  refine (cr.out _ (XA.out.below hS20.1)).mono ?_; rintro e w21 ⟨rfl, hb21⟩
  go_wp2_with fail
  refine hK.out _ _ (mk20 _ (hnext hS20.1 hb21)) (fun hS21 => ?_)
  clear hK K
  (try simp only [Act.put, List.setIfInBounds_toArray, List.set_cons_zero, List.set_cons_succ])
  clear hb21 hS20
  refine wpAnyH_ready (rs := [7]) (by kernel_rfl) (by simp) ?_
  refine AllReadyH.cons (o := ({ dst := some 32, op := Op.call { callee := Callee.value (Operand.func 15), args := #[Operand.tmp 29, Operand.tmp 31], argTypes := #[24, 24] }, type := 4, pos := "law.go:89", after := #[{ on := 4, ground := Ground.data }, { on := 6, ground := Ground.data }, { on := 2, ground := Ground.chain }], guard := none } : Oper)) rfl (fun K hK => ?_) AllReadyH.nil
  go_simp
  refine (eaa.out _ (XA.out.below hS21.1) (XA.out.below hS21.1)).mono ?_; rintro e w22 ⟨rfl, hb22⟩
  go_wp2_with fail
  refine hK.out _ _ (mk20 _ (hnext hS21.1 hb22)) (fun hS22 => ?_)
  clear hK K
  (try simp only [Act.put, List.setIfInBounds_toArray, List.set_cons_zero, List.set_cons_succ])
  clear hb22 hS21
  refine wpAnyH_take (i := 8) (oi := ({ dst := some 33, op := Op.binOp BinOp.neq 4 (Operand.tmp 27) (Operand.tmp 32) 4, type := 4, pos := "law.go:89", after := #[{ on := 2, ground := Ground.data }, { on := 7, ground := Ground.data }], guard := none } : Oper)) (v := ?_) rfl (by kernel_rfl) (by kernel_rfl) (by kernel_rfl) (fun _ _ _ h => h) (Or.inl ⟨by rfl, ?_⟩) hS22 ?_
  rotate_left
  · intro w hSw; (try dsimp only at hSw); go_simp; (try with_reducible rfl)
  simp only [Act.put, List.setIfInBounds_toArray, List.set_cons_zero, List.set_cons_succ]
  refine wpAnyH_done (by kernel_rfl) ?_ _
  have S22 := S20.keep hS22.1
  have L22 := hid (hnext L20.out hS22.1)
  clear S20 hS22 XA cr eaa l0 l1 l2
  obtain ⟨s0, s1, s2, s3, s4, s5, s6, s7, s8, sl⟩ := S22.cells
  cases hab : Sc.extends a b
  · rw [hab] at eab
    clear hab htr hww hfw hkw
    go_wp2_with fail
    refine (eab.out _ (HXA.out.below L22.out) (HXB.out.below L22.out)).mono ?_; rintro e w23 ⟨rfl, b23⟩
    have LK := hid (hnext L22.out b23)
    go_wp2_with fail
    refine (known_any _).mono ?_; rintro e wZ ⟨rfl, bZ⟩
    go_wp2
    go_ret
    exact ⟨rfl, hnext LK.out bZ⟩
  rw [hab] at eab
  go_wp2_with fail
  refine (eab.out _ (HXA.out.below L22.out) (HXB.out.below L22.out)).mono ?_; rintro e w23 ⟨rfl, b23⟩
  have S23 := S22.keep b23
  have L23 := hid (hnext L22.out b23)
  clear b23 S22 s0 s1 s2 s3 s4 s5 s6 s7 s8 sl
  obtain ⟨s0, s1, s2, s3, s4, s5, s6, s7, s8, sl⟩ := S23.cells
  cases hbc : Sc.extends b c
  · rw [hbc] at ebc
    clear hbc
    go_wp2_with fail
    refine (ebc.out _ (HXB.out.below L23.out) (HXC.out.below L23.out)).mono ?_; rintro e w24 ⟨rfl, b24⟩
    have S24 := S23.keep b24
    have L24 := hid (hnext L23.out b24)
    clear b24 S23 s0 s1 s2 s3 s4 s5 s6 s7 s8 sl
    obtain ⟨s0, s1, s2, s3, s4, s5, s6, s7, s8, sl⟩ := S24.cells
    by_cases hz : Sc.fits a l = 0
    · rw [hz] at fa
      have HW := hww.out hab hz
      have HF := hid (hfw.out hab hz)
      have HK := hid (hkw.out hab hz)
      clear hz hab hww hfw hkw htr
      rw [HW] at cw
      clear HW
      generalize Sc.wide b l = wl at cw HF HK hwk hwt hwl
      have hKL : Hid ((Sc.key a l).length ≤ 1000000) := by have := hkl.out; have := Y3.out; show _ ≤ _; omega
      have hLL : Hid (l.length ≤ 1000000) := by have := Y3.out; show _ ≤ _; omega
      generalize Sc.key a l = kl at ka HK hKL
      clear hkl
      go_wp2_with fail
      refine (cw.out _ (HXB.out.below L24.out) (HRA.out.below L24.out)).mono ?_; rintro e w31 ⟨⟨vw, rfl, ow⟩, b31⟩
      obtain ⟨adrw, capw, rfl⟩ := (VsAt.own ow).len
      have W31 := hid (RsAt.own ow)
      clear ow
      have S31 := S24.keep b31
      have L31 := hid (hnext L24.out b31)
      clear b31 S24 s0 s1 s2 s3 s4 s5 s6 s7 s8 sl
      obtain ⟨s0, s1, s2, s3, s4, s5, s6, s7, s8, sl⟩ := S31.cells
      go_wp2_with fail
      refine (fa.out _ (HXA.out.below L31.out) (HRA.out.below L31.out)).mono ?_; rintro e w32 ⟨rfl, b32⟩
      have W32 := hid (W31.out.below b32)
      clear W31
      have S32 := S31.keep b32
      have L32 := hid (hnext L31.out b32)
      clear b32 S31 s0 s1 s2 s3 s4 s5 s6 s7 s8 sl
      obtain ⟨s0, s1, s2, s3, s4, s5, s6, s7, s8, sl⟩ := S32.cells
      go_wp2_with fail
      obtain ⟨w40, hw40⟩ : ∃ w40, (w32).drew = w40 := ⟨_, rfl⟩
      have hd40 : Below (w32).heap.size (w32) w40 := hw40 ▸ (Below.refl _ _).drew
      have mk40 : ∀ W, Below w40.heap.size w40 W → Below w40.heap.size w40 W ∧ W.cell? ⟨w.heap.size, 0, none⟩ = some (.string a.name) ∧ W.cell? ⟨w.heap.size, 1, none⟩ = some (.slice adra a.cols.length capa) ∧ W.cell? ⟨w.heap.size, 2, none⟩ = some (.int .i64 a.keys) ∧ W.cell? ⟨w.heap.size, 3, none⟩ = some (.string b.name) ∧ W.cell? ⟨w.heap.size, 4, none⟩ = some (.slice adrb b.cols.length capb) ∧ W.cell? ⟨w.heap.size, 5, none⟩ = some (.int .i64 b.keys) ∧ W.cell? ⟨w.heap.size, 6, none⟩ = some (.string c.name) ∧ W.cell? ⟨w.heap.size, 7, none⟩ = some (.slice adrc c.cols.length capc) ∧ W.cell? ⟨w.heap.size, 8, none⟩ = some (.int .i64 c.keys) := fun W h => ⟨h, hkeep (hkeep s0 hd40) h, hkeep (hkeep s1 hd40) h, hkeep (hkeep s2 hd40) h, hkeep (hkeep s3 hd40) h, hkeep (hkeep s4 hd40) h, hkeep (hkeep s5 hd40) h, hkeep (hkeep s6 hd40) h, hkeep (hkeep s7 hd40) h, hkeep (hkeep s8 hd40) h⟩
      have L40 := hid (hnext L32.out hd40)
      have S40 := S32.keep hd40
      have XA := hid (HXA.out.below L40.out)
      have XB := hid (HXB.out.below L40.out)
      have XR := hid (HRA.out.below L40.out)
      have XW := hid (W32.out.below hd40)
      have hcw : l.length ≤ capw ∧ l.length ≤ wl.length := by
        obtain ⟨_, _, e, h, _⟩ := XW.out.2
        cases e
        exact ⟨Nat.le_trans hwl.out h, hwl.out⟩
      have hcw1 : (l.length : Int) ≤ (capw : Int) := by omega
      have hcw2 : (l.length : Int) ≤ (wl.length : Int) := by omega
      have hl0 : (0 : Int) ≤ (l.length : Int) := by omega
      have XT : Hid (VsAt w40 (.slice adrw l.length capw) l) := by
        have h := XW.out.1.take l.length hwl.out capw
        rw [hwt.out] at h
        exact h
      have hKey : Hid (∀ W v1 v2, VsAt W v1 kl → VsAt W v2 kl → Calls Try.prog 25 #[v1, v2] W fun e w' => e = .returned (.bool true) ∧ Below W.heap.size W w') := fun W v1 v2 h1 h2 =>
        (rows_any v1 v2 kl kl W h1 h2 hKL.out hKL.out).mono fun _ _ ⟨h1, h2⟩ => ⟨h1.trans (by rw [decide_eq_true rfl]), h2⟩
      have hRow : Hid (∀ W v1 v2, VsAt W v1 l → VsAt W v2 l → Calls Try.prog 25 #[v1, v2] W fun e w' => e = .returned (.bool true) ∧ Below W.heap.size W w') := fun W v1 v2 h1 h2 =>
        (rows_any v1 v2 l l W h1 h2 hLL.out hLL.out).mono fun _ _ ⟨h1, h2⟩ => ⟨h1.trans (by rw [decide_eq_true rfl]), h2⟩
      clear hcw hwl hwt hKL hLL W32 S40
      clear s0 s1 s2 s3 s4 s5 s6 s7 s8 sl S32 hd40
      refine wp_region_held_drew (S := (fun W => Below w40.heap.size w40 W ∧ W.cell? ⟨w.heap.size, 0, none⟩ = some (.string a.name) ∧ W.cell? ⟨w.heap.size, 1, none⟩ = some (.slice adra a.cols.length capa) ∧ W.cell? ⟨w.heap.size, 2, none⟩ = some (.int .i64 a.keys) ∧ W.cell? ⟨w.heap.size, 3, none⟩ = some (.string b.name) ∧ W.cell? ⟨w.heap.size, 4, none⟩ = some (.slice adrb b.cols.length capb) ∧ W.cell? ⟨w.heap.size, 5, none⟩ = some (.int .i64 b.keys) ∧ W.cell? ⟨w.heap.size, 6, none⟩ = some (.string c.name) ∧ W.cell? ⟨w.heap.size, 7, none⟩ = some (.slice adrc c.cols.length capc) ∧ W.cell? ⟨w.heap.size, 8, none⟩ = some (.int .i64 c.keys))) (by kernel_rfl) (by rw [hw40]; exact mk40 _ (Below.refl _ _)) (fun hS40 => ?_)
      rw [hw40] at hS40 ⊢
      clear hw40
      refine wpAnyH_take (i := 0) (oi := ({ dst := some 67, op := Op.move (Operand.tmp 6), type := 33, pos := "law.go:102", after := #[], guard := none } : Oper)) (v := ?_) rfl (by kernel_rfl) (by kernel_rfl) (by kernel_rfl) (fun _ _ _ h => h) (Or.inl ⟨by rfl, ?_⟩) hS40 ?_
      rotate_left
      · intro w hSw; (try dsimp only at hSw); go_simp; (try with_reducible rfl)
      simp only [Act.put, List.setIfInBounds_toArray, List.set_cons_zero, List.set_cons_succ]
      refine wpAnyH_take (i := 1) (oi := ({ dst := some 68, op := Op.binOp BinOp.eql 33 (Operand.tmp 67) (Operand.const (Value.int IntKind.i64 0)) 33, type := 4, pos := "law.go:102", after := #[{ on := 0, ground := Ground.data }], guard := none } : Oper)) (v := ?_) rfl (by kernel_rfl) (by kernel_rfl) (by kernel_rfl) (fun _ _ _ h => h) (Or.inl ⟨by rfl, ?_⟩) hS40 ?_
      rotate_left
      · intro w hSw; (try dsimp only at hSw); go_simp; (try with_reducible rfl)
      simp only [Act.put, List.setIfInBounds_toArray, List.set_cons_zero, List.set_cons_succ]
      refine wpAnyH_take (i := 2) (oi := ({ dst := some 69, op := Op.move (Operand.tmp 68), type := 4, pos := "law.go:102", after := #[{ on := 1, ground := Ground.data }], guard := none } : Oper)) (v := ?_) rfl (by kernel_rfl) (by kernel_rfl) (by kernel_rfl) (fun _ _ _ h => h) (Or.inl ⟨by rfl, ?_⟩) hS40 ?_
      rotate_left
      · intro w hSw; (try dsimp only at hSw); go_simp; (try with_reducible rfl)
      simp only [Act.put, List.setIfInBounds_toArray, List.set_cons_zero, List.set_cons_succ]
      refine wpAnyH_take (i := 3) (oi := ({ dst := some 70, op := Op.indexAddr 42 (Operand.tmp 2) (Operand.const (Value.int IntKind.i64 1)), type := 0, pos := "law.go:102", after := #[{ on := 2, ground := Ground.guard }], guard := some (2, true) } : Oper)) (v := ?_) rfl (by kernel_rfl) (by kernel_rfl) (by kernel_rfl) (fun _ _ _ h => h) (Or.inl ⟨by rfl, ?_⟩) hS40 ?_
      rotate_left
      · intro w hSw; (try dsimp only at hSw); go_simp; (try with_reducible rfl)
      simp only [Act.put, List.setIfInBounds_toArray, List.set_cons_zero, List.set_cons_succ]
      refine wpAnyH_take (i := 4) (oi := ({ dst := some 71, op := Op.load 24 (Operand.tmp 70), type := 24, pos := "law.go:102", after := #[{ on := 3, ground := Ground.data }, { on := 2, ground := Ground.guard }], guard := some (2, true) } : Oper)) (v := ?_) rfl (by kernel_rfl) (by kernel_rfl) (by kernel_rfl) (fun _ _ _ h => h) (Or.inl ⟨by rfl, ?_⟩) hS40 ?_
      rotate_left
      · intro w hSw; (try dsimp only at hSw); go_simp; (try with_reducible rfl)
      simp only [Act.put, List.setIfInBounds_toArray, List.set_cons_zero, List.set_cons_succ]
      refine wpAnyH_take (i := 5) (oi := ({ dst := some 72, op := Op.move (Operand.tmp 5), type := 32, pos := "law.go:102", after := #[{ on := 2, ground := Ground.guard }], guard := some (2, true) } : Oper)) (v := ?_) rfl (by kernel_rfl) (by kernel_rfl) (by kernel_rfl) (fun _ _ _ h => h) (Or.inl ⟨by rfl, ?_⟩) hS40 ?_
      rotate_left
      · intro w hSw; (try dsimp only at hSw); go_simp; (try with_reducible rfl)
      simp only [Act.put, List.setIfInBounds_toArray, List.set_cons_zero, List.set_cons_succ]
      refine wpAnyH_ready (rs := [6]) (by kernel_rfl) (by simp) ?_
      refine AllReadyH.cons (o := ({ dst := some 73, op := Op.call { callee := Callee.value (Operand.func 23), args := #[Operand.tmp 71, Operand.tmp 72], argTypes := #[24, 32] }, type := 33, pos := "law.go:102", after := #[{ on := 4, ground := Ground.data }, { on := 5, ground := Ground.data }, { on := 2, ground := Ground.chain }, { on := 2, ground := Ground.guard }], guard := some (2, true) } : Oper)) rfl (fun K hK => ?_) AllReadyH.nil
      go_simp
      refine (fb.out _ wl _ (XB.out.below hS40.1) (XW.out.below hS40.1) hwk.out).mono ?_; rintro e w41 ⟨he, hb41⟩
      rw [HF.out] at he
      subst he
      go_wp2_with fail
      refine hK.out _ _ (mk40 _ (hnext hS40.1 hb41)) (fun hS41 => ?_)
      clear hK K
      (try simp only [Act.put, List.setIfInBounds_toArray, List.set_cons_zero, List.set_cons_succ])
      clear hb41 hS40
      refine wpAnyH_take (i := 7) (oi := ({ dst := some 74, op := Op.binOp BinOp.eql 33 (Operand.tmp 73) (Operand.const (Value.int IntKind.i64 0)) 33, type := 4, pos := "law.go:102", after := #[{ on := 6, ground := Ground.data }, { on := 2, ground := Ground.guard }], guard := some (2, true) } : Oper)) (v := ?_) rfl (by kernel_rfl) (by kernel_rfl) (by kernel_rfl) (fun _ _ _ h => h) (Or.inl ⟨by rfl, ?_⟩) hS41 ?_
      rotate_left
      · intro w hSw; (try dsimp only at hSw); go_simp; (try with_reducible rfl)
      simp only [Act.put, List.setIfInBounds_toArray, List.set_cons_zero, List.set_cons_succ]
      refine wpAnyH_take (i := 8) (oi := ({ dst := some 75, op := Op.pick (Operand.tmp 69) (Operand.tmp 74) (Operand.const (Value.bool false)), type := 4, pos := "law.go:102", after := #[{ on := 2, ground := Ground.data }, { on := 7, ground := Ground.data }], guard := none } : Oper)) (v := ?_) rfl (by kernel_rfl) (by kernel_rfl) (by kernel_rfl) (fun _ _ _ h => h) (Or.inl ⟨by rfl, ?_⟩) hS41 ?_
      rotate_left
      · intro w hSw; (try dsimp only at hSw); go_simp; (try with_reducible rfl)
      simp only [Act.put, List.setIfInBounds_toArray, List.set_cons_zero, List.set_cons_succ]
      refine wpAnyH_take (i := 9) (oi := ({ dst := some 76, op := Op.move (Operand.tmp 75), type := 4, pos := "law.go:102", after := #[{ on := 8, ground := Ground.data }, { on := 6, ground := Ground.chain }], guard := none } : Oper)) (v := ?_) rfl (by kernel_rfl) (by kernel_rfl) (by kernel_rfl) (fun _ _ _ h => h) (Or.inl ⟨by rfl, ?_⟩) hS41 ?_
      rotate_left
      · intro w hSw; (try dsimp only at hSw); go_simp; (try with_reducible rfl)
      simp only [Act.put, List.setIfInBounds_toArray, List.set_cons_zero, List.set_cons_succ]
      refine wpAnyH_take (i := 10) (oi := ({ dst := some 77, op := Op.indexAddr 42 (Operand.tmp 2) (Operand.const (Value.int IntKind.i64 0)), type := 0, pos := "law.go:102", after := #[{ on := 9, ground := Ground.guard }], guard := some (9, true) } : Oper)) (v := ?_) rfl (by kernel_rfl) (by kernel_rfl) (by kernel_rfl) (fun _ _ _ h => h) (Or.inl ⟨by rfl, ?_⟩) hS41 ?_
      rotate_left
      · intro w hSw; (try dsimp only at hSw); go_simp; (try with_reducible rfl)
      simp only [Act.put, List.setIfInBounds_toArray, List.set_cons_zero, List.set_cons_succ]
      refine wpAnyH_take (i := 11) (oi := ({ dst := some 78, op := Op.load 24 (Operand.tmp 77), type := 24, pos := "law.go:102", after := #[{ on := 10, ground := Ground.data }, { on := 9, ground := Ground.guard }], guard := some (9, true) } : Oper)) (v := ?_) rfl (by kernel_rfl) (by kernel_rfl) (by kernel_rfl) (fun _ _ _ h => h) (Or.inl ⟨by rfl, ?_⟩) hS41 ?_
      rotate_left
      · intro w hSw; (try dsimp only at hSw); go_simp; (try with_reducible rfl)
      simp only [Act.put, List.setIfInBounds_toArray, List.set_cons_zero, List.set_cons_succ]
      refine wpAnyH_take (i := 12) (oi := ({ dst := some 79, op := Op.move (Operand.tmp 1), type := 32, pos := "law.go:102", after := #[{ on := 9, ground := Ground.guard }], guard := some (9, true) } : Oper)) (v := ?_) rfl (by kernel_rfl) (by kernel_rfl) (by kernel_rfl) (fun _ _ _ h => h) (Or.inl ⟨by rfl, ?_⟩) hS41 ?_
      rotate_left
      · intro w hSw; (try dsimp only at hSw); go_simp; (try with_reducible rfl)
      simp only [Act.put, List.setIfInBounds_toArray, List.set_cons_zero, List.set_cons_succ]
      refine wpAnyH_take (i := 14) (oi := ({ dst := some 81, op := Op.indexAddr 42 (Operand.tmp 2) (Operand.const (Value.int IntKind.i64 1)), type := 0, pos := "law.go:102", after := #[{ on := 9, ground := Ground.guard }], guard := some (9, true) } : Oper)) (v := ?_) rfl (by kernel_rfl) (by kernel_rfl) (by kernel_rfl) (fun _ _ _ h => h) (Or.inl ⟨by rfl, ?_⟩) hS41 ?_
      rotate_left
      · intro w hSw; (try dsimp only at hSw); go_simp; (try with_reducible rfl)
      simp only [Act.put, List.setIfInBounds_toArray, List.set_cons_zero, List.set_cons_succ]
      refine wpAnyH_take (i := 15) (oi := ({ dst := some 82, op := Op.load 24 (Operand.tmp 81), type := 24, pos := "law.go:102", after := #[{ on := 14, ground := Ground.data }, { on := 9, ground := Ground.guard }], guard := some (9, true) } : Oper)) (v := ?_) rfl (by kernel_rfl) (by kernel_rfl) (by kernel_rfl) (fun _ _ _ h => h) (Or.inl ⟨by rfl, ?_⟩) hS41 ?_
      rotate_left
      · intro w hSw; (try dsimp only at hSw); go_simp; (try with_reducible rfl)
      simp only [Act.put, List.setIfInBounds_toArray, List.set_cons_zero, List.set_cons_succ]
      refine wpAnyH_take (i := 16) (oi := ({ dst := some 83, op := Op.move (Operand.tmp 5), type := 32, pos := "law.go:102", after := #[{ on := 9, ground := Ground.guard }], guard := some (9, true) } : Oper)) (v := ?_) rfl (by kernel_rfl) (by kernel_rfl) (by kernel_rfl) (fun _ _ _ h => h) (Or.inl ⟨by rfl, ?_⟩) hS41 ?_
      rotate_left
      · intro w hSw; (try dsimp only at hSw); go_simp; (try with_reducible rfl)
      simp only [Act.put, List.setIfInBounds_toArray, List.set_cons_zero, List.set_cons_succ]
      refine wpAnyH_ready (rs := [13]) (by kernel_rfl) (by simp) ?_
      refine AllReadyH.cons (o := ({ dst := some 80, op := Op.call { callee := Callee.value (Operand.func 26), args := #[Operand.tmp 78, Operand.tmp 79], argTypes := #[24, 32] }, type := 32, pos := "law.go:102", after := #[{ on := 11, ground := Ground.data }, { on := 12, ground := Ground.data }, { on := 9, ground := Ground.chain }, { on := 9, ground := Ground.guard }], guard := some (9, true) } : Oper)) rfl (fun K hK => ?_) AllReadyH.nil
      go_simp
      refine (ka.out _ (XA.out.below hS41.1) (XR.out.below hS41.1)).mono ?_; rintro e w42 ⟨⟨vk, rfl, ok⟩, hb42⟩
      have VK := hid (VsAt.own ok)
      obtain ⟨adrk, capk, rfl⟩ := (VsAt.own ok).len
      clear ok
      go_wp2_with fail
      refine hK.out _ _ (mk40 _ (hnext hS41.1 hb42)) (fun hS42 => ?_)
      clear hK K
      (try simp only [Act.put, List.setIfInBounds_toArray, List.set_cons_zero, List.set_cons_succ])
      clear hb42 hS41
      refine wpAnyH_ready (rs := [17]) (by kernel_rfl) (by simp) ?_
      refine AllReadyH.cons (o := ({ dst := some 84, op := Op.call { callee := Callee.value (Operand.func 26), args := #[Operand.tmp 82, Operand.tmp 83], argTypes := #[24, 32] }, type := 32, pos := "law.go:102", after := #[{ on := 15, ground := Ground.data }, { on := 16, ground := Ground.data }, { on := 13, ground := Ground.chain }, { on := 9, ground := Ground.guard }], guard := some (9, true) } : Oper)) rfl (fun K hK => ?_) AllReadyH.nil
      go_simp
      refine (kb.out _ wl _ (XB.out.below hS42.1) (XW.out.below hS42.1) hwk.out).mono ?_; rintro e w43 ⟨⟨vk, rfl, ok⟩, hb43⟩
      rw [HK.out] at ok
      have VK2 := hid (VsAt.own ok)
      obtain ⟨adrk2, capk2, rfl⟩ := (VsAt.own ok).len
      clear ok
      go_wp2_with fail
      refine hK.out _ _ (mk40 _ (hnext hS42.1 hb43)) (fun hS43 => ?_)
      clear hK K
      (try simp only [Act.put, List.setIfInBounds_toArray, List.set_cons_zero, List.set_cons_succ])
      replace VK := hid (VK.out.below hb43)
      clear hb43 hS42
      refine wpAnyH_ready (rs := [18]) (by kernel_rfl) (by simp) ?_
      refine AllReadyH.cons (o := ({ dst := some 85, op := Op.call { callee := Callee.value (Operand.func 25), args := #[Operand.tmp 80, Operand.tmp 84], argTypes := #[32, 32] }, type := 4, pos := "law.go:102", after := #[{ on := 13, ground := Ground.data }, { on := 17, ground := Ground.data }, { on := 17, ground := Ground.chain }, { on := 9, ground := Ground.guard }], guard := some (9, true) } : Oper)) rfl (fun K hK => ?_) AllReadyH.nil
      go_simp
      refine (hKey.out _ _ _ VK.out VK2.out).mono ?_; rintro e w44 ⟨rfl, hb44⟩
      go_wp2_with fail
      refine hK.out _ _ (mk40 _ (hnext hS43.1 hb44)) (fun hS44 => ?_)
      clear hK K
      (try simp only [Act.put, List.setIfInBounds_toArray, List.set_cons_zero, List.set_cons_succ])
      replace VK := hid (VK.out.below hb44)
      clear hb44 hS43
      refine wpAnyH_take (i := 19) (oi := ({ dst := some 86, op := Op.pick (Operand.tmp 76) (Operand.tmp 85) (Operand.const (Value.bool false)), type := 4, pos := "law.go:102", after := #[{ on := 9, ground := Ground.data }, { on := 18, ground := Ground.data }], guard := none } : Oper)) (v := ?_) rfl (by kernel_rfl) (by kernel_rfl) (by kernel_rfl) (fun _ _ _ h => h) (Or.inl ⟨by rfl, ?_⟩) hS44 ?_
      rotate_left
      · intro w hSw; (try dsimp only at hSw); go_simp; (try with_reducible rfl)
      simp only [Act.put, List.setIfInBounds_toArray, List.set_cons_zero, List.set_cons_succ]
      refine wpAnyH_take (i := 20) (oi := ({ dst := some 87, op := Op.move (Operand.tmp 86), type := 4, pos := "law.go:102", after := #[{ on := 19, ground := Ground.data }, { on := 18, ground := Ground.chain }], guard := none } : Oper)) (v := ?_) rfl (by kernel_rfl) (by kernel_rfl) (by kernel_rfl) (fun _ _ _ h => h) (Or.inl ⟨by rfl, ?_⟩) hS44 ?_
      rotate_left
      · intro w hSw; (try dsimp only at hSw); go_simp; (try with_reducible rfl)
      simp only [Act.put, List.setIfInBounds_toArray, List.set_cons_zero, List.set_cons_succ]
      refine wpAnyH_take (i := 21) (oi := ({ dst := some 88, op := Op.move (Operand.tmp 5), type := 32, pos := "law.go:102", after := #[{ on := 20, ground := Ground.guard }], guard := some (20, true) } : Oper)) (v := ?_) rfl (by kernel_rfl) (by kernel_rfl) (by kernel_rfl) (fun _ _ _ h => h) (Or.inl ⟨by rfl, ?_⟩) hS44 ?_
      rotate_left
      · intro w hSw; (try dsimp only at hSw); go_simp; (try with_reducible rfl)
      simp only [Act.put, List.setIfInBounds_toArray, List.set_cons_zero, List.set_cons_succ]
      refine wpAnyH_take (i := 22) (oi := ({ dst := some 89, op := Op.move (Operand.tmp 1), type := 32, pos := "law.go:102", after := #[{ on := 20, ground := Ground.guard }], guard := some (20, true) } : Oper)) (v := ?_) rfl (by kernel_rfl) (by kernel_rfl) (by kernel_rfl) (fun _ _ _ h => h) (Or.inl ⟨by rfl, ?_⟩) hS44 ?_
      rotate_left
      · intro w hSw; (try dsimp only at hSw); go_simp; (try with_reducible rfl)
      simp only [Act.put, List.setIfInBounds_toArray, List.set_cons_zero, List.set_cons_succ]
      refine wpAnyH_take (i := 23) (oi := ({ dst := some 90, op := Op.call { callee := Callee.builtin Builtin.len, args := #[Operand.tmp 89], argTypes := #[32] }, type := 3, pos := "law.go:102", after := #[{ on := 22, ground := Ground.data }, { on := 20, ground := Ground.guard }], guard := some (20, true) } : Oper)) (v := ?_) rfl (by kernel_rfl) (by kernel_rfl) (by kernel_rfl) (fun _ _ _ h => h) (Or.inl ⟨by rfl, ?_⟩) hS44 ?_
      rotate_left
      · intro w hSw; (try dsimp only at hSw); go_simp; (try with_reducible rfl)
      simp only [Act.put, List.setIfInBounds_toArray, List.set_cons_zero, List.set_cons_succ]
      refine wpAnyH_take (i := 24) (oi := ({ dst := some 91, op := Op.slice 32 (Operand.tmp 88) none (some (Operand.tmp 90)) none, type := 32, pos := "law.go:102", after := #[{ on := 21, ground := Ground.data }, { on := 23, ground := Ground.data }, { on := 20, ground := Ground.guard }], guard := some (20, true) } : Oper)) (v := ?_) rfl (by kernel_rfl) (by kernel_rfl) (by kernel_rfl) (fun _ _ _ h => h) (Or.inl ⟨by rfl, ?_⟩) hS44 ?_
      rotate_left
      · intro w hSw; (try dsimp only at hSw); go_simp; (try with_reducible rfl)
      simp only [Act.put, List.setIfInBounds_toArray, List.set_cons_zero, List.set_cons_succ]
      refine wpAnyH_take (i := 25) (oi := ({ dst := some 92, op := Op.move (Operand.tmp 1), type := 32, pos := "law.go:102", after := #[{ on := 20, ground := Ground.guard }], guard := some (20, true) } : Oper)) (v := ?_) rfl (by kernel_rfl) (by kernel_rfl) (by kernel_rfl) (fun _ _ _ h => h) (Or.inl ⟨by rfl, ?_⟩) hS44 ?_
      rotate_left
      · intro w hSw; (try dsimp only at hSw); go_simp; (try with_reducible rfl)
      simp only [Act.put, List.setIfInBounds_toArray, List.set_cons_zero, List.set_cons_succ]
      refine wpAnyH_ready (rs := [26]) (by kernel_rfl) (by simp) ?_
      refine AllReadyH.cons (o := ({ dst := some 93, op := Op.call { callee := Callee.value (Operand.func 25), args := #[Operand.tmp 91, Operand.tmp 92], argTypes := #[32, 32] }, type := 4, pos := "law.go:102", after := #[{ on := 24, ground := Ground.data }, { on := 25, ground := Ground.data }, { on := 20, ground := Ground.chain }, { on := 20, ground := Ground.guard }], guard := some (20, true) } : Oper)) rfl (fun K hK => ?_) AllReadyH.nil
      go_simp
      refine (hRow.out _ _ _ (XT.out.below hS44.1) (XR.out.1.below hS44.1)).mono ?_; rintro e w45 ⟨rfl, hb45⟩
      go_wp2_with fail
      refine hK.out _ _ (mk40 _ (hnext hS44.1 hb45)) (fun hS45 => ?_)
      clear hK K
      (try simp only [Act.put, List.setIfInBounds_toArray, List.set_cons_zero, List.set_cons_succ])
      replace VK := hid (VK.out.below hb45)
      clear hb45 hS44
      refine wpAnyH_take (i := 27) (oi := ({ dst := some 94, op := Op.pick (Operand.tmp 87) (Operand.tmp 93) (Operand.const (Value.bool false)), type := 4, pos := "law.go:102", after := #[{ on := 20, ground := Ground.data }, { on := 26, ground := Ground.data }], guard := none } : Oper)) (v := ?_) rfl (by kernel_rfl) (by kernel_rfl) (by kernel_rfl) (fun _ _ _ h => h) (Or.inl ⟨by rfl, ?_⟩) hS45 ?_
      rotate_left
      · intro w hSw; (try dsimp only at hSw); go_simp; (try with_reducible rfl)
      simp only [Act.put, List.setIfInBounds_toArray, List.set_cons_zero, List.set_cons_succ]
      refine wpAnyH_take (i := 28) (oi := ({ dst := some 95, op := Op.move (Operand.tmp 94), type := 4, pos := "law.go:102", after := #[{ on := 27, ground := Ground.data }, { on := 26, ground := Ground.chain }], guard := none } : Oper)) (v := ?_) rfl (by kernel_rfl) (by kernel_rfl) (by kernel_rfl) (fun _ _ _ h => h) (Or.inl ⟨by rfl, ?_⟩) hS45 ?_
      rotate_left
      · intro w hSw; (try dsimp only at hSw); go_simp; (try with_reducible rfl)
      simp only [Act.put, List.setIfInBounds_toArray, List.set_cons_zero, List.set_cons_succ]
      refine wpAnyH_ready (rs := [29]) (by kernel_rfl) (by simp) ?_
      refine AllReadyH.cons (o := ({ dst := some 96, op := Op.call { callee := Callee.value (Operand.func 10), args := #[], argTypes := #[] }, type := 4, pos := "law.go:102", after := #[{ on := 28, ground := Ground.chain }, { on := 28, ground := Ground.guard }], guard := some (28, true) } : Oper)) rfl (fun K hK => ?_) AllReadyH.nil
      go_simp
      refine (known_any _).mono ?_; rintro e w46 ⟨rfl, hb46⟩
      go_wp2_with fail
      refine hK.out _ _ (mk40 _ (hnext hS45.1 hb46)) (fun hS46 => ?_)
      clear hK K
      (try simp only [Act.put, List.setIfInBounds_toArray, List.set_cons_zero, List.set_cons_succ])
      replace VK := hid (VK.out.below hb46)
      clear hb46 hS45
      refine wpAnyH_take (i := 30) (oi := ({ dst := some 97, op := Op.pick (Operand.tmp 95) (Operand.tmp 96) (Operand.const (Value.bool false)), type := 4, pos := "law.go:102", after := #[{ on := 28, ground := Ground.data }, { on := 29, ground := Ground.data }], guard := none } : Oper)) (v := ?_) rfl (by kernel_rfl) (by kernel_rfl) (by kernel_rfl) (fun _ _ _ h => h) (Or.inl ⟨by rfl, ?_⟩) hS46 ?_
      rotate_left
      · intro w hSw; (try dsimp only at hSw); go_simp; (try with_reducible rfl)
      simp only [Act.put, List.setIfInBounds_toArray, List.set_cons_zero, List.set_cons_succ]
      refine wpAnyH_take (i := 31) (oi := ({ dst := some 4, op := Op.assign (Operand.tmp 97), type := 4, pos := "law.go:102", after := #[{ on := 30, ground := Ground.data }, { on := 29, ground := Ground.chain }, { on := 0, ground := Ground.phase }, { on := 1, ground := Ground.phase }, { on := 2, ground := Ground.phase }, { on := 3, ground := Ground.phase }, { on := 4, ground := Ground.phase }, { on := 5, ground := Ground.phase }, { on := 6, ground := Ground.phase }, { on := 7, ground := Ground.phase }, { on := 8, ground := Ground.phase }, { on := 9, ground := Ground.phase }, { on := 10, ground := Ground.phase }, { on := 11, ground := Ground.phase }, { on := 12, ground := Ground.phase }, { on := 13, ground := Ground.phase }, { on := 14, ground := Ground.phase }, { on := 15, ground := Ground.phase }, { on := 16, ground := Ground.phase }, { on := 17, ground := Ground.phase }, { on := 18, ground := Ground.phase }, { on := 19, ground := Ground.phase }, { on := 20, ground := Ground.phase }, { on := 21, ground := Ground.phase }, { on := 22, ground := Ground.phase }, { on := 23, ground := Ground.phase }, { on := 24, ground := Ground.phase }, { on := 25, ground := Ground.phase }, { on := 26, ground := Ground.phase }, { on := 27, ground := Ground.phase }, { on := 28, ground := Ground.phase }, { on := 29, ground := Ground.phase }, { on := 30, ground := Ground.phase }], guard := none } : Oper)) (v := ?_) rfl (by kernel_rfl) (by kernel_rfl) (by kernel_rfl) (fun _ _ _ h => h) (Or.inl ⟨by rfl, ?_⟩) hS46 ?_
      rotate_left
      · intro w hSw; (try dsimp only at hSw); go_simp; (try with_reducible rfl)
      simp only [Act.put, List.setIfInBounds_toArray, List.set_cons_zero, List.set_cons_succ]
      refine wpAnyH_done (by kernel_rfl) ?_ _
      go_wp2_with fail
      go_ret
      exact ⟨rfl, hnext L40.out hS46.1⟩
    · clear hww hfw hkw hab htr hwk hwt hwl hkl
      generalize Sc.widen b l = wr at cw
      obtain ⟨wl, we⟩ := wr
      generalize Sc.fits a l = fz at fa hz
      have e1 : (fz != 0) = true := by rw [bne_iff_ne]; exact hz
      clear hz
      go_wp2_with fail
      refine (cw.out _ (HXB.out.below L24.out) (HRA.out.below L24.out)).mono ?_; rintro e w31 ⟨⟨vw, rfl, ow⟩, b31⟩
      obtain ⟨adrw, capw, rfl⟩ := (VsAt.own ow).len
      clear ow
      have S31 := S24.keep b31
      have L31 := hid (hnext L24.out b31)
      clear b31 S24 s0 s1 s2 s3 s4 s5 s6 s7 s8 sl
      obtain ⟨s0, s1, s2, s3, s4, s5, s6, s7, s8, sl⟩ := S31.cells
      go_wp2_with fail
      refine (fa.out _ (HXA.out.below L31.out) (HRA.out.below L31.out)).mono ?_; rintro e w32 ⟨rfl, b32⟩
      have LK := hid (hnext L31.out b32)
      go_wp2_with fail
      refine (known_any _).mono ?_; rintro e wZ ⟨rfl, bZ⟩
      go_wp2
      go_ret
      exact ⟨rfl, hnext LK.out bZ⟩
  · rw [hbc] at ebc
    have hac := htr.out hab hbc
    rw [hac] at eac
    clear hbc hac
    go_wp2_with fail
    refine (ebc.out _ (HXB.out.below L23.out) (HXC.out.below L23.out)).mono ?_; rintro e w24 ⟨rfl, b24⟩
    have S24 := S23.keep b24
    have L24 := hid (hnext L23.out b24)
    clear b24 S23 s0 s1 s2 s3 s4 s5 s6 s7 s8 sl
    obtain ⟨s0, s1, s2, s3, s4, s5, s6, s7, s8, sl⟩ := S24.cells
    go_wp2_with fail
    refine (eac.out _ (HXA.out.below L24.out) (HXC.out.below L24.out)).mono ?_; rintro e w25 ⟨rfl, b25⟩
    have S25 := S24.keep b25
    have L25 := hid (hnext L24.out b25)
    clear b25 S24 s0 s1 s2 s3 s4 s5 s6 s7 s8 sl
    obtain ⟨s0, s1, s2, s3, s4, s5, s6, s7, s8, sl⟩ := S25.cells
    by_cases hz : Sc.fits a l = 0
    · rw [hz] at fa
      have HW := hww.out hab hz
      have HF := hid (hfw.out hab hz)
      have HK := hid (hkw.out hab hz)
      clear hz hab hww hfw hkw htr
      rw [HW] at cw
      clear HW
      generalize Sc.wide b l = wl at cw HF HK hwk hwt hwl
      have hKL : Hid ((Sc.key a l).length ≤ 1000000) := by have := hkl.out; have := Y3.out; show _ ≤ _; omega
      have hLL : Hid (l.length ≤ 1000000) := by have := Y3.out; show _ ≤ _; omega
      generalize Sc.key a l = kl at ka HK hKL
      clear hkl
      go_wp2_with fail
      refine (cw.out _ (HXB.out.below L25.out) (HRA.out.below L25.out)).mono ?_; rintro e w31 ⟨⟨vw, rfl, ow⟩, b31⟩
      obtain ⟨adrw, capw, rfl⟩ := (VsAt.own ow).len
      have W31 := hid (RsAt.own ow)
      clear ow
      have S31 := S25.keep b31
      have L31 := hid (hnext L25.out b31)
      clear b31 S25 s0 s1 s2 s3 s4 s5 s6 s7 s8 sl
      obtain ⟨s0, s1, s2, s3, s4, s5, s6, s7, s8, sl⟩ := S31.cells
      go_wp2_with fail
      refine (fa.out _ (HXA.out.below L31.out) (HRA.out.below L31.out)).mono ?_; rintro e w32 ⟨rfl, b32⟩
      have W32 := hid (W31.out.below b32)
      clear W31
      have S32 := S31.keep b32
      have L32 := hid (hnext L31.out b32)
      clear b32 S31 s0 s1 s2 s3 s4 s5 s6 s7 s8 sl
      obtain ⟨s0, s1, s2, s3, s4, s5, s6, s7, s8, sl⟩ := S32.cells
      go_wp2_with fail
      obtain ⟨w40, hw40⟩ : ∃ w40, (w32).drew = w40 := ⟨_, rfl⟩
      have hd40 : Below (w32).heap.size (w32) w40 := hw40 ▸ (Below.refl _ _).drew
      have mk40 : ∀ W, Below w40.heap.size w40 W → Below w40.heap.size w40 W ∧ W.cell? ⟨w.heap.size, 0, none⟩ = some (.string a.name) ∧ W.cell? ⟨w.heap.size, 1, none⟩ = some (.slice adra a.cols.length capa) ∧ W.cell? ⟨w.heap.size, 2, none⟩ = some (.int .i64 a.keys) ∧ W.cell? ⟨w.heap.size, 3, none⟩ = some (.string b.name) ∧ W.cell? ⟨w.heap.size, 4, none⟩ = some (.slice adrb b.cols.length capb) ∧ W.cell? ⟨w.heap.size, 5, none⟩ = some (.int .i64 b.keys) ∧ W.cell? ⟨w.heap.size, 6, none⟩ = some (.string c.name) ∧ W.cell? ⟨w.heap.size, 7, none⟩ = some (.slice adrc c.cols.length capc) ∧ W.cell? ⟨w.heap.size, 8, none⟩ = some (.int .i64 c.keys) := fun W h => ⟨h, hkeep (hkeep s0 hd40) h, hkeep (hkeep s1 hd40) h, hkeep (hkeep s2 hd40) h, hkeep (hkeep s3 hd40) h, hkeep (hkeep s4 hd40) h, hkeep (hkeep s5 hd40) h, hkeep (hkeep s6 hd40) h, hkeep (hkeep s7 hd40) h, hkeep (hkeep s8 hd40) h⟩
      have L40 := hid (hnext L32.out hd40)
      have S40 := S32.keep hd40
      have XA := hid (HXA.out.below L40.out)
      have XB := hid (HXB.out.below L40.out)
      have XR := hid (HRA.out.below L40.out)
      have XW := hid (W32.out.below hd40)
      have hcw : l.length ≤ capw ∧ l.length ≤ wl.length := by
        obtain ⟨_, _, e, h, _⟩ := XW.out.2
        cases e
        exact ⟨Nat.le_trans hwl.out h, hwl.out⟩
      have hcw1 : (l.length : Int) ≤ (capw : Int) := by omega
      have hcw2 : (l.length : Int) ≤ (wl.length : Int) := by omega
      have hl0 : (0 : Int) ≤ (l.length : Int) := by omega
      have XT : Hid (VsAt w40 (.slice adrw l.length capw) l) := by
        have h := XW.out.1.take l.length hwl.out capw
        rw [hwt.out] at h
        exact h
      have hKey : Hid (∀ W v1 v2, VsAt W v1 kl → VsAt W v2 kl → Calls Try.prog 25 #[v1, v2] W fun e w' => e = .returned (.bool true) ∧ Below W.heap.size W w') := fun W v1 v2 h1 h2 =>
        (rows_any v1 v2 kl kl W h1 h2 hKL.out hKL.out).mono fun _ _ ⟨h1, h2⟩ => ⟨h1.trans (by rw [decide_eq_true rfl]), h2⟩
      have hRow : Hid (∀ W v1 v2, VsAt W v1 l → VsAt W v2 l → Calls Try.prog 25 #[v1, v2] W fun e w' => e = .returned (.bool true) ∧ Below W.heap.size W w') := fun W v1 v2 h1 h2 =>
        (rows_any v1 v2 l l W h1 h2 hLL.out hLL.out).mono fun _ _ ⟨h1, h2⟩ => ⟨h1.trans (by rw [decide_eq_true rfl]), h2⟩
      clear hcw hwl hwt hKL hLL W32 S40
      clear s0 s1 s2 s3 s4 s5 s6 s7 s8 sl S32 hd40
      refine wp_region_held_drew (S := (fun W => Below w40.heap.size w40 W ∧ W.cell? ⟨w.heap.size, 0, none⟩ = some (.string a.name) ∧ W.cell? ⟨w.heap.size, 1, none⟩ = some (.slice adra a.cols.length capa) ∧ W.cell? ⟨w.heap.size, 2, none⟩ = some (.int .i64 a.keys) ∧ W.cell? ⟨w.heap.size, 3, none⟩ = some (.string b.name) ∧ W.cell? ⟨w.heap.size, 4, none⟩ = some (.slice adrb b.cols.length capb) ∧ W.cell? ⟨w.heap.size, 5, none⟩ = some (.int .i64 b.keys) ∧ W.cell? ⟨w.heap.size, 6, none⟩ = some (.string c.name) ∧ W.cell? ⟨w.heap.size, 7, none⟩ = some (.slice adrc c.cols.length capc) ∧ W.cell? ⟨w.heap.size, 8, none⟩ = some (.int .i64 c.keys))) (by kernel_rfl) (by rw [hw40]; exact mk40 _ (Below.refl _ _)) (fun hS40 => ?_)
      rw [hw40] at hS40 ⊢
      clear hw40
      refine wpAnyH_take (i := 0) (oi := ({ dst := some 67, op := Op.move (Operand.tmp 6), type := 33, pos := "law.go:102", after := #[], guard := none } : Oper)) (v := ?_) rfl (by kernel_rfl) (by kernel_rfl) (by kernel_rfl) (fun _ _ _ h => h) (Or.inl ⟨by rfl, ?_⟩) hS40 ?_
      rotate_left
      · intro w hSw; (try dsimp only at hSw); go_simp; (try with_reducible rfl)
      simp only [Act.put, List.setIfInBounds_toArray, List.set_cons_zero, List.set_cons_succ]
      refine wpAnyH_take (i := 1) (oi := ({ dst := some 68, op := Op.binOp BinOp.eql 33 (Operand.tmp 67) (Operand.const (Value.int IntKind.i64 0)) 33, type := 4, pos := "law.go:102", after := #[{ on := 0, ground := Ground.data }], guard := none } : Oper)) (v := ?_) rfl (by kernel_rfl) (by kernel_rfl) (by kernel_rfl) (fun _ _ _ h => h) (Or.inl ⟨by rfl, ?_⟩) hS40 ?_
      rotate_left
      · intro w hSw; (try dsimp only at hSw); go_simp; (try with_reducible rfl)
      simp only [Act.put, List.setIfInBounds_toArray, List.set_cons_zero, List.set_cons_succ]
      refine wpAnyH_take (i := 2) (oi := ({ dst := some 69, op := Op.move (Operand.tmp 68), type := 4, pos := "law.go:102", after := #[{ on := 1, ground := Ground.data }], guard := none } : Oper)) (v := ?_) rfl (by kernel_rfl) (by kernel_rfl) (by kernel_rfl) (fun _ _ _ h => h) (Or.inl ⟨by rfl, ?_⟩) hS40 ?_
      rotate_left
      · intro w hSw; (try dsimp only at hSw); go_simp; (try with_reducible rfl)
      simp only [Act.put, List.setIfInBounds_toArray, List.set_cons_zero, List.set_cons_succ]
      refine wpAnyH_take (i := 3) (oi := ({ dst := some 70, op := Op.indexAddr 42 (Operand.tmp 2) (Operand.const (Value.int IntKind.i64 1)), type := 0, pos := "law.go:102", after := #[{ on := 2, ground := Ground.guard }], guard := some (2, true) } : Oper)) (v := ?_) rfl (by kernel_rfl) (by kernel_rfl) (by kernel_rfl) (fun _ _ _ h => h) (Or.inl ⟨by rfl, ?_⟩) hS40 ?_
      rotate_left
      · intro w hSw; (try dsimp only at hSw); go_simp; (try with_reducible rfl)
      simp only [Act.put, List.setIfInBounds_toArray, List.set_cons_zero, List.set_cons_succ]
      refine wpAnyH_take (i := 4) (oi := ({ dst := some 71, op := Op.load 24 (Operand.tmp 70), type := 24, pos := "law.go:102", after := #[{ on := 3, ground := Ground.data }, { on := 2, ground := Ground.guard }], guard := some (2, true) } : Oper)) (v := ?_) rfl (by kernel_rfl) (by kernel_rfl) (by kernel_rfl) (fun _ _ _ h => h) (Or.inl ⟨by rfl, ?_⟩) hS40 ?_
      rotate_left
      · intro w hSw; (try dsimp only at hSw); go_simp; (try with_reducible rfl)
      simp only [Act.put, List.setIfInBounds_toArray, List.set_cons_zero, List.set_cons_succ]
      refine wpAnyH_take (i := 5) (oi := ({ dst := some 72, op := Op.move (Operand.tmp 5), type := 32, pos := "law.go:102", after := #[{ on := 2, ground := Ground.guard }], guard := some (2, true) } : Oper)) (v := ?_) rfl (by kernel_rfl) (by kernel_rfl) (by kernel_rfl) (fun _ _ _ h => h) (Or.inl ⟨by rfl, ?_⟩) hS40 ?_
      rotate_left
      · intro w hSw; (try dsimp only at hSw); go_simp; (try with_reducible rfl)
      simp only [Act.put, List.setIfInBounds_toArray, List.set_cons_zero, List.set_cons_succ]
      refine wpAnyH_ready (rs := [6]) (by kernel_rfl) (by simp) ?_
      refine AllReadyH.cons (o := ({ dst := some 73, op := Op.call { callee := Callee.value (Operand.func 23), args := #[Operand.tmp 71, Operand.tmp 72], argTypes := #[24, 32] }, type := 33, pos := "law.go:102", after := #[{ on := 4, ground := Ground.data }, { on := 5, ground := Ground.data }, { on := 2, ground := Ground.chain }, { on := 2, ground := Ground.guard }], guard := some (2, true) } : Oper)) rfl (fun K hK => ?_) AllReadyH.nil
      go_simp
      refine (fb.out _ wl _ (XB.out.below hS40.1) (XW.out.below hS40.1) hwk.out).mono ?_; rintro e w41 ⟨he, hb41⟩
      rw [HF.out] at he
      subst he
      go_wp2_with fail
      refine hK.out _ _ (mk40 _ (hnext hS40.1 hb41)) (fun hS41 => ?_)
      clear hK K
      (try simp only [Act.put, List.setIfInBounds_toArray, List.set_cons_zero, List.set_cons_succ])
      clear hb41 hS40
      refine wpAnyH_take (i := 7) (oi := ({ dst := some 74, op := Op.binOp BinOp.eql 33 (Operand.tmp 73) (Operand.const (Value.int IntKind.i64 0)) 33, type := 4, pos := "law.go:102", after := #[{ on := 6, ground := Ground.data }, { on := 2, ground := Ground.guard }], guard := some (2, true) } : Oper)) (v := ?_) rfl (by kernel_rfl) (by kernel_rfl) (by kernel_rfl) (fun _ _ _ h => h) (Or.inl ⟨by rfl, ?_⟩) hS41 ?_
      rotate_left
      · intro w hSw; (try dsimp only at hSw); go_simp; (try with_reducible rfl)
      simp only [Act.put, List.setIfInBounds_toArray, List.set_cons_zero, List.set_cons_succ]
      refine wpAnyH_take (i := 8) (oi := ({ dst := some 75, op := Op.pick (Operand.tmp 69) (Operand.tmp 74) (Operand.const (Value.bool false)), type := 4, pos := "law.go:102", after := #[{ on := 2, ground := Ground.data }, { on := 7, ground := Ground.data }], guard := none } : Oper)) (v := ?_) rfl (by kernel_rfl) (by kernel_rfl) (by kernel_rfl) (fun _ _ _ h => h) (Or.inl ⟨by rfl, ?_⟩) hS41 ?_
      rotate_left
      · intro w hSw; (try dsimp only at hSw); go_simp; (try with_reducible rfl)
      simp only [Act.put, List.setIfInBounds_toArray, List.set_cons_zero, List.set_cons_succ]
      refine wpAnyH_take (i := 9) (oi := ({ dst := some 76, op := Op.move (Operand.tmp 75), type := 4, pos := "law.go:102", after := #[{ on := 8, ground := Ground.data }, { on := 6, ground := Ground.chain }], guard := none } : Oper)) (v := ?_) rfl (by kernel_rfl) (by kernel_rfl) (by kernel_rfl) (fun _ _ _ h => h) (Or.inl ⟨by rfl, ?_⟩) hS41 ?_
      rotate_left
      · intro w hSw; (try dsimp only at hSw); go_simp; (try with_reducible rfl)
      simp only [Act.put, List.setIfInBounds_toArray, List.set_cons_zero, List.set_cons_succ]
      refine wpAnyH_take (i := 10) (oi := ({ dst := some 77, op := Op.indexAddr 42 (Operand.tmp 2) (Operand.const (Value.int IntKind.i64 0)), type := 0, pos := "law.go:102", after := #[{ on := 9, ground := Ground.guard }], guard := some (9, true) } : Oper)) (v := ?_) rfl (by kernel_rfl) (by kernel_rfl) (by kernel_rfl) (fun _ _ _ h => h) (Or.inl ⟨by rfl, ?_⟩) hS41 ?_
      rotate_left
      · intro w hSw; (try dsimp only at hSw); go_simp; (try with_reducible rfl)
      simp only [Act.put, List.setIfInBounds_toArray, List.set_cons_zero, List.set_cons_succ]
      refine wpAnyH_take (i := 11) (oi := ({ dst := some 78, op := Op.load 24 (Operand.tmp 77), type := 24, pos := "law.go:102", after := #[{ on := 10, ground := Ground.data }, { on := 9, ground := Ground.guard }], guard := some (9, true) } : Oper)) (v := ?_) rfl (by kernel_rfl) (by kernel_rfl) (by kernel_rfl) (fun _ _ _ h => h) (Or.inl ⟨by rfl, ?_⟩) hS41 ?_
      rotate_left
      · intro w hSw; (try dsimp only at hSw); go_simp; (try with_reducible rfl)
      simp only [Act.put, List.setIfInBounds_toArray, List.set_cons_zero, List.set_cons_succ]
      refine wpAnyH_take (i := 12) (oi := ({ dst := some 79, op := Op.move (Operand.tmp 1), type := 32, pos := "law.go:102", after := #[{ on := 9, ground := Ground.guard }], guard := some (9, true) } : Oper)) (v := ?_) rfl (by kernel_rfl) (by kernel_rfl) (by kernel_rfl) (fun _ _ _ h => h) (Or.inl ⟨by rfl, ?_⟩) hS41 ?_
      rotate_left
      · intro w hSw; (try dsimp only at hSw); go_simp; (try with_reducible rfl)
      simp only [Act.put, List.setIfInBounds_toArray, List.set_cons_zero, List.set_cons_succ]
      refine wpAnyH_take (i := 14) (oi := ({ dst := some 81, op := Op.indexAddr 42 (Operand.tmp 2) (Operand.const (Value.int IntKind.i64 1)), type := 0, pos := "law.go:102", after := #[{ on := 9, ground := Ground.guard }], guard := some (9, true) } : Oper)) (v := ?_) rfl (by kernel_rfl) (by kernel_rfl) (by kernel_rfl) (fun _ _ _ h => h) (Or.inl ⟨by rfl, ?_⟩) hS41 ?_
      rotate_left
      · intro w hSw; (try dsimp only at hSw); go_simp; (try with_reducible rfl)
      simp only [Act.put, List.setIfInBounds_toArray, List.set_cons_zero, List.set_cons_succ]
      refine wpAnyH_take (i := 15) (oi := ({ dst := some 82, op := Op.load 24 (Operand.tmp 81), type := 24, pos := "law.go:102", after := #[{ on := 14, ground := Ground.data }, { on := 9, ground := Ground.guard }], guard := some (9, true) } : Oper)) (v := ?_) rfl (by kernel_rfl) (by kernel_rfl) (by kernel_rfl) (fun _ _ _ h => h) (Or.inl ⟨by rfl, ?_⟩) hS41 ?_
      rotate_left
      · intro w hSw; (try dsimp only at hSw); go_simp; (try with_reducible rfl)
      simp only [Act.put, List.setIfInBounds_toArray, List.set_cons_zero, List.set_cons_succ]
      refine wpAnyH_take (i := 16) (oi := ({ dst := some 83, op := Op.move (Operand.tmp 5), type := 32, pos := "law.go:102", after := #[{ on := 9, ground := Ground.guard }], guard := some (9, true) } : Oper)) (v := ?_) rfl (by kernel_rfl) (by kernel_rfl) (by kernel_rfl) (fun _ _ _ h => h) (Or.inl ⟨by rfl, ?_⟩) hS41 ?_
      rotate_left
      · intro w hSw; (try dsimp only at hSw); go_simp; (try with_reducible rfl)
      simp only [Act.put, List.setIfInBounds_toArray, List.set_cons_zero, List.set_cons_succ]
      refine wpAnyH_ready (rs := [13]) (by kernel_rfl) (by simp) ?_
      refine AllReadyH.cons (o := ({ dst := some 80, op := Op.call { callee := Callee.value (Operand.func 26), args := #[Operand.tmp 78, Operand.tmp 79], argTypes := #[24, 32] }, type := 32, pos := "law.go:102", after := #[{ on := 11, ground := Ground.data }, { on := 12, ground := Ground.data }, { on := 9, ground := Ground.chain }, { on := 9, ground := Ground.guard }], guard := some (9, true) } : Oper)) rfl (fun K hK => ?_) AllReadyH.nil
      go_simp
      refine (ka.out _ (XA.out.below hS41.1) (XR.out.below hS41.1)).mono ?_; rintro e w42 ⟨⟨vk, rfl, ok⟩, hb42⟩
      have VK := hid (VsAt.own ok)
      obtain ⟨adrk, capk, rfl⟩ := (VsAt.own ok).len
      clear ok
      go_wp2_with fail
      refine hK.out _ _ (mk40 _ (hnext hS41.1 hb42)) (fun hS42 => ?_)
      clear hK K
      (try simp only [Act.put, List.setIfInBounds_toArray, List.set_cons_zero, List.set_cons_succ])
      clear hb42 hS41
      refine wpAnyH_ready (rs := [17]) (by kernel_rfl) (by simp) ?_
      refine AllReadyH.cons (o := ({ dst := some 84, op := Op.call { callee := Callee.value (Operand.func 26), args := #[Operand.tmp 82, Operand.tmp 83], argTypes := #[24, 32] }, type := 32, pos := "law.go:102", after := #[{ on := 15, ground := Ground.data }, { on := 16, ground := Ground.data }, { on := 13, ground := Ground.chain }, { on := 9, ground := Ground.guard }], guard := some (9, true) } : Oper)) rfl (fun K hK => ?_) AllReadyH.nil
      go_simp
      refine (kb.out _ wl _ (XB.out.below hS42.1) (XW.out.below hS42.1) hwk.out).mono ?_; rintro e w43 ⟨⟨vk, rfl, ok⟩, hb43⟩
      rw [HK.out] at ok
      have VK2 := hid (VsAt.own ok)
      obtain ⟨adrk2, capk2, rfl⟩ := (VsAt.own ok).len
      clear ok
      go_wp2_with fail
      refine hK.out _ _ (mk40 _ (hnext hS42.1 hb43)) (fun hS43 => ?_)
      clear hK K
      (try simp only [Act.put, List.setIfInBounds_toArray, List.set_cons_zero, List.set_cons_succ])
      replace VK := hid (VK.out.below hb43)
      clear hb43 hS42
      refine wpAnyH_ready (rs := [18]) (by kernel_rfl) (by simp) ?_
      refine AllReadyH.cons (o := ({ dst := some 85, op := Op.call { callee := Callee.value (Operand.func 25), args := #[Operand.tmp 80, Operand.tmp 84], argTypes := #[32, 32] }, type := 4, pos := "law.go:102", after := #[{ on := 13, ground := Ground.data }, { on := 17, ground := Ground.data }, { on := 17, ground := Ground.chain }, { on := 9, ground := Ground.guard }], guard := some (9, true) } : Oper)) rfl (fun K hK => ?_) AllReadyH.nil
      go_simp
      refine (hKey.out _ _ _ VK.out VK2.out).mono ?_; rintro e w44 ⟨rfl, hb44⟩
      go_wp2_with fail
      refine hK.out _ _ (mk40 _ (hnext hS43.1 hb44)) (fun hS44 => ?_)
      clear hK K
      (try simp only [Act.put, List.setIfInBounds_toArray, List.set_cons_zero, List.set_cons_succ])
      replace VK := hid (VK.out.below hb44)
      clear hb44 hS43
      refine wpAnyH_take (i := 19) (oi := ({ dst := some 86, op := Op.pick (Operand.tmp 76) (Operand.tmp 85) (Operand.const (Value.bool false)), type := 4, pos := "law.go:102", after := #[{ on := 9, ground := Ground.data }, { on := 18, ground := Ground.data }], guard := none } : Oper)) (v := ?_) rfl (by kernel_rfl) (by kernel_rfl) (by kernel_rfl) (fun _ _ _ h => h) (Or.inl ⟨by rfl, ?_⟩) hS44 ?_
      rotate_left
      · intro w hSw; (try dsimp only at hSw); go_simp; (try with_reducible rfl)
      simp only [Act.put, List.setIfInBounds_toArray, List.set_cons_zero, List.set_cons_succ]
      refine wpAnyH_take (i := 20) (oi := ({ dst := some 87, op := Op.move (Operand.tmp 86), type := 4, pos := "law.go:102", after := #[{ on := 19, ground := Ground.data }, { on := 18, ground := Ground.chain }], guard := none } : Oper)) (v := ?_) rfl (by kernel_rfl) (by kernel_rfl) (by kernel_rfl) (fun _ _ _ h => h) (Or.inl ⟨by rfl, ?_⟩) hS44 ?_
      rotate_left
      · intro w hSw; (try dsimp only at hSw); go_simp; (try with_reducible rfl)
      simp only [Act.put, List.setIfInBounds_toArray, List.set_cons_zero, List.set_cons_succ]
      refine wpAnyH_take (i := 21) (oi := ({ dst := some 88, op := Op.move (Operand.tmp 5), type := 32, pos := "law.go:102", after := #[{ on := 20, ground := Ground.guard }], guard := some (20, true) } : Oper)) (v := ?_) rfl (by kernel_rfl) (by kernel_rfl) (by kernel_rfl) (fun _ _ _ h => h) (Or.inl ⟨by rfl, ?_⟩) hS44 ?_
      rotate_left
      · intro w hSw; (try dsimp only at hSw); go_simp; (try with_reducible rfl)
      simp only [Act.put, List.setIfInBounds_toArray, List.set_cons_zero, List.set_cons_succ]
      refine wpAnyH_take (i := 22) (oi := ({ dst := some 89, op := Op.move (Operand.tmp 1), type := 32, pos := "law.go:102", after := #[{ on := 20, ground := Ground.guard }], guard := some (20, true) } : Oper)) (v := ?_) rfl (by kernel_rfl) (by kernel_rfl) (by kernel_rfl) (fun _ _ _ h => h) (Or.inl ⟨by rfl, ?_⟩) hS44 ?_
      rotate_left
      · intro w hSw; (try dsimp only at hSw); go_simp; (try with_reducible rfl)
      simp only [Act.put, List.setIfInBounds_toArray, List.set_cons_zero, List.set_cons_succ]
      refine wpAnyH_take (i := 23) (oi := ({ dst := some 90, op := Op.call { callee := Callee.builtin Builtin.len, args := #[Operand.tmp 89], argTypes := #[32] }, type := 3, pos := "law.go:102", after := #[{ on := 22, ground := Ground.data }, { on := 20, ground := Ground.guard }], guard := some (20, true) } : Oper)) (v := ?_) rfl (by kernel_rfl) (by kernel_rfl) (by kernel_rfl) (fun _ _ _ h => h) (Or.inl ⟨by rfl, ?_⟩) hS44 ?_
      rotate_left
      · intro w hSw; (try dsimp only at hSw); go_simp; (try with_reducible rfl)
      simp only [Act.put, List.setIfInBounds_toArray, List.set_cons_zero, List.set_cons_succ]
      refine wpAnyH_take (i := 24) (oi := ({ dst := some 91, op := Op.slice 32 (Operand.tmp 88) none (some (Operand.tmp 90)) none, type := 32, pos := "law.go:102", after := #[{ on := 21, ground := Ground.data }, { on := 23, ground := Ground.data }, { on := 20, ground := Ground.guard }], guard := some (20, true) } : Oper)) (v := ?_) rfl (by kernel_rfl) (by kernel_rfl) (by kernel_rfl) (fun _ _ _ h => h) (Or.inl ⟨by rfl, ?_⟩) hS44 ?_
      rotate_left
      · intro w hSw; (try dsimp only at hSw); go_simp; (try with_reducible rfl)
      simp only [Act.put, List.setIfInBounds_toArray, List.set_cons_zero, List.set_cons_succ]
      refine wpAnyH_take (i := 25) (oi := ({ dst := some 92, op := Op.move (Operand.tmp 1), type := 32, pos := "law.go:102", after := #[{ on := 20, ground := Ground.guard }], guard := some (20, true) } : Oper)) (v := ?_) rfl (by kernel_rfl) (by kernel_rfl) (by kernel_rfl) (fun _ _ _ h => h) (Or.inl ⟨by rfl, ?_⟩) hS44 ?_
      rotate_left
      · intro w hSw; (try dsimp only at hSw); go_simp; (try with_reducible rfl)
      simp only [Act.put, List.setIfInBounds_toArray, List.set_cons_zero, List.set_cons_succ]
      refine wpAnyH_ready (rs := [26]) (by kernel_rfl) (by simp) ?_
      refine AllReadyH.cons (o := ({ dst := some 93, op := Op.call { callee := Callee.value (Operand.func 25), args := #[Operand.tmp 91, Operand.tmp 92], argTypes := #[32, 32] }, type := 4, pos := "law.go:102", after := #[{ on := 24, ground := Ground.data }, { on := 25, ground := Ground.data }, { on := 20, ground := Ground.chain }, { on := 20, ground := Ground.guard }], guard := some (20, true) } : Oper)) rfl (fun K hK => ?_) AllReadyH.nil
      go_simp
      refine (hRow.out _ _ _ (XT.out.below hS44.1) (XR.out.1.below hS44.1)).mono ?_; rintro e w45 ⟨rfl, hb45⟩
      go_wp2_with fail
      refine hK.out _ _ (mk40 _ (hnext hS44.1 hb45)) (fun hS45 => ?_)
      clear hK K
      (try simp only [Act.put, List.setIfInBounds_toArray, List.set_cons_zero, List.set_cons_succ])
      replace VK := hid (VK.out.below hb45)
      clear hb45 hS44
      refine wpAnyH_take (i := 27) (oi := ({ dst := some 94, op := Op.pick (Operand.tmp 87) (Operand.tmp 93) (Operand.const (Value.bool false)), type := 4, pos := "law.go:102", after := #[{ on := 20, ground := Ground.data }, { on := 26, ground := Ground.data }], guard := none } : Oper)) (v := ?_) rfl (by kernel_rfl) (by kernel_rfl) (by kernel_rfl) (fun _ _ _ h => h) (Or.inl ⟨by rfl, ?_⟩) hS45 ?_
      rotate_left
      · intro w hSw; (try dsimp only at hSw); go_simp; (try with_reducible rfl)
      simp only [Act.put, List.setIfInBounds_toArray, List.set_cons_zero, List.set_cons_succ]
      refine wpAnyH_take (i := 28) (oi := ({ dst := some 95, op := Op.move (Operand.tmp 94), type := 4, pos := "law.go:102", after := #[{ on := 27, ground := Ground.data }, { on := 26, ground := Ground.chain }], guard := none } : Oper)) (v := ?_) rfl (by kernel_rfl) (by kernel_rfl) (by kernel_rfl) (fun _ _ _ h => h) (Or.inl ⟨by rfl, ?_⟩) hS45 ?_
      rotate_left
      · intro w hSw; (try dsimp only at hSw); go_simp; (try with_reducible rfl)
      simp only [Act.put, List.setIfInBounds_toArray, List.set_cons_zero, List.set_cons_succ]
      refine wpAnyH_ready (rs := [29]) (by kernel_rfl) (by simp) ?_
      refine AllReadyH.cons (o := ({ dst := some 96, op := Op.call { callee := Callee.value (Operand.func 10), args := #[], argTypes := #[] }, type := 4, pos := "law.go:102", after := #[{ on := 28, ground := Ground.chain }, { on := 28, ground := Ground.guard }], guard := some (28, true) } : Oper)) rfl (fun K hK => ?_) AllReadyH.nil
      go_simp
      refine (known_any _).mono ?_; rintro e w46 ⟨rfl, hb46⟩
      go_wp2_with fail
      refine hK.out _ _ (mk40 _ (hnext hS45.1 hb46)) (fun hS46 => ?_)
      clear hK K
      (try simp only [Act.put, List.setIfInBounds_toArray, List.set_cons_zero, List.set_cons_succ])
      replace VK := hid (VK.out.below hb46)
      clear hb46 hS45
      refine wpAnyH_take (i := 30) (oi := ({ dst := some 97, op := Op.pick (Operand.tmp 95) (Operand.tmp 96) (Operand.const (Value.bool false)), type := 4, pos := "law.go:102", after := #[{ on := 28, ground := Ground.data }, { on := 29, ground := Ground.data }], guard := none } : Oper)) (v := ?_) rfl (by kernel_rfl) (by kernel_rfl) (by kernel_rfl) (fun _ _ _ h => h) (Or.inl ⟨by rfl, ?_⟩) hS46 ?_
      rotate_left
      · intro w hSw; (try dsimp only at hSw); go_simp; (try with_reducible rfl)
      simp only [Act.put, List.setIfInBounds_toArray, List.set_cons_zero, List.set_cons_succ]
      refine wpAnyH_take (i := 31) (oi := ({ dst := some 4, op := Op.assign (Operand.tmp 97), type := 4, pos := "law.go:102", after := #[{ on := 30, ground := Ground.data }, { on := 29, ground := Ground.chain }, { on := 0, ground := Ground.phase }, { on := 1, ground := Ground.phase }, { on := 2, ground := Ground.phase }, { on := 3, ground := Ground.phase }, { on := 4, ground := Ground.phase }, { on := 5, ground := Ground.phase }, { on := 6, ground := Ground.phase }, { on := 7, ground := Ground.phase }, { on := 8, ground := Ground.phase }, { on := 9, ground := Ground.phase }, { on := 10, ground := Ground.phase }, { on := 11, ground := Ground.phase }, { on := 12, ground := Ground.phase }, { on := 13, ground := Ground.phase }, { on := 14, ground := Ground.phase }, { on := 15, ground := Ground.phase }, { on := 16, ground := Ground.phase }, { on := 17, ground := Ground.phase }, { on := 18, ground := Ground.phase }, { on := 19, ground := Ground.phase }, { on := 20, ground := Ground.phase }, { on := 21, ground := Ground.phase }, { on := 22, ground := Ground.phase }, { on := 23, ground := Ground.phase }, { on := 24, ground := Ground.phase }, { on := 25, ground := Ground.phase }, { on := 26, ground := Ground.phase }, { on := 27, ground := Ground.phase }, { on := 28, ground := Ground.phase }, { on := 29, ground := Ground.phase }, { on := 30, ground := Ground.phase }], guard := none } : Oper)) (v := ?_) rfl (by kernel_rfl) (by kernel_rfl) (by kernel_rfl) (fun _ _ _ h => h) (Or.inl ⟨by rfl, ?_⟩) hS46 ?_
      rotate_left
      · intro w hSw; (try dsimp only at hSw); go_simp; (try with_reducible rfl)
      simp only [Act.put, List.setIfInBounds_toArray, List.set_cons_zero, List.set_cons_succ]
      refine wpAnyH_done (by kernel_rfl) ?_ _
      go_wp2_with fail
      go_ret
      exact ⟨rfl, hnext L40.out hS46.1⟩
    · clear hww hfw hkw hab htr hwk hwt hwl hkl
      generalize Sc.widen b l = wr at cw
      obtain ⟨wl, we⟩ := wr
      generalize Sc.fits a l = fz at fa hz
      have e1 : (fz != 0) = true := by rw [bne_iff_ne]; exact hz
      clear hz
      go_wp2_with fail
      refine (cw.out _ (HXB.out.below L25.out) (HRA.out.below L25.out)).mono ?_; rintro e w31 ⟨⟨vw, rfl, ow⟩, b31⟩
      obtain ⟨adrw, capw, rfl⟩ := (VsAt.own ow).len
      clear ow
      have S31 := S25.keep b31
      have L31 := hid (hnext L25.out b31)
      clear b31 S25 s0 s1 s2 s3 s4 s5 s6 s7 s8 sl
      obtain ⟨s0, s1, s2, s3, s4, s5, s6, s7, s8, sl⟩ := S31.cells
      go_wp2_with fail
      refine (fa.out _ (HXA.out.below L31.out) (HRA.out.below L31.out)).mono ?_; rintro e w32 ⟨rfl, b32⟩
      have LK := hid (hnext L31.out b32)
      go_wp2_with fail
      refine (known_any _).mono ?_; rintro e wZ ⟨rfl, bZ⟩
      go_wp2
      go_ret
      exact ⟨rfl, hnext LK.out bZ⟩
end Go.Proofs.Ytmgafcblbbbanaa
