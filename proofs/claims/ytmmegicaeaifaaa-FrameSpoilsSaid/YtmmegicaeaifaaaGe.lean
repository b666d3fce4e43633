/-
  All frames of bytes: plainly, and the contracts of Split, of the program and of the reference, and of Texts. Condition: at most 1000000 bytes.
-/
import Derived.Test.YtmmegicaeaifaaaGd
namespace Go.Proofs.Ytmmegicaeaifaaa
open Go.RowKit Fr

namespace Fr
/-- the frames' bodies, how far they go, what is wrong behind them -/
def splitF (s : ByteArray) : Nat → Nat → List ByteArray → List ByteArray × Nat × Int
  | 0, i, l => (l, i, 0)
  | f + 1, i, l => if s.size ≤ i then (l, i, 0) else if (nextR (s.extract i s.size)).2.2 ≠ 0 then (l, i, (nextR (s.extract i s.size)).2.2) else splitF s f (i + (nextR (s.extract i s.size)).2.1) (l ++ [(nextR (s.extract i s.size)).1])
def splitR (s : ByteArray) : List ByteArray × Nat × Int := splitF s (s.size + 1) 0 []
theorem next_ways (s : ByteArray) : ((nextR s).2.2 ≠ 0 ∧ (nextR s).1 = ⟨#[]⟩ ∧ (nextR s).2.1 = 0) ∨ ((nextR s).2.2 = 0 ∧ 8 ≤ (nextR s).2.1 ∧ (nextR s).2.1 ≤ s.size ∧ (nextR s).2.1 ≤ 100008) := by
  by_cases h : s.size < 4
  · rw [frm_short h]; exact .inl ⟨by decide, rfl, rfl⟩
  · by_cases h1 : 100000 < lenR s
    · rw [frm_big h h1]; exact .inl ⟨by decide, rfl, rfl⟩
    · by_cases h2 : s.size < lenR s + 8
      · rw [frm_cut h h1 h2]; exact .inl ⟨by decide, rfl, rfl⟩
      · cases h3 : (Crc.take (s.extract 4 (lenR s + 8)).data.toList).2 with
        | false => rw [frm_crc h h1 h2 h3]; exact .inl ⟨by decide, rfl, rfl⟩
        | true => rw [frm_ok h h1 h2 h3]; exact .inr ⟨rfl, by show 8 ≤ lenR s + 8; omega, by show lenR s + 8 ≤ s.size; omega, by show lenR s + 8 ≤ 100008; omega⟩
theorem split_end {s : ByteArray} {f i : Nat} {l : List ByteArray} (h : s.size ≤ i) : splitF s f i l = (l, i, 0) := by
  cases f with
  | zero => rfl
  | succ f => unfold splitF; rw [if_pos h]
theorem split_bad {s : ByteArray} {f i : Nat} {l : List ByteArray} (h : ¬ s.size ≤ i) (h1 : (nextR (s.extract i s.size)).2.2 ≠ 0) : splitF s (f + 1) i l = (l, i, (nextR (s.extract i s.size)).2.2) := by
  unfold splitF; rw [if_neg h, if_pos h1]
theorem split_next {s : ByteArray} {f i : Nat} {l : List ByteArray} (h : ¬ s.size ≤ i) (h1 : ¬ (nextR (s.extract i s.size)).2.2 ≠ 0) : splitF s (f + 1) i l = splitF s f (i + (nextR (s.extract i s.size)).2.1) (l ++ [(nextR (s.extract i s.size)).1]) := by
  rw [splitF, if_neg h, if_neg h1]
end Fr
/-- texts of the call's own -/
def OwnS (w : World) (B : Nat) (v : Value) (l : List ByteArray) : Prop := w.ownsRow B 9 1 v l.length (l.map Value.string)
theorem OwnS.nil (w : World) (B : Nat) : OwnS w B (.slice none 0 0) [] := World.ownsRow_nil _ _ _ _
theorem OwnS.below {w w' : World} {B : Nat} {v : Value} {l : List ByteArray} (h : OwnS w B v l) (hb : Below w.heap.size w w') : OwnS w' B v l := own_keep h hb
/-- the slice v holds the texts l -/
def SsAt (w : World) (v : Value) (l : List ByteArray) : Prop :=
  ∃ adr cap, v = .slice adr l.length cap ∧ ∀ k (hk : k < l.length), ∃ g off, adr = some ⟨g, off, none⟩ ∧ w.cell? ⟨g, off + k, none⟩ = some (.string l[k])
theorem SsAt.below {w w' : World} {v : Value} {l : List ByteArray} (h : SsAt w v l) (hb : Below w.heap.size w w') : SsAt w' v l := by
  obtain ⟨adr, cap, rfl, hc⟩ := h
  refine ⟨adr, cap, rfl, fun k hk => ?_⟩
  obtain ⟨g, off, rfl, q0⟩ := hc k hk
  exact ⟨g, off, rfl, hkeep q0 hb⟩
theorem SsAt.slc {w : World} {v : Value} {l : List ByteArray} (h : SsAt w v l) : ∃ adr cap, v = .slice adr l.length cap := by
  obtain ⟨adr, cap, rfl, _⟩ := h; exact ⟨adr, cap, rfl⟩
theorem OwnS.at {w : World} {B : Nat} {v : Value} {l : List ByteArray} (h : OwnS w B v l) : SsAt w v l := by
  rcases h.2 with ⟨rfl, hn⟩ | ⟨g, cap, cur, rfl, hB, hg, hn, _, hs, ht⟩
  · exact ⟨none, 0, by rw [hn], fun k hk => by omega⟩
  · refine ⟨_, cap, rfl, fun k hk => ⟨g, 0, rfl, ?_⟩⟩
    rw [Nat.zero_add, cell_of_row w g k cur _ (0, 0) hg]
    have e : (l.map Value.string)[k]? = some (.string l[k]) := by rw [List.getElem?_map, List.getElem?_eq_getElem hk]; rfl
    rw [← ht, List.getElem?_take] at e
    split at e
    · simpa using e
    · cases e
theorem Try.infoStr : (Try.prog.info? 9).map (fun i => (i.zero, i.size, i.bytes)) = some (some (.string ⟨#[]⟩), 1, 16) := by kernel_rfl
/-- 'append(l, b)' of texts, l of the call's own -/
theorem append_text (u : World) {W : World} {ops : Array Oper} {rest : List Oper} {o : Oper} {a : Act} {Q : Exit → Act → World → Prop} (hgd : o.guard = none) (s x : Operand)
    (ho : o.op = .call { callee := .builtin .append, args := #[s, x], argTypes := #[42, 42] })
    (B : Nat) (v : Value) (l : List ByteArray) (hs : a.eval s = v) (hown : OwnS u B v l) (c : ByteArray) (g : Nat) (hg : g = u.heap.size) (hx : a.eval x = .slice (some ⟨g, 0, none⟩) 1 1) (hlen : l.length ≤ 1000000) (hB : B ≤ u.heap.size)
    (hW : W = u.alloc (.cells #[.string c] 9))
    (hK : ∀ v' w', OwnS w' B v' (l ++ [c]) → u.grownBy w' v.ownBlock → wpList Try.prog ops Q rest (a.put o.dst v') w') : wpList Try.prog ops Q (o :: rest) a W := by
  subst hW; subst hg
  obtain ⟨i0, hi, hz0, hz1, hz2⟩ := info_parts Try.infoStr
  refine wpList_append_own _ hgd s x 42 ho B 9 i0 (.string ⟨#[]⟩) 1 16 Try.underlying42 hi hz0 hz1 hz2 rfl (by decide) v l.length (l.map Value.string) hs (hown.alloc _) ⟨u.heap.size, 0, none⟩ 1 1 [.string c] hx rfl (cell_eight u _ _ rfl) (fun y hy => by rw [List.mem_singleton.1 hy]; rfl) ?_ ?_ ?_ ?_
  · unfold maxLen; omega
  · omega
  · simp; omega
  · intro v' w' hown' hgrow _
    refine hK v' w' (by unfold OwnS; rw [List.length_append, List.map_append]; exact hown') ?_
    refine ⟨hgrow.os, hgrow.tape, hgrow.output, Nat.le_trans (by simp) hgrow.size, fun k hk hne => ?_⟩
    rw [hgrow.block k (by simp; omega) hne]
    exact Below.heap_alloc u _ k hk
/-- what Split leaves -/
def SplitP (s : ByteArray) (w : World) (e : Ending) (w' : World) : Prop :=
  ∃ v, e = .returned (.tuple #[v, .int .i64 ((splitR s).2.1 : Int), .int .i64 (splitR s).2.2]) ∧ OwnS w' w.heap.size v (splitR s).1 ∧ Below w.heap.size w w'
set_option maxRecDepth 100000 in
set_option maxHeartbeats 6400000 in
theorem fsplit_any (s : ByteArray) (hs : s.size ≤ 1000000) (w : World) : Calls Try.prog 23 #[.string s] w (SplitP s w) := by
  go_enter Try.func23, Try.ntmps23
  go_wp2_with fail
  refine wp_scope_straight ?_
  go_wp2_with fail
  refine wp_label ?_
  go_wp2_with fail
  go_loopw [6, 5, 7] (fun iv lv ev wr => ∃ (i fu : Nat) (l : List ByteArray) (v : Value), iv = .int .i64 (i : Int) ∧ lv = v ∧ ev = .int .i64 0 ∧ i ≤ s.size ∧ s.size < i + fu ∧ l.length ≤ i ∧ Hid (splitR s = splitF s fu i l) ∧ OwnS wr w.heap.size v l ∧ Below w.heap.size w wr) (fun iv _ _ _ => s.size - (intOf iv).toNat)
  case atStart => exact ⟨0, s.size + 1, [], _, rfl, rfl, rfl, Nat.zero_le _, by omega, Nat.le_refl _, rfl, OwnS.nil _ _, Below.refl _ _⟩
  case round =>
    obtain ⟨i, fu, l, v, rfl, rfl, rfl, hi, hfu, hll, hE, hown, hbel⟩ := hrel
    obtain ⟨w4, rfl⟩ : ∃ w4 : World, w4 = wr := ⟨_, rfl⟩
    have hi0 : (0 : Int) ≤ (i : Int) := by omega
    have hi' : (i : Int) ≤ (s.size : Int) := by omega
    have HB := hid hbel
    have HO := hid hown
    clear hbel hown
    obtain ⟨adr, cap, hv⟩ := HO.out.at.slc
    subst hv
    by_cases hend : s.size ≤ i
    · obtain rfl : i = s.size := by omega
      have hq : ((s.size : Int) == (s.size : Int)) = true := by simp
      have HR : Hid (splitR s = (l, s.size, 0)) := hE.out.trans (split_end (Nat.le_refl _))
      clear hE hend
      go_wp2_with fail
      refine bodyPost_ret (v := .tuple #[.slice adr l.length cap, .int .i64 (s.size : Int), .int .i64 0]) (by simp [results, Try.results23, go_sem]) rfl ⟨.slice adr l.length cap, by rw [HR.out], by rw [HR.out]; exact HO.out, HB.out⟩
    · have hq : ((i : Int) == (s.size : Int)) = false := by rw [beq_eq_false_iff_ne]; omega
      have hlt : (i : Int) < (s.size : Int) := by omega
      obtain ⟨f0, rfl⟩ : ∃ f0, fu = f0 + 1 := ⟨fu - 1, by omega⟩
      have hsz : (s.extract i s.size).size = s.size - i := by rw [ByteArray.size_extract]; omega
      have CN := hid (fun W => fnext_any (s.extract i s.size) (by omega) W)
      have hw := next_ways (s.extract i s.size)
      rw [hsz] at hw
      have HX := hid (split_bad (s := s) (f := f0) (l := l) hend)
      have HN := hid (split_next (s := s) (f := f0) (l := l) hend)
      generalize hE1 : s.extract i s.size = E at *
      have HE1 := hid hE1
      clear hE1 hsz
      generalize nextR E = r at *
      obtain ⟨b, n, er⟩ := r
      simp only at hw HX HN CN
      rcases hw with ⟨h1, _, _⟩ | ⟨h1, h2, h3, _⟩
      · have HR := hid (hE.out.trans (HX.out h1))
        have hne : (er != 0) = true := by rw [bne_iff_ne]; exact h1
        clear hE HX HN h1 hend
        go_wp2_with fail
        (try rw [HE1.out])
        refine (CN.out _).mono ?_; rintro e w5 ⟨rfl, b5⟩
        have HB5 := hid (hnext HB.out b5)
        have HO5 := hid (HO.out.below b5)
        clear b5
        go_wp2_with fail
        refine bodyPost_ret (v := .tuple #[.slice adr l.length cap, .int .i64 (i : Int), .int .i64 er]) (by simp [results, Try.results23, go_sem]) rfl ⟨.slice adr l.length cap, by rw [HR.out], by rw [HR.out]; exact HO5.out, HB5.out⟩
      · subst h1
        have HR := hid (hE.out.trans (HN.out (fun h => h rfl)))
        have wn : IntKind.i64.wrap ((i : Int) + (n : Int)) = ((i + n : Nat) : Int) := by rw [IntKind.wrap_i64]; omega
        clear hE HX HN hend
        go_wp2_with fail
        (try rw [HE1.out])
        refine (CN.out _).mono ?_; rintro e w5 ⟨rfl, b5⟩
        have HB5 := hid (hnext HB.out b5)
        have HO5 := hid (HO.out.below b5)
        clear b5
        go_wp2_with (at_builtin; refine append_text w5 rfl _ _ rfl w.heap.size _ l rfl HO5.out b _ rfl rfl (by omega) HB5.out.size rfl ?_; intro v2 w7 own2 gr2; have O7 := hid own2; have B7 := hid (Below.grown HB5.out gr2 HB5.out.size (fun q e => (World.ownsRow.lt HO5.out q e).1)); clear own2 gr2)
        go_roundw
        case rel => exact ⟨i + n, f0, l ++ [b], _, by first | rfl | go_num | (refine int_eq ?_; omega), rfl, rfl, by omega, by omega, by simp; omega, HR.out, O7.out, B7.out⟩
        case measure => simp [intOf]; omega
set_option maxRecDepth 100000 in
set_option maxHeartbeats 6400000 in
theorem fsplitR_any (s : ByteArray) (hs : s.size ≤ 1000000) (w : World) : Calls Try.prog 24 #[.string s] w (SplitP s w) := by
  go_enter Try.func24, Try.ntmps24
  go_wp2_with fail
  go_loopw [6, 5] (fun iv lv wr => ∃ (i fu : Nat) (l : List ByteArray) (v : Value), iv = .int .i64 (i : Int) ∧ lv = v ∧ i ≤ s.size ∧ s.size < i + fu ∧ l.length ≤ i ∧ Hid (splitR s = splitF s fu i l) ∧ OwnS wr w.heap.size v l ∧ Below w.heap.size w wr) (fun iv _ _ => s.size - (intOf iv).toNat)
  case atStart => exact ⟨0, s.size + 1, [], _, rfl, rfl, Nat.zero_le _, by omega, Nat.le_refl _, rfl, OwnS.nil _ _, Below.refl _ _⟩
  case round =>
    obtain ⟨i, fu, l, v, rfl, rfl, hi, hfu, hll, hE, hown, hbel⟩ := hrel
    obtain ⟨w4, rfl⟩ : ∃ w4 : World, w4 = wr := ⟨_, rfl⟩
    have hi0 : (0 : Int) ≤ (i : Int) := by omega
    have hi' : (i : Int) ≤ (s.size : Int) := by omega
    have HB := hid hbel
    have HO := hid hown
    clear hbel hown
    obtain ⟨adr, cap, hv⟩ := HO.out.at.slc
    subst hv
    by_cases hend : s.size ≤ i
    · obtain rfl : i = s.size := by omega
      have hq : ((s.size : Int) == (s.size : Int)) = true := by simp
      have HR : Hid (splitR s = (l, s.size, 0)) := hE.out.trans (split_end (Nat.le_refl _))
      clear hE hend
      go_wp2_with fail
      refine bodyPost_ret (v := .tuple #[.slice adr l.length cap, .int .i64 (s.size : Int), .int .i64 0]) (by simp [results, Try.results24, go_sem]) rfl ⟨.slice adr l.length cap, by rw [HR.out], by rw [HR.out]; exact HO.out, HB.out⟩
    · have hq : ((i : Int) == (s.size : Int)) = false := by rw [beq_eq_false_iff_ne]; omega
      have hlt : (i : Int) < (s.size : Int) := by omega
      obtain ⟨f0, rfl⟩ : ∃ f0, fu = f0 + 1 := ⟨fu - 1, by omega⟩
      have hsz : (s.extract i s.size).size = s.size - i := by rw [ByteArray.size_extract]; omega
      have CN := hid (fun W => fnextR_any (s.extract i s.size) (by omega) W)
      have hw := next_ways (s.extract i s.size)
      rw [hsz] at hw
      have HX := hid (split_bad (s := s) (f := f0) (l := l) hend)
      have HN := hid (split_next (s := s) (f := f0) (l := l) hend)
      generalize hE1 : s.extract i s.size = E at *
      have HE1 := hid hE1
      clear hE1 hsz
      generalize nextR E = r at *
      obtain ⟨b, n, er⟩ := r
      simp only at hw HX HN CN
      rcases hw with ⟨h1, _, _⟩ | ⟨h1, h2, h3, _⟩
      · have HR := hid (hE.out.trans (HX.out h1))
        have hne : (er != 0) = true := by rw [bne_iff_ne]; exact h1
        clear hE HX HN h1 hend
        go_wp2_with fail
        (try rw [HE1.out])
        refine (CN.out _).mono ?_; rintro e w5 ⟨rfl, b5⟩
        have HB5 := hid (hnext HB.out b5)
        have HO5 := hid (HO.out.below b5)
        clear b5
        go_wp2_with fail
        refine bodyPost_ret (v := .tuple #[.slice adr l.length cap, .int .i64 (i : Int), .int .i64 er]) (by simp [results, Try.results24, go_sem]) rfl ⟨.slice adr l.length cap, by rw [HR.out], by rw [HR.out]; exact HO5.out, HB5.out⟩
      · subst h1
        have HR := hid (hE.out.trans (HN.out (fun h => h rfl)))
        have wn : IntKind.i64.wrap ((i : Int) + (n : Int)) = ((i + n : Nat) : Int) := by rw [IntKind.wrap_i64]; omega
        clear hE HX HN hend
        go_wp2_with fail
        (try rw [HE1.out])
        refine (CN.out _).mono ?_; rintro e w5 ⟨rfl, b5⟩
        have HB5 := hid (hnext HB.out b5)
        have HO5 := hid (HO.out.below b5)
        clear b5
        go_wp2_with (at_builtin; refine append_text w5 rfl _ _ rfl w.heap.size _ l rfl HO5.out b _ rfl rfl (by omega) HB5.out.size rfl ?_; intro v2 w7 own2 gr2; have O7 := hid own2; have B7 := hid (Below.grown HB5.out gr2 HB5.out.size (fun q e => (World.ownsRow.lt HO5.out q e).1)); clear own2 gr2)
        go_roundw
        case rel => exact ⟨i + n, f0, l ++ [b], _, by first | rfl | go_num | (refine int_eq ?_; omega), rfl, by omega, by omega, by simp; omega, HR.out, O7.out, B7.out⟩
        case measure => simp [intOf]; omega
set_option maxRecDepth 100000 in
set_option maxHeartbeats 6400000 in
theorem ftexts_any (va vb : Value) (a b : List ByteArray) (w : World) (h1 : SsAt w va a) (h2 : SsAt w vb b) (hl : a.length ≤ 1000000) (hr : b.length ≤ 1000000) : Calls Try.prog 27 #[va, vb] w fun e w' => e = .returned (.bool (decide (a = b))) ∧ Below w.heap.size w w' := by
  obtain ⟨adr, cap, rfl, hc⟩ := h1
  obtain ⟨badr, bcap, rfl, hd⟩ := h2
  have HC := hid hc
  have HD := hid hd
  clear hc hd
  by_cases hlen : a.length = b.length
  case neg =>
    have hne : ((a.length : Int) != (b.length : Int)) = true := by rw [bne_iff_ne]; omega
    have HR : Hid (decide (a = b) = false) := decide_eq_false (fun e => hlen (by rw [e]))
    clear hlen
    go_enter Try.func27, Try.ntmps27
    go_wp2_with fail
    go_ret
    rw [HR.out]
    exact ⟨rfl, Below.refl _ _⟩
  have hne : ((a.length : Int) != (b.length : Int)) = false := by rw [hlen]; simp
  have HLN := hid hlen
  clear hlen
  go_enter Try.func27, Try.ntmps27
  go_wp2_with fail
  go_loopw [5] (fun i wr => ∃ k : Nat, k ≤ a.length ∧ i = .int .i64 (k : Int) ∧ Hid (a.take k = b.take k) ∧ Below w.heap.size w wr) (fun i _ => a.length - (intOf i).toNat)
  case atStart => exact ⟨0, by omega, rfl, rfl, Below.refl _ _⟩
  case round =>
    obtain ⟨k, hk, rfl, htk, hbel⟩ := hrel
    obtain ⟨w4, rfl⟩ : ∃ w4 : World, w4 = wr := ⟨_, rfl⟩
    have hk0 : (0 : Int) ≤ (k : Int) := by omega
    by_cases hkl : k < a.length
    · have hkl' : (k : Int) < (a.length : Int) := by omega
      have hkb : k < b.length := by have := HLN.out; omega
      have hkb' : (k : Int) < (b.length : Int) := by omega
      obtain ⟨g, off, rfl, q0⟩ := HC.out k hkl
      obtain ⟨g', off', rfl, r0⟩ := HD.out k hkb
      replace q0 := hkeep q0 hbel
      replace r0 := hkeep r0 hbel
      have HSN := hid (take_eq_snoc hkl HLN.out htk.out)
      have HNE : Hid (a[k] ≠ b[k] → decide (a = b) = false) := fun h => decide_eq_false (fun e => by subst e; exact h rfl)
      generalize a[k] = x at q0 HSN HNE
      generalize b[k] = y at r0 HSN HNE
      have hxy : (x.toList == y.toList) = decide (x = y) := bytes_beq x y
      clear htk
      go_wp2_with fail
      obtain ⟨w20, hw20⟩ : ∃ w20, (w4).drew = w20 := ⟨_, rfl⟩
      have hd20 : Below (w4).heap.size (w4) w20 := hw20 ▸ (Below.refl _ _).drew
      have B20 := hid (hnext hbel hd20)
      replace q0 := hkeep q0 hd20
      replace r0 := hkeep r0 hd20
      have mk20 : ∀ W, Below w20.heap.size w20 W → Below w20.heap.size w20 W ∧ W.cell? ⟨g, off + k, none⟩ = some (.string x) ∧ W.cell? ⟨g', off' + k, none⟩ = some (.string y) := fun W h => ⟨h, hkeep q0 h, hkeep r0 h⟩
      clear q0 r0 hbel
      by_cases he : x = y
      · have hq : (x.toList == y.toList) = true := hxy.trans (decide_eq_true he)
        have HS := hid (HSN.out he)
        clear hxy HSN HNE he
        refine wp_region_held_drew (S := (fun W => Below w20.heap.size w20 W ∧ W.cell? ⟨g, off + k, none⟩ = some (.string x) ∧ W.cell? ⟨g', off' + k, none⟩ = some (.string y))) (by kernel_rfl) (by rw [hw20]; exact mk20 _ (Below.refl _ _)) (fun hS20 => ?_)
        rw [hw20] at hS20 ⊢
        clear hw20
        refine wpAnyH_take (i := 0) (oi := ({ dst := some 17, op := Op.move (Operand.tmp 0), type := 42, pos := "ref.go:179", after := #[], guard := none } : Oper)) (v := ?_) rfl (by kernel_rfl) (by kernel_rfl) (by kernel_rfl) (fun _ _ _ h => h) (Or.inl ⟨by rfl, ?_⟩) hS20 ?_
        rotate_left
        · intro w hSw; (try dsimp only at hSw); go_simp; (try with_reducible rfl)
        simp only [Act.put, List.setIfInBounds_toArray, List.set_cons_zero, List.set_cons_succ]
        refine wpAnyH_take (i := 1) (oi := ({ dst := some 18, op := Op.move (Operand.tmp 5), type := 3, pos := "ref.go:179", after := #[], guard := none } : Oper)) (v := ?_) rfl (by kernel_rfl) (by kernel_rfl) (by kernel_rfl) (fun _ _ _ h => h) (Or.inl ⟨by rfl, ?_⟩) hS20 ?_
        rotate_left
        · intro w hSw; (try dsimp only at hSw); go_simp; (try with_reducible rfl)
        simp only [Act.put, List.setIfInBounds_toArray, List.set_cons_zero, List.set_cons_succ]
        refine wpAnyH_take (i := 2) (oi := ({ dst := some 19, op := Op.indexAddr 42 (Operand.tmp 17) (Operand.tmp 18), type := 0, pos := "ref.go:179", after := #[{ on := 0, ground := Ground.data }, { on := 1, ground := Ground.data }], guard := none } : Oper)) (v := ?_) rfl (by kernel_rfl) (by kernel_rfl) (by kernel_rfl) (fun _ _ _ h => h) (Or.inl ⟨by rfl, ?_⟩) hS20 ?_
        rotate_left
        · intro w hSw; (try dsimp only at hSw); go_simp; (try with_reducible rfl)
        simp only [Act.put, List.setIfInBounds_toArray, List.set_cons_zero, List.set_cons_succ]
        refine wpAnyH_take (i := 3) (oi := ({ dst := some 20, op := Op.load 9 (Operand.tmp 19), type := 9, pos := "ref.go:179", after := #[{ on := 2, ground := Ground.data }], guard := none } : Oper)) (v := ?_) rfl (by kernel_rfl) (by kernel_rfl) (by kernel_rfl) (fun _ _ _ h => h) (Or.inl ⟨by rfl, ?_⟩) hS20 ?_
        rotate_left
        · intro w hSw; (try dsimp only at hSw); go_simp; (try with_reducible rfl)
        simp only [Act.put, List.setIfInBounds_toArray, List.set_cons_zero, List.set_cons_succ]
        refine wpAnyH_take (i := 4) (oi := ({ dst := some 21, op := Op.move (Operand.tmp 1), type := 42, pos := "ref.go:179", after := #[], guard := none } : Oper)) (v := ?_) rfl (by kernel_rfl) (by kernel_rfl) (by kernel_rfl) (fun _ _ _ h => h) (Or.inl ⟨by rfl, ?_⟩) hS20 ?_
        rotate_left
        · intro w hSw; (try dsimp only at hSw); go_simp; (try with_reducible rfl)
        simp only [Act.put, List.setIfInBounds_toArray, List.set_cons_zero, List.set_cons_succ]
        refine wpAnyH_take (i := 5) (oi := ({ dst := some 22, op := Op.move (Operand.tmp 5), type := 3, pos := "ref.go:179", after := #[], guard := none } : Oper)) (v := ?_) rfl (by kernel_rfl) (by kernel_rfl) (by kernel_rfl) (fun _ _ _ h => h) (Or.inl ⟨by rfl, ?_⟩) hS20 ?_
        rotate_left
        · intro w hSw; (try dsimp only at hSw); go_simp; (try with_reducible rfl)
        simp only [Act.put, List.setIfInBounds_toArray, List.set_cons_zero, List.set_cons_succ]
        refine wpAnyH_take (i := 6) (oi := ({ dst := some 23, op := Op.indexAddr 42 (Operand.tmp 21) (Operand.tmp 22), type := 0, pos := "ref.go:179", after := #[{ on := 4, ground := Ground.data }, { on := 5, ground := Ground.data }], guard := none } : Oper)) (v := ?_) rfl (by kernel_rfl) (by kernel_rfl) (by kernel_rfl) (fun _ _ _ h => h) (Or.inl ⟨by rfl, ?_⟩) hS20 ?_
        rotate_left
        · intro w hSw; (try dsimp only at hSw); go_simp; (try with_reducible rfl)
        simp only [Act.put, List.setIfInBounds_toArray, List.set_cons_zero, List.set_cons_succ]
        refine wpAnyH_take (i := 7) (oi := ({ dst := some 24, op := Op.load 9 (Operand.tmp 23), type := 9, pos := "ref.go:179", after := #[{ on := 6, ground := Ground.data }], guard := none } : Oper)) (v := ?_) rfl (by kernel_rfl) (by kernel_rfl) (by kernel_rfl) (fun _ _ _ h => h) (Or.inl ⟨by rfl, ?_⟩) hS20 ?_
        rotate_left
        · intro w hSw; (try dsimp only at hSw); go_simp; (try with_reducible rfl)
        simp only [Act.put, List.setIfInBounds_toArray, List.set_cons_zero, List.set_cons_succ]
        refine wpAnyH_take (i := 8) (oi := ({ dst := some 25, op := Op.binOp BinOp.neq 9 (Operand.tmp 20) (Operand.tmp 24) 9, type := 4, pos := "ref.go:179", after := #[{ on := 3, ground := Ground.data }, { on := 7, ground := Ground.data }], guard := none } : Oper)) (v := ?_) rfl (by kernel_rfl) (by kernel_rfl) (by kernel_rfl) (fun _ _ _ h => h) (Or.inl ⟨by rfl, ?_⟩) hS20 ?_
        rotate_left
        · intro w hSw; (try dsimp only at hSw); go_simp; (try with_reducible rfl)
        simp only [Act.put, List.setIfInBounds_toArray, List.set_cons_zero, List.set_cons_succ]
        refine wpAnyH_done (by kernel_rfl) ?_ _
        go_wp2_with fail
        go_roundw
        case rel => exact ⟨k + 1, by omega, by first | rfl | go_num, HS.out, hnext B20.out hS20.1⟩
        case measure => simp [intOf]; omega
      · have hq : (x.toList == y.toList) = false := hxy.trans (decide_eq_false he)
        have HR := hid (HNE.out he)
        clear hxy HSN HNE he
        refine wp_region_held_drew (S := (fun W => Below w20.heap.size w20 W ∧ W.cell? ⟨g, off + k, none⟩ = some (.string x) ∧ W.cell? ⟨g', off' + k, none⟩ = some (.string y))) (by kernel_rfl) (by rw [hw20]; exact mk20 _ (Below.refl _ _)) (fun hS20 => ?_)
        rw [hw20] at hS20 ⊢
        clear hw20
        refine wpAnyH_take (i := 0) (oi := ({ dst := some 17, op := Op.move (Operand.tmp 0), type := 42, pos := "ref.go:179", after := #[], guard := none } : Oper)) (v := ?_) rfl (by kernel_rfl) (by kernel_rfl) (by kernel_rfl) (fun _ _ _ h => h) (Or.inl ⟨by rfl, ?_⟩) hS20 ?_
        rotate_left
        · intro w hSw; (try dsimp only at hSw); go_simp; (try with_reducible rfl)
        simp only [Act.put, List.setIfInBounds_toArray, List.set_cons_zero, List.set_cons_succ]
        refine wpAnyH_take (i := 1) (oi := ({ dst := some 18, op := Op.move (Operand.tmp 5), type := 3, pos := "ref.go:179", after := #[], guard := none } : Oper)) (v := ?_) rfl (by kernel_rfl) (by kernel_rfl) (by kernel_rfl) (fun _ _ _ h => h) (Or.inl ⟨by rfl, ?_⟩) hS20 ?_
        rotate_left
        · intro w hSw; (try dsimp only at hSw); go_simp; (try with_reducible rfl)
        simp only [Act.put, List.setIfInBounds_toArray, List.set_cons_zero, List.set_cons_succ]
        refine wpAnyH_take (i := 2) (oi := ({ dst := some 19, op := Op.indexAddr 42 (Operand.tmp 17) (Operand.tmp 18), type := 0, pos := "ref.go:179", after := #[{ on := 0, ground := Ground.data }, { on := 1, ground := Ground.data }], guard := none } : Oper)) (v := ?_) rfl (by kernel_rfl) (by kernel_rfl) (by kernel_rfl) (fun _ _ _ h => h) (Or.inl ⟨by rfl, ?_⟩) hS20 ?_
        rotate_left
        · intro w hSw; (try dsimp only at hSw); go_simp; (try with_reducible rfl)
        simp only [Act.put, List.setIfInBounds_toArray, List.set_cons_zero, List.set_cons_succ]
        refine wpAnyH_take (i := 3) (oi := ({ dst := some 20, op := Op.load 9 (Operand.tmp 19), type := 9, pos := "ref.go:179", after := #[{ on := 2, ground := Ground.data }], guard := none } : Oper)) (v := ?_) rfl (by kernel_rfl) (by kernel_rfl) (by kernel_rfl) (fun _ _ _ h => h) (Or.inl ⟨by rfl, ?_⟩) hS20 ?_
        rotate_left
        · intro w hSw; (try dsimp only at hSw); go_simp; (try with_reducible rfl)
        simp only [Act.put, List.setIfInBounds_toArray, List.set_cons_zero, List.set_cons_succ]
        refine wpAnyH_take (i := 4) (oi := ({ dst := some 21, op := Op.move (Operand.tmp 1), type := 42, pos := "ref.go:179", after := #[], guard := none } : Oper)) (v := ?_) rfl (by kernel_rfl) (by kernel_rfl) (by kernel_rfl) (fun _ _ _ h => h) (Or.inl ⟨by rfl, ?_⟩) hS20 ?_
        rotate_left
        · intro w hSw; (try dsimp only at hSw); go_simp; (try with_reducible rfl)
        simp only [Act.put, List.setIfInBounds_toArray, List.set_cons_zero, List.set_cons_succ]
        refine wpAnyH_take (i := 5) (oi := ({ dst := some 22, op := Op.move (Operand.tmp 5), type := 3, pos := "ref.go:179", after := #[], guard := none } : Oper)) (v := ?_) rfl (by kernel_rfl) (by kernel_rfl) (by kernel_rfl) (fun _ _ _ h => h) (Or.inl ⟨by rfl, ?_⟩) hS20 ?_
        rotate_left
        · intro w hSw; (try dsimp only at hSw); go_simp; (try with_reducible rfl)
        simp only [Act.put, List.setIfInBounds_toArray, List.set_cons_zero, List.set_cons_succ]
        refine wpAnyH_take (i := 6) (oi := ({ dst := some 23, op := Op.indexAddr 42 (Operand.tmp 21) (Operand.tmp 22), type := 0, pos := "ref.go:179", after := #[{ on := 4, ground := Ground.data }, { on := 5, ground := Ground.data }], guard := none } : Oper)) (v := ?_) rfl (by kernel_rfl) (by kernel_rfl) (by kernel_rfl) (fun _ _ _ h => h) (Or.inl ⟨by rfl, ?_⟩) hS20 ?_
        rotate_left
        · intro w hSw; (try dsimp only at hSw); go_simp; (try with_reducible rfl)
        simp only [Act.put, List.setIfInBounds_toArray, List.set_cons_zero, List.set_cons_succ]
        refine wpAnyH_take (i := 7) (oi := ({ dst := some 24, op := Op.load 9 (Operand.tmp 23), type := 9, pos := "ref.go:179", after := #[{ on := 6, ground := Ground.data }], guard := none } : Oper)) (v := ?_) rfl (by kernel_rfl) (by kernel_rfl) (by kernel_rfl) (fun _ _ _ h => h) (Or.inl ⟨by rfl, ?_⟩) hS20 ?_
        rotate_left
        · intro w hSw; (try dsimp only at hSw); go_simp; (try with_reducible rfl)
        simp only [Act.put, List.setIfInBounds_toArray, List.set_cons_zero, List.set_cons_succ]
        refine wpAnyH_take (i := 8) (oi := ({ dst := some 25, op := Op.binOp BinOp.neq 9 (Operand.tmp 20) (Operand.tmp 24) 9, type := 4, pos := "ref.go:179", after := #[{ on := 3, ground := Ground.data }, { on := 7, ground := Ground.data }], guard := none } : Oper)) (v := ?_) rfl (by kernel_rfl) (by kernel_rfl) (by kernel_rfl) (fun _ _ _ h => h) (Or.inl ⟨by rfl, ?_⟩) hS20 ?_
        rotate_left
        · intro w hSw; (try dsimp only at hSw); go_simp; (try with_reducible rfl)
        simp only [Act.put, List.setIfInBounds_toArray, List.set_cons_zero, List.set_cons_succ]
        refine wpAnyH_done (by kernel_rfl) ?_ _
        go_wp2_with fail
        go_ret
        rw [HR.out]
        exact ⟨rfl, hnext B20.out hS20.1⟩
    · obtain rfl : k = a.length := by omega
      have HR : Hid (decide (a = b) = true) := by
        have h := htk.out
        rw [List.take_length, List.take_of_length_le (by have := HLN.out; omega)] at h
        exact decide_eq_true h
      clear htk hkl
      go_wp2_with fail
      go_ret
      rw [HR.out]
      exact ⟨rfl, hbel⟩
end Go.Proofs.Ytmmegicaeaifaaa
