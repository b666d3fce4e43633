/-
  Right of schema: its contract. Condition: the texts have at most 2^63 - 1 bytes.
-/
import Derived.Test.YtmgafcblbbbanaaScS
import Derived.Maps.OwnOps
import Derived.Maps.Views
namespace Go.Proofs.Ytmgafcblbbbanaa
open Go.RowKit Go.Maps

theorem law_str : Keyed Try.prog 9 := string_keyed Try.underlying9
theorem zero_int (w : World) : (zeroValue 3).run Try.prog w = .ok (.int .i64 0) w := by kernel_rfl
/-- a map of the call's own: which names it has, each with 1 -/
def HadAt (w : World) (b n : Nat) (had : ByteArray → Bool) : Prop :=
  ∃ D : DataW Unit, w.ownsMap Try.prog 9 (plainElem Try.prog 3) b n D ∧ IsMap D ∧ ∀ s : ByteArray, D.atKey (.string s.data.toList) (.lit (.int .i64 0)) = .lit (.int .i64 (if had s = true then 1 else 0))
theorem HadAt.made (w : World) : HadAt (w.alloc (.map #[] 0)) w.heap.size 0 (fun _ => false) := ⟨.map [], World.ownsMap_made _ _ _ _, ⟨[], rfl⟩, fun _ => rfl⟩
theorem HadAt.below {w w' : World} {b n : Nat} {had : ByteArray → Bool} (h : HadAt w b n had) (hb : Below w.heap.size w w') : HadAt w' b n had := by
  obtain ⟨D, h1, h2, h3⟩ := h
  refine ⟨D, h1.kept (row := none) ⟨hb.os, hb.tape, hb.output, hb.size, fun i hi _ => hb.block i hi⟩ (by simp), h2, h3⟩
theorem HadAt.lt {w : World} {b n : Nat} {had : ByteArray → Bool} (h : HadAt w b n had) : b < w.heap.size := by
  obtain ⟨D, h1, _⟩ := h
  exact h1.lt
theorem HadAt.look {w : World} {b n : Nat} {had : ByteArray → Bool} (h : HadAt w b n had) (s : ByteArray) (hs : s.size ≤ maxLen) :
    (Instr.lookup 51 (.map (some b)) (.string s) false).run Try.prog w = .ok (.int .i64 (if had s = true then 1 else 0)) w := by
  obtain ⟨D, h1, h2, h3⟩ := h
  obtain ⟨c, hrun, hat, _⟩ := h1.lookup_int law_str Try.underlying51 Try.underlying3 (zero_int w) (Go.WideMaps.keyOf_string_mk Try.underlying9 hs)
  rw [h3 s] at hat
  rw [hrun]
  simp at hat
  rw [hat]
theorem had_put (w : World) {ops : Array Oper} {rest : List Oper} {o : Oper} {a : Act} {Q : Exit → Act → World → Prop} (hg : o.guard = none) (m x v : Operand) (hop : o.op = .mapUpdate 51 m x v)
    (b n : Nat) (had : ByteArray → Bool) (hm : a.eval m = .map (some b)) (h : HadAt w b n had) (hn : n < maxLen) (s : ByteArray) (hs : s.size ≤ maxLen) (hx : a.eval x = .string s) (hv : a.eval v = .int .i64 1)
    (hK : ∀ w', HadAt w' b (n + 1) (fun t => had t || decide (s = t)) → w.grownBy w' (some b) → wpList Try.prog ops Q rest (a.put o.dst undef) w') : wpList Try.prog ops Q (o :: rest) a w := by
  obtain ⟨D, h1, h2, h3⟩ := h
  refine wpList_mapUpdate_own w hg m x v 51 hop 9 3 law_str Try.underlying51 _ b n D hm h1 hn _ _ _ hx hv (Go.WideMaps.keyOf_string_mk Try.underlying9 hs) _ [] (plainElem_int Try.underlying3 (by decide)) ?_
  intro w' hown hgrow
  refine hK w' ⟨_, hown, ?_, ?_⟩ hgrow
  · obtain ⟨es, rfl⟩ := h2
    exact ⟨_, rfl⟩
  · intro t
    by_cases e : s = t
    · subst e
      rw [atKey_put_same h2 (k := .string s.data.toList) trivial, if_pos (by simp)]
    · rw [atKey_put_other (fun hh => e (ByteArray.ext (Array.ext' (by injection hh with hh; exact hh.symm)))), h3 t]
      simp [e]
theorem HadAt.congr {w : World} {b n : Nat} {had had' : ByteArray → Bool} (h : HadAt w b n had) (he : ∀ t, had t = had' t) : HadAt w b n had' := by
  obtain ⟨D, h1, h2, h3⟩ := h
  exact ⟨D, h1, h2, fun s => by rw [h3 s, he s]⟩
/-- a column in a block of its own -/
def BC (w : World) (g : Nat) (c : Sc.C) : Prop := w.heap[g]? = some (.cells #[.string c.name, .int .i64 c.kind, .bool c.need] 49 (0, 0))
theorem BC.cells {w : World} {g : Nat} {c : Sc.C} (h : BC w g c) : w.cell? ⟨g, 0, none⟩ = some (.string c.name) ∧ w.cell? ⟨g, 1, none⟩ = some (.int .i64 c.kind) ∧ w.cell? ⟨g, 2, none⟩ = some (.bool c.need) ∧ g < w.heap.size :=
  ⟨cell_of_row w g 0 _ _ _ h, cell_of_row w g 1 _ _ _ h, cell_of_row w g 2 _ _ _ h, (Array.getElem?_eq_some_iff.1 h).1⟩
theorem BC.keep {w w' : World} {g : Nat} {c : Sc.C} (h : BC w g c) (hb : Below w.heap.size w w') : BC w' g c := keepBlock h hb
theorem BC.new (w : World) (c : Sc.C) : BC (w.alloc (.cells #[.string c.name, .int .i64 c.kind, .bool c.need] 49)) w.heap.size c := heap_alloc_new w _
/-- a schema in a block of its own -/
def BS (w : World) (g : Nat) (n : ByteArray) (v : Value) (k : Int) : Prop := w.heap[g]? = some (.cells #[.string n, v, .int .i64 k] 24 (0, 0))
theorem BS.cells {w : World} {g : Nat} {n : ByteArray} {v : Value} {k : Int} (h : BS w g n v k) : w.cell? ⟨g, 0, none⟩ = some (.string n) ∧ w.cell? ⟨g, 1, none⟩ = some v ∧ w.cell? ⟨g, 2, none⟩ = some (.int .i64 k) ∧ g < w.heap.size :=
  ⟨cell_of_row w g 0 _ _ _ h, cell_of_row w g 1 _ _ _ h, cell_of_row w g 2 _ _ _ h, (Array.getElem?_eq_some_iff.1 h).1⟩
theorem BS.keep {w w' : World} {g : Nat} {n : ByteArray} {v : Value} {k : Int} (h : BS w g n v k) (hb : Below w.heap.size w w') : BS w' g n v k := keepBlock h hb
theorem BS.new (w : World) (n : ByteArray) (v : Value) (k : Int) : BS (w.alloc (.cells #[.string n, v, .int .i64 k] 24)) w.heap.size n v k := heap_alloc_new w _
/-- why a column is not right, or that it is -/
theorem col_ways (keys : Int) (l : List Sc.C) (i : Nat) (c : Sc.C) :
    ((Sc.colOk keys i c && Sc.fresh l i c.name) = false ∧ (Sc.nameB c.name = false ∨ (Sc.nameB c.name = true ∧ (Sc.fresh l i c.name = false ∨ (Sc.fresh l i c.name = true ∧ (c.kind < 1 ∨ (1 ≤ c.kind ∧ (5 < c.kind ∨ (c.kind ≤ 5 ∧ (i : Int) < keys ∧ c.need = false)))))))))
    ∨ ((Sc.colOk keys i c && Sc.fresh l i c.name) = true ∧ Sc.nameB c.name = true ∧ Sc.fresh l i c.name = true ∧ 1 ≤ c.kind ∧ c.kind ≤ 5 ∧ (keys ≤ (i : Int) ∨ ((i : Int) < keys ∧ c.need = true))) := by
  unfold Sc.colOk
  cases h1 : Sc.nameB c.name
  · exact .inl ⟨by simp, .inl rfl⟩
  cases h2 : Sc.fresh l i c.name
  · exact .inl ⟨by simp, .inr ⟨rfl, .inl rfl⟩⟩
  by_cases h3 : c.kind < 1
  · exact .inl ⟨by rw [decide_eq_false (show ¬ 1 ≤ c.kind by omega)]; simp, .inr ⟨rfl, .inr ⟨rfl, .inl h3⟩⟩⟩
  by_cases h4 : 5 < c.kind
  · exact .inl ⟨by rw [decide_eq_false (show ¬ c.kind ≤ 5 by omega)]; simp, .inr ⟨rfl, .inr ⟨rfl, .inr ⟨by omega, .inl h4⟩⟩⟩⟩
  by_cases h5 : keys ≤ (i : Int)
  · exact .inr ⟨by rw [decide_eq_true (show 1 ≤ c.kind by omega), decide_eq_true (show c.kind ≤ 5 by omega), decide_eq_true h5]; rfl, rfl, rfl, by omega, by omega, .inl h5⟩
  cases h6 : c.need
  · exact .inl ⟨by rw [decide_eq_false h5]; simp, .inr ⟨rfl, .inr ⟨rfl, .inr ⟨by omega, .inr ⟨by omega, by omega, rfl⟩⟩⟩⟩⟩
  · exact .inr ⟨by rw [decide_eq_true (show 1 ≤ c.kind by omega), decide_eq_true (show c.kind ≤ 5 by omega)]; simp, rfl, rfl, by omega, by omega, .inr ⟨by omega, rfl⟩⟩
/-- why a schema is not right at once, or that its columns are to be asked -/
theorem head_ways (s : Sc.S) : (Sc.right s = false ∧ (Sc.nameB s.name = false ∨ (Sc.nameB s.name = true ∧ (16 < s.cols.length ∨ (s.cols.length ≤ 16 ∧ (s.keys < 1 ∨ (1 ≤ s.keys ∧ (8 < s.keys ∨ (s.keys ≤ 8 ∧ (s.cols.length : Int) < s.keys))))))))) ∨
    (Sc.nameB s.name = true ∧ s.cols.length ≤ 16 ∧ 1 ≤ s.keys ∧ s.keys ≤ 8 ∧ s.keys ≤ (s.cols.length : Int) ∧ Sc.right s = Sc.goodTo s s.cols.length) := by
  unfold Sc.right
  cases h1 : Sc.nameB s.name
  · exact .inl ⟨by simp, .inl rfl⟩
  by_cases h2 : 16 < s.cols.length
  · exact .inl ⟨by rw [decide_eq_false (show ¬ s.cols.length ≤ 16 by omega)]; simp, .inr ⟨rfl, .inl h2⟩⟩
  by_cases h3 : s.keys < 1
  · exact .inl ⟨by rw [decide_eq_false (show ¬ 1 ≤ s.keys by omega)]; simp, .inr ⟨rfl, .inr ⟨by omega, .inl h3⟩⟩⟩
  by_cases h4 : 8 < s.keys
  · exact .inl ⟨by rw [decide_eq_false (show ¬ s.keys ≤ 8 by omega)]; simp, .inr ⟨rfl, .inr ⟨by omega, .inr ⟨by omega, .inl h4⟩⟩⟩⟩
  by_cases h5 : (s.cols.length : Int) < s.keys
  · exact .inl ⟨by rw [decide_eq_false (show ¬ s.keys ≤ (s.cols.length : Int) by omega)]; simp, .inr ⟨rfl, .inr ⟨by omega, .inr ⟨by omega, .inr ⟨by omega, h5⟩⟩⟩⟩⟩
  · exact .inr ⟨rfl, by omega, by omega, by omega, by omega, by rw [decide_eq_true (show s.cols.length ≤ 16 by omega), decide_eq_true (show 1 ≤ s.keys by omega), decide_eq_true (show s.keys ≤ 8 by omega), decide_eq_true (show s.keys ≤ (s.cols.length : Int) by omega)]; simp⟩
set_option maxRecDepth 100000 in
set_option maxHeartbeats 12800000 in
theorem right_sc (s : Sc.S) (v : Value) (w : World) (h : CsAt w v s.cols) (hsz : Sok s) :
    Calls Try.prog 11 #[sv s v] w fun e w' => e = .returned (.bool (Sc.right s)) ∧ Below w.heap.size w w' := by
  obtain ⟨adr, cap, rfl, hc1, hc2, hc⟩ := h
  have HC := hid hc
  unfold maxLen at hc2
  clear hc
  have hways := head_ways s
  have hno : Hid (∀ k (hk : k < s.cols.length), (Sc.colOk s.keys k s.cols[k] && Sc.fresh s.cols k s.cols[k].name) = false → Sc.right s = false) := fun k hk h => Sc.right_no hk h
  have hgo : Hid (∀ k (hk : k < s.cols.length), Sc.goodTo s (k + 1) = (Sc.goodTo s k && (Sc.colOk s.keys k s.cols[k] && Sc.fresh s.cols k s.cols[k].name))) := fun k hk => Sc.goodTo_succ s k hk
  have hg0 : Hid (Sc.goodTo s 0 = true) := rfl
  obtain ⟨hsz1, hsz2⟩ := hsz
  have HSZ := hid hsz2
  clear hsz2
  have hn := hid (fun W => name_any s.name hsz1 W)
  generalize Sc.right s = R at hways hno ⊢
  generalize Sc.goodTo s = G at hways hgo hg0
  unfold sv
  obtain ⟨nm, cs, ks⟩ := s
  simp only at hc1 HC hways hno hgo hsz1 HSZ hn ⊢
  rcases hways with ⟨hF, hw⟩ | ⟨h1, h2, h3, h4, h5, hG⟩
  · have HF := hid hF
    clear hF hno hgo hg0
    rcases hw with h1 | ⟨h1, hw⟩
    · rw [h1] at hn
      clear h1
      go_enter Try.func11, Try.ntmps11
      go_wp2_with fail
      refine (hn.out _).mono ?_; rintro e w1 ⟨rfl, hb1⟩
      have hS1 := (BS.new w nm (.slice adr cs.length cap) ks).keep hb1
      have hB1 := hnext (hba w (.cells #[.string nm, .slice adr cs.length cap, .int .i64 ks] 24)) hb1
      obtain ⟨s0, s1, s2, sl⟩ := hS1.cells
      go_wp2_with fail
      go_ret
      rw [HF.out]
      exact ⟨rfl, hB1⟩
    rw [h1] at hn
    clear h1
    rcases hw with h2 | ⟨h2, hw⟩
    · have h2' : (16 : Int) < (cs.length : Int) := by omega
      go_enter Try.func11, Try.ntmps11
      go_wp2_with fail
      refine (hn.out _).mono ?_; rintro e w1 ⟨rfl, hb1⟩
      have hS1 := (BS.new w nm (.slice adr cs.length cap) ks).keep hb1
      have hB1 := hnext (hba w (.cells #[.string nm, .slice adr cs.length cap, .int .i64 ks] 24)) hb1
      obtain ⟨s0, s1, s2, sl⟩ := hS1.cells
      go_wp2_with fail
      go_ret
      rw [HF.out]
      exact ⟨rfl, hB1⟩
    have h2' : ¬ (16 : Int) < (cs.length : Int) := by omega
    rcases hw with h3 | ⟨h3, hw⟩
    · skip
      go_enter Try.func11, Try.ntmps11
      go_wp2_with fail
      refine (hn.out _).mono ?_; rintro e w1 ⟨rfl, hb1⟩
      have hS1 := (BS.new w nm (.slice adr cs.length cap) ks).keep hb1
      have hB1 := hnext (hba w (.cells #[.string nm, .slice adr cs.length cap, .int .i64 ks] 24)) hb1
      obtain ⟨s0, s1, s2, sl⟩ := hS1.cells
      go_wp2_with fail
      go_ret
      rw [HF.out]
      exact ⟨rfl, hB1⟩
    have h3' : ¬ ks < 1 := by omega
    by_cases h8 : (cs.length : Int) < 8
    · have h9 : (cs.length : Int) < ks := by omega
      go_enter Try.func11, Try.ntmps11
      go_wp2_with fail
      refine (hn.out _).mono ?_; rintro e w1 ⟨rfl, hb1⟩
      have hS1 := (BS.new w nm (.slice adr cs.length cap) ks).keep hb1
      have hB1 := hnext (hba w (.cells #[.string nm, .slice adr cs.length cap, .int .i64 ks] 24)) hb1
      obtain ⟨s0, s1, s2, sl⟩ := hS1.cells
      go_wp2_with fail
      go_ret
      rw [HF.out]
      exact ⟨rfl, hB1⟩
    · have h9 : 8 < ks := by omega
      go_enter Try.func11, Try.ntmps11
      go_wp2_with fail
      refine (hn.out _).mono ?_; rintro e w1 ⟨rfl, hb1⟩
      have hS1 := (BS.new w nm (.slice adr cs.length cap) ks).keep hb1
      have hB1 := hnext (hba w (.cells #[.string nm, .slice adr cs.length cap, .int .i64 ks] 24)) hb1
      obtain ⟨s0, s1, s2, sl⟩ := hS1.cells
      go_wp2_with fail
      go_ret
      rw [HF.out]
      exact ⟨rfl, hB1⟩
  · rw [h1] at hn
    clear h1
    have h2' : ¬ (16 : Int) < (cs.length : Int) := by omega
    have h3' : ¬ ks < 1 := by omega
    have h4' : ¬ 8 < ks := by omega
    have h5' : ¬ (cs.length : Int) < ks := by omega
    have HG := hid hG
    have hmm := @run_makeMap Try.prog
    clear hG h5
    by_cases h8 : (cs.length : Int) < 8
    all_goals
      go_enter Try.func11, Try.ntmps11
      go_wp2_with fail
      refine (hn.out _).mono ?_; rintro e w1 ⟨rfl, hb1⟩
      have hS1 := (BS.new w nm (.slice adr cs.length cap) ks).keep hb1
      have hB1 := hnext (hba w (.cells #[.string nm, .slice adr cs.length cap, .int .i64 ks] 24)) hb1
      obtain ⟨s0, s1, s2, sl⟩ := hS1.cells
      go_wp2_with fail
      have hM0 := HadAt.made w1
      have hS2 := hS1.keep (hba w1 (.map #[] 0))
      have hB2 := hnext hB1 (hba w1 (.map #[] 0))
      have hMb0 := hB1.size
      have hMb1 := sl
      clear hB1 hS1 hb1 s0 s1 s2 sl
      generalize w1.heap.size = mb at hM0 hMb0 hMb1 ⊢
      generalize w1.alloc (.map #[] 0) = w2 at *
      clear hmm
      go_loopw [34] (fun q wr => ∃ k : Nat, k ≤ cs.length ∧ q = .int .i64 (k : Int) ∧ Hid (G k = true) ∧ HadAt wr mb k (fun t => !Sc.fresh cs k t) ∧ BS wr w.heap.size nm (.slice adr cs.length cap) ks ∧ Below w.heap.size w wr) (fun q _ => cs.length - (intOf q).toNat)
      case atStart => exact ⟨0, by omega, rfl, hg0, hM0.congr (fun t => by rw [Sc.fresh_zero]; rfl), hS2, hB2⟩
      case round =>
        obtain ⟨k, hk, rfl, hGk, hM, hS, hB⟩ := hrel
        clear hM0 hS2 hB2
        obtain ⟨w4, rfl⟩ : ∃ w4 : World, w4 = wr := ⟨_, rfl⟩
        obtain ⟨s0, s1, s2, sl⟩ := hS.cells
        have hk0 : (0 : Int) ≤ (k : Int) := by omega
        by_cases hlk : k < cs.length
        · have hlk' : (k : Int) < (cs.length : Int) := by omega
          obtain ⟨g, off, rfl, q0, q1, q2⟩ := HC.out k hlk
          replace q0 := hkeep q0 hB
          replace q1 := hkeep q1 hB
          replace q2 := hkeep q2 hB
          have HN2 := hid (hno.out k hlk)
          have HG2 := hid (hgo.out k hlk)
          have hcw := col_ways ks cs k cs[k]
          have hfs := hid (fun t => Sc.fresh_succ cs k t hlk)
          have hcs := HSZ.out _ (List.getElem_mem hlk)
          have hnc := hid (fun W => name_any cs[k].name hcs W)
          generalize cs[k] = c at q0 q1 q2 HN2 HG2 hcw hfs hcs hnc
          have hnew := BC.new w4 c
          have hMa := hM.below (hba w4 (.cells #[.string c.name, .int .i64 c.kind, .bool c.need] 49))
          have hSa := hS.keep (hba w4 (.cells #[.string c.name, .int .i64 c.kind, .bool c.need] 49))
          have hBa := hnext hB (hba w4 (.cells #[.string c.name, .int .i64 c.kind, .bool c.need] 49))
          have HNW := hid hnew
          have HMA := hid hMa
          have HSA := hid hSa
          have HBA := hid hBa
          clear hnew hMa hSa hBa hB hM hS
          rcases hcw with ⟨hbad, hw⟩ | ⟨hgood, e1, e2, e3, e4, e5⟩
          · have HF := hid (HN2.out hbad)
            clear hbad HN2 HG2 hfs
            have hX : Sc.nameB c.name = false ∨ Sc.nameB c.name = true := by cases Sc.nameB c.name <;> simp
            rcases hw with e1 | ⟨e1, hw⟩
            · rw [e1] at hnc
              clear e1
              go_wp2_with fail
              refine (hnc.out _).mono ?_; rintro e w5 ⟨rfl, hb5⟩
              have hC5 := HNW.out.keep hb5
              have hS5 := HSA.out.keep hb5
              have hB5 := hnext HBA.out hb5
              obtain ⟨t0, t1, t2, tl⟩ := hC5.cells
              obtain ⟨s0, s1, s2, sl⟩ := hS5.cells
              go_wp2_with fail
              go_ret
              rw [HF.out]
              exact ⟨rfl, hB5⟩
            rw [e1] at hnc
            clear e1
            rcases hw with e2 | ⟨e2, hw⟩
            · have hlook := fun W (h : HadAt W mb k (fun t => !Sc.fresh cs k t)) => h.look c.name hcs
              simp only [e2, Bool.not_false, if_true] at hlook
              have HLOOK := hid hlook
              clear hlook e2
              go_wp2_with fail
              refine (hnc.out _).mono ?_; rintro e w5 ⟨rfl, hb5⟩
              have hC5 := HNW.out.keep hb5
              have hS5 := HSA.out.keep hb5
              have hB5 := hnext HBA.out hb5
              obtain ⟨t0, t1, t2, tl⟩ := hC5.cells
              obtain ⟨s0, s1, s2, sl⟩ := hS5.cells
              have hl5 := HLOOK.out _ (HMA.out.below hb5)
              go_wp2_with fail
              go_ret
              rw [HF.out]
              exact ⟨rfl, hB5⟩
            have hlook := fun W (h : HadAt W mb k (fun t => !Sc.fresh cs k t)) => h.look c.name hcs
            simp only [e2, Bool.not_true, Bool.false_eq_true, if_false] at hlook
            have HLOOK := hid hlook
            clear hlook e2
            rcases hw with e3 | ⟨e3, hw⟩
            · skip
              go_wp2_with fail
              refine (hnc.out _).mono ?_; rintro e w5 ⟨rfl, hb5⟩
              have hC5 := HNW.out.keep hb5
              have hS5 := HSA.out.keep hb5
              have hB5 := hnext HBA.out hb5
              obtain ⟨t0, t1, t2, tl⟩ := hC5.cells
              obtain ⟨s0, s1, s2, sl⟩ := hS5.cells
              have hl5 := HLOOK.out _ (HMA.out.below hb5)
              go_wp2_with fail
              go_ret
              rw [HF.out]
              exact ⟨rfl, hB5⟩
            have e3' : ¬ c.kind < 1 := by omega
            rcases hw with e4 | ⟨e4, e5, e6⟩
            · skip
              go_wp2_with fail
              refine (hnc.out _).mono ?_; rintro e w5 ⟨rfl, hb5⟩
              have hC5 := HNW.out.keep hb5
              have hS5 := HSA.out.keep hb5
              have hB5 := hnext HBA.out hb5
              obtain ⟨t0, t1, t2, tl⟩ := hC5.cells
              obtain ⟨s0, s1, s2, sl⟩ := hS5.cells
              have hl5 := HLOOK.out _ (HMA.out.below hb5)
              go_wp2_with fail
              go_ret
              rw [HF.out]
              exact ⟨rfl, hB5⟩
            have e4' : ¬ 5 < c.kind := by omega
            have e6' := hid e6
            clear e6
            go_wp2_with fail
            refine (hnc.out _).mono ?_; rintro e w5 ⟨rfl, hb5⟩
            have hC5 := HNW.out.keep hb5
            have hS5 := HSA.out.keep hb5
            have hB5 := hnext HBA.out hb5
            obtain ⟨t0, t1, t2, tl⟩ := hC5.cells
            obtain ⟨s0, s1, s2, sl⟩ := hS5.cells
            have hl5 := HLOOK.out _ (HMA.out.below hb5)
            rw [e6'.out] at t2
            go_wp2_with fail
            go_ret
            rw [HF.out]
            exact ⟨rfl, hB5⟩
          · have HK : Hid (G (k + 1) = true) := by show _ = _; rw [HG2.out, hGk.out, hgood]; rfl
            have hlook := fun W (h : HadAt W mb k (fun t => !Sc.fresh cs k t)) => h.look c.name hcs
            simp only [e2, Bool.not_true, Bool.false_eq_true, if_false] at hlook
            have HLOOK := hid hlook
            clear hlook e2 hgood HG2 HN2
            rw [e1] at hnc
            clear e1
            have e3' : ¬ c.kind < 1 := by omega
            have e4' : ¬ 5 < c.kind := by omega
            have hkl : k < maxLen := by unfold maxLen; omega
            rcases e5 with e5 | ⟨e5, e6⟩
            · have e5' : ¬ (k : Int) < ks := by omega
              go_wp2_with fail
              refine (hnc.out _).mono ?_; rintro e w5 ⟨rfl, hb5⟩
              have hC5 := HNW.out.keep hb5
              have hS5 := HSA.out.keep hb5
              have hB5 := hnext HBA.out hb5
              obtain ⟨t0, t1, t2, tl⟩ := hC5.cells
              obtain ⟨s0, s1, s2, sl⟩ := hS5.cells
              have hl5 := HLOOK.out _ (HMA.out.below hb5)
              have hM5 := HMA.out.below hb5
              have HM5 := hid hM5
              clear hM5
              go_wp2_with (at_mapUpdate; refine had_put _ rfl _ _ _ rfl mb k _ rfl HM5.out hkl c.name hcs rfl rfl ?_; intro w6 hM6 hg6)
              go_roundw
              case rel => exact ⟨k + 1, hlk, by go_num, HK, hM6.congr (fun t => by rw [hfs.out t]; cases Sc.fresh cs k t <;> simp), (hg6.block _ sl (by simp; omega)).trans hS5, hB5.grown hg6 hB5.size (fun q hq => by cases hq; exact hMb0)⟩
              case measure => simp [intOf]; omega
            · have e6' := hid e6
              clear e6
              go_wp2_with fail
              refine (hnc.out _).mono ?_; rintro e w5 ⟨rfl, hb5⟩
              have hC5 := HNW.out.keep hb5
              have hS5 := HSA.out.keep hb5
              have hB5 := hnext HBA.out hb5
              obtain ⟨t0, t1, t2, tl⟩ := hC5.cells
              obtain ⟨s0, s1, s2, sl⟩ := hS5.cells
              have hl5 := HLOOK.out _ (HMA.out.below hb5)
              rw [e6'.out] at t2
              have hM5 := HMA.out.below hb5
              have HM5 := hid hM5
              clear hM5
              go_wp2_with (at_mapUpdate; refine had_put _ rfl _ _ _ rfl mb k _ rfl HM5.out hkl c.name hcs rfl rfl ?_; intro w6 hM6 hg6)
              go_roundw
              case rel => exact ⟨k + 1, hlk, by go_num, HK, hM6.congr (fun t => by rw [hfs.out t]; cases Sc.fresh cs k t <;> simp), (hg6.block _ sl (by simp; omega)).trans hS5, hB5.grown hg6 hB5.size (fun q hq => by cases hq; exact hMb0)⟩
              case measure => simp [intOf]; omega
        · obtain rfl : k = cs.length := by omega
          have HR : Hid (R = true) := by show _ = _; rw [HG.out, hGk.out]
          go_wp2_with fail
          go_ret
          rw [HR.out]
          exact ⟨rfl, hB⟩
end Go.Proofs.Ytmgafcblbbbanaa
