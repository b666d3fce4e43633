/-
  SpanParts answers true, whatever the spans: the walk. No condition.
-/
import Derived.Test.YtghgiifclocddaaSpanB
import Derived.Test.YtghgiifclocddaaReg
import Derived.Deep.DeepCutAuto
namespace Go.Proofs.Ytghgiifclocddaa
open Go.RowKit

namespace Sp
theorem cut_no {a b : Span} (h : right a = false) : cut a b = [] := by
  have : meet a b = none := by unfold meet; simp [h]
  unfold cut; rw [this]; simp [rights, h]
theorem cut_self (a : Span) : cut a a = [] := by
  have h : (cut a a).isEmpty = true := (empty_iff (cut_right a a)).2 fun t => by rw [mem_cut]; exact fun h => h.2 h.1
  simpa using h
theorem parts_norm {a : Span} (b : Span) (h : right a = true) : norm (cut a b ++ [fst (meet a b)]) = [a] :=
  few_eq (norm_few _).1 (few_one h) fun t => by
    rw [(norm_few _).2, mem_append, mem_cut, mem_cons, mem_cons, has_meet]
    have := mem_nil t
    cases has a t <;> cases has b t <;> simp_all
theorem parts_covers (a b : Span) : covers (cut a b ++ [fst (meet a b)]) a = true := by
  rw [covers_iff]
  intro t h
  rw [mem_append, mem_cut, mem_cons, has_meet]
  cases hb : has b t <;> simp_all
end Sp

theorem wp_append_spans (u : World) {o : Oper} {a : Act} {K : Act → World → Prop} {Q : Exit → Act → World → Prop} (s x : Operand)
    (ho : o.op = .call { callee := .builtin .append, args := #[s, x], argTypes := #[29, 29] })
    (B : Nat) (v : Value) (l : List Sp.Span) (hs : a.eval s = v) (hown : u.ownsRow B 23 2 v l.length (scells l)) (B2 : Nat) (v2 : Value) (r : List Sp.Span) (hx : a.eval x = v2) (hown2 : u.ownsRow B2 23 2 v2 r.length (scells r))
    (hlen : l.length + r.length ≤ 1000000) (hB : B ≤ u.heap.size)
    (hK : ∀ v' w', w'.ownsRow B 23 2 v' (l ++ r).length (scells (l ++ r)) → u.grownBy w' v.ownBlock → K (a.put o.dst v') w') :
    o.wp Try.prog a u K Q := by
  obtain ⟨i0, hi, hz0, hz1, hz2⟩ := info_parts Try.infoSpan
  rcases hown2.2 with ⟨rfl, hn⟩ | ⟨g, cap, cur, rfl, _, hg, _⟩
  · have : r = [] := List.eq_nil_of_length_eq_zero hn
    subst this
    have hrun := run_append_owned_none (P := Try.prog) (w := u) B 29 o.type 23 i0 2 Try.underlying29 hi v l.length (scells l) hown
    unfold Oper.wp
    simp [execOp, ho, resolve, invoke, builtin, hs, hx, hrun, Result.andThen]
    exact hK v u (by simpa using hown) ⟨rfl, rfl, rfl, Nat.le_refl _, fun _ _ _ => rfl⟩
  · refine wp_append_own _ s x 29 ho B 23 i0 (.agg #[.int .i64 0, .int .i64 0]) 2 16 Try.underlying29 hi hz0 hz1 hz2 rfl (by decide) v l.length (scells l) hs hown ⟨g, 0, none⟩ r.length cap (scells r) hx (scells_length r) (hown2.cells (g := g) rfl) (scells_one_cell r) ?_ ?_ hB ?_
    · unfold maxLen; omega
    · omega
    · intro v' w' hown' hgrow _
      exact hK v' w' (by rw [scells_append, List.length_append]; exact hown') hgrow
theorem step_append_spans (u : World) {ops : Array Oper} {o : Oper} {a : Act} {K : Act → World → Prop} {Q : Exit → Act → World → Prop} {E : Prop} (hgd : o.guard = none) (s x : Operand)
    (ho : o.op = .call { callee := .builtin .append, args := #[s, x], argTypes := #[29, 29] })
    (B : Nat) (v : Value) (l : List Sp.Span) (hs : a.eval s = v) (hown : u.ownsRow B 23 2 v l.length (scells l)) (B2 : Nat) (v2 : Value) (r : List Sp.Span) (hx : a.eval x = v2) (hown2 : u.ownsRow B2 23 2 v2 r.length (scells r))
    (hlen : l.length + r.length ≤ 1000000) (hB : B ≤ u.heap.size)
    (hK : ∀ v' w', w'.ownsRow B 23 2 v' (l ++ r).length (scells (l ++ r)) → u.grownBy w' v.ownBlock → K (a.put o.dst v') w') :
    if Region.wanted o (yielded ops a.tmps) = true then Oper.wp Try.prog o a u K Q else E := by
  have hw : Region.wanted o (yielded ops a.tmps) = true := by simp [Region.wanted, hgd]
  rw [if_pos hw]
  exact wp_append_spans u s x ho B v l hs hown B2 v2 r hx hown2 hlen hB hK

theorem cut_nil {p q r s : Int} (h : Sp.cut (p, q) (r, s) = []) (W : World) : Calls Try.prog 19 #[.agg #[.int .i64 p, .int .i64 q], .agg #[.int .i64 r, .int .i64 s]] W fun e w' => (∃ ao cap, e = .returned (.slice ao 0 cap)) ∧ Below W.heap.size W w' := by
  refine (cut_any p q r s W).mono ?_
  rintro e w' ⟨⟨v, rfl, hown⟩, hb⟩
  rw [h] at hown
  refine ⟨?_, hb⟩
  rcases own_shape hown with ⟨rfl, _⟩ | ⟨g, cap, rfl, _⟩
  · exact ⟨_, _, rfl⟩
  · exact ⟨_, _, rfl⟩

set_option maxRecDepth 100000 in
set_option maxHeartbeats 3200000 in
theorem spanParts_walk (a b c d : Int) (w : World) : Calls Try.prog 9 #[.agg #[.int .i64 a, .int .i64 b], .agg #[.int .i64 c, .int .i64 d]] w fun e w' => e = .returned (.bool true) ∧ Below w.heap.size w w' := by
  have kr0 := fun W => right_below a b W
  cases hr : Sp.right (a, b)
  · have kr := hid kr0
    rw [hr] at kr
    have kc := hid (fun W => cut_nil (Sp.cut_no (b := (c, d)) hr) W)
    clear kr0 hr
    go_enter Try.func9, Try.ntmps9
    go_wp2_with fail
    refine (kr.out _).mono ?_; rintro e w1 ⟨rfl, hb1⟩
    obtain ⟨x1, x2, hB1⟩ := Box.at2 hb1
    clear hb1
    have c01 := x1.1
    have c02 := x1.2.1
    have c03 := x1.2.2
    have c04 : w.heap.size ≠ w1.heap.size := Nat.ne_of_lt x1.2.2
    have c11 := x2.1
    have c12 := x2.2.1
    have c13 := x2.2.2
    have c14 : (w.heap.size + 1) ≠ w1.heap.size := Nat.ne_of_lt x2.2.2
    go_wp2_with fail
    refine (kc.out _).mono ?_; rintro e w2 ⟨⟨ao, cap, rfl⟩, hb2⟩
    have hB2 := bnext hB1 hb2
    go_wp2_with fail
    refine (known_any _).mono ?_; rintro e w3 ⟨rfl, hb3⟩
    go_wp2_with fail
    go_ret
    exact ⟨rfl, bnext hB2 hb3⟩
  have kr := hid kr0
  rw [hr] at kr
  have hnr0 := Sp.parts_norm (c, d) hr
  have hcr0 := Sp.parts_covers (a, b) (c, d)
  have hcl := Sp.cut_len (a, b) (c, d)
  have kc := hid (fun W => cut_any a b c d W)
  have kcs := hid (fun W => cut_nil (Sp.cut_self (a, b)) W)
  have km := hid (fun W => meet_any a b c d W)
  clear kr0 hr
  generalize Sp.cut (a, b) (c, d) = l at hnr0 hcr0 hcl kc
  generalize Sp.fst (Sp.meet (a, b) (c, d)) = m at hnr0 hcr0 km
  obtain ⟨mx, my⟩ := m
  generalize (Sp.meet (a, b) (c, d)).isSome = mo at km
  unfold sv at km
  simp only at km
  generalize hlr0 : l ++ [(mx, my)] = r at hnr0 hcr0
  have hlr := hid hlr0
  have hnr := hid hnr0
  have hcr := hid hcr0
  clear hlr0 hnr0 hcr0
  go_enter Try.func9, Try.ntmps9
  go_wp2_with fail
  refine (kr.out _).mono ?_; rintro e w1 ⟨rfl, hb1⟩
  obtain ⟨x1, x2, hB1⟩ := Box.at2 hb1
  clear hb1
  have c01 := x1.1
  have c02 := x1.2.1
  have c03 := x1.2.2
  have c04 : w.heap.size ≠ w1.heap.size := Nat.ne_of_lt x1.2.2
  have c11 := x2.1
  have c12 := x2.2.1
  have c13 := x2.2.2
  have c14 : (w.heap.size + 1) ≠ w1.heap.size := Nat.ne_of_lt x2.2.2
  go_wp2_with fail
  refine (kc.out _).mono ?_; rintro e w2 ⟨⟨vc, rfl, hown2⟩, hb2⟩
  clear c01 c02 c03 c04 c11 c12 c13 c14
  replace x1 := Box.keep x1 hb2
  replace x2 := Box.keep x2 hb2
  have hB2 := bnext hB1 hb2
  clear hb2 hB1
  have c01 := x1.1
  have c02 := x1.2.1
  have c03 := x1.2.2
  have c04 : w.heap.size ≠ w2.heap.size := Nat.ne_of_lt x1.2.2
  have c11 := x2.1
  have c12 := x2.2.1
  have c13 := x2.2.2
  have c14 : (w.heap.size + 1) ≠ w2.heap.size := Nat.ne_of_lt x2.2.2
  go_wp2_with fail
  refine (km.out _).mono ?_; rintro e w4 ⟨rfl, hb4⟩
  clear c01 c02 c03 c04 c11 c12 c13 c14
  replace x1 := Box.keep x1 hb4
  have hoC := own_below hown2 hb4
  have hB4 := bnext hB2 hb4
  clear hb4 hB2 hown2 x2
  go_upto_region 5 with fail
  have x3 : Box (w4.alloc (.cells #[.int .i64 mx, .int .i64 my] 23)) w4.heap.size mx my := Box.new
  replace x1 := Box.keep x1 (ba w4 (.cells #[.int .i64 mx, .int .i64 my] 23))
  have hoC' := own_below hoC (ba w4 (.cells #[.int .i64 mx, .int .i64 my] 23))
  have hB5 := hB4.alloc hB4.size (.cells #[.int .i64 mx, .int .i64 my] 23)
  generalize hg4 : w4.heap.size = g4 at *
  generalize w4.alloc (.cells #[.int .i64 mx, .int .i64 my] 23) = w5 at *
  go_cut [5] (fun v wc => Below w5.heap.size w5 wc ∧ wc.ownsRow w5.heap.size 23 2 v r.length (scells r))
  case first =>
    obtain ⟨w6, hw6⟩ : ∃ w6, w5.drew = w6 := ⟨_, rfl⟩
    have hw36 : Below w5.heap.size w5 w6 := hw6 ▸ (Below.refl _ _).drew
    replace x3 := Box.keep x3 hw36
    have hoC_6 := own_below hoC' hw36
    have mk5 : ∀ W, Below w6.heap.size w6 W → (fun W => Below w6.heap.size w6 W ∧ W.cell? ⟨g4, 0, none⟩ = some (.int .i64 mx) ∧ W.cell? ⟨g4, 1, none⟩ = some (.int .i64 my)) W := fun W h => ⟨h, (h.cell x3.2.2).trans x3.1, (h.cell x3.2.2).trans x3.2.1⟩
    refine wp_region_held_drew (S := (fun W => Below w6.heap.size w6 W ∧ W.cell? ⟨g4, 0, none⟩ = some (.int .i64 mx) ∧ W.cell? ⟨g4, 1, none⟩ = some (.int .i64 my))) (by kernel_rfl) (by rw [hw6]; exact mk5 _ (Below.refl _ _)) (fun hS6 => ?_)
    rw [hw6] at hS6 ⊢
    clear hw6 hoC hoC' hB4 hB5 x1
    refine wpAnyH_take (i := 1) (oi := ({ dst := some 29, op := Op.move (Operand.tmp 5), type := 29, pos := "law.go:118", after := #[], guard := none } : Oper)) (v := ?_) rfl (by kernel_rfl) (by kernel_rfl) (by kernel_rfl) (fun _ _ _ h => h) (Or.inl ⟨by rfl, ?_⟩) hS6 ?_
    rotate_left
    · intro w hSw; (try dsimp only at hSw); go_simp; (try with_reducible rfl)
    simp only [Act.put, List.setIfInBounds_toArray, List.set_cons_zero, List.set_cons_succ]
    refine wpAnyH_take (i := 3) (oi := ({ dst := some 31, op := Op.load 23 (Operand.tmp 6), type := 23, pos := "law.go:118", after := #[], guard := none } : Oper)) (v := ?_) rfl (by kernel_rfl) (by kernel_rfl) (by kernel_rfl) (fun _ _ _ h => h) (Or.inl ⟨by rfl, ?_⟩) hS6 ?_
    rotate_left
    · intro w hSw; (try dsimp only at hSw); go_simp; (try with_reducible rfl)
    simp only [Act.put, List.setIfInBounds_toArray, List.set_cons_zero, List.set_cons_succ]
    refine wpAnyH_ready (rs := [0, 4]) (by kernel_rfl) (by simp) ?_
    refine AllReadyH.cons (o := ({ dst := some 28, op := Op.buildSlice 29 0 #[], type := 29, pos := "law.go:118", after := #[], guard := none } : Oper)) rfl (fun K hK => ?_) (AllReadyH.cons (o := ({ dst := some 32, op := Op.buildSlice 29 1 #[(0, Operand.tmp 31)], type := 29, pos := "law.go:118", after := #[{ on := 3, ground := Ground.data }], guard := none } : Oper)) rfl (fun K hK => ?_) AllReadyH.nil)
    · go_simp
      refine hK.out _ _ (mk5 _ (hS6.1.alloc hS6.1.size _)) (fun hH7 => ?_)
      clear hK K
      (try simp only [Act.put, List.setIfInBounds_toArray, List.set_cons_zero, List.set_cons_succ])
      have hoC_7 := own_below hoC_6 (ba w6 (.cells #[] 23))
      have ho0_7 := own_lit w6 ([] : List Sp.Span) w6.heap.size 0 #[] hS6.1.size rfl rfl (by decide)
      have hlt7 : w6.heap.size < (w6.alloc (.cells #[] 23)).heap.size := by simp
      generalize w6.alloc (.cells #[] 23) = w7 at *
      have hS7 := hH7
      refine wpAnyH_ready (rs := [2, 4]) (by kernel_rfl) (by simp) ?_
      refine AllReadyH.cons (o := ({ dst := some 30, op := Op.call { callee := Callee.builtin Builtin.append, args := #[Operand.tmp 28, Operand.tmp 29], argTypes := #[29, 29] }, type := 29, pos := "law.go:118", after := #[{ on := 0, ground := Ground.data }, { on := 1, ground := Ground.data }], guard := none } : Oper)) rfl (fun K hK => ?_) (AllReadyH.cons (o := ({ dst := some 32, op := Op.buildSlice 29 1 #[(0, Operand.tmp 31)], type := 29, pos := "law.go:118", after := #[{ on := 3, ground := Ground.data }], guard := none } : Oper)) rfl (fun K hK => ?_) AllReadyH.nil)
      · refine step_append_spans _ (by rfl) (.tmp 28) (.tmp 29) (by rfl) w6.heap.size _ [] (by rfl) ho0_7 _ _ l (by rfl) hoC_7 (by simp; omega) hS7.1.size ?_
        intro v2 w8 hown hgrow
        have hb8 := hS7.1.grown hgrow hS7.1.size (fun q hq => (ho0_7.lt q hq).1)
        refine hK.out _ _ (mk5 _ hb8) (fun hH8 => ?_)
        clear hK K
        (try simp only [Act.put, List.setIfInBounds_toArray, List.set_cons_zero, List.set_cons_succ])
        rw [List.nil_append] at hown
        have ho2_8 := hown
        clear hown hgrow hb8
        have hS8 := hH8
        refine wpAnyH_ready (rs := [4]) (by kernel_rfl) (by simp) ?_
        refine AllReadyH.cons (o := ({ dst := some 32, op := Op.buildSlice 29 1 #[(0, Operand.tmp 31)], type := 29, pos := "law.go:118", after := #[{ on := 3, ground := Ground.data }], guard := none } : Oper)) rfl (fun K hK => ?_) AllReadyH.nil
        go_simp
        refine hK.out _ _ (mk5 _ (hS8.1.alloc hS8.1.size _)) (fun hH9 => ?_)
        clear hK K
        (try simp only [Act.put, List.setIfInBounds_toArray, List.set_cons_zero, List.set_cons_succ])
        have ho2_9 := own_below ho2_8 (ba w8 (.cells #[.int .i64 mx, .int .i64 my] 23))
        have ho4_9 := own_lit w8 [(mx, my)] w6.heap.size 1 #[.int .i64 mx, .int .i64 my] hS8.1.size rfl rfl (by decide)
        have hlt9 : w8.heap.size < (w8.alloc (.cells #[.int .i64 mx, .int .i64 my] 23)).heap.size := by simp
        generalize w8.alloc (.cells #[.int .i64 mx, .int .i64 my] 23) = w9 at *
        have hS9 := hH9
        refine wpAnyH_ready (rs := [5]) (by kernel_rfl) (by simp) ?_
        refine AllReadyH.cons (o := ({ dst := some 33, op := Op.call { callee := Callee.builtin Builtin.append, args := #[Operand.tmp 30, Operand.tmp 32], argTypes := #[29, 29] }, type := 29, pos := "law.go:118", after := #[{ on := 2, ground := Ground.data }, { on := 4, ground := Ground.data }, { on := 2, ground := Ground.chain }], guard := none } : Oper)) rfl (fun K hK => ?_) AllReadyH.nil
        refine step_append_spans _ (by rfl) (.tmp 30) (.tmp 32) (by rfl) w6.heap.size _ l (by rfl) ho2_9 _ _ [(mx, my)] (by rfl) ho4_9 (by simp; omega) hS9.1.size ?_
        intro v5 w10 hown hgrow
        have hb10 := hS9.1.grown hgrow hS9.1.size (fun q hq => (ho2_9.lt q hq).1)
        refine hK.out _ _ (mk5 _ hb10) (fun hH10 => ?_)
        clear hK K
        (try simp only [Act.put, List.setIfInBounds_toArray, List.set_cons_zero, List.set_cons_succ])
        rw [show l ++ [(mx, my)] = r from hlr.out] at hown
        have ho5_10 := hown
        clear hown hgrow hb10
        have hS10 := hH10
        refine wpAnyH_take (i := 6) (oi := ({ dst := some 5, op := Op.assign (Operand.tmp 33), type := 29, pos := "law.go:118", after := #[{ on := 5, ground := Ground.data }, { on := 5, ground := Ground.chain }, { on := 0, ground := Ground.phase }, { on := 1, ground := Ground.phase }, { on := 2, ground := Ground.phase }, { on := 3, ground := Ground.phase }, { on := 4, ground := Ground.phase }, { on := 5, ground := Ground.phase }], guard := none } : Oper)) (v := ?_) rfl (by kernel_rfl) (by kernel_rfl) (by kernel_rfl) (fun _ _ _ h => h) (Or.inl ⟨by rfl, ?_⟩) hS10 ?_
        rotate_left
        · intro w hSw; (try dsimp only at hSw); go_simp; (try with_reducible rfl)
        simp only [Act.put, List.setIfInBounds_toArray, List.set_cons_zero, List.set_cons_succ]
        refine wpAnyH_done (by kernel_rfl) ?_ _
        go_wp2_with fail
        go_meet
        exact ⟨hw36.trans (hS10.1.mono hw36.size), own_mono ho5_10 hw36.size⟩
      · go_simp
        refine hK.out _ _ (mk5 _ (hS7.1.alloc hS7.1.size _)) (fun hH8 => ?_)
        clear hK K
        (try simp only [Act.put, List.setIfInBounds_toArray, List.set_cons_zero, List.set_cons_succ])
        have hoC_8 := own_below hoC_7 (ba w7 (.cells #[.int .i64 mx, .int .i64 my] 23))
        have ho0_8 := own_below ho0_7 (ba w7 (.cells #[.int .i64 mx, .int .i64 my] 23))
        have ho4_8 := own_lit w7 [(mx, my)] w6.heap.size 1 #[.int .i64 mx, .int .i64 my] hS7.1.size rfl rfl (by decide)
        have hlt8 : w7.heap.size < (w7.alloc (.cells #[.int .i64 mx, .int .i64 my] 23)).heap.size := by simp
        generalize w7.alloc (.cells #[.int .i64 mx, .int .i64 my] 23) = w8 at *
        have hS8 := hH8
        refine wpAnyH_ready (rs := [2]) (by kernel_rfl) (by simp) ?_
        refine AllReadyH.cons (o := ({ dst := some 30, op := Op.call { callee := Callee.builtin Builtin.append, args := #[Operand.tmp 28, Operand.tmp 29], argTypes := #[29, 29] }, type := 29, pos := "law.go:118", after := #[{ on := 0, ground := Ground.data }, { on := 1, ground := Ground.data }], guard := none } : Oper)) rfl (fun K hK => ?_) AllReadyH.nil
        refine step_append_spans _ (by rfl) (.tmp 28) (.tmp 29) (by rfl) w6.heap.size _ [] (by rfl) ho0_8 _ _ l (by rfl) hoC_8 (by simp; omega) hS8.1.size ?_
        intro v2 w9 hown hgrow
        have hb9 := hS8.1.grown hgrow hS8.1.size (fun q hq => (ho0_8.lt q hq).1)
        refine hK.out _ _ (mk5 _ hb9) (fun hH9 => ?_)
        clear hK K
        (try simp only [Act.put, List.setIfInBounds_toArray, List.set_cons_zero, List.set_cons_succ])
        have ho4_9 := ho4_8.kept hgrow (Or.inr (by simp [Value.ownBlock]; omega))
        rw [List.nil_append] at hown
        have ho2_9 := hown
        clear hown hgrow hb9
        have hS9 := hH9
        refine wpAnyH_ready (rs := [5]) (by kernel_rfl) (by simp) ?_
        refine AllReadyH.cons (o := ({ dst := some 33, op := Op.call { callee := Callee.builtin Builtin.append, args := #[Operand.tmp 30, Operand.tmp 32], argTypes := #[29, 29] }, type := 29, pos := "law.go:118", after := #[{ on := 2, ground := Ground.data }, { on := 4, ground := Ground.data }, { on := 2, ground := Ground.chain }], guard := none } : Oper)) rfl (fun K hK => ?_) AllReadyH.nil
        refine step_append_spans _ (by rfl) (.tmp 30) (.tmp 32) (by rfl) w6.heap.size _ l (by rfl) ho2_9 _ _ [(mx, my)] (by rfl) ho4_9 (by simp; omega) hS9.1.size ?_
        intro v5 w10 hown hgrow
        have hb10 := hS9.1.grown hgrow hS9.1.size (fun q hq => (ho2_9.lt q hq).1)
        refine hK.out _ _ (mk5 _ hb10) (fun hH10 => ?_)
        clear hK K
        (try simp only [Act.put, List.setIfInBounds_toArray, List.set_cons_zero, List.set_cons_succ])
        rw [show l ++ [(mx, my)] = r from hlr.out] at hown
        have ho5_10 := hown
        clear hown hgrow hb10
        have hS10 := hH10
        refine wpAnyH_take (i := 6) (oi := ({ dst := some 5, op := Op.assign (Operand.tmp 33), type := 29, pos := "law.go:118", after := #[{ on := 5, ground := Ground.data }, { on := 5, ground := Ground.chain }, { on := 0, ground := Ground.phase }, { on := 1, ground := Ground.phase }, { on := 2, ground := Ground.phase }, { on := 3, ground := Ground.phase }, { on := 4, ground := Ground.phase }, { on := 5, ground := Ground.phase }], guard := none } : Oper)) (v := ?_) rfl (by kernel_rfl) (by kernel_rfl) (by kernel_rfl) (fun _ _ _ h => h) (Or.inl ⟨by rfl, ?_⟩) hS10 ?_
        rotate_left
        · intro w hSw; (try dsimp only at hSw); go_simp; (try with_reducible rfl)
        simp only [Act.put, List.setIfInBounds_toArray, List.set_cons_zero, List.set_cons_succ]
        refine wpAnyH_done (by kernel_rfl) ?_ _
        go_wp2_with fail
        go_meet
        exact ⟨hw36.trans (hS10.1.mono hw36.size), own_mono ho5_10 hw36.size⟩
    · go_simp
      refine hK.out _ _ (mk5 _ (hS6.1.alloc hS6.1.size _)) (fun hH7 => ?_)
      clear hK K
      (try simp only [Act.put, List.setIfInBounds_toArray, List.set_cons_zero, List.set_cons_succ])
      have hoC_7 := own_below hoC_6 (ba w6 (.cells #[.int .i64 mx, .int .i64 my] 23))
      have ho4_7 := own_lit w6 [(mx, my)] w6.heap.size 1 #[.int .i64 mx, .int .i64 my] hS6.1.size rfl rfl (by decide)
      have hlt7 : w6.heap.size < (w6.alloc (.cells #[.int .i64 mx, .int .i64 my] 23)).heap.size := by simp
      generalize w6.alloc (.cells #[.int .i64 mx, .int .i64 my] 23) = w7 at *
      have hS7 := hH7
      refine wpAnyH_ready (rs := [0]) (by kernel_rfl) (by simp) ?_
      refine AllReadyH.cons (o := ({ dst := some 28, op := Op.buildSlice 29 0 #[], type := 29, pos := "law.go:118", after := #[], guard := none } : Oper)) rfl (fun K hK => ?_) AllReadyH.nil
      go_simp
      refine hK.out _ _ (mk5 _ (hS7.1.alloc hS7.1.size _)) (fun hH8 => ?_)
      clear hK K
      (try simp only [Act.put, List.setIfInBounds_toArray, List.set_cons_zero, List.set_cons_succ])
      have hoC_8 := own_below hoC_7 (ba w7 (.cells #[] 23))
      have ho4_8 := own_below ho4_7 (ba w7 (.cells #[] 23))
      have ho0_8 := own_lit w7 ([] : List Sp.Span) w6.heap.size 0 #[] hS7.1.size rfl rfl (by decide)
      have hlt8 : w7.heap.size < (w7.alloc (.cells #[] 23)).heap.size := by simp
      generalize w7.alloc (.cells #[] 23) = w8 at *
      have hS8 := hH8
      refine wpAnyH_ready (rs := [2]) (by kernel_rfl) (by simp) ?_
      refine AllReadyH.cons (o := ({ dst := some 30, op := Op.call { callee := Callee.builtin Builtin.append, args := #[Operand.tmp 28, Operand.tmp 29], argTypes := #[29, 29] }, type := 29, pos := "law.go:118", after := #[{ on := 0, ground := Ground.data }, { on := 1, ground := Ground.data }], guard := none } : Oper)) rfl (fun K hK => ?_) AllReadyH.nil
      refine step_append_spans _ (by rfl) (.tmp 28) (.tmp 29) (by rfl) w6.heap.size _ [] (by rfl) ho0_8 _ _ l (by rfl) hoC_8 (by simp; omega) hS8.1.size ?_
      intro v2 w9 hown hgrow
      have hb9 := hS8.1.grown hgrow hS8.1.size (fun q hq => (ho0_8.lt q hq).1)
      refine hK.out _ _ (mk5 _ hb9) (fun hH9 => ?_)
      clear hK K
      (try simp only [Act.put, List.setIfInBounds_toArray, List.set_cons_zero, List.set_cons_succ])
      have ho4_9 := ho4_8.kept hgrow (Or.inr (by simp [Value.ownBlock]; omega))
      rw [List.nil_append] at hown
      have ho2_9 := hown
      clear hown hgrow hb9
      have hS9 := hH9
      refine wpAnyH_ready (rs := [5]) (by kernel_rfl) (by simp) ?_
      refine AllReadyH.cons (o := ({ dst := some 33, op := Op.call { callee := Callee.builtin Builtin.append, args := #[Operand.tmp 30, Operand.tmp 32], argTypes := #[29, 29] }, type := 29, pos := "law.go:118", after := #[{ on := 2, ground := Ground.data }, { on := 4, ground := Ground.data }, { on := 2, ground := Ground.chain }], guard := none } : Oper)) rfl (fun K hK => ?_) AllReadyH.nil
      refine step_append_spans _ (by rfl) (.tmp 30) (.tmp 32) (by rfl) w6.heap.size _ l (by rfl) ho2_9 _ _ [(mx, my)] (by rfl) ho4_9 (by simp; omega) hS9.1.size ?_
      intro v5 w10 hown hgrow
      have hb10 := hS9.1.grown hgrow hS9.1.size (fun q hq => (ho2_9.lt q hq).1)
      refine hK.out _ _ (mk5 _ hb10) (fun hH10 => ?_)
      clear hK K
      (try simp only [Act.put, List.setIfInBounds_toArray, List.set_cons_zero, List.set_cons_succ])
      rw [show l ++ [(mx, my)] = r from hlr.out] at hown
      have ho5_10 := hown
      clear hown hgrow hb10
      have hS10 := hH10
      refine wpAnyH_take (i := 6) (oi := ({ dst := some 5, op := Op.assign (Operand.tmp 33), type := 29, pos := "law.go:118", after := #[{ on := 5, ground := Ground.data }, { on := 5, ground := Ground.chain }, { on := 0, ground := Ground.phase }, { on := 1, ground := Ground.phase }, { on := 2, ground := Ground.phase }, { on := 3, ground := Ground.phase }, { on := 4, ground := Ground.phase }, { on := 5, ground := Ground.phase }], guard := none } : Oper)) (v := ?_) rfl (by kernel_rfl) (by kernel_rfl) (by kernel_rfl) (fun _ _ _ h => h) (Or.inl ⟨by rfl, ?_⟩) hS10 ?_
      rotate_left
      · intro w hSw; (try dsimp only at hSw); go_simp; (try with_reducible rfl)
      simp only [Act.put, List.setIfInBounds_toArray, List.set_cons_zero, List.set_cons_succ]
      refine wpAnyH_done (by kernel_rfl) ?_ _
      go_wp2_with fail
      go_meet
      exact ⟨hw36.trans (hS10.1.mono hw36.size), own_mono ho5_10 hw36.size⟩
  case rest =>
    obtain ⟨hbc, hownL⟩ := hcut
    go_upto_region 6 with fail
    obtain ⟨w8, hw8⟩ : ∃ w8, wc.drew = w8 := ⟨_, rfl⟩
    have hw68 : Below wc.heap.size wc w8 := hw8 ▸ (Below.refl _ _).drew
    replace x1 := Box.keep (Box.keep x1 hbc) hw68
    have hB8 := bnext (bnext hB5 hbc) hw68
    have hsL_8 := SpansAt.below (SpansAt.own hownL) hw68
    have mk8 : ∀ W, Below w8.heap.size w8 W → (fun W => Below w8.heap.size w8 W ∧ W.cell? ⟨w.heap.size, 0, none⟩ = some (.int .i64 a) ∧ W.cell? ⟨w.heap.size, 1, none⟩ = some (.int .i64 b)) W := fun W h => ⟨h, (h.cell x1.2.2).trans x1.1, (h.cell x1.2.2).trans x1.2.1⟩
    refine wp_region_held_drew (S := (fun W => Below w8.heap.size w8 W ∧ W.cell? ⟨w.heap.size, 0, none⟩ = some (.int .i64 a) ∧ W.cell? ⟨w.heap.size, 1, none⟩ = some (.int .i64 b))) (by kernel_rfl) (by rw [hw8]; exact mk8 _ (Below.refl _ _)) (fun hS8 => ?_)
    rw [hw8] at hS8 ⊢
    clear hw8 hw68 hownL hbc hoC hoC' hB4 hB5 x3
    refine wpAnyH_take (i := 0) (oi := ({ dst := some 34, op := Op.move (Operand.tmp 5), type := 29, pos := "law.go:119", after := #[], guard := none } : Oper)) (v := ?_) rfl (by kernel_rfl) (by kernel_rfl) (by kernel_rfl) (fun _ _ _ h => h) (Or.inl ⟨by rfl, ?_⟩) hS8 ?_
    rotate_left
    · intro w hSw; (try dsimp only at hSw); go_simp; (try with_reducible rfl)
    simp only [Act.put, List.setIfInBounds_toArray, List.set_cons_zero, List.set_cons_succ]
    refine wpAnyH_take (i := 2) (oi := ({ dst := some 36, op := Op.load 23 (Operand.tmp 2), type := 23, pos := "law.go:119", after := #[], guard := none } : Oper)) (v := ?_) rfl (by kernel_rfl) (by kernel_rfl) (by kernel_rfl) (fun _ _ _ h => h) (Or.inl ⟨by rfl, ?_⟩) hS8 ?_
    rotate_left
    · intro w hSw; (try dsimp only at hSw); go_simp; (try with_reducible rfl)
    simp only [Act.put, List.setIfInBounds_toArray, List.set_cons_zero, List.set_cons_succ]
    refine wpAnyH_ready (rs := [1, 3]) (by kernel_rfl) (by simp) ?_
    refine AllReadyH.cons (o := ({ dst := some 35, op := Op.call { callee := Callee.value (Operand.func 22), args := #[Operand.tmp 34], argTypes := #[29] }, type := 29, pos := "law.go:119", after := #[{ on := 0, ground := Ground.data }], guard := none } : Oper)) rfl (fun K hK => ?_) (AllReadyH.cons (o := ({ dst := some 37, op := Op.buildSlice 29 1 #[(0, Operand.tmp 36)], type := 29, pos := "law.go:119", after := #[{ on := 2, ground := Ground.data }], guard := none } : Oper)) rfl (fun K hK => ?_) AllReadyH.nil)
    · go_simp
      refine (norm_any _ _ _ hsL_8 (by rw [← hlr.out]; simp; omega)).mono ?_; rintro e w9 ⟨⟨vn, rfl, hown⟩, hb9⟩
      rw [hnr.out] at hown
      have hsN_9 := SpansAt.own hown
      clear hown
      go_wp2_with fail
      refine hK.out _ _ (mk8 _ (hnext hS8.1 hb9)) (fun hH9 => ?_)
      clear hK K
      (try simp only [Act.put, List.setIfInBounds_toArray, List.set_cons_zero, List.set_cons_succ])
      have hsL_9 := hsL_8.below hb9
      clear hb9
      have hS9 := hH9
      clear hH9 hS8 hsL_8
      refine wpAnyH_ready (rs := [3]) (by kernel_rfl) (by simp) ?_
      refine AllReadyH.cons (o := ({ dst := some 37, op := Op.buildSlice 29 1 #[(0, Operand.tmp 36)], type := 29, pos := "law.go:119", after := #[{ on := 2, ground := Ground.data }], guard := none } : Oper)) rfl (fun K hK => ?_) AllReadyH.nil
      go_simp
      refine hK.out _ _ (mk8 _ (hS9.1.alloc hS9.1.size _)) (fun hH10 => ?_)
      clear hK K
      (try simp only [Act.put, List.setIfInBounds_toArray, List.set_cons_zero, List.set_cons_succ])
      have hsL_10 := hsL_9.below (ba w9 (.cells #[.int .i64 a, .int .i64 b] 23))
      have hsN_10 := hsN_9.below (ba w9 (.cells #[.int .i64 a, .int .i64 b] 23))
      have hsA_10 : SpansAt (w9.alloc (.cells #[.int .i64 a, .int .i64 b] 23)) (.slice (some ⟨w9.heap.size, 0, none⟩) 1 1) [(a, b)] := spans_one rfl
      generalize w9.alloc (.cells #[.int .i64 a, .int .i64 b] 23) = w10 at *
      have hS10 := hH10
      clear hH10 hS9 hsL_9 hsN_9
      refine wpAnyH_ready (rs := [4]) (by kernel_rfl) (by simp) ?_
      refine AllReadyH.cons (o := ({ dst := some 38, op := Op.call { callee := Callee.value (Operand.func 18), args := #[Operand.tmp 35, Operand.tmp 37], argTypes := #[29, 29] }, type := 4, pos := "law.go:119", after := #[{ on := 1, ground := Ground.data }, { on := 3, ground := Ground.data }, { on := 1, ground := Ground.chain }], guard := none } : Oper)) rfl (fun K hK => ?_) AllReadyH.nil
      go_simp
      refine (same_any _ _ _ _ _ hsN_10 hsA_10 (by simp) (by simp)).mono ?_; rintro e w11 ⟨rfl, hb11⟩
      rw [show (decide ([(a, b)] = [(a, b)])) = true from by simp]
      go_wp2_with fail
      refine hK.out _ _ (mk8 _ (hnext hS10.1 hb11)) (fun hH11 => ?_)
      clear hK K
      (try simp only [Act.put, List.setIfInBounds_toArray, List.set_cons_zero, List.set_cons_succ])
      have hsL_11 := hsL_10.below hb11
      have hsN_11 := hsN_10.below hb11
      have hsA_11 := hsA_10.below hb11
      clear hb11
      have hS11 := hH11
      clear hH11 hS10 hsL_10 hsN_10 hsA_10
      refine wpAnyH_take (i := 5) (oi := ({ dst := some 39, op := Op.move (Operand.tmp 38), type := 4, pos := "law.go:119", after := #[{ on := 4, ground := Ground.data }, { on := 4, ground := Ground.chain }], guard := none } : Oper)) (v := ?_) rfl (by kernel_rfl) (by kernel_rfl) (by kernel_rfl) (fun _ _ _ h => h) (Or.inl ⟨by rfl, ?_⟩) hS11 ?_
      rotate_left
      · intro w hSw; (try dsimp only at hSw); go_simp; (try with_reducible rfl)
      simp only [Act.put, List.setIfInBounds_toArray, List.set_cons_zero, List.set_cons_succ]
      refine wpAnyH_take (i := 6) (oi := ({ dst := some 40, op := Op.load 23 (Operand.tmp 2), type := 23, pos := "law.go:119", after := #[{ on := 5, ground := Ground.guard }], guard := some (5, true) } : Oper)) (v := ?_) rfl (by kernel_rfl) (by kernel_rfl) (by kernel_rfl) (fun _ _ _ h => h) (Or.inl ⟨by rfl, ?_⟩) hS11 ?_
      rotate_left
      · intro w hSw; (try dsimp only at hSw); go_simp; (try with_reducible rfl)
      simp only [Act.put, List.setIfInBounds_toArray, List.set_cons_zero, List.set_cons_succ]
      refine wpAnyH_take (i := 7) (oi := ({ dst := some 41, op := Op.load 23 (Operand.tmp 2), type := 23, pos := "law.go:119", after := #[{ on := 5, ground := Ground.guard }], guard := some (5, true) } : Oper)) (v := ?_) rfl (by kernel_rfl) (by kernel_rfl) (by kernel_rfl) (fun _ _ _ h => h) (Or.inl ⟨by rfl, ?_⟩) hS11 ?_
      rotate_left
      · intro w hSw; (try dsimp only at hSw); go_simp; (try with_reducible rfl)
      simp only [Act.put, List.setIfInBounds_toArray, List.set_cons_zero, List.set_cons_succ]
      refine wpAnyH_ready (rs := [8]) (by kernel_rfl) (by simp) ?_
      refine AllReadyH.cons (o := ({ dst := some 42, op := Op.call { callee := Callee.value (Operand.func 19), args := #[Operand.tmp 40, Operand.tmp 41], argTypes := #[23, 23] }, type := 29, pos := "law.go:119", after := #[{ on := 6, ground := Ground.data }, { on := 7, ground := Ground.data }, { on := 5, ground := Ground.chain }, { on := 5, ground := Ground.guard }], guard := some (5, true) } : Oper)) rfl (fun K hK => ?_) AllReadyH.nil
      go_simp
      refine (kcs.out _).mono ?_; rintro e w12 ⟨⟨ao, cap, rfl⟩, hb12⟩
      go_wp2_with fail
      refine hK.out _ _ (mk8 _ (hnext hS11.1 hb12)) (fun hH12 => ?_)
      clear hK K
      (try simp only [Act.put, List.setIfInBounds_toArray, List.set_cons_zero, List.set_cons_succ])
      have hsL_12 := hsL_11.below hb12
      have hsN_12 := hsN_11.below hb12
      have hsA_12 := hsA_11.below hb12
      clear hb12
      have hS12 := hH12
      clear hH12 hS11 hsL_11 hsN_11 hsA_11
      refine wpAnyH_take (i := 9) (oi := ({ dst := some 43, op := Op.call { callee := Callee.builtin Builtin.len, args := #[Operand.tmp 42], argTypes := #[29] }, type := 3, pos := "law.go:119", after := #[{ on := 8, ground := Ground.data }, { on := 5, ground := Ground.guard }], guard := some (5, true) } : Oper)) (v := ?_) rfl (by kernel_rfl) (by kernel_rfl) (by kernel_rfl) (fun _ _ _ h => h) (Or.inl ⟨by rfl, ?_⟩) hS12 ?_
      rotate_left
      · intro w hSw; (try dsimp only at hSw); go_simp; (try with_reducible rfl)
      simp only [Act.put, List.setIfInBounds_toArray, List.set_cons_zero, List.set_cons_succ]
      refine wpAnyH_take (i := 10) (oi := ({ dst := some 44, op := Op.binOp BinOp.eql 3 (Operand.tmp 43) (Operand.const (Value.int IntKind.i64 0)) 3, type := 4, pos := "law.go:119", after := #[{ on := 9, ground := Ground.data }, { on := 5, ground := Ground.guard }], guard := some (5, true) } : Oper)) (v := ?_) rfl (by kernel_rfl) (by kernel_rfl) (by kernel_rfl) (fun _ _ _ h => h) (Or.inl ⟨by rfl, ?_⟩) hS12 ?_
      rotate_left
      · intro w hSw; (try dsimp only at hSw); go_simp; (try with_reducible rfl)
      simp only [Act.put, List.setIfInBounds_toArray, List.set_cons_zero, List.set_cons_succ]
      refine wpAnyH_take (i := 11) (oi := ({ dst := some 45, op := Op.pick (Operand.tmp 39) (Operand.tmp 44) (Operand.const (Value.bool false)), type := 4, pos := "law.go:119", after := #[{ on := 5, ground := Ground.data }, { on := 10, ground := Ground.data }], guard := none } : Oper)) (v := ?_) rfl (by kernel_rfl) (by kernel_rfl) (by kernel_rfl) (fun _ _ _ h => h) (Or.inl ⟨by rfl, ?_⟩) hS12 ?_
      rotate_left
      · intro w hSw; (try dsimp only at hSw); go_simp; (try with_reducible rfl)
      simp only [Act.put, List.setIfInBounds_toArray, List.set_cons_zero, List.set_cons_succ]
      refine wpAnyH_take (i := 12) (oi := ({ dst := some 46, op := Op.move (Operand.tmp 45), type := 4, pos := "law.go:119", after := #[{ on := 11, ground := Ground.data }, { on := 8, ground := Ground.chain }], guard := none } : Oper)) (v := ?_) rfl (by kernel_rfl) (by kernel_rfl) (by kernel_rfl) (fun _ _ _ h => h) (Or.inl ⟨by rfl, ?_⟩) hS12 ?_
      rotate_left
      · intro w hSw; (try dsimp only at hSw); go_simp; (try with_reducible rfl)
      simp only [Act.put, List.setIfInBounds_toArray, List.set_cons_zero, List.set_cons_succ]
      refine wpAnyH_take (i := 13) (oi := ({ dst := some 47, op := Op.move (Operand.tmp 5), type := 29, pos := "law.go:119", after := #[{ on := 12, ground := Ground.guard }], guard := some (12, true) } : Oper)) (v := ?_) rfl (by kernel_rfl) (by kernel_rfl) (by kernel_rfl) (fun _ _ _ h => h) (Or.inl ⟨by rfl, ?_⟩) hS12 ?_
      rotate_left
      · intro w hSw; (try dsimp only at hSw); go_simp; (try with_reducible rfl)
      simp only [Act.put, List.setIfInBounds_toArray, List.set_cons_zero, List.set_cons_succ]
      refine wpAnyH_take (i := 14) (oi := ({ dst := some 48, op := Op.load 23 (Operand.tmp 2), type := 23, pos := "law.go:119", after := #[{ on := 12, ground := Ground.guard }], guard := some (12, true) } : Oper)) (v := ?_) rfl (by kernel_rfl) (by kernel_rfl) (by kernel_rfl) (fun _ _ _ h => h) (Or.inl ⟨by rfl, ?_⟩) hS12 ?_
      rotate_left
      · intro w hSw; (try dsimp only at hSw); go_simp; (try with_reducible rfl)
      simp only [Act.put, List.setIfInBounds_toArray, List.set_cons_zero, List.set_cons_succ]
      refine wpAnyH_ready (rs := [15]) (by kernel_rfl) (by simp) ?_
      refine AllReadyH.cons (o := ({ dst := some 49, op := Op.call { callee := Callee.value (Operand.func 24), args := #[Operand.tmp 47, Operand.tmp 48], argTypes := #[29, 23] }, type := 4, pos := "law.go:119", after := #[{ on := 13, ground := Ground.data }, { on := 14, ground := Ground.data }, { on := 12, ground := Ground.chain }, { on := 12, ground := Ground.guard }], guard := some (12, true) } : Oper)) rfl (fun K hK => ?_) AllReadyH.nil
      go_simp
      refine (covers_any _ _ a b _ hsL_12 (by rw [← hlr.out]; simp; omega)).mono ?_; rintro e w13 ⟨rfl, hb13⟩
      rw [hcr.out]
      go_wp2_with fail
      refine hK.out _ _ (mk8 _ (hnext hS12.1 hb13)) (fun hH13 => ?_)
      clear hK K
      (try simp only [Act.put, List.setIfInBounds_toArray, List.set_cons_zero, List.set_cons_succ])
      have hsL_13 := hsL_12.below hb13
      have hsN_13 := hsN_12.below hb13
      have hsA_13 := hsA_12.below hb13
      clear hb13
      have hS13 := hH13
      clear hH13 hS12 hsL_12 hsN_12 hsA_12
      refine wpAnyH_take (i := 16) (oi := ({ dst := some 50, op := Op.pick (Operand.tmp 46) (Operand.tmp 49) (Operand.const (Value.bool false)), type := 4, pos := "law.go:119", after := #[{ on := 12, ground := Ground.data }, { on := 15, ground := Ground.data }], guard := none } : Oper)) (v := ?_) rfl (by kernel_rfl) (by kernel_rfl) (by kernel_rfl) (fun _ _ _ h => h) (Or.inl ⟨by rfl, ?_⟩) hS13 ?_
      rotate_left
      · intro w hSw; (try dsimp only at hSw); go_simp; (try with_reducible rfl)
      simp only [Act.put, List.setIfInBounds_toArray, List.set_cons_zero, List.set_cons_succ]
      refine wpAnyH_take (i := 17) (oi := ({ dst := some 51, op := Op.move (Operand.tmp 50), type := 4, pos := "law.go:119", after := #[{ on := 16, ground := Ground.data }, { on := 15, ground := Ground.chain }], guard := none } : Oper)) (v := ?_) rfl (by kernel_rfl) (by kernel_rfl) (by kernel_rfl) (fun _ _ _ h => h) (Or.inl ⟨by rfl, ?_⟩) hS13 ?_
      rotate_left
      · intro w hSw; (try dsimp only at hSw); go_simp; (try with_reducible rfl)
      simp only [Act.put, List.setIfInBounds_toArray, List.set_cons_zero, List.set_cons_succ]
      refine wpAnyH_ready (rs := [18]) (by kernel_rfl) (by simp) ?_
      refine AllReadyH.cons (o := ({ dst := some 52, op := Op.call { callee := Callee.value (Operand.func 21), args := #[], argTypes := #[] }, type := 4, pos := "law.go:119", after := #[{ on := 17, ground := Ground.chain }, { on := 17, ground := Ground.guard }], guard := some (17, true) } : Oper)) rfl (fun K hK => ?_) AllReadyH.nil
      go_simp
      refine (known_any _).mono ?_; rintro e w14 ⟨rfl, hb14⟩
      go_wp2_with fail
      refine hK.out _ _ (mk8 _ (hnext hS13.1 hb14)) (fun hH14 => ?_)
      clear hK K
      (try simp only [Act.put, List.setIfInBounds_toArray, List.set_cons_zero, List.set_cons_succ])
      have hsL_14 := hsL_13.below hb14
      have hsN_14 := hsN_13.below hb14
      have hsA_14 := hsA_13.below hb14
      clear hb14
      have hS14 := hH14
      clear hH14 hS13 hsL_13 hsN_13 hsA_13
      refine wpAnyH_take (i := 19) (oi := ({ dst := some 53, op := Op.pick (Operand.tmp 51) (Operand.tmp 52) (Operand.const (Value.bool false)), type := 4, pos := "law.go:119", after := #[{ on := 17, ground := Ground.data }, { on := 18, ground := Ground.data }], guard := none } : Oper)) (v := ?_) rfl (by kernel_rfl) (by kernel_rfl) (by kernel_rfl) (fun _ _ _ h => h) (Or.inl ⟨by rfl, ?_⟩) hS14 ?_
      rotate_left
      · intro w hSw; (try dsimp only at hSw); go_simp; (try with_reducible rfl)
      simp only [Act.put, List.setIfInBounds_toArray, List.set_cons_zero, List.set_cons_succ]
      refine wpAnyH_take (i := 20) (oi := ({ dst := some 4, op := Op.assign (Operand.tmp 53), type := 4, pos := "law.go:119", after := #[{ on := 19, ground := Ground.data }, { on := 18, ground := Ground.chain }, { on := 0, ground := Ground.phase }, { on := 1, ground := Ground.phase }, { on := 2, ground := Ground.phase }, { on := 3, ground := Ground.phase }, { on := 4, ground := Ground.phase }, { on := 5, ground := Ground.phase }, { on := 6, ground := Ground.phase }, { on := 7, ground := Ground.phase }, { on := 8, ground := Ground.phase }, { on := 9, ground := Ground.phase }, { on := 10, ground := Ground.phase }, { on := 11, ground := Ground.phase }, { on := 12, ground := Ground.phase }, { on := 13, ground := Ground.phase }, { on := 14, ground := Ground.phase }, { on := 15, ground := Ground.phase }, { on := 16, ground := Ground.phase }, { on := 17, ground := Ground.phase }, { on := 18, ground := Ground.phase }, { on := 19, ground := Ground.phase }], guard := none } : Oper)) (v := ?_) rfl (by kernel_rfl) (by kernel_rfl) (by kernel_rfl) (fun _ _ _ h => h) (Or.inl ⟨by rfl, ?_⟩) hS14 ?_
      rotate_left
      · intro w hSw; (try dsimp only at hSw); go_simp; (try with_reducible rfl)
      simp only [Act.put, List.setIfInBounds_toArray, List.set_cons_zero, List.set_cons_succ]
      refine wpAnyH_done (by kernel_rfl) ?_ _
      go_wp2_with fail
      go_ret
      exact ⟨rfl, bnext hB8 hS14.1⟩
    · go_simp
      refine hK.out _ _ (mk8 _ (hS8.1.alloc hS8.1.size _)) (fun hH9 => ?_)
      clear hK K
      (try simp only [Act.put, List.setIfInBounds_toArray, List.set_cons_zero, List.set_cons_succ])
      have hsL_9 := hsL_8.below (ba w8 (.cells #[.int .i64 a, .int .i64 b] 23))
      have hsA_9 : SpansAt (w8.alloc (.cells #[.int .i64 a, .int .i64 b] 23)) (.slice (some ⟨w8.heap.size, 0, none⟩) 1 1) [(a, b)] := spans_one rfl
      generalize w8.alloc (.cells #[.int .i64 a, .int .i64 b] 23) = w9 at *
      have hS9 := hH9
      clear hH9 hS8 hsL_8
      refine wpAnyH_ready (rs := [1]) (by kernel_rfl) (by simp) ?_
      refine AllReadyH.cons (o := ({ dst := some 35, op := Op.call { callee := Callee.value (Operand.func 22), args := #[Operand.tmp 34], argTypes := #[29] }, type := 29, pos := "law.go:119", after := #[{ on := 0, ground := Ground.data }], guard := none } : Oper)) rfl (fun K hK => ?_) AllReadyH.nil
      go_simp
      refine (norm_any _ _ _ hsL_9 (by rw [← hlr.out]; simp; omega)).mono ?_; rintro e w10 ⟨⟨vn, rfl, hown⟩, hb10⟩
      rw [hnr.out] at hown
      have hsN_10 := SpansAt.own hown
      clear hown
      go_wp2_with fail
      refine hK.out _ _ (mk8 _ (hnext hS9.1 hb10)) (fun hH10 => ?_)
      clear hK K
      (try simp only [Act.put, List.setIfInBounds_toArray, List.set_cons_zero, List.set_cons_succ])
      have hsL_10 := hsL_9.below hb10
      have hsA_10 := hsA_9.below hb10
      clear hb10
      have hS10 := hH10
      clear hH10 hS9 hsL_9 hsA_9
      refine wpAnyH_ready (rs := [4]) (by kernel_rfl) (by simp) ?_
      refine AllReadyH.cons (o := ({ dst := some 38, op := Op.call { callee := Callee.value (Operand.func 18), args := #[Operand.tmp 35, Operand.tmp 37], argTypes := #[29, 29] }, type := 4, pos := "law.go:119", after := #[{ on := 1, ground := Ground.data }, { on := 3, ground := Ground.data }, { on := 1, ground := Ground.chain }], guard := none } : Oper)) rfl (fun K hK => ?_) AllReadyH.nil
      go_simp
      refine (same_any _ _ _ _ _ hsN_10 hsA_10 (by simp) (by simp)).mono ?_; rintro e w11 ⟨rfl, hb11⟩
      rw [show (decide ([(a, b)] = [(a, b)])) = true from by simp]
      go_wp2_with fail
      refine hK.out _ _ (mk8 _ (hnext hS10.1 hb11)) (fun hH11 => ?_)
      clear hK K
      (try simp only [Act.put, List.setIfInBounds_toArray, List.set_cons_zero, List.set_cons_succ])
      have hsL_11 := hsL_10.below hb11
      have hsA_11 := hsA_10.below hb11
      have hsN_11 := hsN_10.below hb11
      clear hb11
      have hS11 := hH11
      clear hH11 hS10 hsL_10 hsA_10 hsN_10
      refine wpAnyH_take (i := 5) (oi := ({ dst := some 39, op := Op.move (Operand.tmp 38), type := 4, pos := "law.go:119", after := #[{ on := 4, ground := Ground.data }, { on := 4, ground := Ground.chain }], guard := none } : Oper)) (v := ?_) rfl (by kernel_rfl) (by kernel_rfl) (by kernel_rfl) (fun _ _ _ h => h) (Or.inl ⟨by rfl, ?_⟩) hS11 ?_
      rotate_left
      · intro w hSw; (try dsimp only at hSw); go_simp; (try with_reducible rfl)
      simp only [Act.put, List.setIfInBounds_toArray, List.set_cons_zero, List.set_cons_succ]
      refine wpAnyH_take (i := 6) (oi := ({ dst := some 40, op := Op.load 23 (Operand.tmp 2), type := 23, pos := "law.go:119", after := #[{ on := 5, ground := Ground.guard }], guard := some (5, true) } : Oper)) (v := ?_) rfl (by kernel_rfl) (by kernel_rfl) (by kernel_rfl) (fun _ _ _ h => h) (Or.inl ⟨by rfl, ?_⟩) hS11 ?_
      rotate_left
      · intro w hSw; (try dsimp only at hSw); go_simp; (try with_reducible rfl)
      simp only [Act.put, List.setIfInBounds_toArray, List.set_cons_zero, List.set_cons_succ]
      refine wpAnyH_take (i := 7) (oi := ({ dst := some 41, op := Op.load 23 (Operand.tmp 2), type := 23, pos := "law.go:119", after := #[{ on := 5, ground := Ground.guard }], guard := some (5, true) } : Oper)) (v := ?_) rfl (by kernel_rfl) (by kernel_rfl) (by kernel_rfl) (fun _ _ _ h => h) (Or.inl ⟨by rfl, ?_⟩) hS11 ?_
      rotate_left
      · intro w hSw; (try dsimp only at hSw); go_simp; (try with_reducible rfl)
      simp only [Act.put, List.setIfInBounds_toArray, List.set_cons_zero, List.set_cons_succ]
      refine wpAnyH_ready (rs := [8]) (by kernel_rfl) (by simp) ?_
      refine AllReadyH.cons (o := ({ dst := some 42, op := Op.call { callee := Callee.value (Operand.func 19), args := #[Operand.tmp 40, Operand.tmp 41], argTypes := #[23, 23] }, type := 29, pos := "law.go:119", after := #[{ on := 6, ground := Ground.data }, { on := 7, ground := Ground.data }, { on := 5, ground := Ground.chain }, { on := 5, ground := Ground.guard }], guard := some (5, true) } : Oper)) rfl (fun K hK => ?_) AllReadyH.nil
      go_simp
      refine (kcs.out _).mono ?_; rintro e w12 ⟨⟨ao, cap, rfl⟩, hb12⟩
      go_wp2_with fail
      refine hK.out _ _ (mk8 _ (hnext hS11.1 hb12)) (fun hH12 => ?_)
      clear hK K
      (try simp only [Act.put, List.setIfInBounds_toArray, List.set_cons_zero, List.set_cons_succ])
      have hsL_12 := hsL_11.below hb12
      have hsA_12 := hsA_11.below hb12
      have hsN_12 := hsN_11.below hb12
      clear hb12
      have hS12 := hH12
      clear hH12 hS11 hsL_11 hsA_11 hsN_11
      refine wpAnyH_take (i := 9) (oi := ({ dst := some 43, op := Op.call { callee := Callee.builtin Builtin.len, args := #[Operand.tmp 42], argTypes := #[29] }, type := 3, pos := "law.go:119", after := #[{ on := 8, ground := Ground.data }, { on := 5, ground := Ground.guard }], guard := some (5, true) } : Oper)) (v := ?_) rfl (by kernel_rfl) (by kernel_rfl) (by kernel_rfl) (fun _ _ _ h => h) (Or.inl ⟨by rfl, ?_⟩) hS12 ?_
      rotate_left
      · intro w hSw; (try dsimp only at hSw); go_simp; (try with_reducible rfl)
      simp only [Act.put, List.setIfInBounds_toArray, List.set_cons_zero, List.set_cons_succ]
      refine wpAnyH_take (i := 10) (oi := ({ dst := some 44, op := Op.binOp BinOp.eql 3 (Operand.tmp 43) (Operand.const (Value.int IntKind.i64 0)) 3, type := 4, pos := "law.go:119", after := #[{ on := 9, ground := Ground.data }, { on := 5, ground := Ground.guard }], guard := some (5, true) } : Oper)) (v := ?_) rfl (by kernel_rfl) (by kernel_rfl) (by kernel_rfl) (fun _ _ _ h => h) (Or.inl ⟨by rfl, ?_⟩) hS12 ?_
      rotate_left
      · intro w hSw; (try dsimp only at hSw); go_simp; (try with_reducible rfl)
      simp only [Act.put, List.setIfInBounds_toArray, List.set_cons_zero, List.set_cons_succ]
      refine wpAnyH_take (i := 11) (oi := ({ dst := some 45, op := Op.pick (Operand.tmp 39) (Operand.tmp 44) (Operand.const (Value.bool false)), type := 4, pos := "law.go:119", after := #[{ on := 5, ground := Ground.data }, { on := 10, ground := Ground.data }], guard := none } : Oper)) (v := ?_) rfl (by kernel_rfl) (by kernel_rfl) (by kernel_rfl) (fun _ _ _ h => h) (Or.inl ⟨by rfl, ?_⟩) hS12 ?_
      rotate_left
      · intro w hSw; (try dsimp only at hSw); go_simp; (try with_reducible rfl)
      simp only [Act.put, List.setIfInBounds_toArray, List.set_cons_zero, List.set_cons_succ]
      refine wpAnyH_take (i := 12) (oi := ({ dst := some 46, op := Op.move (Operand.tmp 45), type := 4, pos := "law.go:119", after := #[{ on := 11, ground := Ground.data }, { on := 8, ground := Ground.chain }], guard := none } : Oper)) (v := ?_) rfl (by kernel_rfl) (by kernel_rfl) (by kernel_rfl) (fun _ _ _ h => h) (Or.inl ⟨by rfl, ?_⟩) hS12 ?_
      rotate_left
      · intro w hSw; (try dsimp only at hSw); go_simp; (try with_reducible rfl)
      simp only [Act.put, List.setIfInBounds_toArray, List.set_cons_zero, List.set_cons_succ]
      refine wpAnyH_take (i := 13) (oi := ({ dst := some 47, op := Op.move (Operand.tmp 5), type := 29, pos := "law.go:119", after := #[{ on := 12, ground := Ground.guard }], guard := some (12, true) } : Oper)) (v := ?_) rfl (by kernel_rfl) (by kernel_rfl) (by kernel_rfl) (fun _ _ _ h => h) (Or.inl ⟨by rfl, ?_⟩) hS12 ?_
      rotate_left
      · intro w hSw; (try dsimp only at hSw); go_simp; (try with_reducible rfl)
      simp only [Act.put, List.setIfInBounds_toArray, List.set_cons_zero, List.set_cons_succ]
      refine wpAnyH_take (i := 14) (oi := ({ dst := some 48, op := Op.load 23 (Operand.tmp 2), type := 23, pos := "law.go:119", after := #[{ on := 12, ground := Ground.guard }], guard := some (12, true) } : Oper)) (v := ?_) rfl (by kernel_rfl) (by kernel_rfl) (by kernel_rfl) (fun _ _ _ h => h) (Or.inl ⟨by rfl, ?_⟩) hS12 ?_
      rotate_left
      · intro w hSw; (try dsimp only at hSw); go_simp; (try with_reducible rfl)
      simp only [Act.put, List.setIfInBounds_toArray, List.set_cons_zero, List.set_cons_succ]
      refine wpAnyH_ready (rs := [15]) (by kernel_rfl) (by simp) ?_
      refine AllReadyH.cons (o := ({ dst := some 49, op := Op.call { callee := Callee.value (Operand.func 24), args := #[Operand.tmp 47, Operand.tmp 48], argTypes := #[29, 23] }, type := 4, pos := "law.go:119", after := #[{ on := 13, ground := Ground.data }, { on := 14, ground := Ground.data }, { on := 12, ground := Ground.chain }, { on := 12, ground := Ground.guard }], guard := some (12, true) } : Oper)) rfl (fun K hK => ?_) AllReadyH.nil
      go_simp
      refine (covers_any _ _ a b _ hsL_12 (by rw [← hlr.out]; simp; omega)).mono ?_; rintro e w13 ⟨rfl, hb13⟩
      rw [hcr.out]
      go_wp2_with fail
      refine hK.out _ _ (mk8 _ (hnext hS12.1 hb13)) (fun hH13 => ?_)
      clear hK K
      (try simp only [Act.put, List.setIfInBounds_toArray, List.set_cons_zero, List.set_cons_succ])
      have hsL_13 := hsL_12.below hb13
      have hsA_13 := hsA_12.below hb13
      have hsN_13 := hsN_12.below hb13
      clear hb13
      have hS13 := hH13
      clear hH13 hS12 hsL_12 hsA_12 hsN_12
      refine wpAnyH_take (i := 16) (oi := ({ dst := some 50, op := Op.pick (Operand.tmp 46) (Operand.tmp 49) (Operand.const (Value.bool false)), type := 4, pos := "law.go:119", after := #[{ on := 12, ground := Ground.data }, { on := 15, ground := Ground.data }], guard := none } : Oper)) (v := ?_) rfl (by kernel_rfl) (by kernel_rfl) (by kernel_rfl) (fun _ _ _ h => h) (Or.inl ⟨by rfl, ?_⟩) hS13 ?_
      rotate_left
      · intro w hSw; (try dsimp only at hSw); go_simp; (try with_reducible rfl)
      simp only [Act.put, List.setIfInBounds_toArray, List.set_cons_zero, List.set_cons_succ]
      refine wpAnyH_take (i := 17) (oi := ({ dst := some 51, op := Op.move (Operand.tmp 50), type := 4, pos := "law.go:119", after := #[{ on := 16, ground := Ground.data }, { on := 15, ground := Ground.chain }], guard := none } : Oper)) (v := ?_) rfl (by kernel_rfl) (by kernel_rfl) (by kernel_rfl) (fun _ _ _ h => h) (Or.inl ⟨by rfl, ?_⟩) hS13 ?_
      rotate_left
      · intro w hSw; (try dsimp only at hSw); go_simp; (try with_reducible rfl)
      simp only [Act.put, List.setIfInBounds_toArray, List.set_cons_zero, List.set_cons_succ]
      refine wpAnyH_ready (rs := [18]) (by kernel_rfl) (by simp) ?_
      refine AllReadyH.cons (o := ({ dst := some 52, op := Op.call { callee := Callee.value (Operand.func 21), args := #[], argTypes := #[] }, type := 4, pos := "law.go:119", after := #[{ on := 17, ground := Ground.chain }, { on := 17, ground := Ground.guard }], guard := some (17, true) } : Oper)) rfl (fun K hK => ?_) AllReadyH.nil
      go_simp
      refine (known_any _).mono ?_; rintro e w14 ⟨rfl, hb14⟩
      go_wp2_with fail
      refine hK.out _ _ (mk8 _ (hnext hS13.1 hb14)) (fun hH14 => ?_)
      clear hK K
      (try simp only [Act.put, List.setIfInBounds_toArray, List.set_cons_zero, List.set_cons_succ])
      have hsL_14 := hsL_13.below hb14
      have hsA_14 := hsA_13.below hb14
      have hsN_14 := hsN_13.below hb14
      clear hb14
      have hS14 := hH14
      clear hH14 hS13 hsL_13 hsA_13 hsN_13
      refine wpAnyH_take (i := 19) (oi := ({ dst := some 53, op := Op.pick (Operand.tmp 51) (Operand.tmp 52) (Operand.const (Value.bool false)), type := 4, pos := "law.go:119", after := #[{ on := 17, ground := Ground.data }, { on := 18, ground := Ground.data }], guard := none } : Oper)) (v := ?_) rfl (by kernel_rfl) (by kernel_rfl) (by kernel_rfl) (fun _ _ _ h => h) (Or.inl ⟨by rfl, ?_⟩) hS14 ?_
      rotate_left
      · intro w hSw; (try dsimp only at hSw); go_simp; (try with_reducible rfl)
      simp only [Act.put, List.setIfInBounds_toArray, List.set_cons_zero, List.set_cons_succ]
      refine wpAnyH_take (i := 20) (oi := ({ dst := some 4, op := Op.assign (Operand.tmp 53), type := 4, pos := "law.go:119", after := #[{ on := 19, ground := Ground.data }, { on := 18, ground := Ground.chain }, { on := 0, ground := Ground.phase }, { on := 1, ground := Ground.phase }, { on := 2, ground := Ground.phase }, { on := 3, ground := Ground.phase }, { on := 4, ground := Ground.phase }, { on := 5, ground := Ground.phase }, { on := 6, ground := Ground.phase }, { on := 7, ground := Ground.phase }, { on := 8, ground := Ground.phase }, { on := 9, ground := Ground.phase }, { on := 10, ground := Ground.phase }, { on := 11, ground := Ground.phase }, { on := 12, ground := Ground.phase }, { on := 13, ground := Ground.phase }, { on := 14, ground := Ground.phase }, { on := 15, ground := Ground.phase }, { on := 16, ground := Ground.phase }, { on := 17, ground := Ground.phase }, { on := 18, ground := Ground.phase }, { on := 19, ground := Ground.phase }], guard := none } : Oper)) (v := ?_) rfl (by kernel_rfl) (by kernel_rfl) (by kernel_rfl) (fun _ _ _ h => h) (Or.inl ⟨by rfl, ?_⟩) hS14 ?_
      rotate_left
      · intro w hSw; (try dsimp only at hSw); go_simp; (try with_reducible rfl)
      simp only [Act.put, List.setIfInBounds_toArray, List.set_cons_zero, List.set_cons_succ]
      refine wpAnyH_done (by kernel_rfl) ?_ _
      go_wp2_with fail
      go_ret
      exact ⟨rfl, bnext hB8 hS14.1⟩
end Go.Proofs.Ytghgiifclocddaa
