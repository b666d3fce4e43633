/-
  SpanFew answers true, whatever the spans and the time: the walk. No condition.
-/
import Derived.Test.YtghgiifclocddaaSpanCo
namespace Go.Proofs.Ytghgiifclocddaa
open Go.RowKit

namespace Sp
theorem norm_norm (l : List Span) : norm (norm l) = norm l := few_eq (norm_few _).1 (norm_few _).1 fun t => by rw [(norm_few _).2]
theorem mem_rev (l : List Span) (t : Int) : mem l.reverse t ↔ mem l t := by simp [mem]
theorem norm_rev (l : List Span) : norm l.reverse = norm l := few_eq (norm_few _).1 (norm_few _).1 fun t => by rw [(norm_few _).2, (norm_few _).2, mem_rev]
theorem any_norm (l : List Span) (t : Int) : anyHas (norm l) t = anyHas l t := by
  have h : anyHas (norm l) t = true ↔ anyHas l t = true := by rw [any_iff, any_iff, (norm_few l).2]
  cases h1 : anyHas (norm l) t <;> cases h2 : anyHas l t <;> simp_all
theorem few_lt {l : List Span} (h : Few l) : ∀ (i j : Nat) (hij : i < j) (hj : j < l.length), (l[i]'(Nat.lt_trans hij hj)).2 < l[j].1 := by
  induction l with
  | nil => intro i j _ hj; simp at hj
  | cons s l ih =>
    intro i j hij hj
    cases j with
    | zero => omega
    | succ j =>
      cases i with
      | zero => exact h.2.1 _ (List.getElem_mem _)
      | succ i => exact ih h.2.2 i j (by omega) (by simpa using hj)
theorem norm_length (l : List Span) : (norm l).length ≤ l.length := by
  unfold norm
  have h1 := foldl_mstep_length (rise (rights l)) []
  have h2 : (rise (rights l)).length = (rights l).length := riseTo_length _ _
  have h3 := rights_length l
  simp at h1
  omega
theorem drop_step (l : List Span) (t : Int) (j : Nat) (h : j < l.length) : anyHas (l.drop j) t = (anyHas (l.drop (j + 1)) t || has l[j] t) ∧ (l.drop j).reverse = (l.drop (j + 1)).reverse ++ [l[j]] := by
  rw [List.drop_eq_getElem_cons h]
  refine ⟨?_, by rw [List.reverse_cons]⟩
  simp only [anyHas, List.any_cons]
  exact Bool.or_comm _ _
end Sp

set_option maxRecDepth 100000 in
set_option maxHeartbeats 6400000 in
theorem spanFew_walk (v : Value) (l : List Sp.Span) (t : Int) (w : World) (hv0 : l.length ≤ maxLen ∧ SpansAt w v l) : Calls Try.prog 6 #[v, .int .i64 t] w fun e w' => e = .returned (.bool true) ∧ Below w.heap.size w w' := by
  obtain ⟨hmax, hv⟩ := hv0
  by_cases h60 : 60 < l.length
  · rcases hv with ⟨rfl, ao, cap, rfl⟩ | ⟨g, off, cap, rfl, hlt, hc⟩
    · simp at h60
    · have h60' : (60 : Int) < l.length := by omega
      go_enter Try.func6, Try.ntmps6
      go_wp2_with (go_at_call 21; refine (known_any _).mono ?_; rintro e wn ⟨rfl, hb⟩)
      go_ret
      exact ⟨rfl, hb⟩
  have hl6 : l.length ≤ 1000000 := by omega
  have hnl := Sp.norm_length l
  have hnorm := hid (norm_any v l w hv hl6)
  have hnn0 := Sp.norm_norm l
  have hnt0 := Sp.norm_rev l
  have hfew := hid (Sp.norm_few l).1
  have hmn0 := Sp.any_norm l t
  generalize Sp.norm l = n at hnl hnorm hnn0 hnt0 hfew hmn0
  obtain ⟨m, hm0⟩ : ∃ m, Sp.anyHas l t = m := ⟨_, rfl⟩
  rw [hm0] at hmn0
  have hnn := hid hnn0
  have hnt := hid hnt0
  have hmn := hid hmn0
  have hml := hid hm0
  clear hnn0 hnt0 hmn0 hm0
  have hln6 : n.length ≤ 1000000 := by omega
  have hln60 : n.length ≤ 60 := by omega
  rcases hv with ⟨rfl, ao, cap, rfl⟩ | ⟨g, off, cap, rfl, hlt, hc⟩
  · go_enter Try.func6, Try.ntmps6
    go_wp2_with fail
    refine (hnorm.out).mono ?_; rintro e w0 ⟨⟨vn, rfl, hown1⟩, hB1⟩
    go_wp2_with fail
    go_loopw [6, 8, 9] (fun o tn i wr => o = .bool m ∧ tn = .slice none 0 0 ∧ i = .int .i64 (-1) ∧ Below w0.heap.size w0 wr) (fun _ _ _ _ => 0)
    case atStart => exact ⟨by rw [← hml.out]; rfl, rfl, rfl, Below.refl _ _⟩
    case round =>
      obtain ⟨rfl, rfl, rfl, hbr⟩ := hrel
      have hown : wr.ownsRow w0.heap.size 23 2 (.slice none 0 0) (([] : List Sp.Span).reverse).length (scells (([] : List Sp.Span).reverse)) := World.ownsRow_nil _ _ _ _
      obtain ⟨wo, rfl⟩ : ∃ wo : World, wo = wr := ⟨_, rfl⟩
      have HT := hid (SpansAt.own hown)
      have hownN := own_below hown1 hbr
      have HN := hid (SpansAt.own hownN)
      have HB := hid (bnext hB1 hbr)
      clear hown hbr
      rcases own_shape hownN with ⟨rfl, hn0⟩ | ⟨gn, cn, rfl, hgn1, hgn2, _⟩
      · obtain rfl : m = false := by rw [← hmn.out, hn0]; rfl
        go_wp2_with fail
        go_loopw [7, 10] (fun s i wr => s = .bool false ∧ i = .int .i64 0 ∧ Below wo.heap.size wo wr) (fun _ _ _ => 0)
        case atStart => exact ⟨rfl, rfl, Below.refl _ _⟩
        case round =>
          obtain ⟨rfl, rfl, hbr⟩ := hrel
          have hsn := SpansAt.below HN.out hbr
          have hst := SpansAt.below HT.out hbr
          have hB := bnext HB.out hbr
          go_wp2_with fail
          refine (norm_any _ _ _ hsn hln6).mono ?_; rintro e wa ⟨⟨va, rfl, hoa⟩, hba⟩
          rw [hnn.out] at hoa
          have sa := SpansAt.own hoa
          replace hsn := SpansAt.below hsn hba
          replace hst := SpansAt.below hst hba
          replace hB := bnext hB hba
          clear hoa hba
          go_wp2_with fail
          refine (same_any _ _ _ _ _ sa hsn hln6 hln6).mono ?_; rintro e wb ⟨rfl, hbb⟩
          replace hsn := SpansAt.below hsn hbb
          replace hst := SpansAt.below hst hbb
          replace hB := bnext hB hbb
          clear hbb sa
          go_wp2_with fail
          refine (norm_any _ _ _ hst (by first | (simp; done) | (simp; omega))).mono ?_; rintro e wc ⟨⟨vc, rfl, hoc⟩, hbc⟩
          rw [hnt.out] at hoc
          have sc := SpansAt.own hoc
          replace hsn := SpansAt.below hsn hbc
          replace hB := bnext hB hbc
          clear hoc hbc hst
          go_wp2_with fail
          refine (same_any _ _ _ _ _ sc hsn hln6 hln6).mono ?_; rintro e wd ⟨rfl, hbd⟩
          replace hB := bnext hB hbd
          clear hbd sc
          go_wp2_with fail
          refine (known_any _).mono ?_; rintro e we ⟨rfl, hbe⟩
          replace hB := bnext hB hbe
          go_wp2_with fail
          go_ret
          exact ⟨rfl, hB⟩
      · have HCN := hid (own_cells hownN)
        go_wp2_with fail
        go_loopw [7, 10] (fun s i wr => ∃ k : Nat, k ≤ n.length ∧ i = .int .i64 k ∧ s = .bool (Sp.anyHas (n.take k) t) ∧ Below wo.heap.size wo wr) (fun _ i _ => n.length - (intOf i).toNat)
        case atStart => exact ⟨0, by omega, rfl, rfl, Below.refl _ _⟩
        case round =>
          obtain ⟨k, hk, rfl, rfl, hbr⟩ := hrel
          obtain ⟨w1, rfl⟩ : ∃ w1 : World, w1 = wr := ⟨_, rfl⟩
          by_cases hlk : k < n.length
          · have hS := hid (Sp.any_snoc n t k hlk)
            have hrt0 := hfew.out.right n[k] (List.getElem_mem hlk)
            obtain ⟨p1, p2, _, _⟩ := HCN.out k n[k] (List.getElem?_eq_getElem hlk)
            have hprev : Hid (∃ pa pb : Int, k = 0 ∨ (∃ j, k = j + 1 ∧ wo.cell? ⟨gn, j * 2, none⟩ = some (.int .i64 pa) ∧ wo.cell? ⟨gn, j * 2 + 1, none⟩ = some (.int .i64 pb) ∧ pb < n[k].1)) := by
              cases k with
              | zero => exact ⟨0, 0, .inl rfl⟩
              | succ j =>
                obtain ⟨u1, u2, _, _⟩ := HCN.out j n[j] (List.getElem?_eq_getElem (by omega))
                exact ⟨_, _, .inr ⟨j, rfl, u1, u2, Sp.few_lt hfew.out j (j + 1) (by omega) hlk⟩⟩
            generalize Sp.anyHas (n.take k) t = hh at hS
            generalize hgk : n[k] = s at hS hrt0 p1 p2 hprev
            clear hgk
            obtain ⟨na, nb⟩ := s
            simp only at p1 p2
            obtain ⟨r, kr, hS2⟩ : ∃ r, Hid (∀ W, Calls Try.prog 16 #[.agg #[.int .i64 na, .int .i64 nb], .int .i64 t] W fun e w' => e = .returned (.bool r) ∧ Below W.heap.size W w') ∧ Hid (Sp.anyHas (n.take (k + 1)) t = (hh || r)) := ⟨_, fun W => has_any na nb t W, hS.out⟩
            have hrt := hid hrt0
            clear hS hrt0
            obtain ⟨pa, pb, hp⟩ := hprev.out
            have hlk' : (k : Int) < n.length := by omega
            rcases hp with rfl | ⟨j, rfl, u1, u2, hlt2⟩
            · rw [show ((0 : Nat) : Int) = 0 from rfl]
              have hS0 : (w1.cell? ⟨gn, 0, none⟩ = some (.int .i64 na) ∧ w1.cell? ⟨gn, 1, none⟩ = some (.int .i64 nb)) ∧ w1.cell? ⟨gn, 0, none⟩ = some (.int .i64 na) ∧ w1.cell? ⟨gn, 1, none⟩ = some (.int .i64 nb) := ⟨⟨by simpa using cellKeep p1 hbr, by simpa using cellKeep p2 hbr⟩, by simpa using cellKeep p1 hbr, by simpa using cellKeep p2 hbr⟩
              cases hh
              · have d1 := hS0.1.1
                have d2 := hS0.1.2
                go_wp2_with fail
                refine (kr.out _).mono ?_; rintro e w2 ⟨rfl, hb1⟩
                clear d1 d2
                replace hS0 := keep4 hS0 hb1
                replace hbr := bnext hbr hb1
                clear hb1
                go_wp2_with fail
                refine wp_region_held_drew (S := (fun W => (W.cell? ⟨gn, 0, none⟩ = some (.int .i64 na) ∧ W.cell? ⟨gn, 1, none⟩ = some (.int .i64 nb)) ∧ W.cell? ⟨gn, 0, none⟩ = some (.int .i64 na) ∧ W.cell? ⟨gn, 1, none⟩ = some (.int .i64 nb))) (by kernel_rfl) hS0 (fun hHeld => ?_)
                try dsimp only at hHeld
                refine wpAnyH_take (i := 0) (oi := ({ dst := some 55, op := Op.move (Operand.tmp 5), type := 29, pos := "law.go:69", after := #[], guard := none } : Oper)) (v := ?_) rfl (by kernel_rfl) (by kernel_rfl) (by kernel_rfl) (fun _ _ _ h => h) (Or.inl ⟨by rfl, ?_⟩) (by assumption) ?_
                rotate_left
                · intro w hSw; (try dsimp only at hSw); go_simp; try with_reducible rfl
                (try simp only [Act.put, List.setIfInBounds_toArray, List.set_cons_zero, List.set_cons_succ])
                refine wpAnyH_take (i := 1) (oi := ({ dst := some 56, op := Op.move (Operand.tmp 10), type := 3, pos := "law.go:69", after := #[], guard := none } : Oper)) (v := ?_) rfl (by kernel_rfl) (by kernel_rfl) (by kernel_rfl) (fun _ _ _ h => h) (Or.inl ⟨by rfl, ?_⟩) (by assumption) ?_
                rotate_left
                · intro w hSw; (try dsimp only at hSw); go_simp; try with_reducible rfl
                (try simp only [Act.put, List.setIfInBounds_toArray, List.set_cons_zero, List.set_cons_succ])
                refine wpAnyH_take (i := 2) (oi := ({ dst := some 57, op := Op.indexAddr 29 (Operand.tmp 55) (Operand.tmp 56), type := 0, pos := "law.go:69", after := #[{ on := 0, ground := Ground.data }, { on := 1, ground := Ground.data }], guard := none } : Oper)) (v := ?_) rfl (by kernel_rfl) (by kernel_rfl) (by kernel_rfl) (fun _ _ _ h => h) (Or.inl ⟨by rfl, ?_⟩) (by assumption) ?_
                rotate_left
                · intro w hSw; (try dsimp only at hSw); go_simp; try with_reducible rfl
                (try simp only [Act.put, List.setIfInBounds_toArray, List.set_cons_zero, List.set_cons_succ])
                refine wpAnyH_take (i := 3) (oi := ({ dst := some 58, op := Op.load 23 (Operand.tmp 57), type := 23, pos := "law.go:69", after := #[{ on := 2, ground := Ground.data }], guard := none } : Oper)) (v := ?_) rfl (by kernel_rfl) (by kernel_rfl) (by kernel_rfl) (fun _ _ _ h => h) (Or.inl ⟨by rfl, ?_⟩) (by assumption) ?_
                rotate_left
                · intro w hSw; (try dsimp only at hSw); go_simp; try with_reducible rfl
                (try simp only [Act.put, List.setIfInBounds_toArray, List.set_cons_zero, List.set_cons_succ])
                refine wpAnyH_ready (rs := [4]) (by kernel_rfl) (by simp) ?_
                refine AllReadyH.cons (o := ({ dst := some 59, op := Op.call { callee := Callee.value (Operand.func 14), args := #[Operand.tmp 58], argTypes := #[23] }, type := 4, pos := "law.go:69", after := #[{ on := 3, ground := Ground.data }], guard := none } : Oper)) rfl (fun K hK => ?_) AllReadyH.nil
                go_simp
                refine (right_below _ _ _).mono ?_; rintro e w3 ⟨rfl, hb3⟩
                rw [hrt.out]
                go_wp2_with fail
                have hS3 := keep4 hHeld hb3
                replace hbr := bnext hbr (no_box hb3)
                refine hK.out _ _ hS3 (fun hHeld2 => ?_)
                clear hK K
                (try simp only [Act.put, List.setIfInBounds_toArray, List.set_cons_zero, List.set_cons_succ])
                refine wpAnyH_take (i := 5) (oi := ({ dst := some 60, op := Op.unOp UnOp.not 4 (Operand.tmp 59), type := 4, pos := "law.go:69", after := #[{ on := 4, ground := Ground.data }], guard := none } : Oper)) (v := ?_) rfl (by kernel_rfl) (by kernel_rfl) (by kernel_rfl) (fun _ _ _ h => h) (Or.inl ⟨by rfl, ?_⟩) (by assumption) ?_
                rotate_left
                · intro w hSw; (try dsimp only at hSw); go_simp; try with_reducible rfl
                (try simp only [Act.put, List.setIfInBounds_toArray, List.set_cons_zero, List.set_cons_succ])
                refine wpAnyH_take (i := 6) (oi := ({ dst := some 61, op := Op.move (Operand.tmp 60), type := 4, pos := "law.go:69", after := #[{ on := 5, ground := Ground.data }, { on := 4, ground := Ground.chain }], guard := none } : Oper)) (v := ?_) rfl (by kernel_rfl) (by kernel_rfl) (by kernel_rfl) (fun _ _ _ h => h) (Or.inl ⟨by rfl, ?_⟩) (by assumption) ?_
                rotate_left
                · intro w hSw; (try dsimp only at hSw); go_simp; try with_reducible rfl
                (try simp only [Act.put, List.setIfInBounds_toArray, List.set_cons_zero, List.set_cons_succ])
                refine wpAnyH_take (i := 7) (oi := ({ dst := some 62, op := Op.move (Operand.tmp 10), type := 3, pos := "law.go:69", after := #[{ on := 6, ground := Ground.guard }], guard := some (6, false) } : Oper)) (v := ?_) rfl (by kernel_rfl) (by kernel_rfl) (by kernel_rfl) (fun _ _ _ h => h) (Or.inl ⟨by rfl, ?_⟩) (by assumption) ?_
                rotate_left
                · intro w hSw; (try dsimp only at hSw); go_simp; try with_reducible rfl
                (try simp only [Act.put, List.setIfInBounds_toArray, List.set_cons_zero, List.set_cons_succ])
                refine wpAnyH_take (i := 8) (oi := ({ dst := some 63, op := Op.binOp BinOp.gtr 3 (Operand.tmp 62) (Operand.const (Value.int IntKind.i64 0)) 3, type := 4, pos := "law.go:69", after := #[{ on := 7, ground := Ground.data }, { on := 6, ground := Ground.guard }], guard := some (6, false) } : Oper)) (v := ?_) rfl (by kernel_rfl) (by kernel_rfl) (by kernel_rfl) (fun _ _ _ h => h) (Or.inl ⟨by rfl, ?_⟩) (by assumption) ?_
                rotate_left
                · intro w hSw; (try dsimp only at hSw); go_simp; try with_reducible rfl
                (try simp only [Act.put, List.setIfInBounds_toArray, List.set_cons_zero, List.set_cons_succ])
                refine wpAnyH_take (i := 9) (oi := ({ dst := some 64, op := Op.move (Operand.tmp 63), type := 4, pos := "law.go:69", after := #[{ on := 8, ground := Ground.data }, { on := 6, ground := Ground.chain }, { on := 6, ground := Ground.guard }], guard := some (6, false) } : Oper)) (v := ?_) rfl (by kernel_rfl) (by kernel_rfl) (by kernel_rfl) (fun _ _ _ h => h) (Or.inl ⟨by rfl, ?_⟩) (by assumption) ?_
                rotate_left
                · intro w hSw; (try dsimp only at hSw); go_simp; try with_reducible rfl
                (try simp only [Act.put, List.setIfInBounds_toArray, List.set_cons_zero, List.set_cons_succ])
                refine wpAnyH_take (i := 10) (oi := ({ dst := some 65, op := Op.move (Operand.tmp 5), type := 29, pos := "law.go:69", after := #[{ on := 9, ground := Ground.guard }], guard := some (9, true) } : Oper)) (v := undef) rfl (by kernel_rfl) (by kernel_rfl) (by kernel_rfl) (fun _ _ _ h => h) (Or.inr ⟨by rfl, rfl⟩) (by assumption) ?_
                (try simp only [Act.put, List.setIfInBounds_toArray, List.set_cons_zero, List.set_cons_succ])
                refine wpAnyH_take (i := 11) (oi := ({ dst := some 66, op := Op.move (Operand.tmp 10), type := 3, pos := "law.go:69", after := #[{ on := 9, ground := Ground.guard }], guard := some (9, true) } : Oper)) (v := undef) rfl (by kernel_rfl) (by kernel_rfl) (by kernel_rfl) (fun _ _ _ h => h) (Or.inr ⟨by rfl, rfl⟩) (by assumption) ?_
                (try simp only [Act.put, List.setIfInBounds_toArray, List.set_cons_zero, List.set_cons_succ])
                refine wpAnyH_take (i := 12) (oi := ({ dst := some 67, op := Op.binOp BinOp.sub 3 (Operand.tmp 66) (Operand.const (Value.int IntKind.i64 1)) 3, type := 3, pos := "law.go:69", after := #[{ on := 11, ground := Ground.data }, { on := 9, ground := Ground.guard }], guard := some (9, true) } : Oper)) (v := undef) rfl (by kernel_rfl) (by kernel_rfl) (by kernel_rfl) (fun _ _ _ h => h) (Or.inr ⟨by rfl, rfl⟩) (by assumption) ?_
                (try simp only [Act.put, List.setIfInBounds_toArray, List.set_cons_zero, List.set_cons_succ])
                refine wpAnyH_take (i := 13) (oi := ({ dst := some 68, op := Op.indexAddr 29 (Operand.tmp 65) (Operand.tmp 67), type := 0, pos := "law.go:69", after := #[{ on := 10, ground := Ground.data }, { on := 12, ground := Ground.data }, { on := 9, ground := Ground.guard }], guard := some (9, true) } : Oper)) (v := undef) rfl (by kernel_rfl) (by kernel_rfl) (by kernel_rfl) (fun _ _ _ h => h) (Or.inr ⟨by rfl, rfl⟩) (by assumption) ?_
                (try simp only [Act.put, List.setIfInBounds_toArray, List.set_cons_zero, List.set_cons_succ])
                refine wpAnyH_take (i := 14) (oi := ({ dst := some 69, op := Op.fieldAddr 23 (Operand.tmp 68) 1, type := 0, pos := "law.go:69", after := #[{ on := 13, ground := Ground.data }, { on := 9, ground := Ground.guard }], guard := some (9, true) } : Oper)) (v := undef) rfl (by kernel_rfl) (by kernel_rfl) (by kernel_rfl) (fun _ _ _ h => h) (Or.inr ⟨by rfl, rfl⟩) (by assumption) ?_
                (try simp only [Act.put, List.setIfInBounds_toArray, List.set_cons_zero, List.set_cons_succ])
                refine wpAnyH_take (i := 15) (oi := ({ dst := some 70, op := Op.load 3 (Operand.tmp 69), type := 3, pos := "law.go:69", after := #[{ on := 14, ground := Ground.data }, { on := 9, ground := Ground.guard }], guard := some (9, true) } : Oper)) (v := undef) rfl (by kernel_rfl) (by kernel_rfl) (by kernel_rfl) (fun _ _ _ h => h) (Or.inr ⟨by rfl, rfl⟩) (by assumption) ?_
                (try simp only [Act.put, List.setIfInBounds_toArray, List.set_cons_zero, List.set_cons_succ])
                refine wpAnyH_take (i := 16) (oi := ({ dst := some 71, op := Op.move (Operand.tmp 5), type := 29, pos := "law.go:69", after := #[{ on := 9, ground := Ground.guard }], guard := some (9, true) } : Oper)) (v := undef) rfl (by kernel_rfl) (by kernel_rfl) (by kernel_rfl) (fun _ _ _ h => h) (Or.inr ⟨by rfl, rfl⟩) (by assumption) ?_
                (try simp only [Act.put, List.setIfInBounds_toArray, List.set_cons_zero, List.set_cons_succ])
                refine wpAnyH_take (i := 17) (oi := ({ dst := some 72, op := Op.move (Operand.tmp 10), type := 3, pos := "law.go:69", after := #[{ on := 9, ground := Ground.guard }], guard := some (9, true) } : Oper)) (v := undef) rfl (by kernel_rfl) (by kernel_rfl) (by kernel_rfl) (fun _ _ _ h => h) (Or.inr ⟨by rfl, rfl⟩) (by assumption) ?_
                (try simp only [Act.put, List.setIfInBounds_toArray, List.set_cons_zero, List.set_cons_succ])
                refine wpAnyH_take (i := 18) (oi := ({ dst := some 73, op := Op.indexAddr 29 (Operand.tmp 71) (Operand.tmp 72), type := 0, pos := "law.go:69", after := #[{ on := 16, ground := Ground.data }, { on := 17, ground := Ground.data }, { on := 9, ground := Ground.guard }], guard := some (9, true) } : Oper)) (v := undef) rfl (by kernel_rfl) (by kernel_rfl) (by kernel_rfl) (fun _ _ _ h => h) (Or.inr ⟨by rfl, rfl⟩) (by assumption) ?_
                (try simp only [Act.put, List.setIfInBounds_toArray, List.set_cons_zero, List.set_cons_succ])
                refine wpAnyH_take (i := 19) (oi := ({ dst := some 74, op := Op.fieldAddr 23 (Operand.tmp 73) 0, type := 0, pos := "law.go:69", after := #[{ on := 18, ground := Ground.data }, { on := 9, ground := Ground.guard }], guard := some (9, true) } : Oper)) (v := undef) rfl (by kernel_rfl) (by kernel_rfl) (by kernel_rfl) (fun _ _ _ h => h) (Or.inr ⟨by rfl, rfl⟩) (by assumption) ?_
                (try simp only [Act.put, List.setIfInBounds_toArray, List.set_cons_zero, List.set_cons_succ])
                refine wpAnyH_take (i := 20) (oi := ({ dst := some 75, op := Op.load 3 (Operand.tmp 74), type := 3, pos := "law.go:69", after := #[{ on := 19, ground := Ground.data }, { on := 9, ground := Ground.guard }], guard := some (9, true) } : Oper)) (v := undef) rfl (by kernel_rfl) (by kernel_rfl) (by kernel_rfl) (fun _ _ _ h => h) (Or.inr ⟨by rfl, rfl⟩) (by assumption) ?_
                (try simp only [Act.put, List.setIfInBounds_toArray, List.set_cons_zero, List.set_cons_succ])
                refine wpAnyH_take (i := 21) (oi := ({ dst := some 76, op := Op.binOp BinOp.geq 3 (Operand.tmp 70) (Operand.tmp 75) 3, type := 4, pos := "law.go:69", after := #[{ on := 15, ground := Ground.data }, { on := 20, ground := Ground.data }, { on := 9, ground := Ground.guard }], guard := some (9, true) } : Oper)) (v := undef) rfl (by kernel_rfl) (by kernel_rfl) (by kernel_rfl) (fun _ _ _ h => h) (Or.inr ⟨by rfl, rfl⟩) (by assumption) ?_
                (try simp only [Act.put, List.setIfInBounds_toArray, List.set_cons_zero, List.set_cons_succ])
                refine wpAnyH_take (i := 22) (oi := ({ dst := some 77, op := Op.pick (Operand.tmp 64) (Operand.tmp 76) (Operand.const (Value.bool false)), type := 4, pos := "law.go:69", after := #[{ on := 9, ground := Ground.data }, { on := 21, ground := Ground.data }, { on := 6, ground := Ground.guard }], guard := some (6, false) } : Oper)) (v := ?_) rfl (by kernel_rfl) (by kernel_rfl) (by kernel_rfl) (fun _ _ _ h => h) (Or.inl ⟨by rfl, ?_⟩) (by assumption) ?_
                rotate_left
                · intro w hSw; (try dsimp only at hSw); go_simp; try with_reducible rfl
                (try simp only [Act.put, List.setIfInBounds_toArray, List.set_cons_zero, List.set_cons_succ])
                refine wpAnyH_take (i := 23) (oi := ({ dst := some 78, op := Op.pick (Operand.tmp 61) (Operand.const (Value.bool true)) (Operand.tmp 77), type := 4, pos := "law.go:69", after := #[{ on := 6, ground := Ground.data }, { on := 22, ground := Ground.data }], guard := none } : Oper)) (v := ?_) rfl (by kernel_rfl) (by kernel_rfl) (by kernel_rfl) (fun _ _ _ h => h) (Or.inl ⟨by rfl, ?_⟩) (by assumption) ?_
                rotate_left
                · intro w hSw; (try dsimp only at hSw); go_simp; try with_reducible rfl
                (try simp only [Act.put, List.setIfInBounds_toArray, List.set_cons_zero, List.set_cons_succ])
                refine wpAnyH_done (by kernel_rfl) ?_ _
                clear hb3 hS3 hS0 hHeld hHeld2
                go_wp2_with fail
                go_roundw
                case rel => exact ⟨0 + 1, by omega, by go_num, by simp [hS2.out], hbr⟩
                case measure => simp [intOf]; omega
              · go_wp2_with fail
                refine wp_region_held_drew (S := (fun W => (W.cell? ⟨gn, 0, none⟩ = some (.int .i64 na) ∧ W.cell? ⟨gn, 1, none⟩ = some (.int .i64 nb)) ∧ W.cell? ⟨gn, 0, none⟩ = some (.int .i64 na) ∧ W.cell? ⟨gn, 1, none⟩ = some (.int .i64 nb))) (by kernel_rfl) hS0 (fun hHeld => ?_)
                try dsimp only at hHeld
                refine wpAnyH_take (i := 0) (oi := ({ dst := some 55, op := Op.move (Operand.tmp 5), type := 29, pos := "law.go:69", after := #[], guard := none } : Oper)) (v := ?_) rfl (by kernel_rfl) (by kernel_rfl) (by kernel_rfl) (fun _ _ _ h => h) (Or.inl ⟨by rfl, ?_⟩) (by assumption) ?_
                rotate_left
                · intro w hSw; (try dsimp only at hSw); go_simp; try with_reducible rfl
                (try simp only [Act.put, List.setIfInBounds_toArray, List.set_cons_zero, List.set_cons_succ])
                refine wpAnyH_take (i := 1) (oi := ({ dst := some 56, op := Op.move (Operand.tmp 10), type := 3, pos := "law.go:69", after := #[], guard := none } : Oper)) (v := ?_) rfl (by kernel_rfl) (by kernel_rfl) (by kernel_rfl) (fun _ _ _ h => h) (Or.inl ⟨by rfl, ?_⟩) (by assumption) ?_
                rotate_left
                · intro w hSw; (try dsimp only at hSw); go_simp; try with_reducible rfl
                (try simp only [Act.put, List.setIfInBounds_toArray, List.set_cons_zero, List.set_cons_succ])
                refine wpAnyH_take (i := 2) (oi := ({ dst := some 57, op := Op.indexAddr 29 (Operand.tmp 55) (Operand.tmp 56), type := 0, pos := "law.go:69", after := #[{ on := 0, ground := Ground.data }, { on := 1, ground := Ground.data }], guard := none } : Oper)) (v := ?_) rfl (by kernel_rfl) (by kernel_rfl) (by kernel_rfl) (fun _ _ _ h => h) (Or.inl ⟨by rfl, ?_⟩) (by assumption) ?_
                rotate_left
                · intro w hSw; (try dsimp only at hSw); go_simp; try with_reducible rfl
                (try simp only [Act.put, List.setIfInBounds_toArray, List.set_cons_zero, List.set_cons_succ])
                refine wpAnyH_take (i := 3) (oi := ({ dst := some 58, op := Op.load 23 (Operand.tmp 57), type := 23, pos := "law.go:69", after := #[{ on := 2, ground := Ground.data }], guard := none } : Oper)) (v := ?_) rfl (by kernel_rfl) (by kernel_rfl) (by kernel_rfl) (fun _ _ _ h => h) (Or.inl ⟨by rfl, ?_⟩) (by assumption) ?_
                rotate_left
                · intro w hSw; (try dsimp only at hSw); go_simp; try with_reducible rfl
                (try simp only [Act.put, List.setIfInBounds_toArray, List.set_cons_zero, List.set_cons_succ])
                refine wpAnyH_ready (rs := [4]) (by kernel_rfl) (by simp) ?_
                refine AllReadyH.cons (o := ({ dst := some 59, op := Op.call { callee := Callee.value (Operand.func 14), args := #[Operand.tmp 58], argTypes := #[23] }, type := 4, pos := "law.go:69", after := #[{ on := 3, ground := Ground.data }], guard := none } : Oper)) rfl (fun K hK => ?_) AllReadyH.nil
                go_simp
                refine (right_below _ _ _).mono ?_; rintro e w3 ⟨rfl, hb3⟩
                rw [hrt.out]
                go_wp2_with fail
                have hS3 := keep4 hHeld hb3
                replace hbr := bnext hbr (no_box hb3)
                refine hK.out _ _ hS3 (fun hHeld2 => ?_)
                clear hK K
                (try simp only [Act.put, List.setIfInBounds_toArray, List.set_cons_zero, List.set_cons_succ])
                refine wpAnyH_take (i := 5) (oi := ({ dst := some 60, op := Op.unOp UnOp.not 4 (Operand.tmp 59), type := 4, pos := "law.go:69", after := #[{ on := 4, ground := Ground.data }], guard := none } : Oper)) (v := ?_) rfl (by kernel_rfl) (by kernel_rfl) (by kernel_rfl) (fun _ _ _ h => h) (Or.inl ⟨by rfl, ?_⟩) (by assumption) ?_
                rotate_left
                · intro w hSw; (try dsimp only at hSw); go_simp; try with_reducible rfl
                (try simp only [Act.put, List.setIfInBounds_toArray, List.set_cons_zero, List.set_cons_succ])
                refine wpAnyH_take (i := 6) (oi := ({ dst := some 61, op := Op.move (Operand.tmp 60), type := 4, pos := "law.go:69", after := #[{ on := 5, ground := Ground.data }, { on := 4, ground := Ground.chain }], guard := none } : Oper)) (v := ?_) rfl (by kernel_rfl) (by kernel_rfl) (by kernel_rfl) (fun _ _ _ h => h) (Or.inl ⟨by rfl, ?_⟩) (by assumption) ?_
                rotate_left
                · intro w hSw; (try dsimp only at hSw); go_simp; try with_reducible rfl
                (try simp only [Act.put, List.setIfInBounds_toArray, List.set_cons_zero, List.set_cons_succ])
                refine wpAnyH_take (i := 7) (oi := ({ dst := some 62, op := Op.move (Operand.tmp 10), type := 3, pos := "law.go:69", after := #[{ on := 6, ground := Ground.guard }], guard := some (6, false) } : Oper)) (v := ?_) rfl (by kernel_rfl) (by kernel_rfl) (by kernel_rfl) (fun _ _ _ h => h) (Or.inl ⟨by rfl, ?_⟩) (by assumption) ?_
                rotate_left
                · intro w hSw; (try dsimp only at hSw); go_simp; try with_reducible rfl
                (try simp only [Act.put, List.setIfInBounds_toArray, List.set_cons_zero, List.set_cons_succ])
                refine wpAnyH_take (i := 8) (oi := ({ dst := some 63, op := Op.binOp BinOp.gtr 3 (Operand.tmp 62) (Operand.const (Value.int IntKind.i64 0)) 3, type := 4, pos := "law.go:69", after := #[{ on := 7, ground := Ground.data }, { on := 6, ground := Ground.guard }], guard := some (6, false) } : Oper)) (v := ?_) rfl (by kernel_rfl) (by kernel_rfl) (by kernel_rfl) (fun _ _ _ h => h) (Or.inl ⟨by rfl, ?_⟩) (by assumption) ?_
                rotate_left
                · intro w hSw; (try dsimp only at hSw); go_simp; try with_reducible rfl
                (try simp only [Act.put, List.setIfInBounds_toArray, List.set_cons_zero, List.set_cons_succ])
                refine wpAnyH_take (i := 9) (oi := ({ dst := some 64, op := Op.move (Operand.tmp 63), type := 4, pos := "law.go:69", after := #[{ on := 8, ground := Ground.data }, { on := 6, ground := Ground.chain }, { on := 6, ground := Ground.guard }], guard := some (6, false) } : Oper)) (v := ?_) rfl (by kernel_rfl) (by kernel_rfl) (by kernel_rfl) (fun _ _ _ h => h) (Or.inl ⟨by rfl, ?_⟩) (by assumption) ?_
                rotate_left
                · intro w hSw; (try dsimp only at hSw); go_simp; try with_reducible rfl
                (try simp only [Act.put, List.setIfInBounds_toArray, List.set_cons_zero, List.set_cons_succ])
                refine wpAnyH_take (i := 10) (oi := ({ dst := some 65, op := Op.move (Operand.tmp 5), type := 29, pos := "law.go:69", after := #[{ on := 9, ground := Ground.guard }], guard := some (9, true) } : Oper)) (v := undef) rfl (by kernel_rfl) (by kernel_rfl) (by kernel_rfl) (fun _ _ _ h => h) (Or.inr ⟨by rfl, rfl⟩) (by assumption) ?_
                (try simp only [Act.put, List.setIfInBounds_toArray, List.set_cons_zero, List.set_cons_succ])
                refine wpAnyH_take (i := 11) (oi := ({ dst := some 66, op := Op.move (Operand.tmp 10), type := 3, pos := "law.go:69", after := #[{ on := 9, ground := Ground.guard }], guard := some (9, true) } : Oper)) (v := undef) rfl (by kernel_rfl) (by kernel_rfl) (by kernel_rfl) (fun _ _ _ h => h) (Or.inr ⟨by rfl, rfl⟩) (by assumption) ?_
                (try simp only [Act.put, List.setIfInBounds_toArray, List.set_cons_zero, List.set_cons_succ])
                refine wpAnyH_take (i := 12) (oi := ({ dst := some 67, op := Op.binOp BinOp.sub 3 (Operand.tmp 66) (Operand.const (Value.int IntKind.i64 1)) 3, type := 3, pos := "law.go:69", after := #[{ on := 11, ground := Ground.data }, { on := 9, ground := Ground.guard }], guard := some (9, true) } : Oper)) (v := undef) rfl (by kernel_rfl) (by kernel_rfl) (by kernel_rfl) (fun _ _ _ h => h) (Or.inr ⟨by rfl, rfl⟩) (by assumption) ?_
                (try simp only [Act.put, List.setIfInBounds_toArray, List.set_cons_zero, List.set_cons_succ])
                refine wpAnyH_take (i := 13) (oi := ({ dst := some 68, op := Op.indexAddr 29 (Operand.tmp 65) (Operand.tmp 67), type := 0, pos := "law.go:69", after := #[{ on := 10, ground := Ground.data }, { on := 12, ground := Ground.data }, { on := 9, ground := Ground.guard }], guard := some (9, true) } : Oper)) (v := undef) rfl (by kernel_rfl) (by kernel_rfl) (by kernel_rfl) (fun _ _ _ h => h) (Or.inr ⟨by rfl, rfl⟩) (by assumption) ?_
                (try simp only [Act.put, List.setIfInBounds_toArray, List.set_cons_zero, List.set_cons_succ])
                refine wpAnyH_take (i := 14) (oi := ({ dst := some 69, op := Op.fieldAddr 23 (Operand.tmp 68) 1, type := 0, pos := "law.go:69", after := #[{ on := 13, ground := Ground.data }, { on := 9, ground := Ground.guard }], guard := some (9, true) } : Oper)) (v := undef) rfl (by kernel_rfl) (by kernel_rfl) (by kernel_rfl) (fun _ _ _ h => h) (Or.inr ⟨by rfl, rfl⟩) (by assumption) ?_
                (try simp only [Act.put, List.setIfInBounds_toArray, List.set_cons_zero, List.set_cons_succ])
                refine wpAnyH_take (i := 15) (oi := ({ dst := some 70, op := Op.load 3 (Operand.tmp 69), type := 3, pos := "law.go:69", after := #[{ on := 14, ground := Ground.data }, { on := 9, ground := Ground.guard }], guard := some (9, true) } : Oper)) (v := undef) rfl (by kernel_rfl) (by kernel_rfl) (by kernel_rfl) (fun _ _ _ h => h) (Or.inr ⟨by rfl, rfl⟩) (by assumption) ?_
                (try simp only [Act.put, List.setIfInBounds_toArray, List.set_cons_zero, List.set_cons_succ])
                refine wpAnyH_take (i := 16) (oi := ({ dst := some 71, op := Op.move (Operand.tmp 5), type := 29, pos := "law.go:69", after := #[{ on := 9, ground := Ground.guard }], guard := some (9, true) } : Oper)) (v := undef) rfl (by kernel_rfl) (by kernel_rfl) (by kernel_rfl) (fun _ _ _ h => h) (Or.inr ⟨by rfl, rfl⟩) (by assumption) ?_
                (try simp only [Act.put, List.setIfInBounds_toArray, List.set_cons_zero, List.set_cons_succ])
                refine wpAnyH_take (i := 17) (oi := ({ dst := some 72, op := Op.move (Operand.tmp 10), type := 3, pos := "law.go:69", after := #[{ on := 9, ground := Ground.guard }], guard := some (9, true) } : Oper)) (v := undef) rfl (by kernel_rfl) (by kernel_rfl) (by kernel_rfl) (fun _ _ _ h => h) (Or.inr ⟨by rfl, rfl⟩) (by assumption) ?_
                (try simp only [Act.put, List.setIfInBounds_toArray, List.set_cons_zero, List.set_cons_succ])
                refine wpAnyH_take (i := 18) (oi := ({ dst := some 73, op := Op.indexAddr 29 (Operand.tmp 71) (Operand.tmp 72), type := 0, pos := "law.go:69", after := #[{ on := 16, ground := Ground.data }, { on := 17, ground := Ground.data }, { on := 9, ground := Ground.guard }], guard := some (9, true) } : Oper)) (v := undef) rfl (by kernel_rfl) (by kernel_rfl) (by kernel_rfl) (fun _ _ _ h => h) (Or.inr ⟨by rfl, rfl⟩) (by assumption) ?_
                (try simp only [Act.put, List.setIfInBounds_toArray, List.set_cons_zero, List.set_cons_succ])
                refine wpAnyH_take (i := 19) (oi := ({ dst := some 74, op := Op.fieldAddr 23 (Operand.tmp 73) 0, type := 0, pos := "law.go:69", after := #[{ on := 18, ground := Ground.data }, { on := 9, ground := Ground.guard }], guard := some (9, true) } : Oper)) (v := undef) rfl (by kernel_rfl) (by kernel_rfl) (by kernel_rfl) (fun _ _ _ h => h) (Or.inr ⟨by rfl, rfl⟩) (by assumption) ?_
                (try simp only [Act.put, List.setIfInBounds_toArray, List.set_cons_zero, List.set_cons_succ])
                refine wpAnyH_take (i := 20) (oi := ({ dst := some 75, op := Op.load 3 (Operand.tmp 74), type := 3, pos := "law.go:69", after := #[{ on := 19, ground := Ground.data }, { on := 9, ground := Ground.guard }], guard := some (9, true) } : Oper)) (v := undef) rfl (by kernel_rfl) (by kernel_rfl) (by kernel_rfl) (fun _ _ _ h => h) (Or.inr ⟨by rfl, rfl⟩) (by assumption) ?_
                (try simp only [Act.put, List.setIfInBounds_toArray, List.set_cons_zero, List.set_cons_succ])
                refine wpAnyH_take (i := 21) (oi := ({ dst := some 76, op := Op.binOp BinOp.geq 3 (Operand.tmp 70) (Operand.tmp 75) 3, type := 4, pos := "law.go:69", after := #[{ on := 15, ground := Ground.data }, { on := 20, ground := Ground.data }, { on := 9, ground := Ground.guard }], guard := some (9, true) } : Oper)) (v := undef) rfl (by kernel_rfl) (by kernel_rfl) (by kernel_rfl) (fun _ _ _ h => h) (Or.inr ⟨by rfl, rfl⟩) (by assumption) ?_
                (try simp only [Act.put, List.setIfInBounds_toArray, List.set_cons_zero, List.set_cons_succ])
                refine wpAnyH_take (i := 22) (oi := ({ dst := some 77, op := Op.pick (Operand.tmp 64) (Operand.tmp 76) (Operand.const (Value.bool false)), type := 4, pos := "law.go:69", after := #[{ on := 9, ground := Ground.data }, { on := 21, ground := Ground.data }, { on := 6, ground := Ground.guard }], guard := some (6, false) } : Oper)) (v := ?_) rfl (by kernel_rfl) (by kernel_rfl) (by kernel_rfl) (fun _ _ _ h => h) (Or.inl ⟨by rfl, ?_⟩) (by assumption) ?_
                rotate_left
                · intro w hSw; (try dsimp only at hSw); go_simp; try with_reducible rfl
                (try simp only [Act.put, List.setIfInBounds_toArray, List.set_cons_zero, List.set_cons_succ])
                refine wpAnyH_take (i := 23) (oi := ({ dst := some 78, op := Op.pick (Operand.tmp 61) (Operand.const (Value.bool true)) (Operand.tmp 77), type := 4, pos := "law.go:69", after := #[{ on := 6, ground := Ground.data }, { on := 22, ground := Ground.data }], guard := none } : Oper)) (v := ?_) rfl (by kernel_rfl) (by kernel_rfl) (by kernel_rfl) (fun _ _ _ h => h) (Or.inl ⟨by rfl, ?_⟩) (by assumption) ?_
                rotate_left
                · intro w hSw; (try dsimp only at hSw); go_simp; try with_reducible rfl
                (try simp only [Act.put, List.setIfInBounds_toArray, List.set_cons_zero, List.set_cons_succ])
                refine wpAnyH_done (by kernel_rfl) ?_ _
                clear hb3 hS3 hS0 hHeld hHeld2
                go_wp2_with fail
                go_roundw
                case rel => exact ⟨0 + 1, by omega, by go_num, by simp [hS2.out], hbr⟩
                case measure => simp [intOf]; omega
            · simp only at hlt2
              have hx0 : (0 : Int) < (j : Int) + 1 := by omega
              have hx1 : (j : Int) + 1 < n.length := by omega
              have hx2 : (j : Int) < n.length := by omega
              have hx3 : (0 : Int) ≤ (j : Int) + 1 := by omega
              have hx4 : (0 : Int) ≤ (j : Int) := by omega
              have hx5 : n.length ≤ 60 := by omega
              have hx6 : ¬ na ≤ pb := by omega
              have hx7 : IntKind.i64.wrap ((j : Int) + 1 - 1) = (j : Int) := by rw [show (j : Int) + 1 - 1 = (j : Int) from by omega]; exact IntWalk.i64_in _ (by omega)
              have hx8 : IntKind.i64.wrap (j : Int) = (j : Int) := IntWalk.i64_in _ (by omega)
              rw [show ((j + 1 : Nat) : Int) = (j : Int) + 1 from by omega]
              have hS0 : (w1.cell? ⟨gn, (j + 1) * 2, none⟩ = some (.int .i64 na) ∧ w1.cell? ⟨gn, (j + 1) * 2 + 1, none⟩ = some (.int .i64 nb)) ∧ w1.cell? ⟨gn, j * 2, none⟩ = some (.int .i64 pa) ∧ w1.cell? ⟨gn, j * 2 + 1, none⟩ = some (.int .i64 pb) := ⟨⟨cellKeep p1 hbr, cellKeep p2 hbr⟩, cellKeep u1 hbr, cellKeep u2 hbr⟩
              cases hh
              · have d1 := hS0.1.1
                have d2 := hS0.1.2
                go_wp2_with fail
                refine (kr.out _).mono ?_; rintro e w2 ⟨rfl, hb1⟩
                clear d1 d2
                replace hS0 := keep4 hS0 hb1
                replace hbr := bnext hbr hb1
                clear hb1
                go_wp2_with fail
                go_region_held3 (fun W => (W.cell? ⟨gn, (j + 1) * 2, none⟩ = some (.int .i64 na) ∧ W.cell? ⟨gn, (j + 1) * 2 + 1, none⟩ = some (.int .i64 nb)) ∧ W.cell? ⟨gn, j * 2, none⟩ = some (.int .i64 pa) ∧ W.cell? ⟨gn, j * 2 + 1, none⟩ = some (.int .i64 pb)) (first | exact hS0 | exact hS3 | exact keep4 hS0 ((Below.refl _ _).alloc (Nat.le_refl _) _) | exact keep4 hS3 ((Below.refl _ _).alloc (Nat.le_refl _) _) | (refine ⟨⟨?_, ?_⟩, ?_, ?_⟩ <;> (go_simp; done)) | assumption) (first | (go_at_call 14; refine (right_below _ _ _).mono ?_; rintro e w3 ⟨rfl, hb3⟩; rw [hrt.out]; have hS3 := keep4 (by assumption) hb3; replace hbr := bnext hbr (no_box hb3)))
                clear hb3 hS3 hS0
                go_wp2_with fail
                go_roundw
                case rel => exact ⟨(j + 1) + 1, by omega, by go_num, by simp [hS2.out], hbr⟩
                case measure => simp [intOf]; omega
              · go_wp2_with fail
                go_region_held3 (fun W => (W.cell? ⟨gn, (j + 1) * 2, none⟩ = some (.int .i64 na) ∧ W.cell? ⟨gn, (j + 1) * 2 + 1, none⟩ = some (.int .i64 nb)) ∧ W.cell? ⟨gn, j * 2, none⟩ = some (.int .i64 pa) ∧ W.cell? ⟨gn, j * 2 + 1, none⟩ = some (.int .i64 pb)) (first | exact hS0 | exact hS3 | exact keep4 hS0 ((Below.refl _ _).alloc (Nat.le_refl _) _) | exact keep4 hS3 ((Below.refl _ _).alloc (Nat.le_refl _) _) | (refine ⟨⟨?_, ?_⟩, ?_, ?_⟩ <;> (go_simp; done)) | assumption) (first | (go_at_call 14; refine (right_below _ _ _).mono ?_; rintro e w3 ⟨rfl, hb3⟩; rw [hrt.out]; have hS3 := keep4 (by assumption) hb3; replace hbr := bnext hbr (no_box hb3)))
                clear hb3 hS3 hS0
                go_wp2_with fail
                go_roundw
                case rel => exact ⟨(j + 1) + 1, by omega, by go_num, by simp [hS2.out], hbr⟩
                case measure => simp [intOf]; omega
          · have hkl : k = n.length := by omega
            subst hkl
            rw [List.take_length, hmn.out]
            cases m
            all_goals
              have hsn := SpansAt.below HN.out hbr
              have hst := SpansAt.below HT.out hbr
              have hB := bnext HB.out hbr
              go_wp2_with fail
              refine (norm_any _ _ _ hsn hln6).mono ?_; rintro e wa ⟨⟨va, rfl, hoa⟩, hba⟩
              rw [hnn.out] at hoa
              have sa := SpansAt.own hoa
              replace hsn := SpansAt.below hsn hba
              replace hst := SpansAt.below hst hba
              replace hB := bnext hB hba
              clear hoa hba
              go_wp2_with fail
              refine (same_any _ _ _ _ _ sa hsn hln6 hln6).mono ?_; rintro e wb ⟨rfl, hbb⟩
              replace hsn := SpansAt.below hsn hbb
              replace hst := SpansAt.below hst hbb
              replace hB := bnext hB hbb
              clear hbb sa
              go_wp2_with fail
              refine (norm_any _ _ _ hst (by first | (simp; done) | (simp; omega))).mono ?_; rintro e wc ⟨⟨vc, rfl, hoc⟩, hbc⟩
              rw [hnt.out] at hoc
              have sc := SpansAt.own hoc
              replace hsn := SpansAt.below hsn hbc
              replace hB := bnext hB hbc
              clear hoc hbc hst
              go_wp2_with fail
              refine (same_any _ _ _ _ _ sc hsn hln6 hln6).mono ?_; rintro e wd ⟨rfl, hbd⟩
              replace hB := bnext hB hbd
              clear hbd sc
              go_wp2_with fail
              refine (known_any _).mono ?_; rintro e we ⟨rfl, hbe⟩
              replace hB := bnext hB hbe
              go_wp2_with fail
              go_ret
              exact ⟨rfl, hB⟩
  · have HC := hid hc
    clear hc
    have h60' : ¬ (60 : Int) < l.length := by omega
    have hl63 : l.length ≤ 60 := by omega
    go_enter Try.func6, Try.ntmps6
    go_wp2_with fail
    refine (hnorm.out).mono ?_; rintro e w0 ⟨⟨vn, rfl, hown1⟩, hB1⟩
    go_wp2_with fail
    go_loopw [6, 8, 9] (fun o tn i wr => ∃ k : Nat, k ≤ l.length ∧ i = .int .i64 ((k : Int) - 1) ∧ o = .bool (Sp.anyHas (l.drop k) t) ∧ wr.ownsRow w0.heap.size 23 2 tn (l.drop k).reverse.length (scells (l.drop k).reverse) ∧ Below w0.heap.size w0 wr) (fun _ _ i _ => (intOf i + 1).toNat)
    case atStart => exact ⟨l.length, by omega, by go_num, by simp [Sp.anyHas], by rw [List.drop_length]; exact World.ownsRow_nil _ _ _ _, Below.refl _ _⟩
    case round =>
      obtain ⟨k, hk, rfl, rfl, hown, hbr⟩ := hrel
      cases k with
      | zero =>
        rw [show (((0 : Nat) : Int) - 1) = -1 from rfl]
        rw [List.drop_zero] at hown
        rw [List.drop_zero, hml.out]
        obtain ⟨wo, rfl⟩ : ∃ wo : World, wo = wr := ⟨_, rfl⟩
        have HT := hid (SpansAt.own hown)
        have hownN := own_below hown1 hbr
        have HN := hid (SpansAt.own hownN)
        have HB := hid (bnext hB1 hbr)
        clear hown hbr
        rcases own_shape hownN with ⟨rfl, hn0⟩ | ⟨gn, cn, rfl, hgn1, hgn2, _⟩
        · obtain rfl : m = false := by rw [← hmn.out, hn0]; rfl
          go_wp2_with fail
          go_loopw [7, 10] (fun s i wr => s = .bool false ∧ i = .int .i64 0 ∧ Below wo.heap.size wo wr) (fun _ _ _ => 0)
          case atStart => exact ⟨rfl, rfl, Below.refl _ _⟩
          case round =>
            obtain ⟨rfl, rfl, hbr⟩ := hrel
            have hsn := SpansAt.below HN.out hbr
            have hst := SpansAt.below HT.out hbr
            have hB := bnext HB.out hbr
            go_wp2_with fail
            refine (norm_any _ _ _ hsn hln6).mono ?_; rintro e wa ⟨⟨va, rfl, hoa⟩, hba⟩
            rw [hnn.out] at hoa
            have sa := SpansAt.own hoa
            replace hsn := SpansAt.below hsn hba
            replace hst := SpansAt.below hst hba
            replace hB := bnext hB hba
            clear hoa hba
            go_wp2_with fail
            refine (same_any _ _ _ _ _ sa hsn hln6 hln6).mono ?_; rintro e wb ⟨rfl, hbb⟩
            replace hsn := SpansAt.below hsn hbb
            replace hst := SpansAt.below hst hbb
            replace hB := bnext hB hbb
            clear hbb sa
            go_wp2_with fail
            refine (norm_any _ _ _ hst (by first | (simp; done) | (simp; omega))).mono ?_; rintro e wc ⟨⟨vc, rfl, hoc⟩, hbc⟩
            rw [hnt.out] at hoc
            have sc := SpansAt.own hoc
            replace hsn := SpansAt.below hsn hbc
            replace hB := bnext hB hbc
            clear hoc hbc hst
            go_wp2_with fail
            refine (same_any _ _ _ _ _ sc hsn hln6 hln6).mono ?_; rintro e wd ⟨rfl, hbd⟩
            replace hB := bnext hB hbd
            clear hbd sc
            go_wp2_with fail
            refine (known_any _).mono ?_; rintro e we ⟨rfl, hbe⟩
            replace hB := bnext hB hbe
            go_wp2_with fail
            go_ret
            exact ⟨rfl, hB⟩
        · have HCN := hid (own_cells hownN)
          go_wp2_with fail
          go_loopw [7, 10] (fun s i wr => ∃ k : Nat, k ≤ n.length ∧ i = .int .i64 k ∧ s = .bool (Sp.anyHas (n.take k) t) ∧ Below wo.heap.size wo wr) (fun _ i _ => n.length - (intOf i).toNat)
          case atStart => exact ⟨0, by omega, rfl, rfl, Below.refl _ _⟩
          case round =>
            obtain ⟨k, hk, rfl, rfl, hbr⟩ := hrel
            obtain ⟨w1, rfl⟩ : ∃ w1 : World, w1 = wr := ⟨_, rfl⟩
            by_cases hlk : k < n.length
            · have hS := hid (Sp.any_snoc n t k hlk)
              have hrt0 := hfew.out.right n[k] (List.getElem_mem hlk)
              obtain ⟨p1, p2, _, _⟩ := HCN.out k n[k] (List.getElem?_eq_getElem hlk)
              have hprev : Hid (∃ pa pb : Int, k = 0 ∨ (∃ j, k = j + 1 ∧ wo.cell? ⟨gn, j * 2, none⟩ = some (.int .i64 pa) ∧ wo.cell? ⟨gn, j * 2 + 1, none⟩ = some (.int .i64 pb) ∧ pb < n[k].1)) := by
                cases k with
                | zero => exact ⟨0, 0, .inl rfl⟩
                | succ j =>
                  obtain ⟨u1, u2, _, _⟩ := HCN.out j n[j] (List.getElem?_eq_getElem (by omega))
                  exact ⟨_, _, .inr ⟨j, rfl, u1, u2, Sp.few_lt hfew.out j (j + 1) (by omega) hlk⟩⟩
              generalize Sp.anyHas (n.take k) t = hh at hS
              generalize hgk : n[k] = s at hS hrt0 p1 p2 hprev
              clear hgk
              obtain ⟨na, nb⟩ := s
              simp only at p1 p2
              obtain ⟨r, kr, hS2⟩ : ∃ r, Hid (∀ W, Calls Try.prog 16 #[.agg #[.int .i64 na, .int .i64 nb], .int .i64 t] W fun e w' => e = .returned (.bool r) ∧ Below W.heap.size W w') ∧ Hid (Sp.anyHas (n.take (k + 1)) t = (hh || r)) := ⟨_, fun W => has_any na nb t W, hS.out⟩
              have hrt := hid hrt0
              clear hS hrt0
              obtain ⟨pa, pb, hp⟩ := hprev.out
              have hlk' : (k : Int) < n.length := by omega
              rcases hp with rfl | ⟨j, rfl, u1, u2, hlt2⟩
              · rw [show ((0 : Nat) : Int) = 0 from rfl]
                have hS0 : (w1.cell? ⟨gn, 0, none⟩ = some (.int .i64 na) ∧ w1.cell? ⟨gn, 1, none⟩ = some (.int .i64 nb)) ∧ w1.cell? ⟨gn, 0, none⟩ = some (.int .i64 na) ∧ w1.cell? ⟨gn, 1, none⟩ = some (.int .i64 nb) := ⟨⟨by simpa using cellKeep p1 hbr, by simpa using cellKeep p2 hbr⟩, by simpa using cellKeep p1 hbr, by simpa using cellKeep p2 hbr⟩
                cases hh
                · have d1 := hS0.1.1
                  have d2 := hS0.1.2
                  go_wp2_with fail
                  refine (kr.out _).mono ?_; rintro e w2 ⟨rfl, hb1⟩
                  clear d1 d2
                  replace hS0 := keep4 hS0 hb1
                  replace hbr := bnext hbr hb1
                  clear hb1
                  go_wp2_with fail
                  refine wp_region_held_drew (S := (fun W => (W.cell? ⟨gn, 0, none⟩ = some (.int .i64 na) ∧ W.cell? ⟨gn, 1, none⟩ = some (.int .i64 nb)) ∧ W.cell? ⟨gn, 0, none⟩ = some (.int .i64 na) ∧ W.cell? ⟨gn, 1, none⟩ = some (.int .i64 nb))) (by kernel_rfl) hS0 (fun hHeld => ?_)
                  try dsimp only at hHeld
                  refine wpAnyH_take (i := 0) (oi := ({ dst := some 55, op := Op.move (Operand.tmp 5), type := 29, pos := "law.go:69", after := #[], guard := none } : Oper)) (v := ?_) rfl (by kernel_rfl) (by kernel_rfl) (by kernel_rfl) (fun _ _ _ h => h) (Or.inl ⟨by rfl, ?_⟩) (by assumption) ?_
                  rotate_left
                  · intro w hSw; (try dsimp only at hSw); go_simp; try with_reducible rfl
                  (try simp only [Act.put, List.setIfInBounds_toArray, List.set_cons_zero, List.set_cons_succ])
                  refine wpAnyH_take (i := 1) (oi := ({ dst := some 56, op := Op.move (Operand.tmp 10), type := 3, pos := "law.go:69", after := #[], guard := none } : Oper)) (v := ?_) rfl (by kernel_rfl) (by kernel_rfl) (by kernel_rfl) (fun _ _ _ h => h) (Or.inl ⟨by rfl, ?_⟩) (by assumption) ?_
                  rotate_left
                  · intro w hSw; (try dsimp only at hSw); go_simp; try with_reducible rfl
                  (try simp only [Act.put, List.setIfInBounds_toArray, List.set_cons_zero, List.set_cons_succ])
                  refine wpAnyH_take (i := 2) (oi := ({ dst := some 57, op := Op.indexAddr 29 (Operand.tmp 55) (Operand.tmp 56), type := 0, pos := "law.go:69", after := #[{ on := 0, ground := Ground.data }, { on := 1, ground := Ground.data }], guard := none } : Oper)) (v := ?_) rfl (by kernel_rfl) (by kernel_rfl) (by kernel_rfl) (fun _ _ _ h => h) (Or.inl ⟨by rfl, ?_⟩) (by assumption) ?_
                  rotate_left
                  · intro w hSw; (try dsimp only at hSw); go_simp; try with_reducible rfl
                  (try simp only [Act.put, List.setIfInBounds_toArray, List.set_cons_zero, List.set_cons_succ])
                  refine wpAnyH_take (i := 3) (oi := ({ dst := some 58, op := Op.load 23 (Operand.tmp 57), type := 23, pos := "law.go:69", after := #[{ on := 2, ground := Ground.data }], guard := none } : Oper)) (v := ?_) rfl (by kernel_rfl) (by kernel_rfl) (by kernel_rfl) (fun _ _ _ h => h) (Or.inl ⟨by rfl, ?_⟩) (by assumption) ?_
                  rotate_left
                  · intro w hSw; (try dsimp only at hSw); go_simp; try with_reducible rfl
                  (try simp only [Act.put, List.setIfInBounds_toArray, List.set_cons_zero, List.set_cons_succ])
                  refine wpAnyH_ready (rs := [4]) (by kernel_rfl) (by simp) ?_
                  refine AllReadyH.cons (o := ({ dst := some 59, op := Op.call { callee := Callee.value (Operand.func 14), args := #[Operand.tmp 58], argTypes := #[23] }, type := 4, pos := "law.go:69", after := #[{ on := 3, ground := Ground.data }], guard := none } : Oper)) rfl (fun K hK => ?_) AllReadyH.nil
                  go_simp
                  refine (right_below _ _ _).mono ?_; rintro e w3 ⟨rfl, hb3⟩
                  rw [hrt.out]
                  go_wp2_with fail
                  have hS3 := keep4 hHeld hb3
                  replace hbr := bnext hbr (no_box hb3)
                  refine hK.out _ _ hS3 (fun hHeld2 => ?_)
                  clear hK K
                  (try simp only [Act.put, List.setIfInBounds_toArray, List.set_cons_zero, List.set_cons_succ])
                  refine wpAnyH_take (i := 5) (oi := ({ dst := some 60, op := Op.unOp UnOp.not 4 (Operand.tmp 59), type := 4, pos := "law.go:69", after := #[{ on := 4, ground := Ground.data }], guard := none } : Oper)) (v := ?_) rfl (by kernel_rfl) (by kernel_rfl) (by kernel_rfl) (fun _ _ _ h => h) (Or.inl ⟨by rfl, ?_⟩) (by assumption) ?_
                  rotate_left
                  · intro w hSw; (try dsimp only at hSw); go_simp; try with_reducible rfl
                  (try simp only [Act.put, List.setIfInBounds_toArray, List.set_cons_zero, List.set_cons_succ])
                  refine wpAnyH_take (i := 6) (oi := ({ dst := some 61, op := Op.move (Operand.tmp 60), type := 4, pos := "law.go:69", after := #[{ on := 5, ground := Ground.data }, { on := 4, ground := Ground.chain }], guard := none } : Oper)) (v := ?_) rfl (by kernel_rfl) (by kernel_rfl) (by kernel_rfl) (fun _ _ _ h => h) (Or.inl ⟨by rfl, ?_⟩) (by assumption) ?_
                  rotate_left
                  · intro w hSw; (try dsimp only at hSw); go_simp; try with_reducible rfl
                  (try simp only [Act.put, List.setIfInBounds_toArray, List.set_cons_zero, List.set_cons_succ])
                  refine wpAnyH_take (i := 7) (oi := ({ dst := some 62, op := Op.move (Operand.tmp 10), type := 3, pos := "law.go:69", after := #[{ on := 6, ground := Ground.guard }], guard := some (6, false) } : Oper)) (v := ?_) rfl (by kernel_rfl) (by kernel_rfl) (by kernel_rfl) (fun _ _ _ h => h) (Or.inl ⟨by rfl, ?_⟩) (by assumption) ?_
                  rotate_left
                  · intro w hSw; (try dsimp only at hSw); go_simp; try with_reducible rfl
                  (try simp only [Act.put, List.setIfInBounds_toArray, List.set_cons_zero, List.set_cons_succ])
                  refine wpAnyH_take (i := 8) (oi := ({ dst := some 63, op := Op.binOp BinOp.gtr 3 (Operand.tmp 62) (Operand.const (Value.int IntKind.i64 0)) 3, type := 4, pos := "law.go:69", after := #[{ on := 7, ground := Ground.data }, { on := 6, ground := Ground.guard }], guard := some (6, false) } : Oper)) (v := ?_) rfl (by kernel_rfl) (by kernel_rfl) (by kernel_rfl) (fun _ _ _ h => h) (Or.inl ⟨by rfl, ?_⟩) (by assumption) ?_
                  rotate_left
                  · intro w hSw; (try dsimp only at hSw); go_simp; try with_reducible rfl
                  (try simp only [Act.put, List.setIfInBounds_toArray, List.set_cons_zero, List.set_cons_succ])
                  refine wpAnyH_take (i := 9) (oi := ({ dst := some 64, op := Op.move (Operand.tmp 63), type := 4, pos := "law.go:69", after := #[{ on := 8, ground := Ground.data }, { on := 6, ground := Ground.chain }, { on := 6, ground := Ground.guard }], guard := some (6, false) } : Oper)) (v := ?_) rfl (by kernel_rfl) (by kernel_rfl) (by kernel_rfl) (fun _ _ _ h => h) (Or.inl ⟨by rfl, ?_⟩) (by assumption) ?_
                  rotate_left
                  · intro w hSw; (try dsimp only at hSw); go_simp; try with_reducible rfl
                  (try simp only [Act.put, List.setIfInBounds_toArray, List.set_cons_zero, List.set_cons_succ])
                  refine wpAnyH_take (i := 10) (oi := ({ dst := some 65, op := Op.move (Operand.tmp 5), type := 29, pos := "law.go:69", after := #[{ on := 9, ground := Ground.guard }], guard := some (9, true) } : Oper)) (v := undef) rfl (by kernel_rfl) (by kernel_rfl) (by kernel_rfl) (fun _ _ _ h => h) (Or.inr ⟨by rfl, rfl⟩) (by assumption) ?_
                  (try simp only [Act.put, List.setIfInBounds_toArray, List.set_cons_zero, List.set_cons_succ])
                  refine wpAnyH_take (i := 11) (oi := ({ dst := some 66, op := Op.move (Operand.tmp 10), type := 3, pos := "law.go:69", after := #[{ on := 9, ground := Ground.guard }], guard := some (9, true) } : Oper)) (v := undef) rfl (by kernel_rfl) (by kernel_rfl) (by kernel_rfl) (fun _ _ _ h => h) (Or.inr ⟨by rfl, rfl⟩) (by assumption) ?_
                  (try simp only [Act.put, List.setIfInBounds_toArray, List.set_cons_zero, List.set_cons_succ])
                  refine wpAnyH_take (i := 12) (oi := ({ dst := some 67, op := Op.binOp BinOp.sub 3 (Operand.tmp 66) (Operand.const (Value.int IntKind.i64 1)) 3, type := 3, pos := "law.go:69", after := #[{ on := 11, ground := Ground.data }, { on := 9, ground := Ground.guard }], guard := some (9, true) } : Oper)) (v := undef) rfl (by kernel_rfl) (by kernel_rfl) (by kernel_rfl) (fun _ _ _ h => h) (Or.inr ⟨by rfl, rfl⟩) (by assumption) ?_
                  (try simp only [Act.put, List.setIfInBounds_toArray, List.set_cons_zero, List.set_cons_succ])
                  refine wpAnyH_take (i := 13) (oi := ({ dst := some 68, op := Op.indexAddr 29 (Operand.tmp 65) (Operand.tmp 67), type := 0, pos := "law.go:69", after := #[{ on := 10, ground := Ground.data }, { on := 12, ground := Ground.data }, { on := 9, ground := Ground.guard }], guard := some (9, true) } : Oper)) (v := undef) rfl (by kernel_rfl) (by kernel_rfl) (by kernel_rfl) (fun _ _ _ h => h) (Or.inr ⟨by rfl, rfl⟩) (by assumption) ?_
                  (try simp only [Act.put, List.setIfInBounds_toArray, List.set_cons_zero, List.set_cons_succ])
                  refine wpAnyH_take (i := 14) (oi := ({ dst := some 69, op := Op.fieldAddr 23 (Operand.tmp 68) 1, type := 0, pos := "law.go:69", after := #[{ on := 13, ground := Ground.data }, { on := 9, ground := Ground.guard }], guard := some (9, true) } : Oper)) (v := undef) rfl (by kernel_rfl) (by kernel_rfl) (by kernel_rfl) (fun _ _ _ h => h) (Or.inr ⟨by rfl, rfl⟩) (by assumption) ?_
                  (try simp only [Act.put, List.setIfInBounds_toArray, List.set_cons_zero, List.set_cons_succ])
                  refine wpAnyH_take (i := 15) (oi := ({ dst := some 70, op := Op.load 3 (Operand.tmp 69), type := 3, pos := "law.go:69", after := #[{ on := 14, ground := Ground.data }, { on := 9, ground := Ground.guard }], guard := some (9, true) } : Oper)) (v := undef) rfl (by kernel_rfl) (by kernel_rfl) (by kernel_rfl) (fun _ _ _ h => h) (Or.inr ⟨by rfl, rfl⟩) (by assumption) ?_
                  (try simp only [Act.put, List.setIfInBounds_toArray, List.set_cons_zero, List.set_cons_succ])
                  refine wpAnyH_take (i := 16) (oi := ({ dst := some 71, op := Op.move (Operand.tmp 5), type := 29, pos := "law.go:69", after := #[{ on := 9, ground := Ground.guard }], guard := some (9, true) } : Oper)) (v := undef) rfl (by kernel_rfl) (by kernel_rfl) (by kernel_rfl) (fun _ _ _ h => h) (Or.inr ⟨by rfl, rfl⟩) (by assumption) ?_
                  (try simp only [Act.put, List.setIfInBounds_toArray, List.set_cons_zero, List.set_cons_succ])
                  refine wpAnyH_take (i := 17) (oi := ({ dst := some 72, op := Op.move (Operand.tmp 10), type := 3, pos := "law.go:69", after := #[{ on := 9, ground := Ground.guard }], guard := some (9, true) } : Oper)) (v := undef) rfl (by kernel_rfl) (by kernel_rfl) (by kernel_rfl) (fun _ _ _ h => h) (Or.inr ⟨by rfl, rfl⟩) (by assumption) ?_
                  (try simp only [Act.put, List.setIfInBounds_toArray, List.set_cons_zero, List.set_cons_succ])
                  refine wpAnyH_take (i := 18) (oi := ({ dst := some 73, op := Op.indexAddr 29 (Operand.tmp 71) (Operand.tmp 72), type := 0, pos := "law.go:69", after := #[{ on := 16, ground := Ground.data }, { on := 17, ground := Ground.data }, { on := 9, ground := Ground.guard }], guard := some (9, true) } : Oper)) (v := undef) rfl (by kernel_rfl) (by kernel_rfl) (by kernel_rfl) (fun _ _ _ h => h) (Or.inr ⟨by rfl, rfl⟩) (by assumption) ?_
                  (try simp only [Act.put, List.setIfInBounds_toArray, List.set_cons_zero, List.set_cons_succ])
                  refine wpAnyH_take (i := 19) (oi := ({ dst := some 74, op := Op.fieldAddr 23 (Operand.tmp 73) 0, type := 0, pos := "law.go:69", after := #[{ on := 18, ground := Ground.data }, { on := 9, ground := Ground.guard }], guard := some (9, true) } : Oper)) (v := undef) rfl (by kernel_rfl) (by kernel_rfl) (by kernel_rfl) (fun _ _ _ h => h) (Or.inr ⟨by rfl, rfl⟩) (by assumption) ?_
                  (try simp only [Act.put, List.setIfInBounds_toArray, List.set_cons_zero, List.set_cons_succ])
                  refine wpAnyH_take (i := 20) (oi := ({ dst := some 75, op := Op.load 3 (Operand.tmp 74), type := 3, pos := "law.go:69", after := #[{ on := 19, ground := Ground.data }, { on := 9, ground := Ground.guard }], guard := some (9, true) } : Oper)) (v := undef) rfl (by kernel_rfl) (by kernel_rfl) (by kernel_rfl) (fun _ _ _ h => h) (Or.inr ⟨by rfl, rfl⟩) (by assumption) ?_
                  (try simp only [Act.put, List.setIfInBounds_toArray, List.set_cons_zero, List.set_cons_succ])
                  refine wpAnyH_take (i := 21) (oi := ({ dst := some 76, op := Op.binOp BinOp.geq 3 (Operand.tmp 70) (Operand.tmp 75) 3, type := 4, pos := "law.go:69", after := #[{ on := 15, ground := Ground.data }, { on := 20, ground := Ground.data }, { on := 9, ground := Ground.guard }], guard := some (9, true) } : Oper)) (v := undef) rfl (by kernel_rfl) (by kernel_rfl) (by kernel_rfl) (fun _ _ _ h => h) (Or.inr ⟨by rfl, rfl⟩) (by assumption) ?_
                  (try simp only [Act.put, List.setIfInBounds_toArray, List.set_cons_zero, List.set_cons_succ])
                  refine wpAnyH_take (i := 22) (oi := ({ dst := some 77, op := Op.pick (Operand.tmp 64) (Operand.tmp 76) (Operand.const (Value.bool false)), type := 4, pos := "law.go:69", after := #[{ on := 9, ground := Ground.data }, { on := 21, ground := Ground.data }, { on := 6, ground := Ground.guard }], guard := some (6, false) } : Oper)) (v := ?_) rfl (by kernel_rfl) (by kernel_rfl) (by kernel_rfl) (fun _ _ _ h => h) (Or.inl ⟨by rfl, ?_⟩) (by assumption) ?_
                  rotate_left
                  · intro w hSw; (try dsimp only at hSw); go_simp; try with_reducible rfl
                  (try simp only [Act.put, List.setIfInBounds_toArray, List.set_cons_zero, List.set_cons_succ])
                  refine wpAnyH_take (i := 23) (oi := ({ dst := some 78, op := Op.pick (Operand.tmp 61) (Operand.const (Value.bool true)) (Operand.tmp 77), type := 4, pos := "law.go:69", after := #[{ on := 6, ground := Ground.data }, { on := 22, ground := Ground.data }], guard := none } : Oper)) (v := ?_) rfl (by kernel_rfl) (by kernel_rfl) (by kernel_rfl) (fun _ _ _ h => h) (Or.inl ⟨by rfl, ?_⟩) (by assumption) ?_
                  rotate_left
                  · intro w hSw; (try dsimp only at hSw); go_simp; try with_reducible rfl
                  (try simp only [Act.put, List.setIfInBounds_toArray, List.set_cons_zero, List.set_cons_succ])
                  refine wpAnyH_done (by kernel_rfl) ?_ _
                  clear hb3 hS3 hS0 hHeld hHeld2
                  go_wp2_with fail
                  go_roundw
                  case rel => exact ⟨0 + 1, by omega, by go_num, by simp [hS2.out], hbr⟩
                  case measure => simp [intOf]; omega
                · go_wp2_with fail
                  refine wp_region_held_drew (S := (fun W => (W.cell? ⟨gn, 0, none⟩ = some (.int .i64 na) ∧ W.cell? ⟨gn, 1, none⟩ = some (.int .i64 nb)) ∧ W.cell? ⟨gn, 0, none⟩ = some (.int .i64 na) ∧ W.cell? ⟨gn, 1, none⟩ = some (.int .i64 nb))) (by kernel_rfl) hS0 (fun hHeld => ?_)
                  try dsimp only at hHeld
                  refine wpAnyH_take (i := 0) (oi := ({ dst := some 55, op := Op.move (Operand.tmp 5), type := 29, pos := "law.go:69", after := #[], guard := none } : Oper)) (v := ?_) rfl (by kernel_rfl) (by kernel_rfl) (by kernel_rfl) (fun _ _ _ h => h) (Or.inl ⟨by rfl, ?_⟩) (by assumption) ?_
                  rotate_left
                  · intro w hSw; (try dsimp only at hSw); go_simp; try with_reducible rfl
                  (try simp only [Act.put, List.setIfInBounds_toArray, List.set_cons_zero, List.set_cons_succ])
                  refine wpAnyH_take (i := 1) (oi := ({ dst := some 56, op := Op.move (Operand.tmp 10), type := 3, pos := "law.go:69", after := #[], guard := none } : Oper)) (v := ?_) rfl (by kernel_rfl) (by kernel_rfl) (by kernel_rfl) (fun _ _ _ h => h) (Or.inl ⟨by rfl, ?_⟩) (by assumption) ?_
                  rotate_left
                  · intro w hSw; (try dsimp only at hSw); go_simp; try with_reducible rfl
                  (try simp only [Act.put, List.setIfInBounds_toArray, List.set_cons_zero, List.set_cons_succ])
                  refine wpAnyH_take (i := 2) (oi := ({ dst := some 57, op := Op.indexAddr 29 (Operand.tmp 55) (Operand.tmp 56), type := 0, pos := "law.go:69", after := #[{ on := 0, ground := Ground.data }, { on := 1, ground := Ground.data }], guard := none } : Oper)) (v := ?_) rfl (by kernel_rfl) (by kernel_rfl) (by kernel_rfl) (fun _ _ _ h => h) (Or.inl ⟨by rfl, ?_⟩) (by assumption) ?_
                  rotate_left
                  · intro w hSw; (try dsimp only at hSw); go_simp; try with_reducible rfl
                  (try simp only [Act.put, List.setIfInBounds_toArray, List.set_cons_zero, List.set_cons_succ])
                  refine wpAnyH_take (i := 3) (oi := ({ dst := some 58, op := Op.load 23 (Operand.tmp 57), type := 23, pos := "law.go:69", after := #[{ on := 2, ground := Ground.data }], guard := none } : Oper)) (v := ?_) rfl (by kernel_rfl) (by kernel_rfl) (by kernel_rfl) (fun _ _ _ h => h) (Or.inl ⟨by rfl, ?_⟩) (by assumption) ?_
                  rotate_left
                  · intro w hSw; (try dsimp only at hSw); go_simp; try with_reducible rfl
                  (try simp only [Act.put, List.setIfInBounds_toArray, List.set_cons_zero, List.set_cons_succ])
                  refine wpAnyH_ready (rs := [4]) (by kernel_rfl) (by simp) ?_
                  refine AllReadyH.cons (o := ({ dst := some 59, op := Op.call { callee := Callee.value (Operand.func 14), args := #[Operand.tmp 58], argTypes := #[23] }, type := 4, pos := "law.go:69", after := #[{ on := 3, ground := Ground.data }], guard := none } : Oper)) rfl (fun K hK => ?_) AllReadyH.nil
                  go_simp
                  refine (right_below _ _ _).mono ?_; rintro e w3 ⟨rfl, hb3⟩
                  rw [hrt.out]
                  go_wp2_with fail
                  have hS3 := keep4 hHeld hb3
                  replace hbr := bnext hbr (no_box hb3)
                  refine hK.out _ _ hS3 (fun hHeld2 => ?_)
                  clear hK K
                  (try simp only [Act.put, List.setIfInBounds_toArray, List.set_cons_zero, List.set_cons_succ])
                  refine wpAnyH_take (i := 5) (oi := ({ dst := some 60, op := Op.unOp UnOp.not 4 (Operand.tmp 59), type := 4, pos := "law.go:69", after := #[{ on := 4, ground := Ground.data }], guard := none } : Oper)) (v := ?_) rfl (by kernel_rfl) (by kernel_rfl) (by kernel_rfl) (fun _ _ _ h => h) (Or.inl ⟨by rfl, ?_⟩) (by assumption) ?_
                  rotate_left
                  · intro w hSw; (try dsimp only at hSw); go_simp; try with_reducible rfl
                  (try simp only [Act.put, List.setIfInBounds_toArray, List.set_cons_zero, List.set_cons_succ])
                  refine wpAnyH_take (i := 6) (oi := ({ dst := some 61, op := Op.move (Operand.tmp 60), type := 4, pos := "law.go:69", after := #[{ on := 5, ground := Ground.data }, { on := 4, ground := Ground.chain }], guard := none } : Oper)) (v := ?_) rfl (by kernel_rfl) (by kernel_rfl) (by kernel_rfl) (fun _ _ _ h => h) (Or.inl ⟨by rfl, ?_⟩) (by assumption) ?_
                  rotate_left
                  · intro w hSw; (try dsimp only at hSw); go_simp; try with_reducible rfl
                  (try simp only [Act.put, List.setIfInBounds_toArray, List.set_cons_zero, List.set_cons_succ])
                  refine wpAnyH_take (i := 7) (oi := ({ dst := some 62, op := Op.move (Operand.tmp 10), type := 3, pos := "law.go:69", after := #[{ on := 6, ground := Ground.guard }], guard := some (6, false) } : Oper)) (v := ?_) rfl (by kernel_rfl) (by kernel_rfl) (by kernel_rfl) (fun _ _ _ h => h) (Or.inl ⟨by rfl, ?_⟩) (by assumption) ?_
                  rotate_left
                  · intro w hSw; (try dsimp only at hSw); go_simp; try with_reducible rfl
                  (try simp only [Act.put, List.setIfInBounds_toArray, List.set_cons_zero, List.set_cons_succ])
                  refine wpAnyH_take (i := 8) (oi := ({ dst := some 63, op := Op.binOp BinOp.gtr 3 (Operand.tmp 62) (Operand.const (Value.int IntKind.i64 0)) 3, type := 4, pos := "law.go:69", after := #[{ on := 7, ground := Ground.data }, { on := 6, ground := Ground.guard }], guard := some (6, false) } : Oper)) (v := ?_) rfl (by kernel_rfl) (by kernel_rfl) (by kernel_rfl) (fun _ _ _ h => h) (Or.inl ⟨by rfl, ?_⟩) (by assumption) ?_
                  rotate_left
                  · intro w hSw; (try dsimp only at hSw); go_simp; try with_reducible rfl
                  (try simp only [Act.put, List.setIfInBounds_toArray, List.set_cons_zero, List.set_cons_succ])
                  refine wpAnyH_take (i := 9) (oi := ({ dst := some 64, op := Op.move (Operand.tmp 63), type := 4, pos := "law.go:69", after := #[{ on := 8, ground := Ground.data }, { on := 6, ground := Ground.chain }, { on := 6, ground := Ground.guard }], guard := some (6, false) } : Oper)) (v := ?_) rfl (by kernel_rfl) (by kernel_rfl) (by kernel_rfl) (fun _ _ _ h => h) (Or.inl ⟨by rfl, ?_⟩) (by assumption) ?_
                  rotate_left
                  · intro w hSw; (try dsimp only at hSw); go_simp; try with_reducible rfl
                  (try simp only [Act.put, List.setIfInBounds_toArray, List.set_cons_zero, List.set_cons_succ])
                  refine wpAnyH_take (i := 10) (oi := ({ dst := some 65, op := Op.move (Operand.tmp 5), type := 29, pos := "law.go:69", after := #[{ on := 9, ground := Ground.guard }], guard := some (9, true) } : Oper)) (v := undef) rfl (by kernel_rfl) (by kernel_rfl) (by kernel_rfl) (fun _ _ _ h => h) (Or.inr ⟨by rfl, rfl⟩) (by assumption) ?_
                  (try simp only [Act.put, List.setIfInBounds_toArray, List.set_cons_zero, List.set_cons_succ])
                  refine wpAnyH_take (i := 11) (oi := ({ dst := some 66, op := Op.move (Operand.tmp 10), type := 3, pos := "law.go:69", after := #[{ on := 9, ground := Ground.guard }], guard := some (9, true) } : Oper)) (v := undef) rfl (by kernel_rfl) (by kernel_rfl) (by kernel_rfl) (fun _ _ _ h => h) (Or.inr ⟨by rfl, rfl⟩) (by assumption) ?_
                  (try simp only [Act.put, List.setIfInBounds_toArray, List.set_cons_zero, List.set_cons_succ])
                  refine wpAnyH_take (i := 12) (oi := ({ dst := some 67, op := Op.binOp BinOp.sub 3 (Operand.tmp 66) (Operand.const (Value.int IntKind.i64 1)) 3, type := 3, pos := "law.go:69", after := #[{ on := 11, ground := Ground.data }, { on := 9, ground := Ground.guard }], guard := some (9, true) } : Oper)) (v := undef) rfl (by kernel_rfl) (by kernel_rfl) (by kernel_rfl) (fun _ _ _ h => h) (Or.inr ⟨by rfl, rfl⟩) (by assumption) ?_
                  (try simp only [Act.put, List.setIfInBounds_toArray, List.set_cons_zero, List.set_cons_succ])
                  refine wpAnyH_take (i := 13) (oi := ({ dst := some 68, op := Op.indexAddr 29 (Operand.tmp 65) (Operand.tmp 67), type := 0, pos := "law.go:69", after := #[{ on := 10, ground := Ground.data }, { on := 12, ground := Ground.data }, { on := 9, ground := Ground.guard }], guard := some (9, true) } : Oper)) (v := undef) rfl (by kernel_rfl) (by kernel_rfl) (by kernel_rfl) (fun _ _ _ h => h) (Or.inr ⟨by rfl, rfl⟩) (by assumption) ?_
                  (try simp only [Act.put, List.setIfInBounds_toArray, List.set_cons_zero, List.set_cons_succ])
                  refine wpAnyH_take (i := 14) (oi := ({ dst := some 69, op := Op.fieldAddr 23 (Operand.tmp 68) 1, type := 0, pos := "law.go:69", after := #[{ on := 13, ground := Ground.data }, { on := 9, ground := Ground.guard }], guard := some (9, true) } : Oper)) (v := undef) rfl (by kernel_rfl) (by kernel_rfl) (by kernel_rfl) (fun _ _ _ h => h) (Or.inr ⟨by rfl, rfl⟩) (by assumption) ?_
                  (try simp only [Act.put, List.setIfInBounds_toArray, List.set_cons_zero, List.set_cons_succ])
                  refine wpAnyH_take (i := 15) (oi := ({ dst := some 70, op := Op.load 3 (Operand.tmp 69), type := 3, pos := "law.go:69", after := #[{ on := 14, ground := Ground.data }, { on := 9, ground := Ground.guard }], guard := some (9, true) } : Oper)) (v := undef) rfl (by kernel_rfl) (by kernel_rfl) (by kernel_rfl) (fun _ _ _ h => h) (Or.inr ⟨by rfl, rfl⟩) (by assumption) ?_
                  (try simp only [Act.put, List.setIfInBounds_toArray, List.set_cons_zero, List.set_cons_succ])
                  refine wpAnyH_take (i := 16) (oi := ({ dst := some 71, op := Op.move (Operand.tmp 5), type := 29, pos := "law.go:69", after := #[{ on := 9, ground := Ground.guard }], guard := some (9, true) } : Oper)) (v := undef) rfl (by kernel_rfl) (by kernel_rfl) (by kernel_rfl) (fun _ _ _ h => h) (Or.inr ⟨by rfl, rfl⟩) (by assumption) ?_
                  (try simp only [Act.put, List.setIfInBounds_toArray, List.set_cons_zero, List.set_cons_succ])
                  refine wpAnyH_take (i := 17) (oi := ({ dst := some 72, op := Op.move (Operand.tmp 10), type := 3, pos := "law.go:69", after := #[{ on := 9, ground := Ground.guard }], guard := some (9, true) } : Oper)) (v := undef) rfl (by kernel_rfl) (by kernel_rfl) (by kernel_rfl) (fun _ _ _ h => h) (Or.inr ⟨by rfl, rfl⟩) (by assumption) ?_
                  (try simp only [Act.put, List.setIfInBounds_toArray, List.set_cons_zero, List.set_cons_succ])
                  refine wpAnyH_take (i := 18) (oi := ({ dst := some 73, op := Op.indexAddr 29 (Operand.tmp 71) (Operand.tmp 72), type := 0, pos := "law.go:69", after := #[{ on := 16, ground := Ground.data }, { on := 17, ground := Ground.data }, { on := 9, ground := Ground.guard }], guard := some (9, true) } : Oper)) (v := undef) rfl (by kernel_rfl) (by kernel_rfl) (by kernel_rfl) (fun _ _ _ h => h) (Or.inr ⟨by rfl, rfl⟩) (by assumption) ?_
                  (try simp only [Act.put, List.setIfInBounds_toArray, List.set_cons_zero, List.set_cons_succ])
                  refine wpAnyH_take (i := 19) (oi := ({ dst := some 74, op := Op.fieldAddr 23 (Operand.tmp 73) 0, type := 0, pos := "law.go:69", after := #[{ on := 18, ground := Ground.data }, { on := 9, ground := Ground.guard }], guard := some (9, true) } : Oper)) (v := undef) rfl (by kernel_rfl) (by kernel_rfl) (by kernel_rfl) (fun _ _ _ h => h) (Or.inr ⟨by rfl, rfl⟩) (by assumption) ?_
                  (try simp only [Act.put, List.setIfInBounds_toArray, List.set_cons_zero, List.set_cons_succ])
                  refine wpAnyH_take (i := 20) (oi := ({ dst := some 75, op := Op.load 3 (Operand.tmp 74), type := 3, pos := "law.go:69", after := #[{ on := 19, ground := Ground.data }, { on := 9, ground := Ground.guard }], guard := some (9, true) } : Oper)) (v := undef) rfl (by kernel_rfl) (by kernel_rfl) (by kernel_rfl) (fun _ _ _ h => h) (Or.inr ⟨by rfl, rfl⟩) (by assumption) ?_
                  (try simp only [Act.put, List.setIfInBounds_toArray, List.set_cons_zero, List.set_cons_succ])
                  refine wpAnyH_take (i := 21) (oi := ({ dst := some 76, op := Op.binOp BinOp.geq 3 (Operand.tmp 70) (Operand.tmp 75) 3, type := 4, pos := "law.go:69", after := #[{ on := 15, ground := Ground.data }, { on := 20, ground := Ground.data }, { on := 9, ground := Ground.guard }], guard := some (9, true) } : Oper)) (v := undef) rfl (by kernel_rfl) (by kernel_rfl) (by kernel_rfl) (fun _ _ _ h => h) (Or.inr ⟨by rfl, rfl⟩) (by assumption) ?_
                  (try simp only [Act.put, List.setIfInBounds_toArray, List.set_cons_zero, List.set_cons_succ])
                  refine wpAnyH_take (i := 22) (oi := ({ dst := some 77, op := Op.pick (Operand.tmp 64) (Operand.tmp 76) (Operand.const (Value.bool false)), type := 4, pos := "law.go:69", after := #[{ on := 9, ground := Ground.data }, { on := 21, ground := Ground.data }, { on := 6, ground := Ground.guard }], guard := some (6, false) } : Oper)) (v := ?_) rfl (by kernel_rfl) (by kernel_rfl) (by kernel_rfl) (fun _ _ _ h => h) (Or.inl ⟨by rfl, ?_⟩) (by assumption) ?_
                  rotate_left
                  · intro w hSw; (try dsimp only at hSw); go_simp; try with_reducible rfl
                  (try simp only [Act.put, List.setIfInBounds_toArray, List.set_cons_zero, List.set_cons_succ])
                  refine wpAnyH_take (i := 23) (oi := ({ dst := some 78, op := Op.pick (Operand.tmp 61) (Operand.const (Value.bool true)) (Operand.tmp 77), type := 4, pos := "law.go:69", after := #[{ on := 6, ground := Ground.data }, { on := 22, ground := Ground.data }], guard := none } : Oper)) (v := ?_) rfl (by kernel_rfl) (by kernel_rfl) (by kernel_rfl) (fun _ _ _ h => h) (Or.inl ⟨by rfl, ?_⟩) (by assumption) ?_
                  rotate_left
                  · intro w hSw; (try dsimp only at hSw); go_simp; try with_reducible rfl
                  (try simp only [Act.put, List.setIfInBounds_toArray, List.set_cons_zero, List.set_cons_succ])
                  refine wpAnyH_done (by kernel_rfl) ?_ _
                  clear hb3 hS3 hS0 hHeld hHeld2
                  go_wp2_with fail
                  go_roundw
                  case rel => exact ⟨0 + 1, by omega, by go_num, by simp [hS2.out], hbr⟩
                  case measure => simp [intOf]; omega
              · simp only at hlt2
                have hx0 : (0 : Int) < (j : Int) + 1 := by omega
                have hx1 : (j : Int) + 1 < n.length := by omega
                have hx2 : (j : Int) < n.length := by omega
                have hx3 : (0 : Int) ≤ (j : Int) + 1 := by omega
                have hx4 : (0 : Int) ≤ (j : Int) := by omega
                have hx5 : n.length ≤ 60 := by omega
                have hx6 : ¬ na ≤ pb := by omega
                have hx7 : IntKind.i64.wrap ((j : Int) + 1 - 1) = (j : Int) := by rw [show (j : Int) + 1 - 1 = (j : Int) from by omega]; exact IntWalk.i64_in _ (by omega)
                have hx8 : IntKind.i64.wrap (j : Int) = (j : Int) := IntWalk.i64_in _ (by omega)
                rw [show ((j + 1 : Nat) : Int) = (j : Int) + 1 from by omega]
                have hS0 : (w1.cell? ⟨gn, (j + 1) * 2, none⟩ = some (.int .i64 na) ∧ w1.cell? ⟨gn, (j + 1) * 2 + 1, none⟩ = some (.int .i64 nb)) ∧ w1.cell? ⟨gn, j * 2, none⟩ = some (.int .i64 pa) ∧ w1.cell? ⟨gn, j * 2 + 1, none⟩ = some (.int .i64 pb) := ⟨⟨cellKeep p1 hbr, cellKeep p2 hbr⟩, cellKeep u1 hbr, cellKeep u2 hbr⟩
                cases hh
                · have d1 := hS0.1.1
                  have d2 := hS0.1.2
                  go_wp2_with fail
                  refine (kr.out _).mono ?_; rintro e w2 ⟨rfl, hb1⟩
                  clear d1 d2
                  replace hS0 := keep4 hS0 hb1
                  replace hbr := bnext hbr hb1
                  clear hb1
                  go_wp2_with fail
                  go_region_held3 (fun W => (W.cell? ⟨gn, (j + 1) * 2, none⟩ = some (.int .i64 na) ∧ W.cell? ⟨gn, (j + 1) * 2 + 1, none⟩ = some (.int .i64 nb)) ∧ W.cell? ⟨gn, j * 2, none⟩ = some (.int .i64 pa) ∧ W.cell? ⟨gn, j * 2 + 1, none⟩ = some (.int .i64 pb)) (first | exact hS0 | exact hS3 | exact keep4 hS0 ((Below.refl _ _).alloc (Nat.le_refl _) _) | exact keep4 hS3 ((Below.refl _ _).alloc (Nat.le_refl _) _) | (refine ⟨⟨?_, ?_⟩, ?_, ?_⟩ <;> (go_simp; done)) | assumption) (first | (go_at_call 14; refine (right_below _ _ _).mono ?_; rintro e w3 ⟨rfl, hb3⟩; rw [hrt.out]; have hS3 := keep4 (by assumption) hb3; replace hbr := bnext hbr (no_box hb3)))
                  clear hb3 hS3 hS0
                  go_wp2_with fail
                  go_roundw
                  case rel => exact ⟨(j + 1) + 1, by omega, by go_num, by simp [hS2.out], hbr⟩
                  case measure => simp [intOf]; omega
                · go_wp2_with fail
                  go_region_held3 (fun W => (W.cell? ⟨gn, (j + 1) * 2, none⟩ = some (.int .i64 na) ∧ W.cell? ⟨gn, (j + 1) * 2 + 1, none⟩ = some (.int .i64 nb)) ∧ W.cell? ⟨gn, j * 2, none⟩ = some (.int .i64 pa) ∧ W.cell? ⟨gn, j * 2 + 1, none⟩ = some (.int .i64 pb)) (first | exact hS0 | exact hS3 | exact keep4 hS0 ((Below.refl _ _).alloc (Nat.le_refl _) _) | exact keep4 hS3 ((Below.refl _ _).alloc (Nat.le_refl _) _) | (refine ⟨⟨?_, ?_⟩, ?_, ?_⟩ <;> (go_simp; done)) | assumption) (first | (go_at_call 14; refine (right_below _ _ _).mono ?_; rintro e w3 ⟨rfl, hb3⟩; rw [hrt.out]; have hS3 := keep4 (by assumption) hb3; replace hbr := bnext hbr (no_box hb3)))
                  clear hb3 hS3 hS0
                  go_wp2_with fail
                  go_roundw
                  case rel => exact ⟨(j + 1) + 1, by omega, by go_num, by simp [hS2.out], hbr⟩
                  case measure => simp [intOf]; omega
            · have hkl : k = n.length := by omega
              subst hkl
              rw [List.take_length, hmn.out]
              cases m
              all_goals
                have hsn := SpansAt.below HN.out hbr
                have hst := SpansAt.below HT.out hbr
                have hB := bnext HB.out hbr
                go_wp2_with fail
                refine (norm_any _ _ _ hsn hln6).mono ?_; rintro e wa ⟨⟨va, rfl, hoa⟩, hba⟩
                rw [hnn.out] at hoa
                have sa := SpansAt.own hoa
                replace hsn := SpansAt.below hsn hba
                replace hst := SpansAt.below hst hba
                replace hB := bnext hB hba
                clear hoa hba
                go_wp2_with fail
                refine (same_any _ _ _ _ _ sa hsn hln6 hln6).mono ?_; rintro e wb ⟨rfl, hbb⟩
                replace hsn := SpansAt.below hsn hbb
                replace hst := SpansAt.below hst hbb
                replace hB := bnext hB hbb
                clear hbb sa
                go_wp2_with fail
                refine (norm_any _ _ _ hst (by first | (simp; done) | (simp; omega))).mono ?_; rintro e wc ⟨⟨vc, rfl, hoc⟩, hbc⟩
                rw [hnt.out] at hoc
                have sc := SpansAt.own hoc
                replace hsn := SpansAt.below hsn hbc
                replace hB := bnext hB hbc
                clear hoc hbc hst
                go_wp2_with fail
                refine (same_any _ _ _ _ _ sc hsn hln6 hln6).mono ?_; rintro e wd ⟨rfl, hbd⟩
                replace hB := bnext hB hbd
                clear hbd sc
                go_wp2_with fail
                refine (known_any _).mono ?_; rintro e we ⟨rfl, hbe⟩
                replace hB := bnext hB hbe
                go_wp2_with fail
                go_ret
                exact ⟨rfl, hB⟩

      | succ j =>
        rw [show (((j + 1 : Nat) : Int) - 1) = (j : Int) from by omega]
        have hlj : j < l.length := by omega
        obtain ⟨hd1, hd20⟩ := Sp.drop_step l t j hlj
        obtain ⟨q1, q2⟩ := HC.out j l[j] (List.getElem?_eq_getElem hlj)
        replace q1 := cellKeep (cellKeep q1 hB1) hbr
        replace q2 := cellKeep (cellKeep q2 hB1) hbr
        have hrl : (l.drop (j + 1)).reverse.length ≤ 60 := by simp; omega
        generalize Sp.anyHas (l.drop (j + 1)) t = hh at hd1 ⊢
        generalize (l.drop (j + 1)).reverse = rr at hown hd20 hrl
        generalize hgs : l[j] = s at hd1 hd20 q1 q2
        clear hgs
        have hd2 := hid hd20
        clear hd20
        obtain ⟨sa, sb⟩ := s
        simp only at q1 q2
        obtain ⟨r, kr, hS2⟩ : ∃ r, Hid (∀ W, Calls Try.prog 16 #[.agg #[.int .i64 sa, .int .i64 sb], .int .i64 t] W fun e w' => e = .returned (.bool r) ∧ Below W.heap.size W w') ∧ Hid (Sp.anyHas (l.drop j) t = (hh || r)) := ⟨_, fun W => has_any sa sb t W, hd1⟩
        clear hd1
        cases hh
        · go_wp2_with fail
          refine (kr.out _).mono ?_; rintro e w1 ⟨rfl, hb1⟩
          replace q1 := cellKeep q1 hb1
          replace q2 := cellKeep q2 hb1
          replace hown := own_below hown hb1
          replace hbr := bnext hbr hb1
          clear hb1
          go_wp2_with (at_builtin; refine append_span _ rfl _ _ rfl w0.heap.size _ rr rfl hown _ _ _ (by first | rfl | (simp; done)) rfl (by omega) hbr.size ?_; intro v3 w4 hown3 hgrow3; have hb4 := hbr.grown hgrow3 hbr.size (fun q hq => (hown.lt q hq).1); have HO3 := hid hown3; clear hown3 hgrow3)
          go_roundw
          case rel => exact ⟨j, by omega, by go_num, by simp [hS2.out], by rw [hd2.out]; exact HO3.out, hb4⟩
          case measure => first | (simp [intOf]; done) | (simp [intOf]; omega)
        · go_wp2_with (at_builtin; refine append_span _ rfl _ _ rfl w0.heap.size _ rr rfl hown _ _ _ (by first | rfl | (simp; done)) rfl (by omega) hbr.size ?_; intro v3 w4 hown3 hgrow3; have hb4 := hbr.grown hgrow3 hbr.size (fun q hq => (hown.lt q hq).1); have HO3 := hid hown3; clear hown3 hgrow3)
          go_roundw
          case rel => exact ⟨j, by omega, by go_num, by simp [hS2.out], by rw [hd2.out]; exact HO3.out, hb4⟩
          case measure => first | (simp [intOf]; done) | (simp [intOf]; omega)
end Go.Proofs.Ytghgiifclocddaa
