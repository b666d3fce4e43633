/-
  SpanNorms answers true, whatever the spans and the span: the walk. No condition.
-/
import Derived.Test.YtghgiifclocddaaSpanNR
namespace Go.Proofs.Ytghgiifclocddaa
open Go.RowKit

set_option maxRecDepth 100000 in
set_option maxHeartbeats 3200000 in
theorem spanNorms_walk (v : Value) (l : List Sp.Span) (a b : Int) (w : World) (hv0 : l.length ≤ maxLen ∧ SpansAt w v l) : Calls Try.prog 4 #[v, .agg #[.int .i64 a, .int .i64 b]] w fun e w' => e = .returned (.bool true) ∧ Below w.heap.size w w' := by
  obtain ⟨hmax, hv⟩ := hv0
  unfold maxLen at hmax
  have hsh : ∃ adr cap, v = .slice adr l.length cap := by
    rcases hv with ⟨rfl, ao, cap, rfl⟩ | ⟨g, off, cap, rfl, hlt, hc⟩
    · exact ⟨ao, cap, rfl⟩
    · exact ⟨_, cap, rfl⟩
  obtain ⟨adr, cap, rfl⟩ := hsh
  by_cases h60 : 60 < l.length
  · have h60' : (60 : Int) < l.length := by omega
    go_enter Try.func4, Try.ntmps4
    go_wp2_with (go_at_call 21; refine (known_any _).mono ?_; rintro e wn ⟨rfl, hb⟩)
    go_ret
    exact ⟨rfl, bnext (hba w (.cells #[.int .i64 a, .int .i64 b] 23)) hb⟩
  · have h60' : ¬ (60 : Int) < l.length := by omega
    have hl6 : l.length ≤ 100000 := by omega
    have hnl := normR_len l
    have hne0 := Sp.norm_eq l
    have hce0 := Sp.covers_eq l (a, b)
    generalize hnn0 : Sp.normR l = n at hnl hne0
    generalize hcw0 : Sp.coversR l (a, b) = cv at hce0
    have hne := hid hne0
    have hnn := hid hnn0
    have hcw := hid hcw0
    have hcv := hid hce0
    clear hne0 hce0 hnn0 hcw0
    have hnl5 : n.length ≤ 1000000 := by omega
    go_enter Try.func4, Try.ntmps4
    go_wp2_with fail
    obtain ⟨w5, hw5⟩ : ∃ w5, (w.alloc (.cells #[.int .i64 a, .int .i64 b] 23)).drew = w5 := ⟨_, rfl⟩
    have hB5 : Below w.heap.size w w5 := hw5 ▸ (hba w _).drew
    have x1 : Box w5 w.heap.size a b := hw5 ▸ Box.keep Box.new ((Below.refl _ _).drew)
    have hsL_5 := hv.below hB5
    have mk5 : ∀ W, Below w5.heap.size w5 W → (fun W => Below w5.heap.size w5 W ∧ W.cell? ⟨w.heap.size, 0, none⟩ = some (.int .i64 a) ∧ W.cell? ⟨w.heap.size, 1, none⟩ = some (.int .i64 b)) W := fun W h => ⟨h, (h.cell x1.2.2).trans x1.1, (h.cell x1.2.2).trans x1.2.1⟩
    refine wp_region_held_drew (S := (fun W => Below w5.heap.size w5 W ∧ W.cell? ⟨w.heap.size, 0, none⟩ = some (.int .i64 a) ∧ W.cell? ⟨w.heap.size, 1, none⟩ = some (.int .i64 b))) (by kernel_rfl) (by rw [hw5]; exact mk5 _ (Below.refl _ _)) (fun hS5 => ?_)
    rw [hw5] at hS5 ⊢
    clear hw5 hv
    refine wpAnyH_take (i := 0) (oi := ({ dst := some 9, op := Op.move (Operand.tmp 0), type := 29, pos := "law.go:35", after := #[], guard := none } : Oper)) (v := ?_) rfl (by kernel_rfl) (by kernel_rfl) (by kernel_rfl) (fun _ _ _ h => h) (Or.inl ⟨by rfl, ?_⟩) hS5 ?_
    rotate_left
    · intro w hSw; (try dsimp only at hSw); go_simp; (try with_reducible rfl)
    simp only [Act.put, List.setIfInBounds_toArray, List.set_cons_zero, List.set_cons_succ]
    refine wpAnyH_take (i := 2) (oi := ({ dst := some 11, op := Op.move (Operand.tmp 0), type := 29, pos := "law.go:35", after := #[], guard := none } : Oper)) (v := ?_) rfl (by kernel_rfl) (by kernel_rfl) (by kernel_rfl) (fun _ _ _ h => h) (Or.inl ⟨by rfl, ?_⟩) hS5 ?_
    rotate_left
    · intro w hSw; (try dsimp only at hSw); go_simp; (try with_reducible rfl)
    simp only [Act.put, List.setIfInBounds_toArray, List.set_cons_zero, List.set_cons_succ]
    refine wpAnyH_ready (rs := [1]) (by kernel_rfl) (by simp) ?_
    refine AllReadyH.cons (o := ({ dst := some 10, op := Op.call { callee := Callee.value (Operand.func 22), args := #[Operand.tmp 9], argTypes := #[29] }, type := 29, pos := "law.go:35", after := #[{ on := 0, ground := Ground.data }], guard := none } : Oper)) rfl (fun K hK => ?_) AllReadyH.nil
    go_simp
    refine (norm_any _ l _ hsL_5 (by omega)).mono ?_; rintro e w6 ⟨⟨vn, rfl, hown⟩, hb6⟩
    rw [hne.out] at hown
    have hsN_6 := SpansAt.own hown
    clear hown
    go_wp2_with fail
    refine hK.out _ _ (mk5 _ (hnext hS5.1 hb6)) (fun hS6 => ?_)
    clear hK K
    (try simp only [Act.put, List.setIfInBounds_toArray, List.set_cons_zero, List.set_cons_succ])
    have hsL_6 := hsL_5.below hb6
    clear hb6 hS5 hsL_5
    refine wpAnyH_ready (rs := [3]) (by kernel_rfl) (by simp) ?_
    refine AllReadyH.cons (o := ({ dst := some 12, op := Op.call { callee := Callee.value (Operand.func 23), args := #[Operand.tmp 11], argTypes := #[29] }, type := 29, pos := "law.go:35", after := #[{ on := 2, ground := Ground.data }, { on := 1, ground := Ground.chain }], guard := none } : Oper)) rfl (fun K hK => ?_) AllReadyH.nil
    go_simp
    refine (normR_any _ l _ hsL_6 hl6).mono ?_; rintro e w7 ⟨⟨vm, rfl, hown⟩, hb7⟩
    rw [hnn.out] at hown
    have hsM_7 := SpansAt.own hown
    clear hown
    go_wp2_with fail
    refine hK.out _ _ (mk5 _ (hnext hS6.1 hb7)) (fun hS7 => ?_)
    clear hK K
    (try simp only [Act.put, List.setIfInBounds_toArray, List.set_cons_zero, List.set_cons_succ])
    have hsL_7 := hsL_6.below hb7
    have hsN_7 := hsN_6.below hb7
    clear hb7 hS6 hsL_6 hsN_6
    refine wpAnyH_ready (rs := [4]) (by kernel_rfl) (by simp) ?_
    refine AllReadyH.cons (o := ({ dst := some 13, op := Op.call { callee := Callee.value (Operand.func 18), args := #[Operand.tmp 10, Operand.tmp 12], argTypes := #[29, 29] }, type := 4, pos := "law.go:35", after := #[{ on := 1, ground := Ground.data }, { on := 3, ground := Ground.data }, { on := 3, ground := Ground.chain }], guard := none } : Oper)) rfl (fun K hK => ?_) AllReadyH.nil
    go_simp
    refine (same_any _ _ _ _ _ hsN_7 hsM_7 (by omega) (by omega)).mono ?_; rintro e w8 ⟨rfl, hb8⟩
    rw [show decide (n = n) = true from by simp]
    go_wp2_with fail
    refine hK.out _ _ (mk5 _ (hnext hS7.1 hb8)) (fun hS8 => ?_)
    clear hK K
    (try simp only [Act.put, List.setIfInBounds_toArray, List.set_cons_zero, List.set_cons_succ])
    have hsL_8 := hsL_7.below hb8
    have hsN_8 := hsN_7.below hb8
    have hsM_8 := hsM_7.below hb8
    clear hb8 hS7 hsL_7 hsN_7 hsM_7
    refine wpAnyH_take (i := 5) (oi := ({ dst := some 14, op := Op.move (Operand.tmp 13), type := 4, pos := "law.go:35", after := #[{ on := 4, ground := Ground.data }, { on := 4, ground := Ground.chain }], guard := none } : Oper)) (v := ?_) rfl (by kernel_rfl) (by kernel_rfl) (by kernel_rfl) (fun _ _ _ h => h) (Or.inl ⟨by rfl, ?_⟩) hS8 ?_
    rotate_left
    · intro w hSw; (try dsimp only at hSw); go_simp; (try with_reducible rfl)
    simp only [Act.put, List.setIfInBounds_toArray, List.set_cons_zero, List.set_cons_succ]
    refine wpAnyH_take (i := 6) (oi := ({ dst := some 15, op := Op.move (Operand.tmp 0), type := 29, pos := "law.go:35", after := #[{ on := 5, ground := Ground.guard }], guard := some (5, true) } : Oper)) (v := ?_) rfl (by kernel_rfl) (by kernel_rfl) (by kernel_rfl) (fun _ _ _ h => h) (Or.inl ⟨by rfl, ?_⟩) hS8 ?_
    rotate_left
    · intro w hSw; (try dsimp only at hSw); go_simp; (try with_reducible rfl)
    simp only [Act.put, List.setIfInBounds_toArray, List.set_cons_zero, List.set_cons_succ]
    refine wpAnyH_take (i := 7) (oi := ({ dst := some 16, op := Op.load 23 (Operand.tmp 3), type := 23, pos := "law.go:35", after := #[{ on := 5, ground := Ground.guard }], guard := some (5, true) } : Oper)) (v := ?_) rfl (by kernel_rfl) (by kernel_rfl) (by kernel_rfl) (fun _ _ _ h => h) (Or.inl ⟨by rfl, ?_⟩) hS8 ?_
    rotate_left
    · intro w hSw; (try dsimp only at hSw); go_simp; (try with_reducible rfl)
    simp only [Act.put, List.setIfInBounds_toArray, List.set_cons_zero, List.set_cons_succ]
    refine wpAnyH_take (i := 9) (oi := ({ dst := some 18, op := Op.move (Operand.tmp 0), type := 29, pos := "law.go:35", after := #[{ on := 5, ground := Ground.guard }], guard := some (5, true) } : Oper)) (v := ?_) rfl (by kernel_rfl) (by kernel_rfl) (by kernel_rfl) (fun _ _ _ h => h) (Or.inl ⟨by rfl, ?_⟩) hS8 ?_
    rotate_left
    · intro w hSw; (try dsimp only at hSw); go_simp; (try with_reducible rfl)
    simp only [Act.put, List.setIfInBounds_toArray, List.set_cons_zero, List.set_cons_succ]
    refine wpAnyH_take (i := 10) (oi := ({ dst := some 19, op := Op.load 23 (Operand.tmp 3), type := 23, pos := "law.go:35", after := #[{ on := 5, ground := Ground.guard }], guard := some (5, true) } : Oper)) (v := ?_) rfl (by kernel_rfl) (by kernel_rfl) (by kernel_rfl) (fun _ _ _ h => h) (Or.inl ⟨by rfl, ?_⟩) hS8 ?_
    rotate_left
    · intro w hSw; (try dsimp only at hSw); go_simp; (try with_reducible rfl)
    simp only [Act.put, List.setIfInBounds_toArray, List.set_cons_zero, List.set_cons_succ]
    refine wpAnyH_ready (rs := [8]) (by kernel_rfl) (by simp) ?_
    refine AllReadyH.cons (o := ({ dst := some 17, op := Op.call { callee := Callee.value (Operand.func 24), args := #[Operand.tmp 15, Operand.tmp 16], argTypes := #[29, 23] }, type := 4, pos := "law.go:35", after := #[{ on := 6, ground := Ground.data }, { on := 7, ground := Ground.data }, { on := 5, ground := Ground.chain }, { on := 5, ground := Ground.guard }], guard := some (5, true) } : Oper)) rfl (fun K hK => ?_) AllReadyH.nil
    go_simp
    refine (covers_any _ l a b _ hsL_8 hl6).mono ?_; rintro e w9 ⟨rfl, hb9⟩
    rw [hcv.out]
    go_wp2_with fail
    refine hK.out _ _ (mk5 _ (hnext hS8.1 hb9)) (fun hS9 => ?_)
    clear hK K
    (try simp only [Act.put, List.setIfInBounds_toArray, List.set_cons_zero, List.set_cons_succ])
    have hsL_9 := hsL_8.below hb9
    have hsN_9 := hsN_8.below hb9
    have hsM_9 := hsM_8.below hb9
    clear hb9 hS8 hsL_8 hsN_8 hsM_8
    refine wpAnyH_ready (rs := [11]) (by kernel_rfl) (by simp) ?_
    refine AllReadyH.cons (o := ({ dst := some 20, op := Op.call { callee := Callee.value (Operand.func 25), args := #[Operand.tmp 18, Operand.tmp 19], argTypes := #[29, 23] }, type := 4, pos := "law.go:35", after := #[{ on := 9, ground := Ground.data }, { on := 10, ground := Ground.data }, { on := 8, ground := Ground.chain }, { on := 5, ground := Ground.guard }], guard := some (5, true) } : Oper)) rfl (fun K hK => ?_) AllReadyH.nil
    go_simp
    refine (coversR_any _ l a b _ hsL_9 hl6).mono ?_; rintro e w10 ⟨rfl, hb10⟩
    rw [hcw.out]
    go_wp2_with fail
    refine hK.out _ _ (mk5 _ (hnext hS9.1 hb10)) (fun hS10 => ?_)
    clear hK K
    (try simp only [Act.put, List.setIfInBounds_toArray, List.set_cons_zero, List.set_cons_succ])
    have hsL_10 := hsL_9.below hb10
    have hsN_10 := hsN_9.below hb10
    have hsM_10 := hsM_9.below hb10
    clear hb10 hS9 hsL_9 hsN_9 hsM_9
    refine wpAnyH_take (i := 12) (oi := ({ dst := some 21, op := Op.binOp BinOp.eql 4 (Operand.tmp 17) (Operand.tmp 20) 4, type := 4, pos := "law.go:35", after := #[{ on := 8, ground := Ground.data }, { on := 11, ground := Ground.data }, { on := 5, ground := Ground.guard }], guard := some (5, true) } : Oper)) (v := ?_) rfl (by kernel_rfl) (by kernel_rfl) (by kernel_rfl) (fun _ _ _ h => h) (Or.inl ⟨by rfl, ?_⟩) hS10 ?_
    rotate_left
    · intro w hSw; (try dsimp only at hSw); go_simp; (try with_reducible rfl)
    simp only [Act.put, List.setIfInBounds_toArray, List.set_cons_zero, List.set_cons_succ]
    refine wpAnyH_take (i := 13) (oi := ({ dst := some 22, op := Op.pick (Operand.tmp 14) (Operand.tmp 21) (Operand.const (Value.bool false)), type := 4, pos := "law.go:35", after := #[{ on := 5, ground := Ground.data }, { on := 12, ground := Ground.data }], guard := none } : Oper)) (v := ?_) rfl (by kernel_rfl) (by kernel_rfl) (by kernel_rfl) (fun _ _ _ h => h) (Or.inl ⟨by rfl, ?_⟩) hS10 ?_
    rotate_left
    · intro w hSw; (try dsimp only at hSw); go_simp; (try with_reducible rfl)
    simp only [Act.put, List.setIfInBounds_toArray, List.set_cons_zero, List.set_cons_succ]
    refine wpAnyH_take (i := 14) (oi := ({ dst := some 23, op := Op.move (Operand.tmp 22), type := 4, pos := "law.go:35", after := #[{ on := 13, ground := Ground.data }, { on := 11, ground := Ground.chain }], guard := none } : Oper)) (v := ?_) rfl (by kernel_rfl) (by kernel_rfl) (by kernel_rfl) (fun _ _ _ h => h) (Or.inl ⟨by rfl, ?_⟩) hS10 ?_
    rotate_left
    · intro w hSw; (try dsimp only at hSw); go_simp; (try with_reducible rfl)
    simp only [Act.put, List.setIfInBounds_toArray, List.set_cons_zero, List.set_cons_succ]
    refine wpAnyH_ready (rs := [15]) (by kernel_rfl) (by simp) ?_
    refine AllReadyH.cons (o := ({ dst := some 24, op := Op.call { callee := Callee.value (Operand.func 21), args := #[], argTypes := #[] }, type := 4, pos := "law.go:35", after := #[{ on := 14, ground := Ground.chain }, { on := 14, ground := Ground.guard }], guard := some (14, true) } : Oper)) rfl (fun K hK => ?_) AllReadyH.nil
    go_simp
    refine (known_any _).mono ?_; rintro e w11 ⟨rfl, hb11⟩
    go_wp2_with fail
    refine hK.out _ _ (mk5 _ (hnext hS10.1 hb11)) (fun hS11 => ?_)
    clear hK K
    (try simp only [Act.put, List.setIfInBounds_toArray, List.set_cons_zero, List.set_cons_succ])
    have hsL_11 := hsL_10.below hb11
    have hsN_11 := hsN_10.below hb11
    have hsM_11 := hsM_10.below hb11
    clear hb11 hS10 hsL_10 hsN_10 hsM_10
    refine wpAnyH_take (i := 16) (oi := ({ dst := some 25, op := Op.pick (Operand.tmp 23) (Operand.tmp 24) (Operand.const (Value.bool false)), type := 4, pos := "law.go:35", after := #[{ on := 14, ground := Ground.data }, { on := 15, ground := Ground.data }], guard := none } : Oper)) (v := ?_) rfl (by kernel_rfl) (by kernel_rfl) (by kernel_rfl) (fun _ _ _ h => h) (Or.inl ⟨by rfl, ?_⟩) hS11 ?_
    rotate_left
    · intro w hSw; (try dsimp only at hSw); go_simp; (try with_reducible rfl)
    simp only [Act.put, List.setIfInBounds_toArray, List.set_cons_zero, List.set_cons_succ]
    refine wpAnyH_take (i := 17) (oi := ({ dst := some 4, op := Op.assign (Operand.tmp 25), type := 4, pos := "law.go:35", after := #[{ on := 16, ground := Ground.data }, { on := 15, ground := Ground.chain }, { on := 0, ground := Ground.phase }, { on := 1, ground := Ground.phase }, { on := 2, ground := Ground.phase }, { on := 3, ground := Ground.phase }, { on := 4, ground := Ground.phase }, { on := 5, ground := Ground.phase }, { on := 6, ground := Ground.phase }, { on := 7, ground := Ground.phase }, { on := 8, ground := Ground.phase }, { on := 9, ground := Ground.phase }, { on := 10, ground := Ground.phase }, { on := 11, ground := Ground.phase }, { on := 12, ground := Ground.phase }, { on := 13, ground := Ground.phase }, { on := 14, ground := Ground.phase }, { on := 15, ground := Ground.phase }, { on := 16, ground := Ground.phase }], guard := none } : Oper)) (v := ?_) rfl (by kernel_rfl) (by kernel_rfl) (by kernel_rfl) (fun _ _ _ h => h) (Or.inl ⟨by rfl, ?_⟩) hS11 ?_
    rotate_left
    · intro w hSw; (try dsimp only at hSw); go_simp; (try with_reducible rfl)
    simp only [Act.put, List.setIfInBounds_toArray, List.set_cons_zero, List.set_cons_succ]
    refine wpAnyH_done (by kernel_rfl) ?_ _
    go_wp2_with fail
    go_ret
    exact ⟨rfl, bnext hB5 hS11.1⟩
end Go.Proofs.Ytghgiifclocddaa
