/-
  The bytes of a query: the contract of the program's Encode. Condition: sizes that can stand in memory.
-/
import Derived.Test.YtmcneelapghfcaaQa
import Derived.Test.YtmcneelapghfcaaCf
namespace Go.Proofs.Ytmcneelapghfcaa
open Go.RowKit Pd Qu

namespace Qu
theorem enc_kind {q : Q} (h : ¬ 0 ≤ q.kind) : enc q = [] := by unfold enc encB fits; rw [decide_eq_false h]; rfl
theorem enc_key {q : Q} (h : q.key.all Cd.V.right = false) : enc q = [] := by unfold enc encB fits; rw [h, Bool.false_and, Bool.and_false]; rfl
theorem enc_len {q : Q} (h : ¬ (q.key.length ≤ 1000 ∧ q.wh.length ≤ 1000 ∧ q.cols.length ≤ 1000)) : enc q = [] := by unfold enc encB fits; rw [decide_eq_false h, Bool.and_false, Bool.and_false]; rfl
theorem row_empty {l : List Cd.V} (h : l.all Cd.V.right = false) : Cd.row l = [] := by unfold Cd.row; rw [h]; rfl
theorem row_full {l : List Cd.V} (h : l.all Cd.V.right = true) : Cd.row l ≠ [] := by
  unfold Cd.row
  rw [if_pos h]
  intro e
  have := congrArg List.length e
  have h2 := Cd.enc_length l.length
  simp only [List.length_append, List.length_nil] at this
  omega
theorem enc_yes {q : Q} (h0 : 0 ≤ q.kind) (h1 : q.key.all Cd.V.right = true) (h2 : q.key.length ≤ 1000 ∧ q.wh.length ≤ 1000 ∧ q.cols.length ≤ 1000) (h3 : q.wh.all (fun x => x.v.right) = true) : enc q = encL q := by
  unfold enc encB fits; rw [decide_eq_true h0, h1, decide_eq_true h2, h3]; rfl
theorem num_len (n : Int) : (bstr (numL n)).size ≤ 10 := by unfold numL; rw [bstr_size]; exact (Cd.enc_length _).2
theorem nums_len (l : List Int) : (l.flatMap numL).length ≤ l.length * 10 := by
  induction l with
  | nil => exact Nat.le_refl _
  | cons n l ih =>
    have := num_len n
    rw [bstr_size] at this
    rw [List.flatMap_cons, List.length_append, List.length_cons]; omega
theorem spot_next (X : List UInt8) (l : List Int) (k : Nat) (h : k < l.length) : X ++ (l.take (k + 1)).flatMap numL = X ++ (l.take k).flatMap numL ++ numL l[k] := by
  rw [List.take_succ_eq_append_getElem h, List.flatMap_append, List.append_assoc]; simp
theorem node_len (x : N) : (nodeL x).length ≤ 5030 := by
  unfold nodeL
  have h1 := num_len x.op
  have h2 := num_len x.col
  have h3 := row_length [x.v]
  rw [bstr_size] at h1 h2
  simp only [List.length_append, List.length_cons, List.length_nil] at *
  omega
theorem nodes_len (l : List N) : (l.flatMap nodeL).length ≤ l.length * 5030 := by
  induction l with
  | nil => exact Nat.le_refl _
  | cons n l ih =>
    have := node_len n
    rw [List.flatMap_cons, List.length_append, List.length_cons]; omega
theorem node_next (X : List UInt8) (l : List N) (k : Nat) (h : k < l.length) : X ++ (l.take (k + 1)).flatMap nodeL = X ++ (l.take k).flatMap nodeL ++ nodeL l[k] := by
  rw [List.take_succ_eq_append_getElem h, List.flatMap_append, List.append_assoc]; simp
theorem enc_no {q : Q} {k : Nat} (hk : k < q.wh.length) (h : (q.wh[k]).v.right = false) : enc q = [] := by
  have : q.wh.all (fun x => x.v.right) = false := by
    rw [List.all_eq_false]
    exact ⟨q.wh[k], List.getElem_mem hk, by rw [h]; decide⟩
  unfold enc encB
  rw [this, Bool.and_false]; rfl
end Qu
/-- 'max(n, m, k)' of three lengths -/
theorem max3 (w : World) {ops : Array Oper} {rest : List Oper} {o : Oper} {a : Act} {Q : Exit → Act → World → Prop} (hg : Region.wanted o (yielded ops a.tmps) = true) (x y z : Operand) (ts : Array TypeId) (ho : o.op = .call { callee := .builtin .max, args := #[x, y, z], argTypes := ts })
    (n m k : Nat) (hx : a.eval x = .int .i64 (n : Int)) (hy : a.eval y = .int .i64 (m : Int)) (hz : a.eval z = .int .i64 (k : Int)) (hK : ∀ p : Nat, Hid (p = max (max n m) k) → wpList Try.prog ops Q rest (a.put o.dst (.int .i64 (p : Int))) w) : wpList Try.prog ops Q (o :: rest) a w := by
  refine Go.wpList_step fun K hKK => ?_
  rw [if_pos hg]
  have h2 := hK (max (max n m) k) rfl
  unfold Oper.wp
  simp [execOp, ho, resolve, invoke, builtin, hx, hy, hz]
  refine hKK _ _ ?_
  have e : ∀ v : Int, v = ((max (max n m) k : Nat) : Int) → wpList Try.prog ops Q rest (a.put o.dst (.int .i64 v)) w := fun v hv => by rw [hv]; exact h2
  repeat' split
  all_goals first | (refine e _ ?_; omega) | skip
theorem vs_one {w : World} {g : Nat} {x : Cd.V} (h0 : w.cell? ⟨g, 0, none⟩ = some (.int .i64 x.k)) (h1 : w.cell? ⟨g, 1, none⟩ = some (.int .i64 x.n)) (h2 : w.cell? ⟨g, 2, none⟩ = some (.int .u64 (x.b : Int))) (h3 : w.cell? ⟨g, 3, none⟩ = some (.string x.s)) : VsAt w (.slice (some ⟨g, 0, none⟩) 1 1) [x] := by
  refine ⟨_, 1, rfl, fun k hk => ⟨g, 0, rfl, ?_⟩⟩
  have hk' : k = 0 := by have : k < 1 := hk; omega
  subst hk'
  exact ⟨h0, h1, h2, h3⟩
theorem idx4_0 (a b c d : Int) (w : World) : (Instr.index 80 (.agg #[.int .i64 a, .int .i64 b, .int .i64 c, .int .i64 d]) (.int .i64 0)).run Try.prog w = .ok (.int .i64 a) w := by
  simp [Instr.index, run_underlying Try.underlying80, asIntOf, go_sem]
theorem idx4_1 (a b c d : Int) (w : World) : (Instr.index 80 (.agg #[.int .i64 a, .int .i64 b, .int .i64 c, .int .i64 d]) (.int .i64 1)).run Try.prog w = .ok (.int .i64 b) w := by
  simp [Instr.index, run_underlying Try.underlying80, asIntOf, go_sem]
theorem idx4_2 (a b c d : Int) (w : World) : (Instr.index 80 (.agg #[.int .i64 a, .int .i64 b, .int .i64 c, .int .i64 d]) (.int .i64 2)).run Try.prog w = .ok (.int .i64 c) w := by
  simp [Instr.index, run_underlying Try.underlying80, asIntOf, go_sem]
theorem idx4_3 (a b c d : Int) (w : World) : (Instr.index 80 (.agg #[.int .i64 a, .int .i64 b, .int .i64 c, .int .i64 d]) (.int .i64 3)).run Try.prog w = .ok (.int .i64 d) w := by
  simp [Instr.index, run_underlying Try.underlying80, asIntOf, go_sem]
theorem bempty (l : List UInt8) : ((bstr l).toList == []) = decide (l = []) := by rw [ByteArray.toList_eq, bstr_toList, Bool.eq_iff_iff]; simp
theorem bempty' (l : List UInt8) : (bstr l).toList.isEmpty = decide (l = []) := by rw [ByteArray.toList_eq, bstr_toList]; cases l <;> simp
set_option maxRecDepth 100000 in
set_option maxHeartbeats 6400000 in
theorem qenc_any (q : Q) (vk vw vc : Value) (w : World) (hq : QIn w q vk vw vc) (hok : Qok q) (hk : q.key.length ≤ 1000000) (hw : q.wh.length ≤ 1000000) (hc : q.cols.length ≤ 1000000) (ht : q.table.size ≤ 100000000) : Calls Try.prog 19 #[qv q vk vw vc] w fun e w' => e = .returned (.string (bstr (enc q))) ∧ Below w.heap.size w w' := by
  obtain ⟨ka, kc, rfl⟩ := vs_slc hq.1
  obtain ⟨wa, wc, rfl⟩ := hq.2.1.slc
  obtain ⟨ca, cc, rfl⟩ := hq.2.2.slc
  obtain ⟨kind, table, key, t, v, fr, to, wh, cols, limit, desc⟩ := q
  have L := hid (hba w (.cells #[.int .i64 kind, .string table, .slice ka key.length kc, .int .i64 t, .int .i64 v, .int .i64 fr, .int .i64 to, .slice wa wh.length wc, .slice ca cols.length cc, .int .i64 limit, .bool desc] 28))
  have BX := hid (BQ.new w 28 ⟨kind, table, key, t, v, fr, to, wh, cols, limit, desc⟩ (.slice ka key.length kc) (.slice wa wh.length wc) (.slice ca cols.length cc))
  have HK := hid (hq.1.below L.out)
  have HW := hid (hq.2.1.below L.out)
  have HC := hid (hq.2.2.below L.out)
  have HOK := hid hok
  clear hq
  unfold qv
  simp only at HK HW HC hk hw hc ht ⊢
  have cr := hid (fun W h => row_any (.slice ka key.length kc) key W h hok.key hk)
  clear hok
  obtain ⟨c0, c1, c2, c3, c4, c5, c6, c7, c8, c9, c10, cl⟩ := BX.out.cells
  simp only at c0 c1 c2 c3 c4 c5 c6 c7 c8 c9 c10
  clear cl
  by_cases h0 : 0 ≤ kind
  case neg =>
    have h0' : kind < 0 := by omega
    have HR := hid (enc_kind (q := ⟨kind, table, key, t, v, fr, to, wh, cols, limit, desc⟩) h0)
    clear h0
    go_enter Try.func19, Try.ntmps19
    go_wp2_with fail
    refine (cr.out _ HK.out).mono ?_; rintro e w1 ⟨rfl, b⟩
    replace L := hid (hnext L.out b)
    replace BX := hid (BX.out.keep b)
    replace HK := hid (HK.out.below b)
    replace HW := hid (HW.out.below b)
    replace HC := hid (HC.out.below b)
    clear b
    clear c0 c1 c2 c3 c4 c5 c6 c7 c8 c9 c10
    obtain ⟨c0, c1, c2, c3, c4, c5, c6, c7, c8, c9, c10, cl⟩ := BX.out.cells
    simp only at c0 c1 c2 c3 c4 c5 c6 c7 c8 c9 c10
    clear cl
    go_wp2_with fail
    go_ret
    rw [HR.out]
    exact ⟨rfl, L.out⟩
  have h0' : ¬ kind < 0 := by omega
  have h0'' : decide (kind < 0) = false := decide_eq_false h0'
  cases hkr : key.all Cd.V.right with
  | false =>
    have HR := hid (enc_key (q := ⟨kind, table, key, t, v, fr, to, wh, cols, limit, desc⟩) hkr)
    have p1 : ((bstr (Cd.row key)).toList == []) = true := by rw [bempty]; exact decide_eq_true (row_empty hkr)
    have p2 : (bstr (Cd.row key)).toList.isEmpty = true := by rw [bempty']; exact decide_eq_true (row_empty hkr)
    generalize bstr (Cd.row key) = K at *
    clear h0 hkr
    go_enter Try.func19, Try.ntmps19
    go_wp2_with fail
    refine (cr.out _ HK.out).mono ?_; rintro e w1 ⟨rfl, b⟩
    replace L := hid (hnext L.out b)
    replace BX := hid (BX.out.keep b)
    replace HK := hid (HK.out.below b)
    replace HW := hid (HW.out.below b)
    replace HC := hid (HC.out.below b)
    clear b
    clear c0 c1 c2 c3 c4 c5 c6 c7 c8 c9 c10
    obtain ⟨c0, c1, c2, c3, c4, c5, c6, c7, c8, c9, c10, cl⟩ := BX.out.cells
    simp only at c0 c1 c2 c3 c4 c5 c6 c7 c8 c9 c10
    clear cl
    go_wp2_with fail
    go_ret
    rw [HR.out]
    exact ⟨rfl, L.out⟩
  | true =>
    have p1 : ((bstr (Cd.row key)).toList == []) = false := by rw [bempty]; exact decide_eq_false (row_full hkr)
    have p2 : (bstr (Cd.row key)).toList.isEmpty = false := by rw [bempty']; exact decide_eq_false (row_full hkr)
    by_cases hm : key.length ≤ 1000 ∧ wh.length ≤ 1000 ∧ cols.length ≤ 1000
    case neg =>
      have HR := hid (enc_len (q := ⟨kind, table, key, t, v, fr, to, wh, cols, limit, desc⟩) hm)
      generalize bstr (Cd.row key) = K at *
      obtain ⟨P1, hP1⟩ : ∃ P1 : Int, (if key.length < wh.length then (wh.length : Int) else (key.length : Int)) = P1 := ⟨_, rfl⟩
      obtain ⟨P, hP⟩ : ∃ P : Int, (if (cols.length : Int) ≤ P1 then P1 else (cols.length : Int)) = P := ⟨_, rfl⟩
      have hP' : (if P1 < (cols.length : Int) then (cols.length : Int) else P1) = P := by rw [← hP]; split <;> split <;> omega
      have hP2 : (key.length : Int) ≤ P ∧ (wh.length : Int) ≤ P ∧ (cols.length : Int) ≤ P ∧ (P = key.length ∨ P = wh.length ∨ P = cols.length) := by rw [← hP, ← hP1]; split <;> split <;> omega
      have hP3 : (1000 : Int) < P := by omega
      clear hP2 hm h0 hkr
      go_enter Try.func19, Try.ntmps19
      go_wp2_with fail
      refine (cr.out _ HK.out).mono ?_; rintro e w1 ⟨rfl, b⟩
      replace L := hid (hnext L.out b)
      replace BX := hid (BX.out.keep b)
      replace HK := hid (HK.out.below b)
      replace HW := hid (HW.out.below b)
      replace HC := hid (HC.out.below b)
      clear b
      clear c0 c1 c2 c3 c4 c5 c6 c7 c8 c9 c10
      obtain ⟨c0, c1, c2, c3, c4, c5, c6, c7, c8, c9, c10, cl⟩ := BX.out.cells
      simp only at c0 c1 c2 c3 c4 c5 c6 c7 c8 c9 c10
      clear cl
      go_wp2_with fail
      go_ret
      rw [HR.out]
      exact ⟨rfl, L.out⟩
    obtain ⟨kn, rfl⟩ : ∃ kn : Nat, kind = (kn : Int) := ⟨kind.toNat, by omega⟩
    have hkn : kn < 9223372036854775808 := by have := HOK.out.kind.2; simp only at this; omega
    have wk : IntKind.u64.wrap (kn : Int) = (kn : Int) := by rw [IntKind.wrap_u64]; omega
    have hKz : (bstr (Cd.row key)).size ≤ 5000010 := by have := row_length key; rw [bstr_size]; omega
    have HKK : Hid (bstr (Cd.row key) = bstr (Cd.row key)) := rfl
    obtain ⟨K, hK⟩ : ∃ K, bstr (Cd.row key) = K := ⟨_, rfl⟩
    have CU := hid (fun W => uint_any kn (by omega) W)
    have CTX := hid (fun W => text_any table (by omega) W)
    have hA1 : (bstr (Cd.enc kn)).size ≤ 10 := (Cd.enc_length kn).2
    have hA2 : (bstr (Cd.text table)).size ≤ 100000010 := by have := text_length table; rw [bstr_size]; omega
    obtain ⟨P1, hP1⟩ : ∃ P1 : Int, (if key.length < wh.length then (wh.length : Int) else (key.length : Int)) = P1 := ⟨_, rfl⟩
    obtain ⟨P, hP⟩ : ∃ P : Int, (if (cols.length : Int) ≤ P1 then P1 else (cols.length : Int)) = P := ⟨_, rfl⟩
    have hP' : (if P1 < (cols.length : Int) then (cols.length : Int) else P1) = P := by rw [← hP]; split <;> split <;> omega
    have hP2 : (key.length : Int) ≤ P ∧ (wh.length : Int) ≤ P ∧ (cols.length : Int) ≤ P ∧ (P = key.length ∨ P = wh.length ∨ P = cols.length) := by rw [← hP, ← hP1]; split <;> split <;> omega
    have hP3 : ¬ (1000 : Int) < P := by omega
    have hP4 : decide ((1000 : Int) < P) = false := decide_eq_false hP3
    have HM := hid hm
    have HKR := hid hkr
    clear hP2 hm h0 hkr HKK
    rw [hK] at cr p1 p2 hKz
    have HKK := hid hK
    clear hK
    obtain ⟨A1, hA1e⟩ : ∃ A1, bstr (Cd.enc kn) = A1 := ⟨_, rfl⟩
    obtain ⟨A2, hA2e⟩ : ∃ A2, bstr (Cd.text table) = A2 := ⟨_, rfl⟩
    rw [hA1e] at CU hA1
    rw [hA2e] at CTX hA2
    have HA1 := hid hA1e
    have HA2 := hid hA2e
    clear hA1e hA2e
    have z1 : ¬ 9223372036854775807 < A1.size + A2.size := by omega
    have z2 : ¬ 9223372036854775807 < A1.size + A2.size + K.size := by omega
    go_enter Try.func19, Try.ntmps19
    go_wp2_with fail
    refine (cr.out _ HK.out).mono ?_; rintro e w1 ⟨rfl, b⟩
    replace L := hid (hnext L.out b)
    replace BX := hid (BX.out.keep b)
    replace HK := hid (HK.out.below b)
    replace HW := hid (HW.out.below b)
    replace HC := hid (HC.out.below b)
    clear b
    clear c0 c1 c2 c3 c4 c5 c6 c7 c8 c9 c10
    obtain ⟨c0, c1, c2, c3, c4, c5, c6, c7, c8, c9, c10, cl⟩ := BX.out.cells
    simp only at c0 c1 c2 c3 c4 c5 c6 c7 c8 c9 c10
    clear cl
    go_wp2_with fail
    obtain ⟨w20, hw20⟩ : ∃ w20, (w1).drew = w20 := ⟨_, rfl⟩
    have hd20 : Below (w1).heap.size (w1) w20 := hw20 ▸ (Below.refl _ _).drew
    have mk20 : ∀ W, Below w20.heap.size w20 W → Below w20.heap.size w20 W ∧ W.cell? ⟨w.heap.size, 0, none⟩ = some (.int .i64 (kn : Int)) ∧ W.cell? ⟨w.heap.size, 1, none⟩ = some (.string table) := fun W h => ⟨h, hkeep (hkeep c0 hd20) h, hkeep (hkeep c1 hd20) h⟩
    clear c0 c1 c2 c3 c4 c5 c6 c7 c8 c9 c10
    refine wp_region_held_drew (S := (fun W => Below w20.heap.size w20 W ∧ W.cell? ⟨w.heap.size, 0, none⟩ = some (.int .i64 (kn : Int)) ∧ W.cell? ⟨w.heap.size, 1, none⟩ = some (.string table))) (by kernel_rfl) (by rw [hw20]; exact mk20 _ (Below.refl _ _)) (fun hS20 => ?_)
    rw [hw20] at hS20 ⊢
    clear hw20
    refine wT 0 hS20 ?_
    refine wT 1 hS20 ?_
    refine wT 2 hS20 ?_
    refine wT 4 hS20 ?_
    refine wT 5 hS20 ?_
    refine wT 8 hS20 ?_
    refine wpAnyH_ready (rs := [3]) (by kernel_rfl) (by simp) ?_
    refine wC (fun K hK => ?_) AllReadyH.nil
    go_simp
    refine (CU.out _).mono ?_; rintro e w21 ⟨rfl, hb21⟩
    go_wp2_with fail
    refine hK.out _ _ (mk20 _ (hnext hS20.1 hb21)) (fun hS21 => ?_)
    clear hK K
    (try simp only [Act.put, List.setIfInBounds_toArray, List.set_cons_zero, List.set_cons_succ])
    clear hb21 hS20
    refine wpAnyH_ready (rs := [6]) (by kernel_rfl) (by simp) ?_
    refine wC (fun K hK => ?_) AllReadyH.nil
    go_simp
    refine (CTX.out _).mono ?_; rintro e w22 ⟨rfl, hb22⟩
    go_wp2_with fail
    refine hK.out _ _ (mk20 _ (hnext hS21.1 hb22)) (fun hS22 => ?_)
    clear hK K
    (try simp only [Act.put, List.setIfInBounds_toArray, List.set_cons_zero, List.set_cons_succ])
    clear hb22 hS21
    refine wT 7 hS22 ?_
    refine wT 9 hS22 ?_
    refine wT 10 hS22 ?_
    refine wpAnyH_done (by kernel_rfl) ?_ _
    have b := hnext hd20 hS22.1
    replace L := hid (hnext L.out b)
    replace BX := hid (BX.out.keep b)
    replace HK := hid (HK.out.below b)
    replace HW := hid (HW.out.below b)
    replace HC := hid (HC.out.below b)
    clear b
    clear hS22 hd20 mk20
    obtain ⟨c0, c1, c2, c3, c4, c5, c6, c7, c8, c9, c10, cl⟩ := BX.out.cells
    simp only at c0 c1 c2 c3 c4 c5 c6 c7 c8 c9 c10
    clear cl
    have HT : Hid (A1 ++ A2 ++ K = bstr (Qu.headL ⟨(kn : Int), table, key, t, v, fr, to, wh, cols, limit, desc⟩)) := by
      show _ = _
      rw [← HA1.out, ← HA2.out, ← HKK.out, bstr_append, bstr_append]; rfl
    have hTz : (A1 ++ A2 ++ K).size ≤ 200000000 := by simp only [ByteArray.size_append]; omega
    clear hA1 hA2 hKz z1 z2 HA1 HA2 HKK
    generalize A1 ++ A2 ++ K = T at *
    go_wp2_with fail
    go_loopw [56, 4] (fun i s wr => ∃ k : Nat, k ≤ 4 ∧ i = .int .i64 (k : Int) ∧ s = .string (bstr (Qu.headL ⟨(kn : Int), table, key, t, v, fr, to, wh, cols, limit, desc⟩ ++ (([t, v, fr, to] : List Int).take k).flatMap numL)) ∧ Below w22.heap.size w22 wr) (fun i _ _ => 4 - (intOf i).toNat)
    case atStart => exact ⟨0, by omega, rfl, by rw [HT.out]; simp, Below.refl _ _⟩
    case round =>
      obtain ⟨k, hk4, rfl, rfl, b⟩ := hrel
      obtain ⟨w4, rfl⟩ : ∃ w4 : World, w4 = wr := ⟨_, rfl⟩
      have hk0 : (0 : Int) ≤ (k : Int) := by omega
      clear c0 c1 c2 c3 c4 c5 c6 c7 c8 c9 c10
      have L4 := hid b
      replace L := hid (hnext L.out b)
      replace BX := hid (BX.out.keep b)
      replace HK := hid (HK.out.below b)
      replace HW := hid (HW.out.below b)
      replace HC := hid (HC.out.below b)
      clear b
      by_cases hkl : k < 4
      · have hkl' : (k : Int) < 4 := by omega
        have hsz : (bstr (Qu.headL ⟨(kn : Int), table, key, t, v, fr, to, wh, cols, limit, desc⟩ ++ (([t, v, fr, to] : List Int).take k).flatMap numL)).size ≤ 200000100 := by
          rw [bstr_size, List.length_append]
          have h1 : (Qu.headL ⟨(kn : Int), table, key, t, v, fr, to, wh, cols, limit, desc⟩).length = T.size := by rw [HT.out, bstr_size]
          have h2 := nums_len (([t, v, fr, to] : List Int).take k)
          have h3 : (([t, v, fr, to] : List Int).take k).length ≤ 4 := by rw [List.length_take]; omega
          omega
        have HNX := hid (spot_next (Qu.headL ⟨(kn : Int), table, key, t, v, fr, to, wh, cols, limit, desc⟩) [t, v, fr, to] k (show k < 4 from hkl))
        generalize Qu.headL ⟨(kn : Int), table, key, t, v, fr, to, wh, cols, limit, desc⟩ ++ (([t, v, fr, to] : List Int).take k).flatMap numL = X at hsz HNX
        have HI := hid (fun n (h : I64 n) W => int_any n h.1 h.2 W)
        rcases (show k = 0 ∨ k = 1 ∨ k = 2 ∨ k = 3 by omega) with rfl | rfl | rfl | rfl
        · have hix := fun W => idx4_0 t v fr to W
          have hn : I64 t := HOK.out.t
          have HX : Hid (bstr X ++ bstr (numL t) = bstr (X ++ numL t)) := bstr_append _ _
          have hz2 : (bstr (numL t)).size ≤ 10 := num_len t
          have hadd : ¬ 9223372036854775807 < (bstr X).size + (bstr (numL t)).size := by omega
          have CI := hid (HI.out _ hn)
          clear hn HI
          unfold numL at HX HNX hz2 hadd
          generalize bstr X = XS at *
          generalize bstr (Cd.enc (Cd.zig t)) = NS at *
          go_wp2_with fail
          refine (CI.out _).mono ?_; rintro e w5 ⟨rfl, b⟩
          have L5 := hid (hnext L4.out b)
          clear b
          go_wp2_with fail
          go_roundw
          case rel => exact ⟨0 + 1, by omega, by first | rfl | go_num, by rw [HX.out]; exact congrArg (fun l => Value.string (bstr l)) HNX.out.symm, L5.out⟩
          case measure => simp [intOf]
        · have hix := fun W => idx4_1 t v fr to W
          have hn : I64 v := HOK.out.v
          have HX : Hid (bstr X ++ bstr (numL v) = bstr (X ++ numL v)) := bstr_append _ _
          have hz2 : (bstr (numL v)).size ≤ 10 := num_len v
          have hadd : ¬ 9223372036854775807 < (bstr X).size + (bstr (numL v)).size := by omega
          have CI := hid (HI.out _ hn)
          clear hn HI
          unfold numL at HX HNX hz2 hadd
          generalize bstr X = XS at *
          generalize bstr (Cd.enc (Cd.zig v)) = NS at *
          go_wp2_with fail
          refine (CI.out _).mono ?_; rintro e w5 ⟨rfl, b⟩
          have L5 := hid (hnext L4.out b)
          clear b
          go_wp2_with fail
          go_roundw
          case rel => exact ⟨1 + 1, by omega, by first | rfl | go_num, by rw [HX.out]; exact congrArg (fun l => Value.string (bstr l)) HNX.out.symm, L5.out⟩
          case measure => simp [intOf]
        · have hix := fun W => idx4_2 t v fr to W
          have hn : I64 fr := HOK.out.fr
          have HX : Hid (bstr X ++ bstr (numL fr) = bstr (X ++ numL fr)) := bstr_append _ _
          have hz2 : (bstr (numL fr)).size ≤ 10 := num_len fr
          have hadd : ¬ 9223372036854775807 < (bstr X).size + (bstr (numL fr)).size := by omega
          have CI := hid (HI.out _ hn)
          clear hn HI
          unfold numL at HX HNX hz2 hadd
          generalize bstr X = XS at *
          generalize bstr (Cd.enc (Cd.zig fr)) = NS at *
          go_wp2_with fail
          refine (CI.out _).mono ?_; rintro e w5 ⟨rfl, b⟩
          have L5 := hid (hnext L4.out b)
          clear b
          go_wp2_with fail
          go_roundw
          case rel => exact ⟨2 + 1, by omega, by first | rfl | go_num, by rw [HX.out]; exact congrArg (fun l => Value.string (bstr l)) HNX.out.symm, L5.out⟩
          case measure => simp [intOf]
        · have hix := fun W => idx4_3 t v fr to W
          have hn : I64 to := HOK.out.to
          have HX : Hid (bstr X ++ bstr (numL to) = bstr (X ++ numL to)) := bstr_append _ _
          have hz2 : (bstr (numL to)).size ≤ 10 := num_len to
          have hadd : ¬ 9223372036854775807 < (bstr X).size + (bstr (numL to)).size := by omega
          have CI := hid (HI.out _ hn)
          clear hn HI
          unfold numL at HX HNX hz2 hadd
          generalize bstr X = XS at *
          generalize bstr (Cd.enc (Cd.zig to)) = NS at *
          go_wp2_with fail
          refine (CI.out _).mono ?_; rintro e w5 ⟨rfl, b⟩
          have L5 := hid (hnext L4.out b)
          clear b
          go_wp2_with fail
          go_roundw
          case rel => exact ⟨3 + 1, by omega, by first | rfl | go_num, by rw [HX.out]; exact congrArg (fun l => Value.string (bstr l)) HNX.out.symm, L5.out⟩
          case measure => simp [intOf]
      · obtain rfl : k = 4 := by omega
        clear hkl
        have HS0 : Hid (Qu.headL ⟨(kn : Int), table, key, t, v, fr, to, wh, cols, limit, desc⟩ ++ (([t, v, fr, to] : List Int).take 4).flatMap numL = Qu.headL ⟨(kn : Int), table, key, t, v, fr, to, wh, cols, limit, desc⟩ ++ spotL ⟨(kn : Int), table, key, t, v, fr, to, wh, cols, limit, desc⟩) := by show _ = _; unfold spotL; simp
        have hYz : (Qu.headL ⟨(kn : Int), table, key, t, v, fr, to, wh, cols, limit, desc⟩ ++ spotL ⟨(kn : Int), table, key, t, v, fr, to, wh, cols, limit, desc⟩).length ≤ 200000100 := by
          rw [← HS0.out, List.length_append]
          have h1 : (Qu.headL ⟨(kn : Int), table, key, t, v, fr, to, wh, cols, limit, desc⟩).length = T.size := by rw [HT.out, bstr_size]
          have h2 := nums_len (([t, v, fr, to] : List Int).take 4)
          have h3 : (([t, v, fr, to] : List Int).take 4).length ≤ 4 := by rw [List.length_take]; omega
          omega
        rw [HS0.out]
        obtain ⟨Y, hY⟩ : ∃ Y, Qu.headL ⟨(kn : Int), table, key, t, v, fr, to, wh, cols, limit, desc⟩ ++ spotL ⟨(kn : Int), table, key, t, v, fr, to, wh, cols, limit, desc⟩ = Y := ⟨_, rfl⟩
        rw [hY] at hYz
        rw [hY]
        have HY := hid hY
        clear hY HS0 hTz HT
        have CW := hid (fun W => uint_any wh.length (by omega) W)
        have wkw : IntKind.u64.wrap (wh.length : Int) = (wh.length : Int) := by rw [IntKind.wrap_u64]; omega
        have hUz : (bstr (Cd.enc wh.length)).size ≤ 10 := (Cd.enc_length _).2
        have hXz : (bstr Y).size ≤ 200000100 := hYz
        have HZ : Hid (bstr Y ++ bstr (Cd.enc wh.length) = bstr (Y ++ Cd.enc wh.length)) := bstr_append _ _
        have hZl : (Y ++ Cd.enc wh.length).length ≤ 200000110 := by rw [List.length_append]; have h9 : (Cd.enc wh.length).length ≤ 10 := hUz; omega
        have z3 : ¬ 9223372036854775807 < (bstr Y).size + (bstr (Cd.enc wh.length)).size := by omega
        obtain ⟨Z, hZ⟩ : ∃ Z, Y ++ Cd.enc wh.length = Z := ⟨_, rfl⟩
        rw [hZ] at HZ hZl
        have HZZ := hid hZ
        clear hZ hUz hXz hYz
        generalize bstr Y = YS at *
        generalize bstr (Cd.enc wh.length) = US at *
        obtain ⟨c0, c1, c2, c3, c4, c5, c6, c7, c8, c9, c10, cl⟩ := BX.out.cells
        simp only at c0 c1 c2 c3 c4 c5 c6 c7 c8 c9 c10
        clear cl
        go_wp2_with fail
        refine (CW.out _).mono ?_; rintro e w6 ⟨rfl, b⟩
        replace L := hid (hnext L.out b)
        replace BX := hid (BX.out.keep b)
        replace HK := hid (HK.out.below b)
        replace HW := hid (HW.out.below b)
        replace HC := hid (HC.out.below b)
        clear b
        clear c0 c1 c2 c3 c4 c5 c6 c7 c8 c9 c10
        obtain ⟨c0, c1, c2, c3, c4, c5, c6, c7, c8, c9, c10, cl⟩ := BX.out.cells
        simp only at c0 c1 c2 c3 c4 c5 c6 c7 c8 c9 c10
        clear cl
        clear CW
        go_wp2_with fail
        go_loopw [74, 4] (fun i s wr => ∃ k : Nat, k ≤ wh.length ∧ i = .int .i64 (k : Int) ∧ s = .string (bstr (Z ++ (wh.take k).flatMap nodeL)) ∧ Hid (∀ j (hj : j < wh.length), j < k → (wh[j]).v.right = true) ∧ Below w6.heap.size w6 wr) (fun i _ _ => wh.length - (intOf i).toNat)
        case atStart => exact ⟨0, by omega, rfl, by rw [HZ.out]; simp, fun j _ hj => absurd hj (Nat.not_lt_zero j), Below.refl _ _⟩
        case round =>
          obtain ⟨k, hkw, rfl, rfl, hall, b⟩ := hrel
          obtain ⟨w7, rfl⟩ : ∃ w7 : World, w7 = wr := ⟨_, rfl⟩
          have hk0 : (0 : Int) ≤ (k : Int) := by omega
          clear z3
          clear c0 c1 c2 c3 c4 c5 c6 c7 c8 c9 c10
          have L7 := hid b
          replace L := hid (hnext L.out b)
          replace BX := hid (BX.out.keep b)
          replace HK := hid (HK.out.below b)
          replace HW := hid (HW.out.below b)
          replace HC := hid (HC.out.below b)
          clear b
          by_cases hkl : k < wh.length
          · have hkl' : (k : Int) < (wh.length : Int) := by omega
            obtain ⟨_, _, en, hnn⟩ := HW.out
            cases en
            obtain ⟨g, off, rfl, q0, q1, q2, q3, q4, q5⟩ := hnn k hkl
            have hnk := HOK.out.wh _ (List.getElem_mem hkl)
            have HNX := hid (node_next Z wh k hkl)
            have hXl : (Z ++ (wh.take k).flatMap nodeL).length ≤ 210000000 := by
              rw [List.length_append]
              have h2 := nodes_len (wh.take k)
              have h3 : (wh.take k).length ≤ 1000 := by rw [List.length_take]; have := HM.out; omega
              omega
            have HNO := hid (enc_no (q := ⟨(kn : Int), table, key, t, v, fr, to, wh, cols, limit, desc⟩) hkl)
            have HAL := hid (fun (h : (wh[k]).v.right = true) j (hj : j < wh.length) (hjk : j < k + 1) => (Nat.lt_succ_iff_lt_or_eq.1 hjk).elim (fun h2 => hall.out j hj h2) (fun h2 => (show (wh[j]).v.right = true by subst h2; exact h)))
            generalize hx : wh[k] = x at q0 q1 q2 q3 q4 q5 hnk HNX HAL
            have HNO2 : Hid (x.v.right = false → enc ⟨(kn : Int), table, key, t, v, fr, to, wh, cols, limit, desc⟩ = []) := fun h => HNO.out (by rw [hx]; exact h)
            clear hx hnn HNO
            obtain ⟨op, col, ⟨xk, xn, xb, xs⟩⟩ := x
            simp only at q0 q1 q2 q3 q4 q5
            obtain ⟨ho, hco, hvk⟩ := hnk
            have cr0 := fun W => right_any xk xn xb xs hvk.2.2 W
            (try unfold vv at cr0)
            have b8 := hba w7 (.cells #[.int .i64 op, .int .i64 col, .int .i64 xk, .int .i64 xn, .int .u64 (xb : Int), .string xs] 65)
            have L8a := hid (hnext L7.out b8)
            have LL := hid (hnext L.out b8)
            have NX := hid (heap_alloc_new w7 (.cells #[.int .i64 op, .int .i64 col, .int .i64 xk, .int .i64 xn, .int .u64 (xb : Int), .string xs] 65))
            clear b8
            obtain ⟨X, hX⟩ : ∃ X, Z ++ (wh.take k).flatMap nodeL = X := ⟨_, rfl⟩
            rw [hX] at HNX hXl
            rw [hX]
            clear hX
            cases hr : Va.right xk xn xb xs with
            | false =>
              rw [hr] at cr0
              have CRR := hid cr0
              have HR := hid (HNO2.out hr)
              clear cr0 hr HNX HAL HNO2 hXl
              go_wp2_with fail
              refine (CRR.out _).mono ?_; rintro e w9 ⟨rfl, b⟩
              go_wp2_with fail
              go_ret
              rw [HR.out]
              exact ⟨rfl, hnext LL.out b⟩
            | true =>
              rw [hr] at cr0
              have CRR := hid cr0
              have HA := hid (HAL.out hr)
              clear cr0 hr HAL HNO2
              have CI1 := hid (fun W => int_any op ho.1 ho.2 W)
              have CI2 := hid (fun W => int_any col hco.1 hco.2 W)
              have crw := fun (W : World) (g : Nat) h0 h1 h2 h3 => row_any (.slice (some ⟨g, 0, none⟩) 1 1) [⟨xk, xn, xb, xs⟩] W (vs_one h0 h1 h2 h3) (fun y hy => by rw [List.mem_singleton.1 hy]; exact hvk) (show 1 ≤ 1000000 by decide)
              have HX : Hid (bstr X ++ (bstr (Cd.enc (Cd.zig op)) ++ bstr (Cd.enc (Cd.zig col)) ++ bstr (Cd.row [⟨xk, xn, xb, xs⟩])) = bstr (X ++ nodeL ⟨op, col, ⟨xk, xn, xb, xs⟩⟩)) := by
                show _ = _
                rw [bstr_append, bstr_append, bstr_append]; rfl
              have i1 : (bstr (Cd.enc (Cd.zig op))).size ≤ 10 := (Cd.enc_length _).2
              have i2 : (bstr (Cd.enc (Cd.zig col))).size ≤ 10 := (Cd.enc_length _).2
              have i3 : (bstr (Cd.row [⟨xk, xn, xb, xs⟩])).size ≤ 5010 := by have := row_length [(⟨xk, xn, xb, xs⟩ : Cd.V)]; rw [bstr_size]; simpa using this
              have i4 : (bstr X).size ≤ 210000000 := hXl
              generalize bstr (Cd.enc (Cd.zig op)) = I1 at *
              generalize bstr (Cd.enc (Cd.zig col)) = I2 at *
              generalize bstr (Cd.row [⟨xk, xn, xb, xs⟩]) = R1 at *
              generalize bstr X = XS at *
              have z4 : ¬ 9223372036854775807 < I1.size + I2.size := by omega
              have z5 : ¬ 9223372036854775807 < I1.size + I2.size + R1.size := by omega
              have z6 : ¬ 9223372036854775807 < XS.size + (I1.size + I2.size + R1.size) := by omega
              have CRW := hid crw
              clear crw i1 i2 i3 i4 hXl ho hco hvk
              go_wp2_with fail
              obtain ⟨gx, hgx⟩ : ∃ gx, w7.heap.size = gx := ⟨_, rfl⟩
              rw [hgx] at NX
              (try rw [hgx])
              clear hgx q0 q1 q2 q3 q4 q5
              generalize w7.alloc (.cells #[.int .i64 op, .int .i64 col, .int .i64 xk, .int .i64 xn, .int .u64 (xb : Int), .string xs] 65) = w7b at *
              refine (CRR.out _).mono ?_; rintro e w8 ⟨rfl, b⟩
              have L8 := hid (hnext L8a.out b)
              have n0 := hkeep (cell_of_row w7b gx 0 _ _ _ NX.out) b
              have n1 := hkeep (cell_of_row w7b gx 1 _ _ _ NX.out) b
              have n2 := hkeep (cell_of_row w7b gx 2 _ _ _ NX.out) b
              have n3 := hkeep (cell_of_row w7b gx 3 _ _ _ NX.out) b
              have n4 := hkeep (cell_of_row w7b gx 4 _ _ _ NX.out) b
              have n5 := hkeep (cell_of_row w7b gx 5 _ _ _ NX.out) b
              clear b CRR NX LL
              go_wp2_with fail
              obtain ⟨w20, hw20⟩ : ∃ w20, (w8).drew = w20 := ⟨_, rfl⟩
              have hd20 : Below (w8).heap.size (w8) w20 := hw20 ▸ (Below.refl _ _).drew
              have mk20 : ∀ W, Below w20.heap.size w20 W → Below w20.heap.size w20 W ∧ W.cell? ⟨gx, 0, none⟩ = some (.int .i64 op) ∧ W.cell? ⟨gx, 1, none⟩ = some (.int .i64 col) ∧ W.cell? ⟨gx, 2, none⟩ = some (.int .i64 xk) ∧ W.cell? ⟨gx, 3, none⟩ = some (.int .i64 xn) ∧ W.cell? ⟨gx, 4, none⟩ = some (.int .u64 (xb : Int)) ∧ W.cell? ⟨gx, 5, none⟩ = some (.string xs) := fun W h => ⟨h, hkeep (hkeep n0 hd20) h, hkeep (hkeep n1 hd20) h, hkeep (hkeep n2 hd20) h, hkeep (hkeep n3 hd20) h, hkeep (hkeep n4 hd20) h, hkeep (hkeep n5 hd20) h⟩
              refine wp_region_held_drew (S := (fun W => Below w20.heap.size w20 W ∧ W.cell? ⟨gx, 0, none⟩ = some (.int .i64 op) ∧ W.cell? ⟨gx, 1, none⟩ = some (.int .i64 col) ∧ W.cell? ⟨gx, 2, none⟩ = some (.int .i64 xk) ∧ W.cell? ⟨gx, 3, none⟩ = some (.int .i64 xn) ∧ W.cell? ⟨gx, 4, none⟩ = some (.int .u64 (xb : Int)) ∧ W.cell? ⟨gx, 5, none⟩ = some (.string xs))) (by kernel_rfl) (by rw [hw20]; exact mk20 _ (Below.refl _ _)) (fun hS20 => ?_)
              rw [hw20] at hS20 ⊢
              clear hw20
              refine wT 0 hS20 ?_
              refine wT 1 hS20 ?_
              refine wT 2 hS20 ?_
              refine wT 4 hS20 ?_
              refine wT 5 hS20 ?_
              refine wT 8 hS20 ?_
              refine wT 9 hS20 ?_
              refine wpAnyH_ready (rs := [3, 10]) (by kernel_rfl) (by simp) ?_
              refine wC (fun K hK => ?_) (wC (fun K hK => ?_) AllReadyH.nil)
              · go_simp
                refine (CI1.out _).mono ?_; rintro e w21 ⟨rfl, hb21⟩
                go_wp2_with fail
                refine hK.out _ _ (mk20 _ (hnext hS20.1 hb21)) (fun hS21 => ?_)
                clear hK K
                (try simp only [Act.put, List.setIfInBounds_toArray, List.set_cons_zero, List.set_cons_succ])
                clear hb21 hS20
                refine wpAnyH_ready (rs := [6, 10]) (by kernel_rfl) (by simp) ?_
                refine wC (fun K hK => ?_) (wC (fun K hK => ?_) AllReadyH.nil)
                · go_simp
                  refine (CI2.out _).mono ?_; rintro e w22 ⟨rfl, hb22⟩
                  go_wp2_with fail
                  refine hK.out _ _ (mk20 _ (hnext hS21.1 hb22)) (fun hS22 => ?_)
                  clear hK K
                  (try simp only [Act.put, List.setIfInBounds_toArray, List.set_cons_zero, List.set_cons_succ])
                  clear hb22 hS21
                  refine wT 7 hS22 ?_
                  refine wpAnyH_ready (rs := [10]) (by kernel_rfl) (by simp) ?_
                  refine wC (fun K hK => ?_) AllReadyH.nil
                  go_simp
                  refine hK.out _ _ (mk20 _ (hS22.1.alloc hS22.1.size _)) (fun hS23 => ?_)
                  clear hK K
                  (try simp only [Act.put, List.setIfInBounds_toArray, List.set_cons_zero, List.set_cons_succ])
                  refine wpAnyH_more (S' := (fun W => Below w20.heap.size w20 W ∧ W.cell? ⟨gx, 0, none⟩ = some (.int .i64 op) ∧ W.cell? ⟨gx, 1, none⟩ = some (.int .i64 col) ∧ W.cell? ⟨gx, 2, none⟩ = some (.int .i64 xk) ∧ W.cell? ⟨gx, 3, none⟩ = some (.int .i64 xn) ∧ W.cell? ⟨gx, 4, none⟩ = some (.int .u64 (xb : Int)) ∧ W.cell? ⟨gx, 5, none⟩ = some (.string xs) ∧ W.cell? ⟨w22.heap.size, 0, none⟩ = some (.int .i64 xk) ∧ W.cell? ⟨w22.heap.size, 1, none⟩ = some (.int .i64 xn) ∧ W.cell? ⟨w22.heap.size, 2, none⟩ = some (.int .u64 (xb : Int)) ∧ W.cell? ⟨w22.heap.size, 3, none⟩ = some (.string xs))) (fun _ h => ⟨h.1, h.2.1, h.2.2.1, h.2.2.2.1, h.2.2.2.2.1, h.2.2.2.2.2.1, h.2.2.2.2.2.2.1⟩) _ _ _ _ ?_
                  replace hS23 : (fun W => Below w20.heap.size w20 W ∧ W.cell? ⟨gx, 0, none⟩ = some (.int .i64 op) ∧ W.cell? ⟨gx, 1, none⟩ = some (.int .i64 col) ∧ W.cell? ⟨gx, 2, none⟩ = some (.int .i64 xk) ∧ W.cell? ⟨gx, 3, none⟩ = some (.int .i64 xn) ∧ W.cell? ⟨gx, 4, none⟩ = some (.int .u64 (xb : Int)) ∧ W.cell? ⟨gx, 5, none⟩ = some (.string xs) ∧ W.cell? ⟨w22.heap.size, 0, none⟩ = some (.int .i64 xk) ∧ W.cell? ⟨w22.heap.size, 1, none⟩ = some (.int .i64 xn) ∧ W.cell? ⟨w22.heap.size, 2, none⟩ = some (.int .u64 (xb : Int)) ∧ W.cell? ⟨w22.heap.size, 3, none⟩ = some (.string xs)) (World.alloc w22 (.cells #[.int .i64 xk, .int .i64 xn, .int .u64 (xb : Int), .string xs] 36)) := ⟨hS23.1, hS23.2.1, hS23.2.2.1, hS23.2.2.2.1, hS23.2.2.2.2.1, hS23.2.2.2.2.2.1, hS23.2.2.2.2.2.2, cell_of_row _ _ 0 _ _ _ (heap_alloc_new _ _), cell_of_row _ _ 1 _ _ _ (heap_alloc_new _ _), cell_of_row _ _ 2 _ _ _ (heap_alloc_new _ _), cell_of_row _ _ 3 _ _ _ (heap_alloc_new _ _)⟩
                  generalize World.alloc w22 (.cells #[.int .i64 xk, .int .i64 xn, .int .u64 (xb : Int), .string xs] 36) = w23 at *
                  refine wpAnyH_ready (rs := [11]) (by kernel_rfl) (by simp) ?_
                  refine wC (fun K hK => ?_) AllReadyH.nil
                  go_simp
                  refine (CRW.out _ _ (hS23.2.2.2.2.2.2.2.1) (hS23.2.2.2.2.2.2.2.2.1) (hS23.2.2.2.2.2.2.2.2.2.1) (hS23.2.2.2.2.2.2.2.2.2.2)).mono ?_; rintro e w24 ⟨rfl, hb24⟩
                  go_wp2_with fail
                  refine hK.out _ _ ⟨(mk20 _ (hnext hS23.1 hb24)).1, (mk20 _ (hnext hS23.1 hb24)).2.1, (mk20 _ (hnext hS23.1 hb24)).2.2.1, (mk20 _ (hnext hS23.1 hb24)).2.2.2.1, (mk20 _ (hnext hS23.1 hb24)).2.2.2.2.1, (mk20 _ (hnext hS23.1 hb24)).2.2.2.2.2.1, (mk20 _ (hnext hS23.1 hb24)).2.2.2.2.2.2, hkeep hS23.2.2.2.2.2.2.2.1 hb24, hkeep hS23.2.2.2.2.2.2.2.2.1 hb24, hkeep hS23.2.2.2.2.2.2.2.2.2.1 hb24, hkeep hS23.2.2.2.2.2.2.2.2.2.2 hb24⟩ (fun hS24 => ?_)
                  clear hK K
                  (try simp only [Act.put, List.setIfInBounds_toArray, List.set_cons_zero, List.set_cons_succ])
                  clear hb24 hS23
                  refine wT 12 hS24 ?_
                  refine wT 13 hS24 ?_
                  refine wT 14 hS24 ?_
                  refine wpAnyH_done (by kernel_rfl) ?_ _
                  have b := hnext hd20 hS24.1
                  go_wp2_with fail
                  go_roundw
                  case rel => exact ⟨k + 1, by omega, by first | rfl | go_num, (by rw [HX.out]; exact congrArg (fun l => Value.string (bstr l)) HNX.out.symm), HA.out, hnext L8.out b⟩
                  case measure => simp [intOf]; omega
                · go_simp
                  refine hK.out _ _ (mk20 _ (hS21.1.alloc hS21.1.size _)) (fun hS22 => ?_)
                  clear hK K
                  (try simp only [Act.put, List.setIfInBounds_toArray, List.set_cons_zero, List.set_cons_succ])
                  refine wpAnyH_more (S' := (fun W => Below w20.heap.size w20 W ∧ W.cell? ⟨gx, 0, none⟩ = some (.int .i64 op) ∧ W.cell? ⟨gx, 1, none⟩ = some (.int .i64 col) ∧ W.cell? ⟨gx, 2, none⟩ = some (.int .i64 xk) ∧ W.cell? ⟨gx, 3, none⟩ = some (.int .i64 xn) ∧ W.cell? ⟨gx, 4, none⟩ = some (.int .u64 (xb : Int)) ∧ W.cell? ⟨gx, 5, none⟩ = some (.string xs) ∧ W.cell? ⟨w21.heap.size, 0, none⟩ = some (.int .i64 xk) ∧ W.cell? ⟨w21.heap.size, 1, none⟩ = some (.int .i64 xn) ∧ W.cell? ⟨w21.heap.size, 2, none⟩ = some (.int .u64 (xb : Int)) ∧ W.cell? ⟨w21.heap.size, 3, none⟩ = some (.string xs))) (fun _ h => ⟨h.1, h.2.1, h.2.2.1, h.2.2.2.1, h.2.2.2.2.1, h.2.2.2.2.2.1, h.2.2.2.2.2.2.1⟩) _ _ _ _ ?_
                  replace hS22 : (fun W => Below w20.heap.size w20 W ∧ W.cell? ⟨gx, 0, none⟩ = some (.int .i64 op) ∧ W.cell? ⟨gx, 1, none⟩ = some (.int .i64 col) ∧ W.cell? ⟨gx, 2, none⟩ = some (.int .i64 xk) ∧ W.cell? ⟨gx, 3, none⟩ = some (.int .i64 xn) ∧ W.cell? ⟨gx, 4, none⟩ = some (.int .u64 (xb : Int)) ∧ W.cell? ⟨gx, 5, none⟩ = some (.string xs) ∧ W.cell? ⟨w21.heap.size, 0, none⟩ = some (.int .i64 xk) ∧ W.cell? ⟨w21.heap.size, 1, none⟩ = some (.int .i64 xn) ∧ W.cell? ⟨w21.heap.size, 2, none⟩ = some (.int .u64 (xb : Int)) ∧ W.cell? ⟨w21.heap.size, 3, none⟩ = some (.string xs)) (World.alloc w21 (.cells #[.int .i64 xk, .int .i64 xn, .int .u64 (xb : Int), .string xs] 36)) := ⟨hS22.1, hS22.2.1, hS22.2.2.1, hS22.2.2.2.1, hS22.2.2.2.2.1, hS22.2.2.2.2.2.1, hS22.2.2.2.2.2.2, cell_of_row _ _ 0 _ _ _ (heap_alloc_new _ _), cell_of_row _ _ 1 _ _ _ (heap_alloc_new _ _), cell_of_row _ _ 2 _ _ _ (heap_alloc_new _ _), cell_of_row _ _ 3 _ _ _ (heap_alloc_new _ _)⟩
                  generalize World.alloc w21 (.cells #[.int .i64 xk, .int .i64 xn, .int .u64 (xb : Int), .string xs] 36) = w22 at *
                  refine wpAnyH_ready (rs := [6]) (by kernel_rfl) (by simp) ?_
                  refine wC (fun K hK => ?_) AllReadyH.nil
                  go_simp
                  refine (CI2.out _).mono ?_; rintro e w23 ⟨rfl, hb23⟩
                  go_wp2_with fail
                  refine hK.out _ _ ⟨(mk20 _ (hnext hS22.1 hb23)).1, (mk20 _ (hnext hS22.1 hb23)).2.1, (mk20 _ (hnext hS22.1 hb23)).2.2.1, (mk20 _ (hnext hS22.1 hb23)).2.2.2.1, (mk20 _ (hnext hS22.1 hb23)).2.2.2.2.1, (mk20 _ (hnext hS22.1 hb23)).2.2.2.2.2.1, (mk20 _ (hnext hS22.1 hb23)).2.2.2.2.2.2, hkeep hS22.2.2.2.2.2.2.2.1 hb23, hkeep hS22.2.2.2.2.2.2.2.2.1 hb23, hkeep hS22.2.2.2.2.2.2.2.2.2.1 hb23, hkeep hS22.2.2.2.2.2.2.2.2.2.2 hb23⟩ (fun hS23 => ?_)
                  clear hK K
                  (try simp only [Act.put, List.setIfInBounds_toArray, List.set_cons_zero, List.set_cons_succ])
                  clear hb23 hS22
                  refine wT 7 hS23 ?_
                  refine wpAnyH_ready (rs := [11]) (by kernel_rfl) (by simp) ?_
                  refine wC (fun K hK => ?_) AllReadyH.nil
                  go_simp
                  refine (CRW.out _ _ (hS23.2.2.2.2.2.2.2.1) (hS23.2.2.2.2.2.2.2.2.1) (hS23.2.2.2.2.2.2.2.2.2.1) (hS23.2.2.2.2.2.2.2.2.2.2)).mono ?_; rintro e w24 ⟨rfl, hb24⟩
                  go_wp2_with fail
                  refine hK.out _ _ ⟨(mk20 _ (hnext hS23.1 hb24)).1, (mk20 _ (hnext hS23.1 hb24)).2.1, (mk20 _ (hnext hS23.1 hb24)).2.2.1, (mk20 _ (hnext hS23.1 hb24)).2.2.2.1, (mk20 _ (hnext hS23.1 hb24)).2.2.2.2.1, (mk20 _ (hnext hS23.1 hb24)).2.2.2.2.2.1, (mk20 _ (hnext hS23.1 hb24)).2.2.2.2.2.2, hkeep hS23.2.2.2.2.2.2.2.1 hb24, hkeep hS23.2.2.2.2.2.2.2.2.1 hb24, hkeep hS23.2.2.2.2.2.2.2.2.2.1 hb24, hkeep hS23.2.2.2.2.2.2.2.2.2.2 hb24⟩ (fun hS24 => ?_)
                  clear hK K
                  (try simp only [Act.put, List.setIfInBounds_toArray, List.set_cons_zero, List.set_cons_succ])
                  clear hb24 hS23
                  refine wT 12 hS24 ?_
                  refine wT 13 hS24 ?_
                  refine wT 14 hS24 ?_
                  refine wpAnyH_done (by kernel_rfl) ?_ _
                  have b := hnext hd20 hS24.1
                  go_wp2_with fail
                  go_roundw
                  case rel => exact ⟨k + 1, by omega, by first | rfl | go_num, (by rw [HX.out]; exact congrArg (fun l => Value.string (bstr l)) HNX.out.symm), HA.out, hnext L8.out b⟩
                  case measure => simp [intOf]; omega
              · go_simp
                refine hK.out _ _ (mk20 _ (hS20.1.alloc hS20.1.size _)) (fun hS21 => ?_)
                clear hK K
                (try simp only [Act.put, List.setIfInBounds_toArray, List.set_cons_zero, List.set_cons_succ])
                refine wpAnyH_more (S' := (fun W => Below w20.heap.size w20 W ∧ W.cell? ⟨gx, 0, none⟩ = some (.int .i64 op) ∧ W.cell? ⟨gx, 1, none⟩ = some (.int .i64 col) ∧ W.cell? ⟨gx, 2, none⟩ = some (.int .i64 xk) ∧ W.cell? ⟨gx, 3, none⟩ = some (.int .i64 xn) ∧ W.cell? ⟨gx, 4, none⟩ = some (.int .u64 (xb : Int)) ∧ W.cell? ⟨gx, 5, none⟩ = some (.string xs) ∧ W.cell? ⟨w20.heap.size, 0, none⟩ = some (.int .i64 xk) ∧ W.cell? ⟨w20.heap.size, 1, none⟩ = some (.int .i64 xn) ∧ W.cell? ⟨w20.heap.size, 2, none⟩ = some (.int .u64 (xb : Int)) ∧ W.cell? ⟨w20.heap.size, 3, none⟩ = some (.string xs))) (fun _ h => ⟨h.1, h.2.1, h.2.2.1, h.2.2.2.1, h.2.2.2.2.1, h.2.2.2.2.2.1, h.2.2.2.2.2.2.1⟩) _ _ _ _ ?_
                replace hS21 : (fun W => Below w20.heap.size w20 W ∧ W.cell? ⟨gx, 0, none⟩ = some (.int .i64 op) ∧ W.cell? ⟨gx, 1, none⟩ = some (.int .i64 col) ∧ W.cell? ⟨gx, 2, none⟩ = some (.int .i64 xk) ∧ W.cell? ⟨gx, 3, none⟩ = some (.int .i64 xn) ∧ W.cell? ⟨gx, 4, none⟩ = some (.int .u64 (xb : Int)) ∧ W.cell? ⟨gx, 5, none⟩ = some (.string xs) ∧ W.cell? ⟨w20.heap.size, 0, none⟩ = some (.int .i64 xk) ∧ W.cell? ⟨w20.heap.size, 1, none⟩ = some (.int .i64 xn) ∧ W.cell? ⟨w20.heap.size, 2, none⟩ = some (.int .u64 (xb : Int)) ∧ W.cell? ⟨w20.heap.size, 3, none⟩ = some (.string xs)) (World.alloc w20 (.cells #[.int .i64 xk, .int .i64 xn, .int .u64 (xb : Int), .string xs] 36)) := ⟨hS21.1, hS21.2.1, hS21.2.2.1, hS21.2.2.2.1, hS21.2.2.2.2.1, hS21.2.2.2.2.2.1, hS21.2.2.2.2.2.2, cell_of_row _ _ 0 _ _ _ (heap_alloc_new _ _), cell_of_row _ _ 1 _ _ _ (heap_alloc_new _ _), cell_of_row _ _ 2 _ _ _ (heap_alloc_new _ _), cell_of_row _ _ 3 _ _ _ (heap_alloc_new _ _)⟩
                generalize World.alloc w20 (.cells #[.int .i64 xk, .int .i64 xn, .int .u64 (xb : Int), .string xs] 36) = w21 at *
                refine wpAnyH_ready (rs := [3]) (by kernel_rfl) (by simp) ?_
                refine wC (fun K hK => ?_) AllReadyH.nil
                go_simp
                refine (CI1.out _).mono ?_; rintro e w22 ⟨rfl, hb22⟩
                go_wp2_with fail
                refine hK.out _ _ ⟨(mk20 _ (hnext hS21.1 hb22)).1, (mk20 _ (hnext hS21.1 hb22)).2.1, (mk20 _ (hnext hS21.1 hb22)).2.2.1, (mk20 _ (hnext hS21.1 hb22)).2.2.2.1, (mk20 _ (hnext hS21.1 hb22)).2.2.2.2.1, (mk20 _ (hnext hS21.1 hb22)).2.2.2.2.2.1, (mk20 _ (hnext hS21.1 hb22)).2.2.2.2.2.2, hkeep hS21.2.2.2.2.2.2.2.1 hb22, hkeep hS21.2.2.2.2.2.2.2.2.1 hb22, hkeep hS21.2.2.2.2.2.2.2.2.2.1 hb22, hkeep hS21.2.2.2.2.2.2.2.2.2.2 hb22⟩ (fun hS22 => ?_)
                clear hK K
                (try simp only [Act.put, List.setIfInBounds_toArray, List.set_cons_zero, List.set_cons_succ])
                clear hb22 hS21
                refine wpAnyH_ready (rs := [6]) (by kernel_rfl) (by simp) ?_
                refine wC (fun K hK => ?_) AllReadyH.nil
                go_simp
                refine (CI2.out _).mono ?_; rintro e w23 ⟨rfl, hb23⟩
                go_wp2_with fail
                refine hK.out _ _ ⟨(mk20 _ (hnext hS22.1 hb23)).1, (mk20 _ (hnext hS22.1 hb23)).2.1, (mk20 _ (hnext hS22.1 hb23)).2.2.1, (mk20 _ (hnext hS22.1 hb23)).2.2.2.1, (mk20 _ (hnext hS22.1 hb23)).2.2.2.2.1, (mk20 _ (hnext hS22.1 hb23)).2.2.2.2.2.1, (mk20 _ (hnext hS22.1 hb23)).2.2.2.2.2.2, hkeep hS22.2.2.2.2.2.2.2.1 hb23, hkeep hS22.2.2.2.2.2.2.2.2.1 hb23, hkeep hS22.2.2.2.2.2.2.2.2.2.1 hb23, hkeep hS22.2.2.2.2.2.2.2.2.2.2 hb23⟩ (fun hS23 => ?_)
                clear hK K
                (try simp only [Act.put, List.setIfInBounds_toArray, List.set_cons_zero, List.set_cons_succ])
                clear hb23 hS22
                refine wT 7 hS23 ?_
                refine wpAnyH_ready (rs := [11]) (by kernel_rfl) (by simp) ?_
                refine wC (fun K hK => ?_) AllReadyH.nil
                go_simp
                refine (CRW.out _ _ (hS23.2.2.2.2.2.2.2.1) (hS23.2.2.2.2.2.2.2.2.1) (hS23.2.2.2.2.2.2.2.2.2.1) (hS23.2.2.2.2.2.2.2.2.2.2)).mono ?_; rintro e w24 ⟨rfl, hb24⟩
                go_wp2_with fail
                refine hK.out _ _ ⟨(mk20 _ (hnext hS23.1 hb24)).1, (mk20 _ (hnext hS23.1 hb24)).2.1, (mk20 _ (hnext hS23.1 hb24)).2.2.1, (mk20 _ (hnext hS23.1 hb24)).2.2.2.1, (mk20 _ (hnext hS23.1 hb24)).2.2.2.2.1, (mk20 _ (hnext hS23.1 hb24)).2.2.2.2.2.1, (mk20 _ (hnext hS23.1 hb24)).2.2.2.2.2.2, hkeep hS23.2.2.2.2.2.2.2.1 hb24, hkeep hS23.2.2.2.2.2.2.2.2.1 hb24, hkeep hS23.2.2.2.2.2.2.2.2.2.1 hb24, hkeep hS23.2.2.2.2.2.2.2.2.2.2 hb24⟩ (fun hS24 => ?_)
                clear hK K
                (try simp only [Act.put, List.setIfInBounds_toArray, List.set_cons_zero, List.set_cons_succ])
                clear hb24 hS23
                refine wT 12 hS24 ?_
                refine wT 13 hS24 ?_
                refine wT 14 hS24 ?_
                refine wpAnyH_done (by kernel_rfl) ?_ _
                have b := hnext hd20 hS24.1
                go_wp2_with fail
                go_roundw
                case rel => exact ⟨k + 1, by omega, by first | rfl | go_num, (by rw [HX.out]; exact congrArg (fun l => Value.string (bstr l)) HNX.out.symm), HA.out, hnext L8.out b⟩
                case measure => simp [intOf]; omega
          · obtain rfl : k = wh.length := by omega
            clear hkl
            have HALL : Hid (wh.all (fun x => x.v.right) = true) := by
              show _ = _
              rw [List.all_eq_true]
              intro x hx
              obtain ⟨j, hj, rfl⟩ := List.mem_iff_getElem.1 hx
              exact hall.out j hj hj
            have hY2 : (Z ++ wh.flatMap nodeL).length ≤ 210000000 := by
              rw [List.length_append]
              have h2 := nodes_len wh
              have h3 := HM.out
              omega
            rw [List.take_length]
            obtain ⟨Y2, hY2e⟩ : ∃ Y2, Z ++ wh.flatMap nodeL = Y2 := ⟨_, rfl⟩
            rw [hY2e] at hY2
            rw [hY2e]
            have HY2 := hid hY2e
            clear hY2e
            have CW2 := hid (fun W => uint_any cols.length (by omega) W)
            have wkc : IntKind.u64.wrap (cols.length : Int) = (cols.length : Int) := by rw [IntKind.wrap_u64]; omega
            have hUz : (bstr (Cd.enc cols.length)).size ≤ 10 := (Cd.enc_length _).2
            have hXz : (bstr Y2).size ≤ 210000000 := hY2
            have HZ2 : Hid (bstr Y2 ++ bstr (Cd.enc cols.length) = bstr (Y2 ++ Cd.enc cols.length)) := bstr_append _ _
            have hZl2 : (Y2 ++ Cd.enc cols.length).length ≤ 210000010 := by rw [List.length_append]; have h9 : (Cd.enc cols.length).length ≤ 10 := hUz; omega
            have z7 : ¬ 9223372036854775807 < (bstr Y2).size + (bstr (Cd.enc cols.length)).size := by omega
            obtain ⟨Z2, hZ2⟩ : ∃ Z2, Y2 ++ Cd.enc cols.length = Z2 := ⟨_, rfl⟩
            rw [hZ2] at HZ2 hZl2
            have HZZ2 := hid hZ2
            clear hZ2 hUz hXz hY2
            generalize bstr Y2 = YS2 at *
            generalize bstr (Cd.enc cols.length) = US2 at *
            obtain ⟨c0, c1, c2, c3, c4, c5, c6, c7, c8, c9, c10, cl⟩ := BX.out.cells
            simp only at c0 c1 c2 c3 c4 c5 c6 c7 c8 c9 c10
            clear cl
            go_wp2_with fail
            refine (CW2.out _).mono ?_; rintro e w9 ⟨rfl, b⟩
            replace L := hid (hnext L.out b)
            replace BX := hid (BX.out.keep b)
            replace HK := hid (HK.out.below b)
            replace HW := hid (HW.out.below b)
            replace HC := hid (HC.out.below b)
            clear b
            clear c0 c1 c2 c3 c4 c5 c6 c7 c8 c9 c10
            obtain ⟨c0, c1, c2, c3, c4, c5, c6, c7, c8, c9, c10, cl⟩ := BX.out.cells
            simp only at c0 c1 c2 c3 c4 c5 c6 c7 c8 c9 c10
            clear cl
            clear CW2
            go_wp2_with fail
            go_loopw [107, 4] (fun i s wr => ∃ k : Nat, k ≤ cols.length ∧ i = .int .i64 (k : Int) ∧ s = .string (bstr (Z2 ++ (cols.take k).flatMap numL)) ∧ Below w9.heap.size w9 wr) (fun i _ _ => cols.length - (intOf i).toNat)
            case atStart => exact ⟨0, by omega, rfl, by rw [HZ2.out]; simp, Below.refl _ _⟩
            case round =>
              obtain ⟨k, hkc, rfl, rfl, b⟩ := hrel
              obtain ⟨w10, rfl⟩ : ∃ w10 : World, w10 = wr := ⟨_, rfl⟩
              have hk0 : (0 : Int) ≤ (k : Int) := by omega
              clear z7
              clear c0 c1 c2 c3 c4 c5 c6 c7 c8 c9 c10
              have L10 := hid b
              replace L := hid (hnext L.out b)
              replace BX := hid (BX.out.keep b)
              replace HK := hid (HK.out.below b)
              replace HW := hid (HW.out.below b)
              replace HC := hid (HC.out.below b)
              clear b
              by_cases hkl : k < cols.length
              · have hkl' : (k : Int) < (cols.length : Int) := by omega
                obtain ⟨_, _, en, hnn⟩ := HC.out
                cases en
                obtain ⟨g, off, rfl, q0⟩ := hnn k hkl
                have hn := HOK.out.cols _ (List.getElem_mem hkl)
                have HNX := hid (spot_next Z2 cols k hkl)
                have hXl : (bstr (Z2 ++ (cols.take k).flatMap numL)).size ≤ 220000000 := by
                  rw [bstr_size, List.length_append]
                  have h2 := nums_len (cols.take k)
                  have h3 : (cols.take k).length ≤ 1000 := by rw [List.length_take]; have := HM.out; omega
                  omega
                generalize cols[k] = c at q0 hn HNX
                clear hnn
                obtain ⟨X, hX⟩ : ∃ X, Z2 ++ (cols.take k).flatMap numL = X := ⟨_, rfl⟩
                rw [hX] at HNX hXl
                rw [hX]
                clear hX
                have CI := hid (fun W => int_any c hn.1 hn.2 W)
                have HX : Hid (bstr X ++ bstr (Cd.enc (Cd.zig c)) = bstr (X ++ numL c)) := bstr_append _ _
                have hz2 : (bstr (Cd.enc (Cd.zig c))).size ≤ 10 := (Cd.enc_length _).2
                have hadd : ¬ 9223372036854775807 < (bstr X).size + (bstr (Cd.enc (Cd.zig c))).size := by omega
                generalize bstr X = XS at *
                generalize bstr (Cd.enc (Cd.zig c)) = NS at *
                clear hn hz2 hXl
                go_wp2_with fail
                refine (CI.out _).mono ?_; rintro e w11 ⟨rfl, b⟩
                have L11 := hid (hnext L10.out b)
                clear b q0
                go_wp2_with fail
                go_roundw
                case rel => exact ⟨k + 1, by omega, by first | rfl | go_num, (by rw [HX.out]; exact congrArg (fun l => Value.string (bstr l)) HNX.out.symm), L11.out⟩
                case measure => simp [intOf]; omega
              · obtain rfl : k = cols.length := by omega
                clear hkl
                have j1 : (bstr (Z2 ++ cols.flatMap numL)).size ≤ 220000000 := by
                  rw [bstr_size, List.length_append]
                  have h2 := nums_len cols
                  have h3 := HM.out
                  omega
                rw [List.take_length]
                obtain ⟨Y3, hY3⟩ : ∃ Y3, Z2 ++ cols.flatMap numL = Y3 := ⟨_, rfl⟩
                rw [hY3] at j1
                rw [hY3]
                have HY3 := hid hY3
                clear hY3
                have hlm := HOK.out.limit
                have CIL := hid (fun W => int_any limit hlm.1 hlm.2 W)
                have j2 : (bstr (Cd.enc (Cd.zig limit))).size ≤ 10 := (Cd.enc_length _).2
                clear hlm
                obtain ⟨c0, c1, c2, c3, c4, c5, c6, c7, c8, c9, c10, cl⟩ := BX.out.cells
                simp only at c0 c1 c2 c3 c4 c5 c6 c7 c8 c9 c10
                clear cl
                cases desc with
                | true =>
                  have CUD := hid (fun W => uint_any 1 (by decide) W)
                  have HFIN : Hid (bstr Y3 ++ bstr (Cd.enc (Cd.zig limit)) ++ bstr (Cd.enc 1) = bstr (enc ⟨(kn : Int), table, key, t, v, fr, to, wh, cols, limit, true⟩)) := by
                    show _ = _
                    rw [enc_yes (q := ⟨(kn : Int), table, key, t, v, fr, to, wh, cols, limit, true⟩) (Int.natCast_nonneg kn) HKR.out HM.out HALL.out, bstr_append, bstr_append]
                    unfold encL whL colsL endL
                    rw [← HY3.out, ← HZZ2.out, ← HY2.out, ← HZZ.out, ← HY.out]
                    congr 1
                    simp [numL, List.append_assoc]
                  have j3 : (bstr (Cd.enc 1)).size ≤ 10 := (Cd.enc_length 1).2
                  generalize bstr Y3 = YS3 at *
                  generalize bstr (Cd.enc (Cd.zig limit)) = IL at *
                  generalize bstr (Cd.enc 1) = UD at *
                  have z8 : ¬ 9223372036854775807 < YS3.size + IL.size := by omega
                  have z9 : ¬ 9223372036854775807 < YS3.size + IL.size + UD.size := by omega
                  clear j1 j2 j3
                  go_wp2_with fail
                  refine (CIL.out _).mono ?_; rintro e w12 ⟨rfl, b⟩
                  replace L := hid (hnext L.out b)
                  replace BX := hid (BX.out.keep b)
                  replace HK := hid (HK.out.below b)
                  replace HW := hid (HW.out.below b)
                  replace HC := hid (HC.out.below b)
                  clear b
                  clear c0 c1 c2 c3 c4 c5 c6 c7 c8 c9 c10
                  go_wp2_with fail
                  refine (CUD.out _).mono ?_; rintro e w13 ⟨rfl, b⟩
                  replace L := hid (hnext L.out b)
                  replace BX := hid (BX.out.keep b)
                  replace HK := hid (HK.out.below b)
                  replace HW := hid (HW.out.below b)
                  replace HC := hid (HC.out.below b)
                  clear b
                  go_wp2_with fail
                  go_ret
                  rw [HFIN.out]
                  exact ⟨rfl, L.out⟩
                | false =>
                  have CUD := hid (fun W => uint_any 0 (by decide) W)
                  have HFIN : Hid (bstr Y3 ++ bstr (Cd.enc (Cd.zig limit)) ++ bstr (Cd.enc 0) = bstr (enc ⟨(kn : Int), table, key, t, v, fr, to, wh, cols, limit, false⟩)) := by
                    show _ = _
                    rw [enc_yes (q := ⟨(kn : Int), table, key, t, v, fr, to, wh, cols, limit, false⟩) (Int.natCast_nonneg kn) HKR.out HM.out HALL.out, bstr_append, bstr_append]
                    unfold encL whL colsL endL
                    rw [← HY3.out, ← HZZ2.out, ← HY2.out, ← HZZ.out, ← HY.out]
                    congr 1
                    simp [numL, List.append_assoc]
                  have j3 : (bstr (Cd.enc 0)).size ≤ 10 := (Cd.enc_length 0).2
                  generalize bstr Y3 = YS3 at *
                  generalize bstr (Cd.enc (Cd.zig limit)) = IL at *
                  generalize bstr (Cd.enc 0) = UD at *
                  have z8 : ¬ 9223372036854775807 < YS3.size + IL.size := by omega
                  have z9 : ¬ 9223372036854775807 < YS3.size + IL.size + UD.size := by omega
                  clear j1 j2 j3
                  go_wp2_with fail
                  refine (CIL.out _).mono ?_; rintro e w12 ⟨rfl, b⟩
                  replace L := hid (hnext L.out b)
                  replace BX := hid (BX.out.keep b)
                  replace HK := hid (HK.out.below b)
                  replace HW := hid (HW.out.below b)
                  replace HC := hid (HC.out.below b)
                  clear b
                  clear c0 c1 c2 c3 c4 c5 c6 c7 c8 c9 c10
                  go_wp2_with fail
                  refine (CUD.out _).mono ?_; rintro e w13 ⟨rfl, b⟩
                  replace L := hid (hnext L.out b)
                  replace BX := hid (BX.out.keep b)
                  replace HK := hid (HK.out.below b)
                  replace HW := hid (HW.out.below b)
                  replace HC := hid (HC.out.below b)
                  clear b
                  go_wp2_with fail
                  go_ret
                  rw [HFIN.out]
                  exact ⟨rfl, L.out⟩
end Go.Proofs.Ytmcneelapghfcaa
