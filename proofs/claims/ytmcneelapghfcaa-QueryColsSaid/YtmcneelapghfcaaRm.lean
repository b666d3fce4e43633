/-
  How many there are; two queries that are the same; what a query weighs: contracts. Condition: sizes that can stand in memory.
-/
import Derived.Test.YtmcneelapghfcaaQa
import Derived.Test.YtmcneelapghfcaaCb
import Derived.Test.YtmcneelapghfcaaPs
namespace Go.Proofs.Ytmcneelapghfcaa
open Go.RowKit Pd Qu

/-- 'min(n, m)' of two numbers that are not below 0 -/
theorem min_u64 (w : World) {ops : Array Oper} {rest : List Oper} {o : Oper} {a : Act} {Q : Exit → Act → World → Prop} (hg : o.guard = none) (x y : Operand) (ts : Array TypeId) (ho : o.op = .call { callee := .builtin .min, args := #[x, y], argTypes := ts })
    (n m : Nat) (M : Int) (hM : M = (m : Int)) (hx : a.eval x = .int .u64 (n : Int)) (hy : a.eval y = .int .u64 M) (hK : ∀ p : Nat, p ≤ m → Hid (p = min n m) → wpList Try.prog ops Q rest (a.put o.dst (.int .u64 (p : Int))) w) : wpList Try.prog ops Q (o :: rest) a w := by
  subst hM
  refine wpList_plain hg fun K hKK => ?_
  have hm : (if (m : Int) < (n : Int) then (m : Int) else (n : Int)) = ((min n m : Nat) : Int) := by split <;> omega
  have h2 : wpList Try.prog ops Q rest (a.put o.dst (.int .u64 (if (m : Int) < (n : Int) then (m : Int) else (n : Int)))) w := by
    rw [hm]; exact hK (min n m) (Nat.min_le_right _ _) rfl
  unfold Oper.wp
  simp [execOp, ho, resolve, invoke, builtin, hx, hy]
  exact hKK _ _ h2
namespace Qu
def clamp (n : Nat) : Int := ((min n 1001 : Nat) : Int)
theorem clamp_range (n : Nat) : 0 ≤ clamp n ∧ clamp n ≤ 1001 := by unfold clamp; omega
theorem clamp_of (n : Nat) {p : Nat} (h : p = min n 1001) : (p : Int) = clamp n := by subst h; rfl
end Qu
set_option maxRecDepth 100000 in
set_option maxHeartbeats 6400000 in
theorem many_any (g : Nat) (s : ByteArray) (i : Nat) (er : Int) (w : World) (hr : Rdr w g s i er) (hi : i ≤ s.size) (hs : s.size ≤ 1000000000) : Calls Try.prog 49 #[.pointer (some ⟨g, 0, none⟩)] w (Top (fun n : Nat => .int .i64 (clamp n)) g s (Cd.top 0 (Cd.uintR s.data.toList) i er) w) := by
  have m := hid (mUint g s i er w hr hi hs)
  obtain ⟨⟨n, j, e2⟩, ht⟩ : ∃ t, Cd.top 0 (Cd.uintR s.data.toList) i er = t := ⟨_, rfl⟩
  rw [ht] at m ⊢
  clear ht
  go_enter Try.func49, Try.ntmps49
  go_wp2_with fail
  refine m.out.mono ?_; rintro e w1 ⟨rfl, u1, R1, hj⟩
  simp only at R1 hj
  have U1 := hid u1
  have RR := hid R1
  clear u1 R1 m
  dsimp only
  go_wp2_with (with_reducible refine min_u64 _ rfl (.tmp 4) (.const (.int .u64 1001)) _ rfl n 1001 1001 rfl rfl rfl ?_; intro p hp9 hp)
  have hw : IntKind.i64.wrap (p : Int) = (p : Int) := by rw [IntKind.wrap_i64]; omega
  go_wp2_with fail
  go_ret
  exact ⟨by show Ending.returned (.int .i64 (p : Int)) = .returned (.int .i64 (clamp n)); rw [clamp_of n hp.out], U1.out, RR.out, hj⟩
set_option maxRecDepth 100000 in
set_option maxHeartbeats 6400000 in
theorem ints_same (v u : Value) (l : List Int) (w : World) (hv : IsAt w v l) (hu : IsAt w u l) (hl : l.length ≤ 1000000) : Calls Try.prog 58 #[v, u] w fun e w' => e = .returned (.bool true) ∧ Below w.heap.size w w' := by
  obtain ⟨a1, c1, rfl, h1⟩ := hv
  obtain ⟨a2, c2, rfl, h2⟩ := hu
  have H1 := hid h1
  have H2 := hid h2
  clear h1 h2
  go_enter Try.func58, Try.ntmps58
  go_wp2_with fail
  go_loopw [5] (fun i wr => ∃ k : Nat, k ≤ l.length ∧ i = .int .i64 (k : Int) ∧ Below w.heap.size w wr) (fun i _ => l.length - (intOf i).toNat)
  case atStart => exact ⟨0, by omega, rfl, Below.refl _ _⟩
  case round =>
    obtain ⟨k, hk, rfl, hbel⟩ := hrel
    obtain ⟨w4, rfl⟩ : ∃ w4 : World, w4 = wr := ⟨_, rfl⟩
    have hk0 : (0 : Int) ≤ (k : Int) := by omega
    by_cases hkl : k < l.length
    · have hkl' : (k : Int) < (l.length : Int) := by omega
      obtain ⟨g1, o1, rfl, q1⟩ := H1.out k hkl
      obtain ⟨g2, o2, rfl, q2⟩ := H2.out k hkl
      generalize hx : l[k] = c at q1 q2
      clear hx
      replace q1 := hkeep q1 hbel
      replace q2 := hkeep q2 hbel
      go_wp2_with fail
      obtain ⟨w20, hw20⟩ : ∃ w20, (w4).drew = w20 := ⟨_, rfl⟩
      have hd20 : Below (w4).heap.size (w4) w20 := hw20 ▸ (Below.refl _ _).drew
      have mk20 : ∀ W, Below w20.heap.size w20 W → Below w20.heap.size w20 W ∧ W.cell? ⟨g1, o1 + k, none⟩ = some (.int .i64 c) ∧ W.cell? ⟨g2, o2 + k, none⟩ = some (.int .i64 c) := fun W h => ⟨h, hkeep (hkeep q1 hd20) h, hkeep (hkeep q2 hd20) h⟩
      refine wp_region_held_drew (S := (fun W => Below w20.heap.size w20 W ∧ W.cell? ⟨g1, o1 + k, none⟩ = some (.int .i64 c) ∧ W.cell? ⟨g2, o2 + k, none⟩ = some (.int .i64 c))) (by kernel_rfl) (by rw [hw20]; exact mk20 _ (Below.refl _ _)) (fun hS20 => ?_)
      rw [hw20] at hS20 ⊢
      clear hw20
      refine wT 0 hS20 ?_
      refine wT 1 hS20 ?_
      refine wT 2 hS20 ?_
      refine wT 3 hS20 ?_
      refine wT 4 hS20 ?_
      refine wT 5 hS20 ?_
      refine wT 6 hS20 ?_
      refine wT 7 hS20 ?_
      refine wT 8 hS20 ?_
      refine wpAnyH_done (by kernel_rfl) ?_ _
      go_wp2_with fail
      go_roundw
      case rel => exact ⟨k + 1, by omega, by first | rfl | go_num, hnext hbel (hnext hd20 hS20.1)⟩
      case measure => simp [intOf]; omega
    · obtain rfl : k = l.length := by omega
      clear hkl
      go_wp2_with fail
      go_ret
      exact ⟨rfl, hbel⟩
set_option maxRecDepth 100000 in
set_option maxHeartbeats 6400000 in
theorem qsameR_same (q : Q) (vk1 vw1 vc1 vk2 vw2 vc2 : Value) (w : World) (hq : QIn w q vk1 vw1 vc1) (hp : QIn w q vk2 vw2 vc2) (hlk : q.key.length ≤ 1000000) (hlw : q.wh.length ≤ 1000000) (hlc : q.cols.length ≤ 1000000) : Calls Try.prog 23 #[qv q vk1 vw1 vc1, qv q vk2 vw2 vc2] w fun e w' => e = .returned (.bool true) ∧ Below w.heap.size w w' := by
  obtain ⟨ka1, kc1, rfl⟩ := vs_slc hq.1
  obtain ⟨wa1, wc1, rfl⟩ := hq.2.1.slc
  obtain ⟨ca1, cc1, rfl⟩ := hq.2.2.slc
  obtain ⟨ka2, kc2, rfl⟩ := vs_slc hp.1
  obtain ⟨wa2, wc2, rfl⟩ := hp.2.1.slc
  obtain ⟨ca2, cc2, rfl⟩ := hp.2.2.slc
  obtain ⟨kind, table, key, t, v, fr, to, wh, cols, limit, desc⟩ := q
  have b1 := hba w (.cells #[.int .i64 kind, .string table, .slice ka1 key.length kc1, .int .i64 t, .int .i64 v, .int .i64 fr, .int .i64 to, .slice wa1 wh.length wc1, .slice ca1 cols.length cc1, .int .i64 limit, .bool desc] 39)
  have b2 := hba (w.alloc (.cells #[.int .i64 kind, .string table, .slice ka1 key.length kc1, .int .i64 t, .int .i64 v, .int .i64 fr, .int .i64 to, .slice wa1 wh.length wc1, .slice ca1 cols.length cc1, .int .i64 limit, .bool desc] 39)) (.cells #[.int .i64 kind, .string table, .slice ka2 key.length kc2, .int .i64 t, .int .i64 v, .int .i64 fr, .int .i64 to, .slice wa2 wh.length wc2, .slice ca2 cols.length cc2, .int .i64 limit, .bool desc] 39)
  have L := hid (hnext b1 b2)
  have BX := hid ((BQ.new w 39 ⟨kind, table, key, t, v, fr, to, wh, cols, limit, desc⟩ (.slice ka1 key.length kc1) (.slice wa1 wh.length wc1) (.slice ca1 cols.length cc1)).keep b2)
  have BY0 := BQ.new (w.alloc (.cells #[.int .i64 kind, .string table, .slice ka1 key.length kc1, .int .i64 t, .int .i64 v, .int .i64 fr, .int .i64 to, .slice wa1 wh.length wc1, .slice ca1 cols.length cc1, .int .i64 limit, .bool desc] 39)) 39 ⟨kind, table, key, t, v, fr, to, wh, cols, limit, desc⟩ (.slice ka2 key.length kc2) (.slice wa2 wh.length wc2) (.slice ca2 cols.length cc2)
  rw [show (w.alloc (.cells #[.int .i64 kind, .string table, .slice ka1 key.length kc1, .int .i64 t, .int .i64 v, .int .i64 fr, .int .i64 to, .slice wa1 wh.length wc1, .slice ca1 cols.length cc1, .int .i64 limit, .bool desc] 39)).heap.size = w.heap.size + 1 by simp] at BY0
  have BY := hid BY0
  have HK1 := hid (hq.1.below L.out)
  have HW1 := hid (hq.2.1.below L.out)
  have HC1 := hid (hq.2.2.below L.out)
  have HK2 := hid (hp.1.below L.out)
  have HW2 := hid (hp.2.1.below L.out)
  have HC2 := hid (hp.2.2.below L.out)
  clear b1 b2 BY0 hq hp
  unfold qv
  simp only at HK1 HW1 HC1 HK2 HW2 HC2 hlk hlw hlc ⊢
  obtain ⟨c0, c1, c2, c3, c4, c5, c6, c7, c8, c9, c10, cl⟩ := BX.out.cells
  obtain ⟨e0, e1, e2, e3, e4, e5, e6, e7, e8, e9, e10, el⟩ := BY.out.cells
  simp only at c0 c1 c2 c3 c4 c5 c6 c7 c8 c9 c10 e0 e1 e2 e3 e4 e5 e6 e7 e8 e9 e10
  clear cl el
  have hsp := sp_eql fr to fr to true (by simp)
  go_enter Try.func23, Try.ntmps23
  go_wp2_with fail
  have cx := rows_any _ _ key key _ HK1.out HK2.out hlk hlk
  (try rw [decide_eq_true rfl] at cx)
  refine cx.mono ?_; rintro e w3 ⟨rfl, b⟩
  replace L := hid (hnext L.out b)
  replace BX := hid (BX.out.keep b)
  replace BY := hid (BY.out.keep b)
  replace HK1 := hid (HK1.out.below b)
  replace HW1 := hid (HW1.out.below b)
  replace HC1 := hid (HC1.out.below b)
  replace HK2 := hid (HK2.out.below b)
  replace HW2 := hid (HW2.out.below b)
  replace HC2 := hid (HC2.out.below b)
  clear b
  clear cx
  clear c0 c1 c2 c3 c4 c5 c6 c7 c8 c9 c10 e0 e1 e2 e3 e4 e5 e6 e7 e8 e9 e10
  obtain ⟨c0, c1, c2, c3, c4, c5, c6, c7, c8, c9, c10, cl⟩ := BX.out.cells
  obtain ⟨e0, e1, e2, e3, e4, e5, e6, e7, e8, e9, e10, el⟩ := BY.out.cells
  simp only at c0 c1 c2 c3 c4 c5 c6 c7 c8 c9 c10 e0 e1 e2 e3 e4 e5 e6 e7 e8 e9 e10
  clear cl el
  go_wp2_with fail
  have cx := psameR_any _ _ wh wh _ HW1.out HW2.out hlw hlw
  (try rw [decide_eq_true rfl] at cx)
  refine cx.mono ?_; rintro e w4 ⟨rfl, b⟩
  replace L := hid (hnext L.out b)
  replace BX := hid (BX.out.keep b)
  replace BY := hid (BY.out.keep b)
  replace HK1 := hid (HK1.out.below b)
  replace HW1 := hid (HW1.out.below b)
  replace HC1 := hid (HC1.out.below b)
  replace HK2 := hid (HK2.out.below b)
  replace HW2 := hid (HW2.out.below b)
  replace HC2 := hid (HC2.out.below b)
  clear b
  clear cx
  clear c0 c1 c2 c3 c4 c5 c6 c7 c8 c9 c10 e0 e1 e2 e3 e4 e5 e6 e7 e8 e9 e10
  obtain ⟨c0, c1, c2, c3, c4, c5, c6, c7, c8, c9, c10, cl⟩ := BX.out.cells
  obtain ⟨e0, e1, e2, e3, e4, e5, e6, e7, e8, e9, e10, el⟩ := BY.out.cells
  simp only at c0 c1 c2 c3 c4 c5 c6 c7 c8 c9 c10 e0 e1 e2 e3 e4 e5 e6 e7 e8 e9 e10
  clear cl el
  go_wp2_with fail
  have cx := ints_same _ _ cols _ HC1.out HC2.out hlc
  (try rw [decide_eq_true rfl] at cx)
  refine cx.mono ?_; rintro e w5 ⟨rfl, b⟩
  replace L := hid (hnext L.out b)
  replace BX := hid (BX.out.keep b)
  replace BY := hid (BY.out.keep b)
  replace HK1 := hid (HK1.out.below b)
  replace HW1 := hid (HW1.out.below b)
  replace HC1 := hid (HC1.out.below b)
  replace HK2 := hid (HK2.out.below b)
  replace HW2 := hid (HW2.out.below b)
  replace HC2 := hid (HC2.out.below b)
  clear b
  clear cx
  clear c0 c1 c2 c3 c4 c5 c6 c7 c8 c9 c10 e0 e1 e2 e3 e4 e5 e6 e7 e8 e9 e10
  obtain ⟨c0, c1, c2, c3, c4, c5, c6, c7, c8, c9, c10, cl⟩ := BX.out.cells
  obtain ⟨e0, e1, e2, e3, e4, e5, e6, e7, e8, e9, e10, el⟩ := BY.out.cells
  simp only at c0 c1 c2 c3 c4 c5 c6 c7 c8 c9 c10 e0 e1 e2 e3 e4 e5 e6 e7 e8 e9 e10
  clear cl el
  go_wp2_with fail
  go_ret
  exact ⟨rfl, L.out⟩
set_option maxRecDepth 100000 in
set_option maxHeartbeats 6400000 in
theorem qsame_same (q : Q) (vk1 vw1 vc1 vk2 vw2 vc2 : Value) (w : World) (hq : QIn w q vk1 vw1 vc1) (hp : QIn w q vk2 vw2 vc2) (hlk : q.key.length ≤ 1000000) (hlw : q.wh.length ≤ 1000000) (hlc : q.cols.length ≤ 1000000) : Calls Try.prog 24 #[qv q vk1 vw1 vc1, qv q vk2 vw2 vc2] w fun e w' => e = .returned (.bool true) ∧ Below w.heap.size w w' := by
  obtain ⟨ka1, kc1, rfl⟩ := vs_slc hq.1
  obtain ⟨wa1, wc1, rfl⟩ := hq.2.1.slc
  obtain ⟨ca1, cc1, rfl⟩ := hq.2.2.slc
  obtain ⟨ka2, kc2, rfl⟩ := vs_slc hp.1
  obtain ⟨wa2, wc2, rfl⟩ := hp.2.1.slc
  obtain ⟨ca2, cc2, rfl⟩ := hp.2.2.slc
  obtain ⟨kind, table, key, t, v, fr, to, wh, cols, limit, desc⟩ := q
  have b1 := hba w (.cells #[.int .i64 kind, .string table, .slice ka1 key.length kc1, .int .i64 t, .int .i64 v, .int .i64 fr, .int .i64 to, .slice wa1 wh.length wc1, .slice ca1 cols.length cc1, .int .i64 limit, .bool desc] 28)
  have b2 := hba (w.alloc (.cells #[.int .i64 kind, .string table, .slice ka1 key.length kc1, .int .i64 t, .int .i64 v, .int .i64 fr, .int .i64 to, .slice wa1 wh.length wc1, .slice ca1 cols.length cc1, .int .i64 limit, .bool desc] 28)) (.cells #[.int .i64 kind, .string table, .slice ka2 key.length kc2, .int .i64 t, .int .i64 v, .int .i64 fr, .int .i64 to, .slice wa2 wh.length wc2, .slice ca2 cols.length cc2, .int .i64 limit, .bool desc] 28)
  have L := hid (hnext b1 b2)
  have BX := hid ((BQ.new w 28 ⟨kind, table, key, t, v, fr, to, wh, cols, limit, desc⟩ (.slice ka1 key.length kc1) (.slice wa1 wh.length wc1) (.slice ca1 cols.length cc1)).keep b2)
  have BY0 := BQ.new (w.alloc (.cells #[.int .i64 kind, .string table, .slice ka1 key.length kc1, .int .i64 t, .int .i64 v, .int .i64 fr, .int .i64 to, .slice wa1 wh.length wc1, .slice ca1 cols.length cc1, .int .i64 limit, .bool desc] 28)) 28 ⟨kind, table, key, t, v, fr, to, wh, cols, limit, desc⟩ (.slice ka2 key.length kc2) (.slice wa2 wh.length wc2) (.slice ca2 cols.length cc2)
  rw [show (w.alloc (.cells #[.int .i64 kind, .string table, .slice ka1 key.length kc1, .int .i64 t, .int .i64 v, .int .i64 fr, .int .i64 to, .slice wa1 wh.length wc1, .slice ca1 cols.length cc1, .int .i64 limit, .bool desc] 28)).heap.size = w.heap.size + 1 by simp] at BY0
  have BY := hid BY0
  have HK1 := hid (hq.1.below L.out)
  have HW1 := hid (hq.2.1.below L.out)
  have HC1 := hid (hq.2.2.below L.out)
  have HK2 := hid (hp.1.below L.out)
  have HW2 := hid (hp.2.1.below L.out)
  have HC2 := hid (hp.2.2.below L.out)
  clear b1 b2 BY0 hq hp
  unfold qv
  simp only at HK1 HW1 HC1 HK2 HW2 HC2 hlk hlw hlc ⊢
  obtain ⟨c0, c1, c2, c3, c4, c5, c6, c7, c8, c9, c10, cl⟩ := BX.out.cells
  obtain ⟨e0, e1, e2, e3, e4, e5, e6, e7, e8, e9, e10, el⟩ := BY.out.cells
  simp only at c0 c1 c2 c3 c4 c5 c6 c7 c8 c9 c10 e0 e1 e2 e3 e4 e5 e6 e7 e8 e9 e10
  clear cl el
  have hsp := sp_neq fr to fr to true (by simp)
  go_enter Try.func24, Try.ntmps24
  go_wp2_with fail
  have cx := psame_any _ _ wh wh _ HW1.out HW2.out hlw hlw
  (try rw [decide_eq_true rfl] at cx)
  refine cx.mono ?_; rintro e w3 ⟨rfl, b⟩
  replace L := hid (hnext L.out b)
  replace BX := hid (BX.out.keep b)
  replace BY := hid (BY.out.keep b)
  replace HK1 := hid (HK1.out.below b)
  replace HW1 := hid (HW1.out.below b)
  replace HC1 := hid (HC1.out.below b)
  replace HK2 := hid (HK2.out.below b)
  replace HW2 := hid (HW2.out.below b)
  replace HC2 := hid (HC2.out.below b)
  clear b
  clear cx
  clear c0 c1 c2 c3 c4 c5 c6 c7 c8 c9 c10 e0 e1 e2 e3 e4 e5 e6 e7 e8 e9 e10
  obtain ⟨c0, c1, c2, c3, c4, c5, c6, c7, c8, c9, c10, cl⟩ := BX.out.cells
  obtain ⟨e0, e1, e2, e3, e4, e5, e6, e7, e8, e9, e10, el⟩ := BY.out.cells
  simp only at c0 c1 c2 c3 c4 c5 c6 c7 c8 c9 c10 e0 e1 e2 e3 e4 e5 e6 e7 e8 e9 e10
  clear cl el
  go_wp2_with fail
  go_loopw [81] (fun i wr => ∃ k : Nat, k ≤ key.length ∧ i = .int .i64 (k : Int) ∧ Below w3.heap.size w3 wr) (fun i _ => key.length - (intOf i).toNat)
  case atStart => exact ⟨0, by omega, rfl, Below.refl _ _⟩
  case round =>
    obtain ⟨k, hk, rfl, b⟩ := hrel
    obtain ⟨w4, rfl⟩ : ∃ w4 : World, w4 = wr := ⟨_, rfl⟩
    have hk0 : (0 : Int) ≤ (k : Int) := by omega
    have hb4 := hid b
    clear c0 c1 c2 c3 c4 c5 c6 c7 c8 c9 c10 e0 e1 e2 e3 e4 e5 e6 e7 e8 e9 e10
    replace L := hid (hnext L.out b)
    replace BX := hid (BX.out.keep b)
    replace BY := hid (BY.out.keep b)
    replace HK1 := hid (HK1.out.below b)
    replace HW1 := hid (HW1.out.below b)
    replace HC1 := hid (HC1.out.below b)
    replace HK2 := hid (HK2.out.below b)
    replace HW2 := hid (HW2.out.below b)
    replace HC2 := hid (HC2.out.below b)
    clear b
    obtain ⟨c0, c1, c2, c3, c4, c5, c6, c7, c8, c9, c10, cl⟩ := BX.out.cells
    obtain ⟨e0, e1, e2, e3, e4, e5, e6, e7, e8, e9, e10, el⟩ := BY.out.cells
    simp only at c0 c1 c2 c3 c4 c5 c6 c7 c8 c9 c10 e0 e1 e2 e3 e4 e5 e6 e7 e8 e9 e10
    clear cl el
    by_cases hkl : k < key.length
    · have hkl' : (k : Int) < (key.length : Int) := by omega
      obtain ⟨_, _, x1, hx1⟩ := HK1.out
      cases x1
      obtain ⟨_, _, x2, hx2⟩ := HK2.out
      cases x2
      obtain ⟨g1, o1, rfl, q0, q1, q2, q3⟩ := hx1 k hkl
      obtain ⟨g2, o2, rfl, r0, r1, r2, r3⟩ := hx2 k hkl
      generalize hx : key[k] = x at q0 q1 q2 q3 r0 r1 r2 r3
      clear hx hx1 hx2
      obtain ⟨xk, xn, xb, xs⟩ := x
      simp only at q0 q1 q2 q3 r0 r1 r2 r3
      have hva := va_neq xk xn xb xs xk xn xb xs true (by simp)
      unfold vv at hva
      go_wp2_with fail
      obtain ⟨w20, hw20⟩ : ∃ w20, (w4).drew = w20 := ⟨_, rfl⟩
      have hd20 : Below (w4).heap.size (w4) w20 := hw20 ▸ (Below.refl _ _).drew
      have mk20 : ∀ W, Below w20.heap.size w20 W → Below w20.heap.size w20 W ∧ W.cell? ⟨g1, o1 + k * 4, none⟩ = some (.int .i64 xk) ∧ W.cell? ⟨g1, o1 + k * 4 + 1, none⟩ = some (.int .i64 xn) ∧ W.cell? ⟨g1, o1 + k * 4 + 2, none⟩ = some (.int .u64 (xb : Int)) ∧ W.cell? ⟨g1, o1 + k * 4 + 3, none⟩ = some (.string xs) ∧ W.cell? ⟨g2, o2 + k * 4, none⟩ = some (.int .i64 xk) ∧ W.cell? ⟨g2, o2 + k * 4 + 1, none⟩ = some (.int .i64 xn) ∧ W.cell? ⟨g2, o2 + k * 4 + 2, none⟩ = some (.int .u64 (xb : Int)) ∧ W.cell? ⟨g2, o2 + k * 4 + 3, none⟩ = some (.string xs) ∧ W.cell? ⟨w.heap.size, 2, none⟩ = some (.slice (some ⟨g1, o1, none⟩) key.length kc1) ∧ W.cell? ⟨w.heap.size + 1, 2, none⟩ = some (.slice (some ⟨g2, o2, none⟩) key.length kc2) := fun W h => ⟨h, hkeep (hkeep q0 hd20) h, hkeep (hkeep q1 hd20) h, hkeep (hkeep q2 hd20) h, hkeep (hkeep q3 hd20) h, hkeep (hkeep r0 hd20) h, hkeep (hkeep r1 hd20) h, hkeep (hkeep r2 hd20) h, hkeep (hkeep r3 hd20) h, hkeep (hkeep c2 hd20) h, hkeep (hkeep e2 hd20) h⟩
      refine wp_region_held_drew (S := (fun W => Below w20.heap.size w20 W ∧ W.cell? ⟨g1, o1 + k * 4, none⟩ = some (.int .i64 xk) ∧ W.cell? ⟨g1, o1 + k * 4 + 1, none⟩ = some (.int .i64 xn) ∧ W.cell? ⟨g1, o1 + k * 4 + 2, none⟩ = some (.int .u64 (xb : Int)) ∧ W.cell? ⟨g1, o1 + k * 4 + 3, none⟩ = some (.string xs) ∧ W.cell? ⟨g2, o2 + k * 4, none⟩ = some (.int .i64 xk) ∧ W.cell? ⟨g2, o2 + k * 4 + 1, none⟩ = some (.int .i64 xn) ∧ W.cell? ⟨g2, o2 + k * 4 + 2, none⟩ = some (.int .u64 (xb : Int)) ∧ W.cell? ⟨g2, o2 + k * 4 + 3, none⟩ = some (.string xs) ∧ W.cell? ⟨w.heap.size, 2, none⟩ = some (.slice (some ⟨g1, o1, none⟩) key.length kc1) ∧ W.cell? ⟨w.heap.size + 1, 2, none⟩ = some (.slice (some ⟨g2, o2, none⟩) key.length kc2))) (by kernel_rfl) (by rw [hw20]; exact mk20 _ (Below.refl _ _)) (fun hS20 => ?_)
      rw [hw20] at hS20 ⊢
      clear hw20
      refine wT 0 hS20 ?_
      refine wT 1 hS20 ?_
      refine wT 2 hS20 ?_
      refine wT 3 hS20 ?_
      refine wT 4 hS20 ?_
      refine wT 5 hS20 ?_
      refine wT 6 hS20 ?_
      refine wT 7 hS20 ?_
      refine wT 8 hS20 ?_
      refine wT 9 hS20 ?_
      refine wT 10 hS20 ?_
      refine wpAnyH_done (by kernel_rfl) ?_ _
      go_wp2_with fail
      go_roundw
      case rel => exact ⟨k + 1, by omega, by first | rfl | go_num, hnext hb4.out (hnext hd20 hS20.1)⟩
      case measure => simp [intOf]; omega
    · obtain rfl : k = key.length := by omega
      clear hkl
      go_wp2_with fail
      go_loopw [99] (fun i wr => ∃ k : Nat, k ≤ cols.length ∧ i = .int .i64 (k : Int) ∧ Below w4.heap.size w4 wr) (fun i _ => cols.length - (intOf i).toNat)
      case atStart => exact ⟨0, by omega, rfl, Below.refl _ _⟩
      case round =>
        obtain ⟨k, hk, rfl, b⟩ := hrel
        obtain ⟨w5, rfl⟩ : ∃ w5 : World, w5 = wr := ⟨_, rfl⟩
        have hk0 : (0 : Int) ≤ (k : Int) := by omega
        have hb5 := hid b
        clear c0 c1 c2 c3 c4 c5 c6 c7 c8 c9 c10 e0 e1 e2 e3 e4 e5 e6 e7 e8 e9 e10
        replace L := hid (hnext L.out b)
        replace BX := hid (BX.out.keep b)
        replace BY := hid (BY.out.keep b)
        replace HK1 := hid (HK1.out.below b)
        replace HW1 := hid (HW1.out.below b)
        replace HC1 := hid (HC1.out.below b)
        replace HK2 := hid (HK2.out.below b)
        replace HW2 := hid (HW2.out.below b)
        replace HC2 := hid (HC2.out.below b)
        clear b
        obtain ⟨c0, c1, c2, c3, c4, c5, c6, c7, c8, c9, c10, cl⟩ := BX.out.cells
        obtain ⟨e0, e1, e2, e3, e4, e5, e6, e7, e8, e9, e10, el⟩ := BY.out.cells
        simp only at c0 c1 c2 c3 c4 c5 c6 c7 c8 c9 c10 e0 e1 e2 e3 e4 e5 e6 e7 e8 e9 e10
        clear cl el
        by_cases hkl : k < cols.length
        · have hkl' : (k : Int) < (cols.length : Int) := by omega
          obtain ⟨_, _, x1, hx1⟩ := HC1.out
          cases x1
          obtain ⟨_, _, x2, hx2⟩ := HC2.out
          cases x2
          obtain ⟨g1, o1, rfl, q0⟩ := hx1 k hkl
          obtain ⟨g2, o2, rfl, r0⟩ := hx2 k hkl
          generalize hx : cols[k] = x at q0 r0
          clear hx hx1 hx2
          go_wp2_with fail
          obtain ⟨w20, hw20⟩ : ∃ w20, (w5).drew = w20 := ⟨_, rfl⟩
          have hd20 : Below (w5).heap.size (w5) w20 := hw20 ▸ (Below.refl _ _).drew
          have mk20 : ∀ W, Below w20.heap.size w20 W → Below w20.heap.size w20 W ∧ W.cell? ⟨g1, o1 + k, none⟩ = some (.int .i64 x) ∧ W.cell? ⟨g2, o2 + k, none⟩ = some (.int .i64 x) ∧ W.cell? ⟨w.heap.size, 8, none⟩ = some (.slice (some ⟨g1, o1, none⟩) cols.length cc1) ∧ W.cell? ⟨w.heap.size + 1, 8, none⟩ = some (.slice (some ⟨g2, o2, none⟩) cols.length cc2) := fun W h => ⟨h, hkeep (hkeep q0 hd20) h, hkeep (hkeep r0 hd20) h, hkeep (hkeep c8 hd20) h, hkeep (hkeep e8 hd20) h⟩
          refine wp_region_held_drew (S := (fun W => Below w20.heap.size w20 W ∧ W.cell? ⟨g1, o1 + k, none⟩ = some (.int .i64 x) ∧ W.cell? ⟨g2, o2 + k, none⟩ = some (.int .i64 x) ∧ W.cell? ⟨w.heap.size, 8, none⟩ = some (.slice (some ⟨g1, o1, none⟩) cols.length cc1) ∧ W.cell? ⟨w.heap.size + 1, 8, none⟩ = some (.slice (some ⟨g2, o2, none⟩) cols.length cc2))) (by kernel_rfl) (by rw [hw20]; exact mk20 _ (Below.refl _ _)) (fun hS20 => ?_)
          rw [hw20] at hS20 ⊢
          clear hw20
          refine wT 0 hS20 ?_
          refine wT 1 hS20 ?_
          refine wT 2 hS20 ?_
          refine wT 3 hS20 ?_
          refine wT 4 hS20 ?_
          refine wT 5 hS20 ?_
          refine wT 6 hS20 ?_
          refine wT 7 hS20 ?_
          refine wT 8 hS20 ?_
          refine wT 9 hS20 ?_
          refine wT 10 hS20 ?_
          refine wpAnyH_done (by kernel_rfl) ?_ _
          go_wp2_with fail
          go_roundw
          case rel => exact ⟨k + 1, by omega, by first | rfl | go_num, hnext hb5.out (hnext hd20 hS20.1)⟩
          case measure => simp [intOf]; omega
        · obtain rfl : k = cols.length := by omega
          clear hkl
          go_wp2_with fail
          go_ret
          exact ⟨rfl, L.out⟩
end Go.Proofs.Ytmcneelapghfcaa
