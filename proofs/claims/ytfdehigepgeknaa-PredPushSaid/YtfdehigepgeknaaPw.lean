/-
  Show of conditions: its contract. Conditions: at most 1000000 nodes; the values can stand in memory.
-/
import Derived.Test.YtfdehigepgeknaaPt
namespace Go.Proofs.Ytfdehigepgeknaa
open Go.RowKit Pd

namespace Vl
theorem decI_size {n : Int} (h0 : -9223372036854775808 ≤ n) (h1 : n ≤ 9223372036854775807) : (decI n).length ≤ 21 := by
  unfold decI
  split
  · have := dec_size (n := (-n).toNat) (by omega)
    have h2 : (dec (-n).toNat).length ≤ 20 := this
    rw [List.length_cons]; omega
  · have := dec_size (n := n.toNat) (by omega)
    have h2 : (dec n.toNat).length ≤ 20 := this
    omega
theorem txt_size {k n : Int} {b : Nat} {s : ByteArray} (h0 : -9223372036854775808 ≤ n) (h1 : n ≤ 9223372036854775807) : (txt k n b s).length ≤ 20000 := by
  unfold txt
  have hd := decI_size h0 h1
  split
  · simp
  · rename_i hr
    have hr' : Va.right k n b s = true := by cases h : Va.right k n b s with | true => rfl | false => exact absurd h hr
    have hk := Ky.right_cases hr'
    split
    · simp
    · split
      · split <;> simp
      · split
        · omega
        · split
          · rw [List.length_cons, hexL_length]; omega
          · have hs : s.data.toList.length ≤ 4096 := by
              have : s.data.toList.length = s.size := by simp
              rcases hk with h | h | h | h | h <;> omega
            split
            · have := flat_size hx hex2_size s.data.toList
              rw [List.length_cons]; omega
            · have := flat_size quo quo_size s.data.toList
              rw [List.length_append, List.length_cons]
              show _ + 1 + 1 ≤ _
              omega
end Vl
namespace Pd
def sign (op : Int) : List UInt8 := if op = 1 then [61] else if op = 2 then [33, 61] else if op = 3 then [60] else if op = 4 then [60, 61] else if op = 5 then [62] else if op = 6 then [62, 61] else if op = 7 then [63] else [33]
def leafTxt (x : N) : List UInt8 := 99 :: (Vl.decI x.col ++ (sign x.op ++ (if x.op ≤ 6 then Vl.txt x.v.k x.v.n x.v.b x.v.s else [])))
def T.txt : T → List UInt8
  | .leaf x => leafTxt x
  | .not _ t => 126 :: t.txt
  | .bin x a b => 40 :: (a.txt ++ ((if x.op = 9 then 38 else 124) :: (b.txt ++ [41])))
def T.nok : T → Prop
  | .leaf x => Nok x
  | .not _ t => t.nok
  | .bin _ a b => a.nok ∧ b.nok
theorem T.nok_of (t : T) (h : ∀ x ∈ t.ser, Nok x) : t.nok := by
  induction t with
  | leaf x => exact h x (by simp [T.ser])
  | not x t ih => exact ih fun y hy => h y (by simp [T.ser, hy])
  | bin x a b iha ihb => exact ⟨iha fun y hy => h y (by simp [T.ser, hy]), ihb fun y hy => h y (by simp [T.ser, hy])⟩
theorem sign_len (op : Int) : (sign op).length ≤ 2 := by unfold sign; repeat' split
                                                         all_goals simp
theorem leafTxt_len {x : N} (h : Nok x) : (leafTxt x).length ≤ 20100 := by
  obtain ⟨_, ⟨h1, h2⟩, ⟨h3, h4⟩, _⟩ := h
  have a := Vl.decI_size h1 h2
  have b := sign_len x.op
  have c := Vl.txt_size (k := x.v.k) (b := x.v.b) (s := x.v.s) h3 h4
  unfold leafTxt
  split
  · simp; omega
  · simp; omega
theorem T.txt_len (t : T) (h : t.nok) : t.txt.length ≤ 20100 * t.ser.length := by
  induction t with
  | leaf x => have := leafTxt_len h; show _ ≤ 20100 * 1; exact this
  | not x t ih => have := ih h; show t.txt.length + 1 ≤ 20100 * (t.ser.length + 1); omega
  | bin x a b iha ihb =>
    have := iha h.1
    have := ihb h.2
    show (a.txt ++ (_ :: (b.txt ++ [41]))).length + 1 ≤ 20100 * ((a.ser ++ b.ser).length + 1)
    rw [List.length_append, List.length_append, List.length_cons, List.length_append]
    simp; omega
end Pd
theorem idx_sign (w : World) : (Instr.index 79 (.agg #[.string ⟨#[]⟩, .string ⟨#[61]⟩, .string ⟨#[33, 61]⟩, .string ⟨#[60]⟩, .string ⟨#[60, 61]⟩, .string ⟨#[62]⟩, .string ⟨#[62, 61]⟩, .string ⟨#[63]⟩, .string ⟨#[33]⟩]) (.int .i64 1)).run Try.prog w = .ok (.string ⟨#[61]⟩) w ∧ (Instr.index 79 (.agg #[.string ⟨#[]⟩, .string ⟨#[61]⟩, .string ⟨#[33, 61]⟩, .string ⟨#[60]⟩, .string ⟨#[60, 61]⟩, .string ⟨#[62]⟩, .string ⟨#[62, 61]⟩, .string ⟨#[63]⟩, .string ⟨#[33]⟩]) (.int .i64 2)).run Try.prog w = .ok (.string ⟨#[33, 61]⟩) w ∧ (Instr.index 79 (.agg #[.string ⟨#[]⟩, .string ⟨#[61]⟩, .string ⟨#[33, 61]⟩, .string ⟨#[60]⟩, .string ⟨#[60, 61]⟩, .string ⟨#[62]⟩, .string ⟨#[62, 61]⟩, .string ⟨#[63]⟩, .string ⟨#[33]⟩]) (.int .i64 3)).run Try.prog w = .ok (.string ⟨#[60]⟩) w ∧ (Instr.index 79 (.agg #[.string ⟨#[]⟩, .string ⟨#[61]⟩, .string ⟨#[33, 61]⟩, .string ⟨#[60]⟩, .string ⟨#[60, 61]⟩, .string ⟨#[62]⟩, .string ⟨#[62, 61]⟩, .string ⟨#[63]⟩, .string ⟨#[33]⟩]) (.int .i64 4)).run Try.prog w = .ok (.string ⟨#[60, 61]⟩) w ∧ (Instr.index 79 (.agg #[.string ⟨#[]⟩, .string ⟨#[61]⟩, .string ⟨#[33, 61]⟩, .string ⟨#[60]⟩, .string ⟨#[60, 61]⟩, .string ⟨#[62]⟩, .string ⟨#[62, 61]⟩, .string ⟨#[63]⟩, .string ⟨#[33]⟩]) (.int .i64 5)).run Try.prog w = .ok (.string ⟨#[62]⟩) w ∧ (Instr.index 79 (.agg #[.string ⟨#[]⟩, .string ⟨#[61]⟩, .string ⟨#[33, 61]⟩, .string ⟨#[60]⟩, .string ⟨#[60, 61]⟩, .string ⟨#[62]⟩, .string ⟨#[62, 61]⟩, .string ⟨#[63]⟩, .string ⟨#[33]⟩]) (.int .i64 6)).run Try.prog w = .ok (.string ⟨#[62, 61]⟩) w ∧ (Instr.index 79 (.agg #[.string ⟨#[]⟩, .string ⟨#[61]⟩, .string ⟨#[33, 61]⟩, .string ⟨#[60]⟩, .string ⟨#[60, 61]⟩, .string ⟨#[62]⟩, .string ⟨#[62, 61]⟩, .string ⟨#[63]⟩, .string ⟨#[33]⟩]) (.int .i64 7)).run Try.prog w = .ok (.string ⟨#[63]⟩) w ∧ (Instr.index 79 (.agg #[.string ⟨#[]⟩, .string ⟨#[61]⟩, .string ⟨#[33, 61]⟩, .string ⟨#[60]⟩, .string ⟨#[60, 61]⟩, .string ⟨#[62]⟩, .string ⟨#[62, 61]⟩, .string ⟨#[63]⟩, .string ⟨#[33]⟩]) (.int .i64 8)).run Try.prog w = .ok (.string ⟨#[33]⟩) w := by
  refine ⟨?_, ?_, ?_, ?_, ?_, ?_, ?_, ?_⟩ <;> kernel_rfl
theorem idx_bin (w : World) : (Instr.index 77 (.agg #[.string ⟨#[]⟩, .string ⟨#[]⟩, .string ⟨#[]⟩, .string ⟨#[]⟩, .string ⟨#[]⟩, .string ⟨#[]⟩, .string ⟨#[]⟩, .string ⟨#[]⟩, .string ⟨#[]⟩, .string ⟨#[38]⟩, .string ⟨#[124]⟩]) (.int .i64 9)).run Try.prog w = .ok (.string ⟨#[38]⟩) w ∧ (Instr.index 77 (.agg #[.string ⟨#[]⟩, .string ⟨#[]⟩, .string ⟨#[]⟩, .string ⟨#[]⟩, .string ⟨#[]⟩, .string ⟨#[]⟩, .string ⟨#[]⟩, .string ⟨#[]⟩, .string ⟨#[]⟩, .string ⟨#[38]⟩, .string ⟨#[124]⟩]) (.int .i64 10)).run Try.prog w = .ok (.string ⟨#[124]⟩) w := by
  refine ⟨?_, ?_⟩ <;> kernel_rfl
set_option maxRecDepth 100000 in
set_option maxHeartbeats 6400000 in
theorem show_tree (l : List N) (hl : l.length ≤ 1000000) (t : T) : t.ok → t.nok → ∀ (i : Nat) (rest : List N) (v : Value) (w : World), NsAt w v l → l.drop i = t.ser ++ rest → t.ser.length ≤ 1000000 →
    Calls Try.prog 33 #[v, .int .i64 (i : Int)] w fun e w' => e = .returned (.tuple #[.string (bstr t.txt), .int .i64 ((i + t.ser.length : Nat) : Int)]) ∧ Below w.heap.size w w' := by
  induction t with
  | leaf x =>
    intro hok hnok i rest v w hv hdrop hlen
    have hil : i < l.length := by
      have h1 := congrArg List.length hdrop
      rw [List.length_drop] at h1
      simp [T.ser] at h1; omega
    have hil' : (i : Int) < (l.length : Int) := by omega
    have hi0 : (0 : Int) ≤ (i : Int) := by omega
    have hi1 : IntKind.i64.wrap ((i : Int) + 1) = ((i + 1 : Nat) : Int) := by rw [IntKind.wrap_i64]; omega
    have hxi : l[i] = x := by
      have h1 := hdrop
      rw [List.drop_eq_getElem_cons hil] at h1
      exact (List.cons.inj h1).1
    have HDR : Hid (l.drop (i + 1) = rest) := by
      have h1 := hdrop
      rw [List.drop_eq_getElem_cons hil] at h1
      first | exact (List.cons.inj h1).2 | exact (List.cons.inj h1).2.trans (List.append_assoc _ _ _)
    have HV := hid hv
    obtain ⟨adr, cap, rfl, hc⟩ := hv
    obtain ⟨g, off, rfl, q0, q1, q2, q3, q4, q5⟩ := hc i hil
    rw [hxi] at q0 q1 q2 q3 q4 q5
    clear hc hdrop hxi
    obtain ⟨op, c, ⟨k, n, b0, s⟩⟩ := x
    simp only at q0 q1 q2 q3 q4 q5
    obtain ⟨o1, o2⟩ := hok
    replace o1 : 1 ≤ op := o1
    replace o2 : op ≤ 8 := o2
    have hnk := hnok
    obtain ⟨_, ⟨c1, c2⟩, ⟨⟨n1, n2⟩, n3, n4⟩⟩ := hnk
    replace c1 : -9223372036854775808 ≤ c := c1
    replace c2 : c ≤ 9223372036854775807 := c2
    replace n1 : -9223372036854775808 ≤ n := n1
    replace n2 : n ≤ 9223372036854775807 := n2
    replace n3 : b0 < 18446744073709551616 := n3
    replace n4 : s.size ≤ maxLen := n4
    have cd := hid (fun W => pdecimal_any c c1 c2 W)
    have cs0 := fun W => show_any k n b0 s n4 n1 n2 n3 W
    have hz0 := Vl.txt_size (k := k) (n := n) (b := b0) (s := s) n1 n2
    have hzd : (bstr (Vl.decI c)).size ≤ 21 := Vl.decI_size c1 c2
    have hj1 : (⟨#[99]⟩ : ByteArray) ++ bstr (Vl.decI c) = bstr (99 :: Vl.decI c) := bstr_append [99] _
    have hz1 : (bstr (99 :: Vl.decI c)).size ≤ 22 := by show (Vl.decI c).length + 1 ≤ 22; have : (Vl.decI c).length ≤ 21 := hzd; omega
    unfold vv at cs0
    have cs := hid cs0
    clear cs0 hnok c1 c2 n1 n2 n3 n4
    have HT : Hid (∀ z, z = op → (T.leaf ⟨z, c, ⟨k, n, b0, s⟩⟩).txt = 99 :: (Vl.decI c ++ (sign z ++ (if z ≤ 6 then Vl.txt k n b0 s else [])))) := fun z _ => rfl
    generalize Vl.decI c = D at *
    generalize Vl.txt k n b0 s = V at *
    have hzv : (bstr V).size ≤ 20000 := hz0
    clear hz0
    obtain rfl | rfl | rfl | rfl | rfl | rfl | rfl | rfl : op = 1 ∨ op = 2 ∨ op = 3 ∨ op = 4 ∨ op = 5 ∨ op = 6 ∨ op = 7 ∨ op = 8 := by omega
    · have hi := fun w => (idx_sign w).1
      have hj2 : bstr (99 :: D) ++ (⟨#[61]⟩ : ByteArray) = bstr (99 :: D ++ [61]) := bstr_append _ [61]
      have hq1 : ¬ 9223372036854775807 < 1 + (bstr D).size := by omega
      have hq2 : ¬ 9223372036854775807 < (bstr (99 :: D)).size + 1 := by omega
      have hz2 : (bstr (99 :: D ++ [61])).size ≤ 24 := by show (99 :: D ++ [61]).length ≤ 24; rw [List.length_append]; have : (99 :: D).length ≤ 22 := hz1; simp at this ⊢; omega
      have hj3 : bstr (99 :: D ++ [61]) ++ bstr V = bstr (99 :: (D ++ ([61] ++ V))) := (bstr_append _ _).trans (by simp)
      have HR : Hid ((T.leaf ⟨1, c, ⟨k, n, b0, s⟩⟩).txt = 99 :: (D ++ ([61] ++ V))) := HT.out _ rfl
      generalize hS3 : bstr (99 :: (D ++ ([61] ++ V))) = S3 at *
      have HS3 := hid hS3
      clear hS3
      generalize hS2 : bstr (99 :: D ++ [61]) = S2 at *
      have HS2 := hid hS2
      clear hS2
      generalize bstr (99 :: D) = S1 at *
      have bn := hid (BN.new 41 w ⟨1, c, ⟨k, n, b0, s⟩⟩)
      have LB := hid (hba w (.cells #[.int .i64 1, .int .i64 c, .int .i64 k, .int .i64 n, .int .u64 (b0 : Int), .string s] 41))
      clear HT o1 o2
      go_enter Try.func33, Try.ntmps33
      go_wp2_with fail
      obtain ⟨w20, hw20⟩ : ∃ w20, ((w.alloc (.cells #[.int .i64 1, .int .i64 c, .int .i64 k, .int .i64 n, .int .u64 (b0 : Int), .string s] 41))).drew = w20 := ⟨_, rfl⟩
      have hd20 : Below ((w.alloc (.cells #[.int .i64 1, .int .i64 c, .int .i64 k, .int .i64 n, .int .u64 (b0 : Int), .string s] 41))).heap.size ((w.alloc (.cells #[.int .i64 1, .int .i64 c, .int .i64 k, .int .i64 n, .int .u64 (b0 : Int), .string s] 41))) w20 := hw20 ▸ (Below.refl _ _).drew
      have BZ := BN.keep bn.out hd20
      obtain ⟨y0, y1, y2, y3, y4, y5, _, _, _, _, _, _, yl⟩ := BZ.cells
      simp only at y0 y1 y2 y3 y4 y5
      have mk20 : ∀ W, Below w20.heap.size w20 W → Below w20.heap.size w20 W ∧ W.cell? ⟨w.heap.size, 0, none⟩ = some (.int .i64 1) ∧ W.cell? ⟨w.heap.size, 1, none⟩ = some (.int .i64 c) ∧ W.cell? ⟨w.heap.size, 2, none⟩ = some (.int .i64 k) ∧ W.cell? ⟨w.heap.size, 3, none⟩ = some (.int .i64 n) ∧ W.cell? ⟨w.heap.size, 4, none⟩ = some (.int .u64 (b0 : Int)) ∧ W.cell? ⟨w.heap.size, 5, none⟩ = some (.string s) := fun W h => ⟨h, hkeep y0 h, hkeep y1 h, hkeep y2 h, hkeep y3 h, hkeep y4 h, hkeep y5 h⟩
      clear y0 y1 y2 y3 y4 y5 BZ
      refine wp_region_held_drew (S := (fun W => Below w20.heap.size w20 W ∧ W.cell? ⟨w.heap.size, 0, none⟩ = some (.int .i64 1) ∧ W.cell? ⟨w.heap.size, 1, none⟩ = some (.int .i64 c) ∧ W.cell? ⟨w.heap.size, 2, none⟩ = some (.int .i64 k) ∧ W.cell? ⟨w.heap.size, 3, none⟩ = some (.int .i64 n) ∧ W.cell? ⟨w.heap.size, 4, none⟩ = some (.int .u64 (b0 : Int)) ∧ W.cell? ⟨w.heap.size, 5, none⟩ = some (.string s))) (by kernel_rfl) (by rw [hw20]; exact mk20 _ (Below.refl _ _)) (fun hS20 => ?_)
      rw [hw20] at hS20 ⊢
      clear hw20
      refine wpAnyH_take (i := 0) (oi := ({ dst := some 59, op := Op.fieldAddr 41 (Operand.tmp 6) 1, type := 0, pos := "pred.go:208", after := #[], guard := none } : Oper)) (v := ?_) rfl (by kernel_rfl) (by kernel_rfl) (by kernel_rfl) (fun _ _ _ h => h) (Or.inl ⟨by rfl, ?_⟩) hS20 ?_
      rotate_left
      · intro w hSw; (try dsimp only at hSw); go_simp; (try with_reducible rfl)
      simp only [Act.put, List.setIfInBounds_toArray, List.set_cons_zero, List.set_cons_succ]
      refine wpAnyH_take (i := 1) (oi := ({ dst := some 60, op := Op.load 3 (Operand.tmp 59), type := 3, pos := "pred.go:208", after := #[{ on := 0, ground := Ground.data }], guard := none } : Oper)) (v := ?_) rfl (by kernel_rfl) (by kernel_rfl) (by kernel_rfl) (fun _ _ _ h => h) (Or.inl ⟨by rfl, ?_⟩) hS20 ?_
      rotate_left
      · intro w hSw; (try dsimp only at hSw); go_simp; (try with_reducible rfl)
      simp only [Act.put, List.setIfInBounds_toArray, List.set_cons_zero, List.set_cons_succ]
      refine wpAnyH_take (i := 4) (oi := ({ dst := some 63, op := Op.build 79 #[(1, Operand.const (Value.string { data := #[61] })), (2, Operand.const (Value.string { data := #[33, 61] })), (3, Operand.const (Value.string { data := #[60] })), (4, Operand.const (Value.string { data := #[60, 61] })), (5, Operand.const (Value.string { data := #[62] })), (6, Operand.const (Value.string { data := #[62, 61] })), (7, Operand.const (Value.string { data := #[63] })), (8, Operand.const (Value.string { data := #[33] }))], type := 79, pos := "pred.go:208", after := #[], guard := none } : Oper)) (v := ?_) rfl (by kernel_rfl) (by kernel_rfl) (by kernel_rfl) (fun _ _ _ h => h) (Or.inl ⟨by rfl, ?_⟩) hS20 ?_
      rotate_left
      · intro w hSw; (try dsimp only at hSw); go_simp; (try with_reducible rfl)
      simp only [Act.put, List.setIfInBounds_toArray, List.set_cons_zero, List.set_cons_succ]
      refine wpAnyH_take (i := 5) (oi := ({ dst := some 64, op := Op.fieldAddr 41 (Operand.tmp 6) 0, type := 0, pos := "pred.go:208", after := #[], guard := none } : Oper)) (v := ?_) rfl (by kernel_rfl) (by kernel_rfl) (by kernel_rfl) (fun _ _ _ h => h) (Or.inl ⟨by rfl, ?_⟩) hS20 ?_
      rotate_left
      · intro w hSw; (try dsimp only at hSw); go_simp; (try with_reducible rfl)
      simp only [Act.put, List.setIfInBounds_toArray, List.set_cons_zero, List.set_cons_succ]
      refine wpAnyH_take (i := 6) (oi := ({ dst := some 65, op := Op.load 3 (Operand.tmp 64), type := 3, pos := "pred.go:208", after := #[{ on := 5, ground := Ground.data }], guard := none } : Oper)) (v := ?_) rfl (by kernel_rfl) (by kernel_rfl) (by kernel_rfl) (fun _ _ _ h => h) (Or.inl ⟨by rfl, ?_⟩) hS20 ?_
      rotate_left
      · intro w hSw; (try dsimp only at hSw); go_simp; (try with_reducible rfl)
      simp only [Act.put, List.setIfInBounds_toArray, List.set_cons_zero, List.set_cons_succ]
      refine wpAnyH_take (i := 7) (oi := ({ dst := some 66, op := Op.index 79 (Operand.tmp 63) (Operand.tmp 65), type := 9, pos := "pred.go:208", after := #[{ on := 4, ground := Ground.data }, { on := 6, ground := Ground.data }], guard := none } : Oper)) (v := ?_) rfl (by kernel_rfl) (by kernel_rfl) (by kernel_rfl) (fun _ _ _ h => h) (Or.inl ⟨by rfl, ?_⟩) hS20 ?_
      rotate_left
      · intro w hSw; (try dsimp only at hSw); go_simp; (try with_reducible rfl)
      simp only [Act.put, List.setIfInBounds_toArray, List.set_cons_zero, List.set_cons_succ]
      refine wpAnyH_ready (rs := [2]) (by kernel_rfl) (by simp) ?_
      refine AllReadyH.cons (o := ({ dst := some 61, op := Op.call { callee := Callee.value (Operand.func 41), args := #[Operand.tmp 60], argTypes := #[3] }, type := 9, pos := "pred.go:208", after := #[{ on := 1, ground := Ground.data }], guard := none } : Oper)) rfl (fun K hK => ?_) AllReadyH.nil
      go_simp
      refine (cd.out _).mono ?_; rintro e w21 ⟨rfl, hb21⟩
      go_wp2_with fail
      refine hK.out _ _ (mk20 _ (hnext hS20.1 hb21)) (fun hS21 => ?_)
      clear hK K
      (try simp only [Act.put, List.setIfInBounds_toArray, List.set_cons_zero, List.set_cons_succ])
      clear hb21 hS20
      refine wpAnyH_take (i := 3) (oi := ({ dst := some 62, op := Op.binOp BinOp.add 9 (Operand.const (Value.string { data := #[99] })) (Operand.tmp 61) 9, type := 9, pos := "pred.go:208", after := #[{ on := 2, ground := Ground.data }], guard := none } : Oper)) (v := ?_) rfl (by kernel_rfl) (by kernel_rfl) (by kernel_rfl) (fun _ _ _ h => h) (Or.inl ⟨by rfl, ?_⟩) hS21 ?_
      rotate_left
      · intro w hSw; (try dsimp only at hSw); go_simp; (try with_reducible rfl)
      simp only [Act.put, List.setIfInBounds_toArray, List.set_cons_zero, List.set_cons_succ]
      refine wpAnyH_take (i := 8) (oi := ({ dst := some 67, op := Op.binOp BinOp.add 9 (Operand.tmp 62) (Operand.tmp 66) 9, type := 9, pos := "pred.go:208", after := #[{ on := 3, ground := Ground.data }, { on := 7, ground := Ground.data }], guard := none } : Oper)) (v := ?_) rfl (by kernel_rfl) (by kernel_rfl) (by kernel_rfl) (fun _ _ _ h => h) (Or.inl ⟨by rfl, ?_⟩) hS21 ?_
      rotate_left
      · intro w hSw; (try dsimp only at hSw); go_simp; (try with_reducible rfl)
      simp only [Act.put, List.setIfInBounds_toArray, List.set_cons_zero, List.set_cons_succ]
      refine wpAnyH_take (i := 9) (oi := ({ dst := some 13, op := Op.assign (Operand.tmp 67), type := 9, pos := "pred.go:208", after := #[{ on := 8, ground := Ground.data }, { on := 2, ground := Ground.chain }, { on := 0, ground := Ground.phase }, { on := 1, ground := Ground.phase }, { on := 2, ground := Ground.phase }, { on := 3, ground := Ground.phase }, { on := 4, ground := Ground.phase }, { on := 5, ground := Ground.phase }, { on := 6, ground := Ground.phase }, { on := 7, ground := Ground.phase }, { on := 8, ground := Ground.phase }], guard := none } : Oper)) (v := ?_) rfl (by kernel_rfl) (by kernel_rfl) (by kernel_rfl) (fun _ _ _ h => h) (Or.inl ⟨by rfl, ?_⟩) hS21 ?_
      rotate_left
      · intro w hSw; (try dsimp only at hSw); go_simp; (try with_reducible rfl)
      simp only [Act.put, List.setIfInBounds_toArray, List.set_cons_zero, List.set_cons_succ]
      refine wpAnyH_done (by kernel_rfl) ?_ _
      have LZ := hid (hnext LB.out (hnext hd20 hS21.1))
      obtain ⟨_, e0, e1, e2, e3, e4, e5⟩ := hS21
      go_wp2_with fail
      refine (cs.out _).mono ?_; rintro e w30 ⟨rfl, b30⟩
      go_wp2_with fail
      refine bodyPost_ret (v := .tuple #[.string S3, .int .i64 ((i + 1 : Nat) : Int)]) (by simp [results, Try.results33, go_sem]) rfl ?_
      rw [HR.out, HS3.out]
      exact ⟨rfl, hnext LZ.out b30⟩
    · have hi := fun w => (idx_sign w).2.1
      have hj2 : bstr (99 :: D) ++ (⟨#[33, 61]⟩ : ByteArray) = bstr (99 :: D ++ [33, 61]) := bstr_append _ [33, 61]
      have hq1 : ¬ 9223372036854775807 < 1 + (bstr D).size := by omega
      have hq2 : ¬ 9223372036854775807 < (bstr (99 :: D)).size + 2 := by omega
      have hz2 : (bstr (99 :: D ++ [33, 61])).size ≤ 24 := by show (99 :: D ++ [33, 61]).length ≤ 24; rw [List.length_append]; have : (99 :: D).length ≤ 22 := hz1; simp at this ⊢; omega
      have hj3 : bstr (99 :: D ++ [33, 61]) ++ bstr V = bstr (99 :: (D ++ ([33, 61] ++ V))) := (bstr_append _ _).trans (by simp)
      have HR : Hid ((T.leaf ⟨2, c, ⟨k, n, b0, s⟩⟩).txt = 99 :: (D ++ ([33, 61] ++ V))) := HT.out _ rfl
      generalize hS3 : bstr (99 :: (D ++ ([33, 61] ++ V))) = S3 at *
      have HS3 := hid hS3
      clear hS3
      generalize hS2 : bstr (99 :: D ++ [33, 61]) = S2 at *
      have HS2 := hid hS2
      clear hS2
      generalize bstr (99 :: D) = S1 at *
      have bn := hid (BN.new 41 w ⟨2, c, ⟨k, n, b0, s⟩⟩)
      have LB := hid (hba w (.cells #[.int .i64 2, .int .i64 c, .int .i64 k, .int .i64 n, .int .u64 (b0 : Int), .string s] 41))
      clear HT o1 o2
      go_enter Try.func33, Try.ntmps33
      go_wp2_with fail
      obtain ⟨w20, hw20⟩ : ∃ w20, ((w.alloc (.cells #[.int .i64 2, .int .i64 c, .int .i64 k, .int .i64 n, .int .u64 (b0 : Int), .string s] 41))).drew = w20 := ⟨_, rfl⟩
      have hd20 : Below ((w.alloc (.cells #[.int .i64 2, .int .i64 c, .int .i64 k, .int .i64 n, .int .u64 (b0 : Int), .string s] 41))).heap.size ((w.alloc (.cells #[.int .i64 2, .int .i64 c, .int .i64 k, .int .i64 n, .int .u64 (b0 : Int), .string s] 41))) w20 := hw20 ▸ (Below.refl _ _).drew
      have BZ := BN.keep bn.out hd20
      obtain ⟨y0, y1, y2, y3, y4, y5, _, _, _, _, _, _, yl⟩ := BZ.cells
      simp only at y0 y1 y2 y3 y4 y5
      have mk20 : ∀ W, Below w20.heap.size w20 W → Below w20.heap.size w20 W ∧ W.cell? ⟨w.heap.size, 0, none⟩ = some (.int .i64 2) ∧ W.cell? ⟨w.heap.size, 1, none⟩ = some (.int .i64 c) ∧ W.cell? ⟨w.heap.size, 2, none⟩ = some (.int .i64 k) ∧ W.cell? ⟨w.heap.size, 3, none⟩ = some (.int .i64 n) ∧ W.cell? ⟨w.heap.size, 4, none⟩ = some (.int .u64 (b0 : Int)) ∧ W.cell? ⟨w.heap.size, 5, none⟩ = some (.string s) := fun W h => ⟨h, hkeep y0 h, hkeep y1 h, hkeep y2 h, hkeep y3 h, hkeep y4 h, hkeep y5 h⟩
      clear y0 y1 y2 y3 y4 y5 BZ
      refine wp_region_held_drew (S := (fun W => Below w20.heap.size w20 W ∧ W.cell? ⟨w.heap.size, 0, none⟩ = some (.int .i64 2) ∧ W.cell? ⟨w.heap.size, 1, none⟩ = some (.int .i64 c) ∧ W.cell? ⟨w.heap.size, 2, none⟩ = some (.int .i64 k) ∧ W.cell? ⟨w.heap.size, 3, none⟩ = some (.int .i64 n) ∧ W.cell? ⟨w.heap.size, 4, none⟩ = some (.int .u64 (b0 : Int)) ∧ W.cell? ⟨w.heap.size, 5, none⟩ = some (.string s))) (by kernel_rfl) (by rw [hw20]; exact mk20 _ (Below.refl _ _)) (fun hS20 => ?_)
      rw [hw20] at hS20 ⊢
      clear hw20
      refine wpAnyH_take (i := 0) (oi := ({ dst := some 59, op := Op.fieldAddr 41 (Operand.tmp 6) 1, type := 0, pos := "pred.go:208", after := #[], guard := none } : Oper)) (v := ?_) rfl (by kernel_rfl) (by kernel_rfl) (by kernel_rfl) (fun _ _ _ h => h) (Or.inl ⟨by rfl, ?_⟩) hS20 ?_
      rotate_left
      · intro w hSw; (try dsimp only at hSw); go_simp; (try with_reducible rfl)
      simp only [Act.put, List.setIfInBounds_toArray, List.set_cons_zero, List.set_cons_succ]
      refine wpAnyH_take (i := 1) (oi := ({ dst := some 60, op := Op.load 3 (Operand.tmp 59), type := 3, pos := "pred.go:208", after := #[{ on := 0, ground := Ground.data }], guard := none } : Oper)) (v := ?_) rfl (by kernel_rfl) (by kernel_rfl) (by kernel_rfl) (fun _ _ _ h => h) (Or.inl ⟨by rfl, ?_⟩) hS20 ?_
      rotate_left
      · intro w hSw; (try dsimp only at hSw); go_simp; (try with_reducible rfl)
      simp only [Act.put, List.setIfInBounds_toArray, List.set_cons_zero, List.set_cons_succ]
      refine wpAnyH_take (i := 4) (oi := ({ dst := some 63, op := Op.build 79 #[(1, Operand.const (Value.string { data := #[61] })), (2, Operand.const (Value.string { data := #[33, 61] })), (3, Operand.const (Value.string { data := #[60] })), (4, Operand.const (Value.string { data := #[60, 61] })), (5, Operand.const (Value.string { data := #[62] })), (6, Operand.const (Value.string { data := #[62, 61] })), (7, Operand.const (Value.string { data := #[63] })), (8, Operand.const (Value.string { data := #[33] }))], type := 79, pos := "pred.go:208", after := #[], guard := none } : Oper)) (v := ?_) rfl (by kernel_rfl) (by kernel_rfl) (by kernel_rfl) (fun _ _ _ h => h) (Or.inl ⟨by rfl, ?_⟩) hS20 ?_
      rotate_left
      · intro w hSw; (try dsimp only at hSw); go_simp; (try with_reducible rfl)
      simp only [Act.put, List.setIfInBounds_toArray, List.set_cons_zero, List.set_cons_succ]
      refine wpAnyH_take (i := 5) (oi := ({ dst := some 64, op := Op.fieldAddr 41 (Operand.tmp 6) 0, type := 0, pos := "pred.go:208", after := #[], guard := none } : Oper)) (v := ?_) rfl (by kernel_rfl) (by kernel_rfl) (by kernel_rfl) (fun _ _ _ h => h) (Or.inl ⟨by rfl, ?_⟩) hS20 ?_
      rotate_left
      · intro w hSw; (try dsimp only at hSw); go_simp; (try with_reducible rfl)
      simp only [Act.put, List.setIfInBounds_toArray, List.set_cons_zero, List.set_cons_succ]
      refine wpAnyH_take (i := 6) (oi := ({ dst := some 65, op := Op.load 3 (Operand.tmp 64), type := 3, pos := "pred.go:208", after := #[{ on := 5, ground := Ground.data }], guard := none } : Oper)) (v := ?_) rfl (by kernel_rfl) (by kernel_rfl) (by kernel_rfl) (fun _ _ _ h => h) (Or.inl ⟨by rfl, ?_⟩) hS20 ?_
      rotate_left
      · intro w hSw; (try dsimp only at hSw); go_simp; (try with_reducible rfl)
      simp only [Act.put, List.setIfInBounds_toArray, List.set_cons_zero, List.set_cons_succ]
      refine wpAnyH_take (i := 7) (oi := ({ dst := some 66, op := Op.index 79 (Operand.tmp 63) (Operand.tmp 65), type := 9, pos := "pred.go:208", after := #[{ on := 4, ground := Ground.data }, { on := 6, ground := Ground.data }], guard := none } : Oper)) (v := ?_) rfl (by kernel_rfl) (by kernel_rfl) (by kernel_rfl) (fun _ _ _ h => h) (Or.inl ⟨by rfl, ?_⟩) hS20 ?_
      rotate_left
      · intro w hSw; (try dsimp only at hSw); go_simp; (try with_reducible rfl)
      simp only [Act.put, List.setIfInBounds_toArray, List.set_cons_zero, List.set_cons_succ]
      refine wpAnyH_ready (rs := [2]) (by kernel_rfl) (by simp) ?_
      refine AllReadyH.cons (o := ({ dst := some 61, op := Op.call { callee := Callee.value (Operand.func 41), args := #[Operand.tmp 60], argTypes := #[3] }, type := 9, pos := "pred.go:208", after := #[{ on := 1, ground := Ground.data }], guard := none } : Oper)) rfl (fun K hK => ?_) AllReadyH.nil
      go_simp
      refine (cd.out _).mono ?_; rintro e w21 ⟨rfl, hb21⟩
      go_wp2_with fail
      refine hK.out _ _ (mk20 _ (hnext hS20.1 hb21)) (fun hS21 => ?_)
      clear hK K
      (try simp only [Act.put, List.setIfInBounds_toArray, List.set_cons_zero, List.set_cons_succ])
      clear hb21 hS20
      refine wpAnyH_take (i := 3) (oi := ({ dst := some 62, op := Op.binOp BinOp.add 9 (Operand.const (Value.string { data := #[99] })) (Operand.tmp 61) 9, type := 9, pos := "pred.go:208", after := #[{ on := 2, ground := Ground.data }], guard := none } : Oper)) (v := ?_) rfl (by kernel_rfl) (by kernel_rfl) (by kernel_rfl) (fun _ _ _ h => h) (Or.inl ⟨by rfl, ?_⟩) hS21 ?_
      rotate_left
      · intro w hSw; (try dsimp only at hSw); go_simp; (try with_reducible rfl)
      simp only [Act.put, List.setIfInBounds_toArray, List.set_cons_zero, List.set_cons_succ]
      refine wpAnyH_take (i := 8) (oi := ({ dst := some 67, op := Op.binOp BinOp.add 9 (Operand.tmp 62) (Operand.tmp 66) 9, type := 9, pos := "pred.go:208", after := #[{ on := 3, ground := Ground.data }, { on := 7, ground := Ground.data }], guard := none } : Oper)) (v := ?_) rfl (by kernel_rfl) (by kernel_rfl) (by kernel_rfl) (fun _ _ _ h => h) (Or.inl ⟨by rfl, ?_⟩) hS21 ?_
      rotate_left
      · intro w hSw; (try dsimp only at hSw); go_simp; (try with_reducible rfl)
      simp only [Act.put, List.setIfInBounds_toArray, List.set_cons_zero, List.set_cons_succ]
      refine wpAnyH_take (i := 9) (oi := ({ dst := some 13, op := Op.assign (Operand.tmp 67), type := 9, pos := "pred.go:208", after := #[{ on := 8, ground := Ground.data }, { on := 2, ground := Ground.chain }, { on := 0, ground := Ground.phase }, { on := 1, ground := Ground.phase }, { on := 2, ground := Ground.phase }, { on := 3, ground := Ground.phase }, { on := 4, ground := Ground.phase }, { on := 5, ground := Ground.phase }, { on := 6, ground := Ground.phase }, { on := 7, ground := Ground.phase }, { on := 8, ground := Ground.phase }], guard := none } : Oper)) (v := ?_) rfl (by kernel_rfl) (by kernel_rfl) (by kernel_rfl) (fun _ _ _ h => h) (Or.inl ⟨by rfl, ?_⟩) hS21 ?_
      rotate_left
      · intro w hSw; (try dsimp only at hSw); go_simp; (try with_reducible rfl)
      simp only [Act.put, List.setIfInBounds_toArray, List.set_cons_zero, List.set_cons_succ]
      refine wpAnyH_done (by kernel_rfl) ?_ _
      have LZ := hid (hnext LB.out (hnext hd20 hS21.1))
      obtain ⟨_, e0, e1, e2, e3, e4, e5⟩ := hS21
      go_wp2_with fail
      refine (cs.out _).mono ?_; rintro e w30 ⟨rfl, b30⟩
      go_wp2_with fail
      refine bodyPost_ret (v := .tuple #[.string S3, .int .i64 ((i + 1 : Nat) : Int)]) (by simp [results, Try.results33, go_sem]) rfl ?_
      rw [HR.out, HS3.out]
      exact ⟨rfl, hnext LZ.out b30⟩
    · have hi := fun w => (idx_sign w).2.2.1
      have hj2 : bstr (99 :: D) ++ (⟨#[60]⟩ : ByteArray) = bstr (99 :: D ++ [60]) := bstr_append _ [60]
      have hq1 : ¬ 9223372036854775807 < 1 + (bstr D).size := by omega
      have hq2 : ¬ 9223372036854775807 < (bstr (99 :: D)).size + 1 := by omega
      have hz2 : (bstr (99 :: D ++ [60])).size ≤ 24 := by show (99 :: D ++ [60]).length ≤ 24; rw [List.length_append]; have : (99 :: D).length ≤ 22 := hz1; simp at this ⊢; omega
      have hj3 : bstr (99 :: D ++ [60]) ++ bstr V = bstr (99 :: (D ++ ([60] ++ V))) := (bstr_append _ _).trans (by simp)
      have HR : Hid ((T.leaf ⟨3, c, ⟨k, n, b0, s⟩⟩).txt = 99 :: (D ++ ([60] ++ V))) := HT.out _ rfl
      generalize hS3 : bstr (99 :: (D ++ ([60] ++ V))) = S3 at *
      have HS3 := hid hS3
      clear hS3
      generalize hS2 : bstr (99 :: D ++ [60]) = S2 at *
      have HS2 := hid hS2
      clear hS2
      generalize bstr (99 :: D) = S1 at *
      have bn := hid (BN.new 41 w ⟨3, c, ⟨k, n, b0, s⟩⟩)
      have LB := hid (hba w (.cells #[.int .i64 3, .int .i64 c, .int .i64 k, .int .i64 n, .int .u64 (b0 : Int), .string s] 41))
      clear HT o1 o2
      go_enter Try.func33, Try.ntmps33
      go_wp2_with fail
      obtain ⟨w20, hw20⟩ : ∃ w20, ((w.alloc (.cells #[.int .i64 3, .int .i64 c, .int .i64 k, .int .i64 n, .int .u64 (b0 : Int), .string s] 41))).drew = w20 := ⟨_, rfl⟩
      have hd20 : Below ((w.alloc (.cells #[.int .i64 3, .int .i64 c, .int .i64 k, .int .i64 n, .int .u64 (b0 : Int), .string s] 41))).heap.size ((w.alloc (.cells #[.int .i64 3, .int .i64 c, .int .i64 k, .int .i64 n, .int .u64 (b0 : Int), .string s] 41))) w20 := hw20 ▸ (Below.refl _ _).drew
      have BZ := BN.keep bn.out hd20
      obtain ⟨y0, y1, y2, y3, y4, y5, _, _, _, _, _, _, yl⟩ := BZ.cells
      simp only at y0 y1 y2 y3 y4 y5
      have mk20 : ∀ W, Below w20.heap.size w20 W → Below w20.heap.size w20 W ∧ W.cell? ⟨w.heap.size, 0, none⟩ = some (.int .i64 3) ∧ W.cell? ⟨w.heap.size, 1, none⟩ = some (.int .i64 c) ∧ W.cell? ⟨w.heap.size, 2, none⟩ = some (.int .i64 k) ∧ W.cell? ⟨w.heap.size, 3, none⟩ = some (.int .i64 n) ∧ W.cell? ⟨w.heap.size, 4, none⟩ = some (.int .u64 (b0 : Int)) ∧ W.cell? ⟨w.heap.size, 5, none⟩ = some (.string s) := fun W h => ⟨h, hkeep y0 h, hkeep y1 h, hkeep y2 h, hkeep y3 h, hkeep y4 h, hkeep y5 h⟩
      clear y0 y1 y2 y3 y4 y5 BZ
      refine wp_region_held_drew (S := (fun W => Below w20.heap.size w20 W ∧ W.cell? ⟨w.heap.size, 0, none⟩ = some (.int .i64 3) ∧ W.cell? ⟨w.heap.size, 1, none⟩ = some (.int .i64 c) ∧ W.cell? ⟨w.heap.size, 2, none⟩ = some (.int .i64 k) ∧ W.cell? ⟨w.heap.size, 3, none⟩ = some (.int .i64 n) ∧ W.cell? ⟨w.heap.size, 4, none⟩ = some (.int .u64 (b0 : Int)) ∧ W.cell? ⟨w.heap.size, 5, none⟩ = some (.string s))) (by kernel_rfl) (by rw [hw20]; exact mk20 _ (Below.refl _ _)) (fun hS20 => ?_)
      rw [hw20] at hS20 ⊢
      clear hw20
      refine wpAnyH_take (i := 0) (oi := ({ dst := some 59, op := Op.fieldAddr 41 (Operand.tmp 6) 1, type := 0, pos := "pred.go:208", after := #[], guard := none } : Oper)) (v := ?_) rfl (by kernel_rfl) (by kernel_rfl) (by kernel_rfl) (fun _ _ _ h => h) (Or.inl ⟨by rfl, ?_⟩) hS20 ?_
      rotate_left
      · intro w hSw; (try dsimp only at hSw); go_simp; (try with_reducible rfl)
      simp only [Act.put, List.setIfInBounds_toArray, List.set_cons_zero, List.set_cons_succ]
      refine wpAnyH_take (i := 1) (oi := ({ dst := some 60, op := Op.load 3 (Operand.tmp 59), type := 3, pos := "pred.go:208", after := #[{ on := 0, ground := Ground.data }], guard := none } : Oper)) (v := ?_) rfl (by kernel_rfl) (by kernel_rfl) (by kernel_rfl) (fun _ _ _ h => h) (Or.inl ⟨by rfl, ?_⟩) hS20 ?_
      rotate_left
      · intro w hSw; (try dsimp only at hSw); go_simp; (try with_reducible rfl)
      simp only [Act.put, List.setIfInBounds_toArray, List.set_cons_zero, List.set_cons_succ]
      refine wpAnyH_take (i := 4) (oi := ({ dst := some 63, op := Op.build 79 #[(1, Operand.const (Value.string { data := #[61] })), (2, Operand.const (Value.string { data := #[33, 61] })), (3, Operand.const (Value.string { data := #[60] })), (4, Operand.const (Value.string { data := #[60, 61] })), (5, Operand.const (Value.string { data := #[62] })), (6, Operand.const (Value.string { data := #[62, 61] })), (7, Operand.const (Value.string { data := #[63] })), (8, Operand.const (Value.string { data := #[33] }))], type := 79, pos := "pred.go:208", after := #[], guard := none } : Oper)) (v := ?_) rfl (by kernel_rfl) (by kernel_rfl) (by kernel_rfl) (fun _ _ _ h => h) (Or.inl ⟨by rfl, ?_⟩) hS20 ?_
      rotate_left
      · intro w hSw; (try dsimp only at hSw); go_simp; (try with_reducible rfl)
      simp only [Act.put, List.setIfInBounds_toArray, List.set_cons_zero, List.set_cons_succ]
      refine wpAnyH_take (i := 5) (oi := ({ dst := some 64, op := Op.fieldAddr 41 (Operand.tmp 6) 0, type := 0, pos := "pred.go:208", after := #[], guard := none } : Oper)) (v := ?_) rfl (by kernel_rfl) (by kernel_rfl) (by kernel_rfl) (fun _ _ _ h => h) (Or.inl ⟨by rfl, ?_⟩) hS20 ?_
      rotate_left
      · intro w hSw; (try dsimp only at hSw); go_simp; (try with_reducible rfl)
      simp only [Act.put, List.setIfInBounds_toArray, List.set_cons_zero, List.set_cons_succ]
      refine wpAnyH_take (i := 6) (oi := ({ dst := some 65, op := Op.load 3 (Operand.tmp 64), type := 3, pos := "pred.go:208", after := #[{ on := 5, ground := Ground.data }], guard := none } : Oper)) (v := ?_) rfl (by kernel_rfl) (by kernel_rfl) (by kernel_rfl) (fun _ _ _ h => h) (Or.inl ⟨by rfl, ?_⟩) hS20 ?_
      rotate_left
      · intro w hSw; (try dsimp only at hSw); go_simp; (try with_reducible rfl)
      simp only [Act.put, List.setIfInBounds_toArray, List.set_cons_zero, List.set_cons_succ]
      refine wpAnyH_take (i := 7) (oi := ({ dst := some 66, op := Op.index 79 (Operand.tmp 63) (Operand.tmp 65), type := 9, pos := "pred.go:208", after := #[{ on := 4, ground := Ground.data }, { on := 6, ground := Ground.data }], guard := none } : Oper)) (v := ?_) rfl (by kernel_rfl) (by kernel_rfl) (by kernel_rfl) (fun _ _ _ h => h) (Or.inl ⟨by rfl, ?_⟩) hS20 ?_
      rotate_left
      · intro w hSw; (try dsimp only at hSw); go_simp; (try with_reducible rfl)
      simp only [Act.put, List.setIfInBounds_toArray, List.set_cons_zero, List.set_cons_succ]
      refine wpAnyH_ready (rs := [2]) (by kernel_rfl) (by simp) ?_
      refine AllReadyH.cons (o := ({ dst := some 61, op := Op.call { callee := Callee.value (Operand.func 41), args := #[Operand.tmp 60], argTypes := #[3] }, type := 9, pos := "pred.go:208", after := #[{ on := 1, ground := Ground.data }], guard := none } : Oper)) rfl (fun K hK => ?_) AllReadyH.nil
      go_simp
      refine (cd.out _).mono ?_; rintro e w21 ⟨rfl, hb21⟩
      go_wp2_with fail
      refine hK.out _ _ (mk20 _ (hnext hS20.1 hb21)) (fun hS21 => ?_)
      clear hK K
      (try simp only [Act.put, List.setIfInBounds_toArray, List.set_cons_zero, List.set_cons_succ])
      clear hb21 hS20
      refine wpAnyH_take (i := 3) (oi := ({ dst := some 62, op := Op.binOp BinOp.add 9 (Operand.const (Value.string { data := #[99] })) (Operand.tmp 61) 9, type := 9, pos := "pred.go:208", after := #[{ on := 2, ground := Ground.data }], guard := none } : Oper)) (v := ?_) rfl (by kernel_rfl) (by kernel_rfl) (by kernel_rfl) (fun _ _ _ h => h) (Or.inl ⟨by rfl, ?_⟩) hS21 ?_
      rotate_left
      · intro w hSw; (try dsimp only at hSw); go_simp; (try with_reducible rfl)
      simp only [Act.put, List.setIfInBounds_toArray, List.set_cons_zero, List.set_cons_succ]
      refine wpAnyH_take (i := 8) (oi := ({ dst := some 67, op := Op.binOp BinOp.add 9 (Operand.tmp 62) (Operand.tmp 66) 9, type := 9, pos := "pred.go:208", after := #[{ on := 3, ground := Ground.data }, { on := 7, ground := Ground.data }], guard := none } : Oper)) (v := ?_) rfl (by kernel_rfl) (by kernel_rfl) (by kernel_rfl) (fun _ _ _ h => h) (Or.inl ⟨by rfl, ?_⟩) hS21 ?_
      rotate_left
      · intro w hSw; (try dsimp only at hSw); go_simp; (try with_reducible rfl)
      simp only [Act.put, List.setIfInBounds_toArray, List.set_cons_zero, List.set_cons_succ]
      refine wpAnyH_take (i := 9) (oi := ({ dst := some 13, op := Op.assign (Operand.tmp 67), type := 9, pos := "pred.go:208", after := #[{ on := 8, ground := Ground.data }, { on := 2, ground := Ground.chain }, { on := 0, ground := Ground.phase }, { on := 1, ground := Ground.phase }, { on := 2, ground := Ground.phase }, { on := 3, ground := Ground.phase }, { on := 4, ground := Ground.phase }, { on := 5, ground := Ground.phase }, { on := 6, ground := Ground.phase }, { on := 7, ground := Ground.phase }, { on := 8, ground := Ground.phase }], guard := none } : Oper)) (v := ?_) rfl (by kernel_rfl) (by kernel_rfl) (by kernel_rfl) (fun _ _ _ h => h) (Or.inl ⟨by rfl, ?_⟩) hS21 ?_
      rotate_left
      · intro w hSw; (try dsimp only at hSw); go_simp; (try with_reducible rfl)
      simp only [Act.put, List.setIfInBounds_toArray, List.set_cons_zero, List.set_cons_succ]
      refine wpAnyH_done (by kernel_rfl) ?_ _
      have LZ := hid (hnext LB.out (hnext hd20 hS21.1))
      obtain ⟨_, e0, e1, e2, e3, e4, e5⟩ := hS21
      go_wp2_with fail
      refine (cs.out _).mono ?_; rintro e w30 ⟨rfl, b30⟩
      go_wp2_with fail
      refine bodyPost_ret (v := .tuple #[.string S3, .int .i64 ((i + 1 : Nat) : Int)]) (by simp [results, Try.results33, go_sem]) rfl ?_
      rw [HR.out, HS3.out]
      exact ⟨rfl, hnext LZ.out b30⟩
    · have hi := fun w => (idx_sign w).2.2.2.1
      have hj2 : bstr (99 :: D) ++ (⟨#[60, 61]⟩ : ByteArray) = bstr (99 :: D ++ [60, 61]) := bstr_append _ [60, 61]
      have hq1 : ¬ 9223372036854775807 < 1 + (bstr D).size := by omega
      have hq2 : ¬ 9223372036854775807 < (bstr (99 :: D)).size + 2 := by omega
      have hz2 : (bstr (99 :: D ++ [60, 61])).size ≤ 24 := by show (99 :: D ++ [60, 61]).length ≤ 24; rw [List.length_append]; have : (99 :: D).length ≤ 22 := hz1; simp at this ⊢; omega
      have hj3 : bstr (99 :: D ++ [60, 61]) ++ bstr V = bstr (99 :: (D ++ ([60, 61] ++ V))) := (bstr_append _ _).trans (by simp)
      have HR : Hid ((T.leaf ⟨4, c, ⟨k, n, b0, s⟩⟩).txt = 99 :: (D ++ ([60, 61] ++ V))) := HT.out _ rfl
      generalize hS3 : bstr (99 :: (D ++ ([60, 61] ++ V))) = S3 at *
      have HS3 := hid hS3
      clear hS3
      generalize hS2 : bstr (99 :: D ++ [60, 61]) = S2 at *
      have HS2 := hid hS2
      clear hS2
      generalize bstr (99 :: D) = S1 at *
      have bn := hid (BN.new 41 w ⟨4, c, ⟨k, n, b0, s⟩⟩)
      have LB := hid (hba w (.cells #[.int .i64 4, .int .i64 c, .int .i64 k, .int .i64 n, .int .u64 (b0 : Int), .string s] 41))
      clear HT o1 o2
      go_enter Try.func33, Try.ntmps33
      go_wp2_with fail
      obtain ⟨w20, hw20⟩ : ∃ w20, ((w.alloc (.cells #[.int .i64 4, .int .i64 c, .int .i64 k, .int .i64 n, .int .u64 (b0 : Int), .string s] 41))).drew = w20 := ⟨_, rfl⟩
      have hd20 : Below ((w.alloc (.cells #[.int .i64 4, .int .i64 c, .int .i64 k, .int .i64 n, .int .u64 (b0 : Int), .string s] 41))).heap.size ((w.alloc (.cells #[.int .i64 4, .int .i64 c, .int .i64 k, .int .i64 n, .int .u64 (b0 : Int), .string s] 41))) w20 := hw20 ▸ (Below.refl _ _).drew
      have BZ := BN.keep bn.out hd20
      obtain ⟨y0, y1, y2, y3, y4, y5, _, _, _, _, _, _, yl⟩ := BZ.cells
      simp only at y0 y1 y2 y3 y4 y5
      have mk20 : ∀ W, Below w20.heap.size w20 W → Below w20.heap.size w20 W ∧ W.cell? ⟨w.heap.size, 0, none⟩ = some (.int .i64 4) ∧ W.cell? ⟨w.heap.size, 1, none⟩ = some (.int .i64 c) ∧ W.cell? ⟨w.heap.size, 2, none⟩ = some (.int .i64 k) ∧ W.cell? ⟨w.heap.size, 3, none⟩ = some (.int .i64 n) ∧ W.cell? ⟨w.heap.size, 4, none⟩ = some (.int .u64 (b0 : Int)) ∧ W.cell? ⟨w.heap.size, 5, none⟩ = some (.string s) := fun W h => ⟨h, hkeep y0 h, hkeep y1 h, hkeep y2 h, hkeep y3 h, hkeep y4 h, hkeep y5 h⟩
      clear y0 y1 y2 y3 y4 y5 BZ
      refine wp_region_held_drew (S := (fun W => Below w20.heap.size w20 W ∧ W.cell? ⟨w.heap.size, 0, none⟩ = some (.int .i64 4) ∧ W.cell? ⟨w.heap.size, 1, none⟩ = some (.int .i64 c) ∧ W.cell? ⟨w.heap.size, 2, none⟩ = some (.int .i64 k) ∧ W.cell? ⟨w.heap.size, 3, none⟩ = some (.int .i64 n) ∧ W.cell? ⟨w.heap.size, 4, none⟩ = some (.int .u64 (b0 : Int)) ∧ W.cell? ⟨w.heap.size, 5, none⟩ = some (.string s))) (by kernel_rfl) (by rw [hw20]; exact mk20 _ (Below.refl _ _)) (fun hS20 => ?_)
      rw [hw20] at hS20 ⊢
      clear hw20
      refine wpAnyH_take (i := 0) (oi := ({ dst := some 59, op := Op.fieldAddr 41 (Operand.tmp 6) 1, type := 0, pos := "pred.go:208", after := #[], guard := none } : Oper)) (v := ?_) rfl (by kernel_rfl) (by kernel_rfl) (by kernel_rfl) (fun _ _ _ h => h) (Or.inl ⟨by rfl, ?_⟩) hS20 ?_
      rotate_left
      · intro w hSw; (try dsimp only at hSw); go_simp; (try with_reducible rfl)
      simp only [Act.put, List.setIfInBounds_toArray, List.set_cons_zero, List.set_cons_succ]
      refine wpAnyH_take (i := 1) (oi := ({ dst := some 60, op := Op.load 3 (Operand.tmp 59), type := 3, pos := "pred.go:208", after := #[{ on := 0, ground := Ground.data }], guard := none } : Oper)) (v := ?_) rfl (by kernel_rfl) (by kernel_rfl) (by kernel_rfl) (fun _ _ _ h => h) (Or.inl ⟨by rfl, ?_⟩) hS20 ?_
      rotate_left
      · intro w hSw; (try dsimp only at hSw); go_simp; (try with_reducible rfl)
      simp only [Act.put, List.setIfInBounds_toArray, List.set_cons_zero, List.set_cons_succ]
      refine wpAnyH_take (i := 4) (oi := ({ dst := some 63, op := Op.build 79 #[(1, Operand.const (Value.string { data := #[61] })), (2, Operand.const (Value.string { data := #[33, 61] })), (3, Operand.const (Value.string { data := #[60] })), (4, Operand.const (Value.string { data := #[60, 61] })), (5, Operand.const (Value.string { data := #[62] })), (6, Operand.const (Value.string { data := #[62, 61] })), (7, Operand.const (Value.string { data := #[63] })), (8, Operand.const (Value.string { data := #[33] }))], type := 79, pos := "pred.go:208", after := #[], guard := none } : Oper)) (v := ?_) rfl (by kernel_rfl) (by kernel_rfl) (by kernel_rfl) (fun _ _ _ h => h) (Or.inl ⟨by rfl, ?_⟩) hS20 ?_
      rotate_left
      · intro w hSw; (try dsimp only at hSw); go_simp; (try with_reducible rfl)
      simp only [Act.put, List.setIfInBounds_toArray, List.set_cons_zero, List.set_cons_succ]
      refine wpAnyH_take (i := 5) (oi := ({ dst := some 64, op := Op.fieldAddr 41 (Operand.tmp 6) 0, type := 0, pos := "pred.go:208", after := #[], guard := none } : Oper)) (v := ?_) rfl (by kernel_rfl) (by kernel_rfl) (by kernel_rfl) (fun _ _ _ h => h) (Or.inl ⟨by rfl, ?_⟩) hS20 ?_
      rotate_left
      · intro w hSw; (try dsimp only at hSw); go_simp; (try with_reducible rfl)
      simp only [Act.put, List.setIfInBounds_toArray, List.set_cons_zero, List.set_cons_succ]
      refine wpAnyH_take (i := 6) (oi := ({ dst := some 65, op := Op.load 3 (Operand.tmp 64), type := 3, pos := "pred.go:208", after := #[{ on := 5, ground := Ground.data }], guard := none } : Oper)) (v := ?_) rfl (by kernel_rfl) (by kernel_rfl) (by kernel_rfl) (fun _ _ _ h => h) (Or.inl ⟨by rfl, ?_⟩) hS20 ?_
      rotate_left
      · intro w hSw; (try dsimp only at hSw); go_simp; (try with_reducible rfl)
      simp only [Act.put, List.setIfInBounds_toArray, List.set_cons_zero, List.set_cons_succ]
      refine wpAnyH_take (i := 7) (oi := ({ dst := some 66, op := Op.index 79 (Operand.tmp 63) (Operand.tmp 65), type := 9, pos := "pred.go:208", after := #[{ on := 4, ground := Ground.data }, { on := 6, ground := Ground.data }], guard := none } : Oper)) (v := ?_) rfl (by kernel_rfl) (by kernel_rfl) (by kernel_rfl) (fun _ _ _ h => h) (Or.inl ⟨by rfl, ?_⟩) hS20 ?_
      rotate_left
      · intro w hSw; (try dsimp only at hSw); go_simp; (try with_reducible rfl)
      simp only [Act.put, List.setIfInBounds_toArray, List.set_cons_zero, List.set_cons_succ]
      refine wpAnyH_ready (rs := [2]) (by kernel_rfl) (by simp) ?_
      refine AllReadyH.cons (o := ({ dst := some 61, op := Op.call { callee := Callee.value (Operand.func 41), args := #[Operand.tmp 60], argTypes := #[3] }, type := 9, pos := "pred.go:208", after := #[{ on := 1, ground := Ground.data }], guard := none } : Oper)) rfl (fun K hK => ?_) AllReadyH.nil
      go_simp
      refine (cd.out _).mono ?_; rintro e w21 ⟨rfl, hb21⟩
      go_wp2_with fail
      refine hK.out _ _ (mk20 _ (hnext hS20.1 hb21)) (fun hS21 => ?_)
      clear hK K
      (try simp only [Act.put, List.setIfInBounds_toArray, List.set_cons_zero, List.set_cons_succ])
      clear hb21 hS20
      refine wpAnyH_take (i := 3) (oi := ({ dst := some 62, op := Op.binOp BinOp.add 9 (Operand.const (Value.string { data := #[99] })) (Operand.tmp 61) 9, type := 9, pos := "pred.go:208", after := #[{ on := 2, ground := Ground.data }], guard := none } : Oper)) (v := ?_) rfl (by kernel_rfl) (by kernel_rfl) (by kernel_rfl) (fun _ _ _ h => h) (Or.inl ⟨by rfl, ?_⟩) hS21 ?_
      rotate_left
      · intro w hSw; (try dsimp only at hSw); go_simp; (try with_reducible rfl)
      simp only [Act.put, List.setIfInBounds_toArray, List.set_cons_zero, List.set_cons_succ]
      refine wpAnyH_take (i := 8) (oi := ({ dst := some 67, op := Op.binOp BinOp.add 9 (Operand.tmp 62) (Operand.tmp 66) 9, type := 9, pos := "pred.go:208", after := #[{ on := 3, ground := Ground.data }, { on := 7, ground := Ground.data }], guard := none } : Oper)) (v := ?_) rfl (by kernel_rfl) (by kernel_rfl) (by kernel_rfl) (fun _ _ _ h => h) (Or.inl ⟨by rfl, ?_⟩) hS21 ?_
      rotate_left
      · intro w hSw; (try dsimp only at hSw); go_simp; (try with_reducible rfl)
      simp only [Act.put, List.setIfInBounds_toArray, List.set_cons_zero, List.set_cons_succ]
      refine wpAnyH_take (i := 9) (oi := ({ dst := some 13, op := Op.assign (Operand.tmp 67), type := 9, pos := "pred.go:208", after := #[{ on := 8, ground := Ground.data }, { on := 2, ground := Ground.chain }, { on := 0, ground := Ground.phase }, { on := 1, ground := Ground.phase }, { on := 2, ground := Ground.phase }, { on := 3, ground := Ground.phase }, { on := 4, ground := Ground.phase }, { on := 5, ground := Ground.phase }, { on := 6, ground := Ground.phase }, { on := 7, ground := Ground.phase }, { on := 8, ground := Ground.phase }], guard := none } : Oper)) (v := ?_) rfl (by kernel_rfl) (by kernel_rfl) (by kernel_rfl) (fun _ _ _ h => h) (Or.inl ⟨by rfl, ?_⟩) hS21 ?_
      rotate_left
      · intro w hSw; (try dsimp only at hSw); go_simp; (try with_reducible rfl)
      simp only [Act.put, List.setIfInBounds_toArray, List.set_cons_zero, List.set_cons_succ]
      refine wpAnyH_done (by kernel_rfl) ?_ _
      have LZ := hid (hnext LB.out (hnext hd20 hS21.1))
      obtain ⟨_, e0, e1, e2, e3, e4, e5⟩ := hS21
      go_wp2_with fail
      refine (cs.out _).mono ?_; rintro e w30 ⟨rfl, b30⟩
      go_wp2_with fail
      refine bodyPost_ret (v := .tuple #[.string S3, .int .i64 ((i + 1 : Nat) : Int)]) (by simp [results, Try.results33, go_sem]) rfl ?_
      rw [HR.out, HS3.out]
      exact ⟨rfl, hnext LZ.out b30⟩
    · have hi := fun w => (idx_sign w).2.2.2.2.1
      have hj2 : bstr (99 :: D) ++ (⟨#[62]⟩ : ByteArray) = bstr (99 :: D ++ [62]) := bstr_append _ [62]
      have hq1 : ¬ 9223372036854775807 < 1 + (bstr D).size := by omega
      have hq2 : ¬ 9223372036854775807 < (bstr (99 :: D)).size + 1 := by omega
      have hz2 : (bstr (99 :: D ++ [62])).size ≤ 24 := by show (99 :: D ++ [62]).length ≤ 24; rw [List.length_append]; have : (99 :: D).length ≤ 22 := hz1; simp at this ⊢; omega
      have hj3 : bstr (99 :: D ++ [62]) ++ bstr V = bstr (99 :: (D ++ ([62] ++ V))) := (bstr_append _ _).trans (by simp)
      have HR : Hid ((T.leaf ⟨5, c, ⟨k, n, b0, s⟩⟩).txt = 99 :: (D ++ ([62] ++ V))) := HT.out _ rfl
      generalize hS3 : bstr (99 :: (D ++ ([62] ++ V))) = S3 at *
      have HS3 := hid hS3
      clear hS3
      generalize hS2 : bstr (99 :: D ++ [62]) = S2 at *
      have HS2 := hid hS2
      clear hS2
      generalize bstr (99 :: D) = S1 at *
      have bn := hid (BN.new 41 w ⟨5, c, ⟨k, n, b0, s⟩⟩)
      have LB := hid (hba w (.cells #[.int .i64 5, .int .i64 c, .int .i64 k, .int .i64 n, .int .u64 (b0 : Int), .string s] 41))
      clear HT o1 o2
      go_enter Try.func33, Try.ntmps33
      go_wp2_with fail
      obtain ⟨w20, hw20⟩ : ∃ w20, ((w.alloc (.cells #[.int .i64 5, .int .i64 c, .int .i64 k, .int .i64 n, .int .u64 (b0 : Int), .string s] 41))).drew = w20 := ⟨_, rfl⟩
      have hd20 : Below ((w.alloc (.cells #[.int .i64 5, .int .i64 c, .int .i64 k, .int .i64 n, .int .u64 (b0 : Int), .string s] 41))).heap.size ((w.alloc (.cells #[.int .i64 5, .int .i64 c, .int .i64 k, .int .i64 n, .int .u64 (b0 : Int), .string s] 41))) w20 := hw20 ▸ (Below.refl _ _).drew
      have BZ := BN.keep bn.out hd20
      obtain ⟨y0, y1, y2, y3, y4, y5, _, _, _, _, _, _, yl⟩ := BZ.cells
      simp only at y0 y1 y2 y3 y4 y5
      have mk20 : ∀ W, Below w20.heap.size w20 W → Below w20.heap.size w20 W ∧ W.cell? ⟨w.heap.size, 0, none⟩ = some (.int .i64 5) ∧ W.cell? ⟨w.heap.size, 1, none⟩ = some (.int .i64 c) ∧ W.cell? ⟨w.heap.size, 2, none⟩ = some (.int .i64 k) ∧ W.cell? ⟨w.heap.size, 3, none⟩ = some (.int .i64 n) ∧ W.cell? ⟨w.heap.size, 4, none⟩ = some (.int .u64 (b0 : Int)) ∧ W.cell? ⟨w.heap.size, 5, none⟩ = some (.string s) := fun W h => ⟨h, hkeep y0 h, hkeep y1 h, hkeep y2 h, hkeep y3 h, hkeep y4 h, hkeep y5 h⟩
      clear y0 y1 y2 y3 y4 y5 BZ
      refine wp_region_held_drew (S := (fun W => Below w20.heap.size w20 W ∧ W.cell? ⟨w.heap.size, 0, none⟩ = some (.int .i64 5) ∧ W.cell? ⟨w.heap.size, 1, none⟩ = some (.int .i64 c) ∧ W.cell? ⟨w.heap.size, 2, none⟩ = some (.int .i64 k) ∧ W.cell? ⟨w.heap.size, 3, none⟩ = some (.int .i64 n) ∧ W.cell? ⟨w.heap.size, 4, none⟩ = some (.int .u64 (b0 : Int)) ∧ W.cell? ⟨w.heap.size, 5, none⟩ = some (.string s))) (by kernel_rfl) (by rw [hw20]; exact mk20 _ (Below.refl _ _)) (fun hS20 => ?_)
      rw [hw20] at hS20 ⊢
      clear hw20
      refine wpAnyH_take (i := 0) (oi := ({ dst := some 59, op := Op.fieldAddr 41 (Operand.tmp 6) 1, type := 0, pos := "pred.go:208", after := #[], guard := none } : Oper)) (v := ?_) rfl (by kernel_rfl) (by kernel_rfl) (by kernel_rfl) (fun _ _ _ h => h) (Or.inl ⟨by rfl, ?_⟩) hS20 ?_
      rotate_left
      · intro w hSw; (try dsimp only at hSw); go_simp; (try with_reducible rfl)
      simp only [Act.put, List.setIfInBounds_toArray, List.set_cons_zero, List.set_cons_succ]
      refine wpAnyH_take (i := 1) (oi := ({ dst := some 60, op := Op.load 3 (Operand.tmp 59), type := 3, pos := "pred.go:208", after := #[{ on := 0, ground := Ground.data }], guard := none } : Oper)) (v := ?_) rfl (by kernel_rfl) (by kernel_rfl) (by kernel_rfl) (fun _ _ _ h => h) (Or.inl ⟨by rfl, ?_⟩) hS20 ?_
      rotate_left
      · intro w hSw; (try dsimp only at hSw); go_simp; (try with_reducible rfl)
      simp only [Act.put, List.setIfInBounds_toArray, List.set_cons_zero, List.set_cons_succ]
      refine wpAnyH_take (i := 4) (oi := ({ dst := some 63, op := Op.build 79 #[(1, Operand.const (Value.string { data := #[61] })), (2, Operand.const (Value.string { data := #[33, 61] })), (3, Operand.const (Value.string { data := #[60] })), (4, Operand.const (Value.string { data := #[60, 61] })), (5, Operand.const (Value.string { data := #[62] })), (6, Operand.const (Value.string { data := #[62, 61] })), (7, Operand.const (Value.string { data := #[63] })), (8, Operand.const (Value.string { data := #[33] }))], type := 79, pos := "pred.go:208", after := #[], guard := none } : Oper)) (v := ?_) rfl (by kernel_rfl) (by kernel_rfl) (by kernel_rfl) (fun _ _ _ h => h) (Or.inl ⟨by rfl, ?_⟩) hS20 ?_
      rotate_left
      · intro w hSw; (try dsimp only at hSw); go_simp; (try with_reducible rfl)
      simp only [Act.put, List.setIfInBounds_toArray, List.set_cons_zero, List.set_cons_succ]
      refine wpAnyH_take (i := 5) (oi := ({ dst := some 64, op := Op.fieldAddr 41 (Operand.tmp 6) 0, type := 0, pos := "pred.go:208", after := #[], guard := none } : Oper)) (v := ?_) rfl (by kernel_rfl) (by kernel_rfl) (by kernel_rfl) (fun _ _ _ h => h) (Or.inl ⟨by rfl, ?_⟩) hS20 ?_
      rotate_left
      · intro w hSw; (try dsimp only at hSw); go_simp; (try with_reducible rfl)
      simp only [Act.put, List.setIfInBounds_toArray, List.set_cons_zero, List.set_cons_succ]
      refine wpAnyH_take (i := 6) (oi := ({ dst := some 65, op := Op.load 3 (Operand.tmp 64), type := 3, pos := "pred.go:208", after := #[{ on := 5, ground := Ground.data }], guard := none } : Oper)) (v := ?_) rfl (by kernel_rfl) (by kernel_rfl) (by kernel_rfl) (fun _ _ _ h => h) (Or.inl ⟨by rfl, ?_⟩) hS20 ?_
      rotate_left
      · intro w hSw; (try dsimp only at hSw); go_simp; (try with_reducible rfl)
      simp only [Act.put, List.setIfInBounds_toArray, List.set_cons_zero, List.set_cons_succ]
      refine wpAnyH_take (i := 7) (oi := ({ dst := some 66, op := Op.index 79 (Operand.tmp 63) (Operand.tmp 65), type := 9, pos := "pred.go:208", after := #[{ on := 4, ground := Ground.data }, { on := 6, ground := Ground.data }], guard := none } : Oper)) (v := ?_) rfl (by kernel_rfl) (by kernel_rfl) (by kernel_rfl) (fun _ _ _ h => h) (Or.inl ⟨by rfl, ?_⟩) hS20 ?_
      rotate_left
      · intro w hSw; (try dsimp only at hSw); go_simp; (try with_reducible rfl)
      simp only [Act.put, List.setIfInBounds_toArray, List.set_cons_zero, List.set_cons_succ]
      refine wpAnyH_ready (rs := [2]) (by kernel_rfl) (by simp) ?_
      refine AllReadyH.cons (o := ({ dst := some 61, op := Op.call { callee := Callee.value (Operand.func 41), args := #[Operand.tmp 60], argTypes := #[3] }, type := 9, pos := "pred.go:208", after := #[{ on := 1, ground := Ground.data }], guard := none } : Oper)) rfl (fun K hK => ?_) AllReadyH.nil
      go_simp
      refine (cd.out _).mono ?_; rintro e w21 ⟨rfl, hb21⟩
      go_wp2_with fail
      refine hK.out _ _ (mk20 _ (hnext hS20.1 hb21)) (fun hS21 => ?_)
      clear hK K
      (try simp only [Act.put, List.setIfInBounds_toArray, List.set_cons_zero, List.set_cons_succ])
      clear hb21 hS20
      refine wpAnyH_take (i := 3) (oi := ({ dst := some 62, op := Op.binOp BinOp.add 9 (Operand.const (Value.string { data := #[99] })) (Operand.tmp 61) 9, type := 9, pos := "pred.go:208", after := #[{ on := 2, ground := Ground.data }], guard := none } : Oper)) (v := ?_) rfl (by kernel_rfl) (by kernel_rfl) (by kernel_rfl) (fun _ _ _ h => h) (Or.inl ⟨by rfl, ?_⟩) hS21 ?_
      rotate_left
      · intro w hSw; (try dsimp only at hSw); go_simp; (try with_reducible rfl)
      simp only [Act.put, List.setIfInBounds_toArray, List.set_cons_zero, List.set_cons_succ]
      refine wpAnyH_take (i := 8) (oi := ({ dst := some 67, op := Op.binOp BinOp.add 9 (Operand.tmp 62) (Operand.tmp 66) 9, type := 9, pos := "pred.go:208", after := #[{ on := 3, ground := Ground.data }, { on := 7, ground := Ground.data }], guard := none } : Oper)) (v := ?_) rfl (by kernel_rfl) (by kernel_rfl) (by kernel_rfl) (fun _ _ _ h => h) (Or.inl ⟨by rfl, ?_⟩) hS21 ?_
      rotate_left
      · intro w hSw; (try dsimp only at hSw); go_simp; (try with_reducible rfl)
      simp only [Act.put, List.setIfInBounds_toArray, List.set_cons_zero, List.set_cons_succ]
      refine wpAnyH_take (i := 9) (oi := ({ dst := some 13, op := Op.assign (Operand.tmp 67), type := 9, pos := "pred.go:208", after := #[{ on := 8, ground := Ground.data }, { on := 2, ground := Ground.chain }, { on := 0, ground := Ground.phase }, { on := 1, ground := Ground.phase }, { on := 2, ground := Ground.phase }, { on := 3, ground := Ground.phase }, { on := 4, ground := Ground.phase }, { on := 5, ground := Ground.phase }, { on := 6, ground := Ground.phase }, { on := 7, ground := Ground.phase }, { on := 8, ground := Ground.phase }], guard := none } : Oper)) (v := ?_) rfl (by kernel_rfl) (by kernel_rfl) (by kernel_rfl) (fun _ _ _ h => h) (Or.inl ⟨by rfl, ?_⟩) hS21 ?_
      rotate_left
      · intro w hSw; (try dsimp only at hSw); go_simp; (try with_reducible rfl)
      simp only [Act.put, List.setIfInBounds_toArray, List.set_cons_zero, List.set_cons_succ]
      refine wpAnyH_done (by kernel_rfl) ?_ _
      have LZ := hid (hnext LB.out (hnext hd20 hS21.1))
      obtain ⟨_, e0, e1, e2, e3, e4, e5⟩ := hS21
      go_wp2_with fail
      refine (cs.out _).mono ?_; rintro e w30 ⟨rfl, b30⟩
      go_wp2_with fail
      refine bodyPost_ret (v := .tuple #[.string S3, .int .i64 ((i + 1 : Nat) : Int)]) (by simp [results, Try.results33, go_sem]) rfl ?_
      rw [HR.out, HS3.out]
      exact ⟨rfl, hnext LZ.out b30⟩
    · have hi := fun w => (idx_sign w).2.2.2.2.2.1
      have hj2 : bstr (99 :: D) ++ (⟨#[62, 61]⟩ : ByteArray) = bstr (99 :: D ++ [62, 61]) := bstr_append _ [62, 61]
      have hq1 : ¬ 9223372036854775807 < 1 + (bstr D).size := by omega
      have hq2 : ¬ 9223372036854775807 < (bstr (99 :: D)).size + 2 := by omega
      have hz2 : (bstr (99 :: D ++ [62, 61])).size ≤ 24 := by show (99 :: D ++ [62, 61]).length ≤ 24; rw [List.length_append]; have : (99 :: D).length ≤ 22 := hz1; simp at this ⊢; omega
      have hj3 : bstr (99 :: D ++ [62, 61]) ++ bstr V = bstr (99 :: (D ++ ([62, 61] ++ V))) := (bstr_append _ _).trans (by simp)
      have HR : Hid ((T.leaf ⟨6, c, ⟨k, n, b0, s⟩⟩).txt = 99 :: (D ++ ([62, 61] ++ V))) := HT.out _ rfl
      generalize hS3 : bstr (99 :: (D ++ ([62, 61] ++ V))) = S3 at *
      have HS3 := hid hS3
      clear hS3
      generalize hS2 : bstr (99 :: D ++ [62, 61]) = S2 at *
      have HS2 := hid hS2
      clear hS2
      generalize bstr (99 :: D) = S1 at *
      have bn := hid (BN.new 41 w ⟨6, c, ⟨k, n, b0, s⟩⟩)
      have LB := hid (hba w (.cells #[.int .i64 6, .int .i64 c, .int .i64 k, .int .i64 n, .int .u64 (b0 : Int), .string s] 41))
      clear HT o1 o2
      go_enter Try.func33, Try.ntmps33
      go_wp2_with fail
      obtain ⟨w20, hw20⟩ : ∃ w20, ((w.alloc (.cells #[.int .i64 6, .int .i64 c, .int .i64 k, .int .i64 n, .int .u64 (b0 : Int), .string s] 41))).drew = w20 := ⟨_, rfl⟩
      have hd20 : Below ((w.alloc (.cells #[.int .i64 6, .int .i64 c, .int .i64 k, .int .i64 n, .int .u64 (b0 : Int), .string s] 41))).heap.size ((w.alloc (.cells #[.int .i64 6, .int .i64 c, .int .i64 k, .int .i64 n, .int .u64 (b0 : Int), .string s] 41))) w20 := hw20 ▸ (Below.refl _ _).drew
      have BZ := BN.keep bn.out hd20
      obtain ⟨y0, y1, y2, y3, y4, y5, _, _, _, _, _, _, yl⟩ := BZ.cells
      simp only at y0 y1 y2 y3 y4 y5
      have mk20 : ∀ W, Below w20.heap.size w20 W → Below w20.heap.size w20 W ∧ W.cell? ⟨w.heap.size, 0, none⟩ = some (.int .i64 6) ∧ W.cell? ⟨w.heap.size, 1, none⟩ = some (.int .i64 c) ∧ W.cell? ⟨w.heap.size, 2, none⟩ = some (.int .i64 k) ∧ W.cell? ⟨w.heap.size, 3, none⟩ = some (.int .i64 n) ∧ W.cell? ⟨w.heap.size, 4, none⟩ = some (.int .u64 (b0 : Int)) ∧ W.cell? ⟨w.heap.size, 5, none⟩ = some (.string s) := fun W h => ⟨h, hkeep y0 h, hkeep y1 h, hkeep y2 h, hkeep y3 h, hkeep y4 h, hkeep y5 h⟩
      clear y0 y1 y2 y3 y4 y5 BZ
      refine wp_region_held_drew (S := (fun W => Below w20.heap.size w20 W ∧ W.cell? ⟨w.heap.size, 0, none⟩ = some (.int .i64 6) ∧ W.cell? ⟨w.heap.size, 1, none⟩ = some (.int .i64 c) ∧ W.cell? ⟨w.heap.size, 2, none⟩ = some (.int .i64 k) ∧ W.cell? ⟨w.heap.size, 3, none⟩ = some (.int .i64 n) ∧ W.cell? ⟨w.heap.size, 4, none⟩ = some (.int .u64 (b0 : Int)) ∧ W.cell? ⟨w.heap.size, 5, none⟩ = some (.string s))) (by kernel_rfl) (by rw [hw20]; exact mk20 _ (Below.refl _ _)) (fun hS20 => ?_)
      rw [hw20] at hS20 ⊢
      clear hw20
      refine wpAnyH_take (i := 0) (oi := ({ dst := some 59, op := Op.fieldAddr 41 (Operand.tmp 6) 1, type := 0, pos := "pred.go:208", after := #[], guard := none } : Oper)) (v := ?_) rfl (by kernel_rfl) (by kernel_rfl) (by kernel_rfl) (fun _ _ _ h => h) (Or.inl ⟨by rfl, ?_⟩) hS20 ?_
      rotate_left
      · intro w hSw; (try dsimp only at hSw); go_simp; (try with_reducible rfl)
      simp only [Act.put, List.setIfInBounds_toArray, List.set_cons_zero, List.set_cons_succ]
      refine wpAnyH_take (i := 1) (oi := ({ dst := some 60, op := Op.load 3 (Operand.tmp 59), type := 3, pos := "pred.go:208", after := #[{ on := 0, ground := Ground.data }], guard := none } : Oper)) (v := ?_) rfl (by kernel_rfl) (by kernel_rfl) (by kernel_rfl) (fun _ _ _ h => h) (Or.inl ⟨by rfl, ?_⟩) hS20 ?_
      rotate_left
      · intro w hSw; (try dsimp only at hSw); go_simp; (try with_reducible rfl)
      simp only [Act.put, List.setIfInBounds_toArray, List.set_cons_zero, List.set_cons_succ]
      refine wpAnyH_take (i := 4) (oi := ({ dst := some 63, op := Op.build 79 #[(1, Operand.const (Value.string { data := #[61] })), (2, Operand.const (Value.string { data := #[33, 61] })), (3, Operand.const (Value.string { data := #[60] })), (4, Operand.const (Value.string { data := #[60, 61] })), (5, Operand.const (Value.string { data := #[62] })), (6, Operand.const (Value.string { data := #[62, 61] })), (7, Operand.const (Value.string { data := #[63] })), (8, Operand.const (Value.string { data := #[33] }))], type := 79, pos := "pred.go:208", after := #[], guard := none } : Oper)) (v := ?_) rfl (by kernel_rfl) (by kernel_rfl) (by kernel_rfl) (fun _ _ _ h => h) (Or.inl ⟨by rfl, ?_⟩) hS20 ?_
      rotate_left
      · intro w hSw; (try dsimp only at hSw); go_simp; (try with_reducible rfl)
      simp only [Act.put, List.setIfInBounds_toArray, List.set_cons_zero, List.set_cons_succ]
      refine wpAnyH_take (i := 5) (oi := ({ dst := some 64, op := Op.fieldAddr 41 (Operand.tmp 6) 0, type := 0, pos := "pred.go:208", after := #[], guard := none } : Oper)) (v := ?_) rfl (by kernel_rfl) (by kernel_rfl) (by kernel_rfl) (fun _ _ _ h => h) (Or.inl ⟨by rfl, ?_⟩) hS20 ?_
      rotate_left
      · intro w hSw; (try dsimp only at hSw); go_simp; (try with_reducible rfl)
      simp only [Act.put, List.setIfInBounds_toArray, List.set_cons_zero, List.set_cons_succ]
      refine wpAnyH_take (i := 6) (oi := ({ dst := some 65, op := Op.load 3 (Operand.tmp 64), type := 3, pos := "pred.go:208", after := #[{ on := 5, ground := Ground.data }], guard := none } : Oper)) (v := ?_) rfl (by kernel_rfl) (by kernel_rfl) (by kernel_rfl) (fun _ _ _ h => h) (Or.inl ⟨by rfl, ?_⟩) hS20 ?_
      rotate_left
      · intro w hSw; (try dsimp only at hSw); go_simp; (try with_reducible rfl)
      simp only [Act.put, List.setIfInBounds_toArray, List.set_cons_zero, List.set_cons_succ]
      refine wpAnyH_take (i := 7) (oi := ({ dst := some 66, op := Op.index 79 (Operand.tmp 63) (Operand.tmp 65), type := 9, pos := "pred.go:208", after := #[{ on := 4, ground := Ground.data }, { on := 6, ground := Ground.data }], guard := none } : Oper)) (v := ?_) rfl (by kernel_rfl) (by kernel_rfl) (by kernel_rfl) (fun _ _ _ h => h) (Or.inl ⟨by rfl, ?_⟩) hS20 ?_
      rotate_left
      · intro w hSw; (try dsimp only at hSw); go_simp; (try with_reducible rfl)
      simp only [Act.put, List.setIfInBounds_toArray, List.set_cons_zero, List.set_cons_succ]
      refine wpAnyH_ready (rs := [2]) (by kernel_rfl) (by simp) ?_
      refine AllReadyH.cons (o := ({ dst := some 61, op := Op.call { callee := Callee.value (Operand.func 41), args := #[Operand.tmp 60], argTypes := #[3] }, type := 9, pos := "pred.go:208", after := #[{ on := 1, ground := Ground.data }], guard := none } : Oper)) rfl (fun K hK => ?_) AllReadyH.nil
      go_simp
      refine (cd.out _).mono ?_; rintro e w21 ⟨rfl, hb21⟩
      go_wp2_with fail
      refine hK.out _ _ (mk20 _ (hnext hS20.1 hb21)) (fun hS21 => ?_)
      clear hK K
      (try simp only [Act.put, List.setIfInBounds_toArray, List.set_cons_zero, List.set_cons_succ])
      clear hb21 hS20
      refine wpAnyH_take (i := 3) (oi := ({ dst := some 62, op := Op.binOp BinOp.add 9 (Operand.const (Value.string { data := #[99] })) (Operand.tmp 61) 9, type := 9, pos := "pred.go:208", after := #[{ on := 2, ground := Ground.data }], guard := none } : Oper)) (v := ?_) rfl (by kernel_rfl) (by kernel_rfl) (by kernel_rfl) (fun _ _ _ h => h) (Or.inl ⟨by rfl, ?_⟩) hS21 ?_
      rotate_left
      · intro w hSw; (try dsimp only at hSw); go_simp; (try with_reducible rfl)
      simp only [Act.put, List.setIfInBounds_toArray, List.set_cons_zero, List.set_cons_succ]
      refine wpAnyH_take (i := 8) (oi := ({ dst := some 67, op := Op.binOp BinOp.add 9 (Operand.tmp 62) (Operand.tmp 66) 9, type := 9, pos := "pred.go:208", after := #[{ on := 3, ground := Ground.data }, { on := 7, ground := Ground.data }], guard := none } : Oper)) (v := ?_) rfl (by kernel_rfl) (by kernel_rfl) (by kernel_rfl) (fun _ _ _ h => h) (Or.inl ⟨by rfl, ?_⟩) hS21 ?_
      rotate_left
      · intro w hSw; (try dsimp only at hSw); go_simp; (try with_reducible rfl)
      simp only [Act.put, List.setIfInBounds_toArray, List.set_cons_zero, List.set_cons_succ]
      refine wpAnyH_take (i := 9) (oi := ({ dst := some 13, op := Op.assign (Operand.tmp 67), type := 9, pos := "pred.go:208", after := #[{ on := 8, ground := Ground.data }, { on := 2, ground := Ground.chain }, { on := 0, ground := Ground.phase }, { on := 1, ground := Ground.phase }, { on := 2, ground := Ground.phase }, { on := 3, ground := Ground.phase }, { on := 4, ground := Ground.phase }, { on := 5, ground := Ground.phase }, { on := 6, ground := Ground.phase }, { on := 7, ground := Ground.phase }, { on := 8, ground := Ground.phase }], guard := none } : Oper)) (v := ?_) rfl (by kernel_rfl) (by kernel_rfl) (by kernel_rfl) (fun _ _ _ h => h) (Or.inl ⟨by rfl, ?_⟩) hS21 ?_
      rotate_left
      · intro w hSw; (try dsimp only at hSw); go_simp; (try with_reducible rfl)
      simp only [Act.put, List.setIfInBounds_toArray, List.set_cons_zero, List.set_cons_succ]
      refine wpAnyH_done (by kernel_rfl) ?_ _
      have LZ := hid (hnext LB.out (hnext hd20 hS21.1))
      obtain ⟨_, e0, e1, e2, e3, e4, e5⟩ := hS21
      go_wp2_with fail
      refine (cs.out _).mono ?_; rintro e w30 ⟨rfl, b30⟩
      go_wp2_with fail
      refine bodyPost_ret (v := .tuple #[.string S3, .int .i64 ((i + 1 : Nat) : Int)]) (by simp [results, Try.results33, go_sem]) rfl ?_
      rw [HR.out, HS3.out]
      exact ⟨rfl, hnext LZ.out b30⟩
    · have hi := fun w => (idx_sign w).2.2.2.2.2.2.1
      have hj2 : bstr (99 :: D) ++ (⟨#[63]⟩ : ByteArray) = bstr (99 :: D ++ [63]) := bstr_append _ [63]
      have hq1 : ¬ 9223372036854775807 < 1 + (bstr D).size := by omega
      have hq2 : ¬ 9223372036854775807 < (bstr (99 :: D)).size + 1 := by omega
      have hz2 : (bstr (99 :: D ++ [63])).size ≤ 24 := by show (99 :: D ++ [63]).length ≤ 24; rw [List.length_append]; have : (99 :: D).length ≤ 22 := hz1; simp at this ⊢; omega
      have HR : Hid (bstr (T.leaf ⟨7, c, ⟨k, n, b0, s⟩⟩).txt = bstr (99 :: D ++ [63])) := by show _ = _; rw [HT.out _ rfl]; simp [sign]
      generalize hS2 : bstr (99 :: D ++ [63]) = S2 at *
      have HS2 := hid hS2
      clear hS2
      generalize bstr (99 :: D) = S1 at *
      have bn := hid (BN.new 41 w ⟨7, c, ⟨k, n, b0, s⟩⟩)
      have LB := hid (hba w (.cells #[.int .i64 7, .int .i64 c, .int .i64 k, .int .i64 n, .int .u64 (b0 : Int), .string s] 41))
      clear HT o1 o2
      go_enter Try.func33, Try.ntmps33
      go_wp2_with fail
      obtain ⟨w20, hw20⟩ : ∃ w20, ((w.alloc (.cells #[.int .i64 7, .int .i64 c, .int .i64 k, .int .i64 n, .int .u64 (b0 : Int), .string s] 41))).drew = w20 := ⟨_, rfl⟩
      have hd20 : Below ((w.alloc (.cells #[.int .i64 7, .int .i64 c, .int .i64 k, .int .i64 n, .int .u64 (b0 : Int), .string s] 41))).heap.size ((w.alloc (.cells #[.int .i64 7, .int .i64 c, .int .i64 k, .int .i64 n, .int .u64 (b0 : Int), .string s] 41))) w20 := hw20 ▸ (Below.refl _ _).drew
      have BZ := BN.keep bn.out hd20
      obtain ⟨y0, y1, y2, y3, y4, y5, _, _, _, _, _, _, yl⟩ := BZ.cells
      simp only at y0 y1 y2 y3 y4 y5
      have mk20 : ∀ W, Below w20.heap.size w20 W → Below w20.heap.size w20 W ∧ W.cell? ⟨w.heap.size, 0, none⟩ = some (.int .i64 7) ∧ W.cell? ⟨w.heap.size, 1, none⟩ = some (.int .i64 c) ∧ W.cell? ⟨w.heap.size, 2, none⟩ = some (.int .i64 k) ∧ W.cell? ⟨w.heap.size, 3, none⟩ = some (.int .i64 n) ∧ W.cell? ⟨w.heap.size, 4, none⟩ = some (.int .u64 (b0 : Int)) ∧ W.cell? ⟨w.heap.size, 5, none⟩ = some (.string s) := fun W h => ⟨h, hkeep y0 h, hkeep y1 h, hkeep y2 h, hkeep y3 h, hkeep y4 h, hkeep y5 h⟩
      clear y0 y1 y2 y3 y4 y5 BZ
      refine wp_region_held_drew (S := (fun W => Below w20.heap.size w20 W ∧ W.cell? ⟨w.heap.size, 0, none⟩ = some (.int .i64 7) ∧ W.cell? ⟨w.heap.size, 1, none⟩ = some (.int .i64 c) ∧ W.cell? ⟨w.heap.size, 2, none⟩ = some (.int .i64 k) ∧ W.cell? ⟨w.heap.size, 3, none⟩ = some (.int .i64 n) ∧ W.cell? ⟨w.heap.size, 4, none⟩ = some (.int .u64 (b0 : Int)) ∧ W.cell? ⟨w.heap.size, 5, none⟩ = some (.string s))) (by kernel_rfl) (by rw [hw20]; exact mk20 _ (Below.refl _ _)) (fun hS20 => ?_)
      rw [hw20] at hS20 ⊢
      clear hw20
      refine wpAnyH_take (i := 0) (oi := ({ dst := some 59, op := Op.fieldAddr 41 (Operand.tmp 6) 1, type := 0, pos := "pred.go:208", after := #[], guard := none } : Oper)) (v := ?_) rfl (by kernel_rfl) (by kernel_rfl) (by kernel_rfl) (fun _ _ _ h => h) (Or.inl ⟨by rfl, ?_⟩) hS20 ?_
      rotate_left
      · intro w hSw; (try dsimp only at hSw); go_simp; (try with_reducible rfl)
      simp only [Act.put, List.setIfInBounds_toArray, List.set_cons_zero, List.set_cons_succ]
      refine wpAnyH_take (i := 1) (oi := ({ dst := some 60, op := Op.load 3 (Operand.tmp 59), type := 3, pos := "pred.go:208", after := #[{ on := 0, ground := Ground.data }], guard := none } : Oper)) (v := ?_) rfl (by kernel_rfl) (by kernel_rfl) (by kernel_rfl) (fun _ _ _ h => h) (Or.inl ⟨by rfl, ?_⟩) hS20 ?_
      rotate_left
      · intro w hSw; (try dsimp only at hSw); go_simp; (try with_reducible rfl)
      simp only [Act.put, List.setIfInBounds_toArray, List.set_cons_zero, List.set_cons_succ]
      refine wpAnyH_take (i := 4) (oi := ({ dst := some 63, op := Op.build 79 #[(1, Operand.const (Value.string { data := #[61] })), (2, Operand.const (Value.string { data := #[33, 61] })), (3, Operand.const (Value.string { data := #[60] })), (4, Operand.const (Value.string { data := #[60, 61] })), (5, Operand.const (Value.string { data := #[62] })), (6, Operand.const (Value.string { data := #[62, 61] })), (7, Operand.const (Value.string { data := #[63] })), (8, Operand.const (Value.string { data := #[33] }))], type := 79, pos := "pred.go:208", after := #[], guard := none } : Oper)) (v := ?_) rfl (by kernel_rfl) (by kernel_rfl) (by kernel_rfl) (fun _ _ _ h => h) (Or.inl ⟨by rfl, ?_⟩) hS20 ?_
      rotate_left
      · intro w hSw; (try dsimp only at hSw); go_simp; (try with_reducible rfl)
      simp only [Act.put, List.setIfInBounds_toArray, List.set_cons_zero, List.set_cons_succ]
      refine wpAnyH_take (i := 5) (oi := ({ dst := some 64, op := Op.fieldAddr 41 (Operand.tmp 6) 0, type := 0, pos := "pred.go:208", after := #[], guard := none } : Oper)) (v := ?_) rfl (by kernel_rfl) (by kernel_rfl) (by kernel_rfl) (fun _ _ _ h => h) (Or.inl ⟨by rfl, ?_⟩) hS20 ?_
      rotate_left
      · intro w hSw; (try dsimp only at hSw); go_simp; (try with_reducible rfl)
      simp only [Act.put, List.setIfInBounds_toArray, List.set_cons_zero, List.set_cons_succ]
      refine wpAnyH_take (i := 6) (oi := ({ dst := some 65, op := Op.load 3 (Operand.tmp 64), type := 3, pos := "pred.go:208", after := #[{ on := 5, ground := Ground.data }], guard := none } : Oper)) (v := ?_) rfl (by kernel_rfl) (by kernel_rfl) (by kernel_rfl) (fun _ _ _ h => h) (Or.inl ⟨by rfl, ?_⟩) hS20 ?_
      rotate_left
      · intro w hSw; (try dsimp only at hSw); go_simp; (try with_reducible rfl)
      simp only [Act.put, List.setIfInBounds_toArray, List.set_cons_zero, List.set_cons_succ]
      refine wpAnyH_take (i := 7) (oi := ({ dst := some 66, op := Op.index 79 (Operand.tmp 63) (Operand.tmp 65), type := 9, pos := "pred.go:208", after := #[{ on := 4, ground := Ground.data }, { on := 6, ground := Ground.data }], guard := none } : Oper)) (v := ?_) rfl (by kernel_rfl) (by kernel_rfl) (by kernel_rfl) (fun _ _ _ h => h) (Or.inl ⟨by rfl, ?_⟩) hS20 ?_
      rotate_left
      · intro w hSw; (try dsimp only at hSw); go_simp; (try with_reducible rfl)
      simp only [Act.put, List.setIfInBounds_toArray, List.set_cons_zero, List.set_cons_succ]
      refine wpAnyH_ready (rs := [2]) (by kernel_rfl) (by simp) ?_
      refine AllReadyH.cons (o := ({ dst := some 61, op := Op.call { callee := Callee.value (Operand.func 41), args := #[Operand.tmp 60], argTypes := #[3] }, type := 9, pos := "pred.go:208", after := #[{ on := 1, ground := Ground.data }], guard := none } : Oper)) rfl (fun K hK => ?_) AllReadyH.nil
      go_simp
      refine (cd.out _).mono ?_; rintro e w21 ⟨rfl, hb21⟩
      go_wp2_with fail
      refine hK.out _ _ (mk20 _ (hnext hS20.1 hb21)) (fun hS21 => ?_)
      clear hK K
      (try simp only [Act.put, List.setIfInBounds_toArray, List.set_cons_zero, List.set_cons_succ])
      clear hb21 hS20
      refine wpAnyH_take (i := 3) (oi := ({ dst := some 62, op := Op.binOp BinOp.add 9 (Operand.const (Value.string { data := #[99] })) (Operand.tmp 61) 9, type := 9, pos := "pred.go:208", after := #[{ on := 2, ground := Ground.data }], guard := none } : Oper)) (v := ?_) rfl (by kernel_rfl) (by kernel_rfl) (by kernel_rfl) (fun _ _ _ h => h) (Or.inl ⟨by rfl, ?_⟩) hS21 ?_
      rotate_left
      · intro w hSw; (try dsimp only at hSw); go_simp; (try with_reducible rfl)
      simp only [Act.put, List.setIfInBounds_toArray, List.set_cons_zero, List.set_cons_succ]
      refine wpAnyH_take (i := 8) (oi := ({ dst := some 67, op := Op.binOp BinOp.add 9 (Operand.tmp 62) (Operand.tmp 66) 9, type := 9, pos := "pred.go:208", after := #[{ on := 3, ground := Ground.data }, { on := 7, ground := Ground.data }], guard := none } : Oper)) (v := ?_) rfl (by kernel_rfl) (by kernel_rfl) (by kernel_rfl) (fun _ _ _ h => h) (Or.inl ⟨by rfl, ?_⟩) hS21 ?_
      rotate_left
      · intro w hSw; (try dsimp only at hSw); go_simp; (try with_reducible rfl)
      simp only [Act.put, List.setIfInBounds_toArray, List.set_cons_zero, List.set_cons_succ]
      refine wpAnyH_take (i := 9) (oi := ({ dst := some 13, op := Op.assign (Operand.tmp 67), type := 9, pos := "pred.go:208", after := #[{ on := 8, ground := Ground.data }, { on := 2, ground := Ground.chain }, { on := 0, ground := Ground.phase }, { on := 1, ground := Ground.phase }, { on := 2, ground := Ground.phase }, { on := 3, ground := Ground.phase }, { on := 4, ground := Ground.phase }, { on := 5, ground := Ground.phase }, { on := 6, ground := Ground.phase }, { on := 7, ground := Ground.phase }, { on := 8, ground := Ground.phase }], guard := none } : Oper)) (v := ?_) rfl (by kernel_rfl) (by kernel_rfl) (by kernel_rfl) (fun _ _ _ h => h) (Or.inl ⟨by rfl, ?_⟩) hS21 ?_
      rotate_left
      · intro w hSw; (try dsimp only at hSw); go_simp; (try with_reducible rfl)
      simp only [Act.put, List.setIfInBounds_toArray, List.set_cons_zero, List.set_cons_succ]
      refine wpAnyH_done (by kernel_rfl) ?_ _
      have LZ := hid (hnext LB.out (hnext hd20 hS21.1))
      obtain ⟨_, e0, e1, e2, e3, e4, e5⟩ := hS21
      go_wp2_with fail
      refine bodyPost_ret (v := .tuple #[.string S2, .int .i64 ((i + 1 : Nat) : Int)]) (by simp [results, Try.results33, go_sem]) rfl ?_
      rw [HR.out]
      exact ⟨rfl, LZ.out⟩
    · have hi := fun w => (idx_sign w).2.2.2.2.2.2.2
      have hj2 : bstr (99 :: D) ++ (⟨#[33]⟩ : ByteArray) = bstr (99 :: D ++ [33]) := bstr_append _ [33]
      have hq1 : ¬ 9223372036854775807 < 1 + (bstr D).size := by omega
      have hq2 : ¬ 9223372036854775807 < (bstr (99 :: D)).size + 1 := by omega
      have hz2 : (bstr (99 :: D ++ [33])).size ≤ 24 := by show (99 :: D ++ [33]).length ≤ 24; rw [List.length_append]; have : (99 :: D).length ≤ 22 := hz1; simp at this ⊢; omega
      have HR : Hid (bstr (T.leaf ⟨8, c, ⟨k, n, b0, s⟩⟩).txt = bstr (99 :: D ++ [33])) := by show _ = _; rw [HT.out _ rfl]; simp [sign]
      generalize hS2 : bstr (99 :: D ++ [33]) = S2 at *
      have HS2 := hid hS2
      clear hS2
      generalize bstr (99 :: D) = S1 at *
      have bn := hid (BN.new 41 w ⟨8, c, ⟨k, n, b0, s⟩⟩)
      have LB := hid (hba w (.cells #[.int .i64 8, .int .i64 c, .int .i64 k, .int .i64 n, .int .u64 (b0 : Int), .string s] 41))
      clear HT o1 o2
      go_enter Try.func33, Try.ntmps33
      go_wp2_with fail
      obtain ⟨w20, hw20⟩ : ∃ w20, ((w.alloc (.cells #[.int .i64 8, .int .i64 c, .int .i64 k, .int .i64 n, .int .u64 (b0 : Int), .string s] 41))).drew = w20 := ⟨_, rfl⟩
      have hd20 : Below ((w.alloc (.cells #[.int .i64 8, .int .i64 c, .int .i64 k, .int .i64 n, .int .u64 (b0 : Int), .string s] 41))).heap.size ((w.alloc (.cells #[.int .i64 8, .int .i64 c, .int .i64 k, .int .i64 n, .int .u64 (b0 : Int), .string s] 41))) w20 := hw20 ▸ (Below.refl _ _).drew
      have BZ := BN.keep bn.out hd20
      obtain ⟨y0, y1, y2, y3, y4, y5, _, _, _, _, _, _, yl⟩ := BZ.cells
      simp only at y0 y1 y2 y3 y4 y5
      have mk20 : ∀ W, Below w20.heap.size w20 W → Below w20.heap.size w20 W ∧ W.cell? ⟨w.heap.size, 0, none⟩ = some (.int .i64 8) ∧ W.cell? ⟨w.heap.size, 1, none⟩ = some (.int .i64 c) ∧ W.cell? ⟨w.heap.size, 2, none⟩ = some (.int .i64 k) ∧ W.cell? ⟨w.heap.size, 3, none⟩ = some (.int .i64 n) ∧ W.cell? ⟨w.heap.size, 4, none⟩ = some (.int .u64 (b0 : Int)) ∧ W.cell? ⟨w.heap.size, 5, none⟩ = some (.string s) := fun W h => ⟨h, hkeep y0 h, hkeep y1 h, hkeep y2 h, hkeep y3 h, hkeep y4 h, hkeep y5 h⟩
      clear y0 y1 y2 y3 y4 y5 BZ
      refine wp_region_held_drew (S := (fun W => Below w20.heap.size w20 W ∧ W.cell? ⟨w.heap.size, 0, none⟩ = some (.int .i64 8) ∧ W.cell? ⟨w.heap.size, 1, none⟩ = some (.int .i64 c) ∧ W.cell? ⟨w.heap.size, 2, none⟩ = some (.int .i64 k) ∧ W.cell? ⟨w.heap.size, 3, none⟩ = some (.int .i64 n) ∧ W.cell? ⟨w.heap.size, 4, none⟩ = some (.int .u64 (b0 : Int)) ∧ W.cell? ⟨w.heap.size, 5, none⟩ = some (.string s))) (by kernel_rfl) (by rw [hw20]; exact mk20 _ (Below.refl _ _)) (fun hS20 => ?_)
      rw [hw20] at hS20 ⊢
      clear hw20
      refine wpAnyH_take (i := 0) (oi := ({ dst := some 59, op := Op.fieldAddr 41 (Operand.tmp 6) 1, type := 0, pos := "pred.go:208", after := #[], guard := none } : Oper)) (v := ?_) rfl (by kernel_rfl) (by kernel_rfl) (by kernel_rfl) (fun _ _ _ h => h) (Or.inl ⟨by rfl, ?_⟩) hS20 ?_
      rotate_left
      · intro w hSw; (try dsimp only at hSw); go_simp; (try with_reducible rfl)
      simp only [Act.put, List.setIfInBounds_toArray, List.set_cons_zero, List.set_cons_succ]
      refine wpAnyH_take (i := 1) (oi := ({ dst := some 60, op := Op.load 3 (Operand.tmp 59), type := 3, pos := "pred.go:208", after := #[{ on := 0, ground := Ground.data }], guard := none } : Oper)) (v := ?_) rfl (by kernel_rfl) (by kernel_rfl) (by kernel_rfl) (fun _ _ _ h => h) (Or.inl ⟨by rfl, ?_⟩) hS20 ?_
      rotate_left
      · intro w hSw; (try dsimp only at hSw); go_simp; (try with_reducible rfl)
      simp only [Act.put, List.setIfInBounds_toArray, List.set_cons_zero, List.set_cons_succ]
      refine wpAnyH_take (i := 4) (oi := ({ dst := some 63, op := Op.build 79 #[(1, Operand.const (Value.string { data := #[61] })), (2, Operand.const (Value.string { data := #[33, 61] })), (3, Operand.const (Value.string { data := #[60] })), (4, Operand.const (Value.string { data := #[60, 61] })), (5, Operand.const (Value.string { data := #[62] })), (6, Operand.const (Value.string { data := #[62, 61] })), (7, Operand.const (Value.string { data := #[63] })), (8, Operand.const (Value.string { data := #[33] }))], type := 79, pos := "pred.go:208", after := #[], guard := none } : Oper)) (v := ?_) rfl (by kernel_rfl) (by kernel_rfl) (by kernel_rfl) (fun _ _ _ h => h) (Or.inl ⟨by rfl, ?_⟩) hS20 ?_
      rotate_left
      · intro w hSw; (try dsimp only at hSw); go_simp; (try with_reducible rfl)
      simp only [Act.put, List.setIfInBounds_toArray, List.set_cons_zero, List.set_cons_succ]
      refine wpAnyH_take (i := 5) (oi := ({ dst := some 64, op := Op.fieldAddr 41 (Operand.tmp 6) 0, type := 0, pos := "pred.go:208", after := #[], guard := none } : Oper)) (v := ?_) rfl (by kernel_rfl) (by kernel_rfl) (by kernel_rfl) (fun _ _ _ h => h) (Or.inl ⟨by rfl, ?_⟩) hS20 ?_
      rotate_left
      · intro w hSw; (try dsimp only at hSw); go_simp; (try with_reducible rfl)
      simp only [Act.put, List.setIfInBounds_toArray, List.set_cons_zero, List.set_cons_succ]
      refine wpAnyH_take (i := 6) (oi := ({ dst := some 65, op := Op.load 3 (Operand.tmp 64), type := 3, pos := "pred.go:208", after := #[{ on := 5, ground := Ground.data }], guard := none } : Oper)) (v := ?_) rfl (by kernel_rfl) (by kernel_rfl) (by kernel_rfl) (fun _ _ _ h => h) (Or.inl ⟨by rfl, ?_⟩) hS20 ?_
      rotate_left
      · intro w hSw; (try dsimp only at hSw); go_simp; (try with_reducible rfl)
      simp only [Act.put, List.setIfInBounds_toArray, List.set_cons_zero, List.set_cons_succ]
      refine wpAnyH_take (i := 7) (oi := ({ dst := some 66, op := Op.index 79 (Operand.tmp 63) (Operand.tmp 65), type := 9, pos := "pred.go:208", after := #[{ on := 4, ground := Ground.data }, { on := 6, ground := Ground.data }], guard := none } : Oper)) (v := ?_) rfl (by kernel_rfl) (by kernel_rfl) (by kernel_rfl) (fun _ _ _ h => h) (Or.inl ⟨by rfl, ?_⟩) hS20 ?_
      rotate_left
      · intro w hSw; (try dsimp only at hSw); go_simp; (try with_reducible rfl)
      simp only [Act.put, List.setIfInBounds_toArray, List.set_cons_zero, List.set_cons_succ]
      refine wpAnyH_ready (rs := [2]) (by kernel_rfl) (by simp) ?_
      refine AllReadyH.cons (o := ({ dst := some 61, op := Op.call { callee := Callee.value (Operand.func 41), args := #[Operand.tmp 60], argTypes := #[3] }, type := 9, pos := "pred.go:208", after := #[{ on := 1, ground := Ground.data }], guard := none } : Oper)) rfl (fun K hK => ?_) AllReadyH.nil
      go_simp
      refine (cd.out _).mono ?_; rintro e w21 ⟨rfl, hb21⟩
      go_wp2_with fail
      refine hK.out _ _ (mk20 _ (hnext hS20.1 hb21)) (fun hS21 => ?_)
      clear hK K
      (try simp only [Act.put, List.setIfInBounds_toArray, List.set_cons_zero, List.set_cons_succ])
      clear hb21 hS20
      refine wpAnyH_take (i := 3) (oi := ({ dst := some 62, op := Op.binOp BinOp.add 9 (Operand.const (Value.string { data := #[99] })) (Operand.tmp 61) 9, type := 9, pos := "pred.go:208", after := #[{ on := 2, ground := Ground.data }], guard := none } : Oper)) (v := ?_) rfl (by kernel_rfl) (by kernel_rfl) (by kernel_rfl) (fun _ _ _ h => h) (Or.inl ⟨by rfl, ?_⟩) hS21 ?_
      rotate_left
      · intro w hSw; (try dsimp only at hSw); go_simp; (try with_reducible rfl)
      simp only [Act.put, List.setIfInBounds_toArray, List.set_cons_zero, List.set_cons_succ]
      refine wpAnyH_take (i := 8) (oi := ({ dst := some 67, op := Op.binOp BinOp.add 9 (Operand.tmp 62) (Operand.tmp 66) 9, type := 9, pos := "pred.go:208", after := #[{ on := 3, ground := Ground.data }, { on := 7, ground := Ground.data }], guard := none } : Oper)) (v := ?_) rfl (by kernel_rfl) (by kernel_rfl) (by kernel_rfl) (fun _ _ _ h => h) (Or.inl ⟨by rfl, ?_⟩) hS21 ?_
      rotate_left
      · intro w hSw; (try dsimp only at hSw); go_simp; (try with_reducible rfl)
      simp only [Act.put, List.setIfInBounds_toArray, List.set_cons_zero, List.set_cons_succ]
      refine wpAnyH_take (i := 9) (oi := ({ dst := some 13, op := Op.assign (Operand.tmp 67), type := 9, pos := "pred.go:208", after := #[{ on := 8, ground := Ground.data }, { on := 2, ground := Ground.chain }, { on := 0, ground := Ground.phase }, { on := 1, ground := Ground.phase }, { on := 2, ground := Ground.phase }, { on := 3, ground := Ground.phase }, { on := 4, ground := Ground.phase }, { on := 5, ground := Ground.phase }, { on := 6, ground := Ground.phase }, { on := 7, ground := Ground.phase }, { on := 8, ground := Ground.phase }], guard := none } : Oper)) (v := ?_) rfl (by kernel_rfl) (by kernel_rfl) (by kernel_rfl) (fun _ _ _ h => h) (Or.inl ⟨by rfl, ?_⟩) hS21 ?_
      rotate_left
      · intro w hSw; (try dsimp only at hSw); go_simp; (try with_reducible rfl)
      simp only [Act.put, List.setIfInBounds_toArray, List.set_cons_zero, List.set_cons_succ]
      refine wpAnyH_done (by kernel_rfl) ?_ _
      have LZ := hid (hnext LB.out (hnext hd20 hS21.1))
      obtain ⟨_, e0, e1, e2, e3, e4, e5⟩ := hS21
      go_wp2_with fail
      refine bodyPost_ret (v := .tuple #[.string S2, .int .i64 ((i + 1 : Nat) : Int)]) (by simp [results, Try.results33, go_sem]) rfl ?_
      rw [HR.out]
      exact ⟨rfl, LZ.out⟩
  | not x t ih =>
    intro hok hnok i rest v w hv hdrop hlen
    have hil : i < l.length := by
      have h1 := congrArg List.length hdrop
      rw [List.length_drop] at h1
      simp [T.ser] at h1; omega
    have hil' : (i : Int) < (l.length : Int) := by omega
    have hi0 : (0 : Int) ≤ (i : Int) := by omega
    have hi1 : IntKind.i64.wrap ((i : Int) + 1) = ((i + 1 : Nat) : Int) := by rw [IntKind.wrap_i64]; omega
    have hxi : l[i] = x := by
      have h1 := hdrop
      rw [List.drop_eq_getElem_cons hil] at h1
      exact (List.cons.inj h1).1
    have HDR : Hid (l.drop (i + 1) = t.ser ++ rest) := by
      have h1 := hdrop
      rw [List.drop_eq_getElem_cons hil] at h1
      first | exact (List.cons.inj h1).2 | exact (List.cons.inj h1).2.trans (List.append_assoc _ _ _)
    have HV := hid hv
    obtain ⟨adr, cap, rfl, hc⟩ := hv
    obtain ⟨g, off, rfl, q0, q1, q2, q3, q4, q5⟩ := hc i hil
    rw [hxi] at q0 q1 q2 q3 q4 q5
    clear hc hdrop hxi
    obtain ⟨op, c, ⟨k, n, b0, s⟩⟩ := x
    simp only at q0 q1 q2 q3 q4 q5
    obtain ⟨o1, hokt⟩ := hok
    obtain rfl : op = 11 := o1
    have LB := hid (hba w (.cells #[.int .i64 11, .int .i64 c, .int .i64 k, .int .i64 n, .int .u64 (b0 : Int), .string s] 41))
    have HLT : Hid (t.ser.length ≤ 1000000) := by have := hlen; simp [T.ser] at this; show _ ≤ _; omega
    have ct := hid (ih hokt hnok (i + 1) rest _ _ (HV.out.below (hba w (.cells #[.int .i64 11, .int .i64 c, .int .i64 k, .int .i64 n, .int .u64 (b0 : Int), .string s] 41))) HDR.out HLT.out)
    have hz : (bstr t.txt).size ≤ 30000000000 := by have h1 := T.txt_len t hnok; have h2 := HLT.out; show t.txt.length ≤ _; omega
    have hj : (⟨#[126]⟩ : ByteArray) ++ bstr t.txt = bstr (126 :: t.txt) := bstr_append [126] _
    have HJ : Hid (i + 1 + t.ser.length = i + (t.ser.length + 1)) := by show _ = _; omega
    obtain ⟨j1, hj1⟩ : ∃ j1, i + 1 + t.ser.length = j1 := ⟨_, rfl⟩
    rw [hj1] at ct HJ
    have HT : Hid ((T.not ⟨11, c, ⟨k, n, b0, s⟩⟩ t).txt = 126 :: t.txt) := rfl
    generalize t.txt = Z at *
    clear hnok hokt hlen
    go_enter Try.func33, Try.ntmps33
    go_wp2_with fail
    refine ct.out.mono ?_; rintro e w5 ⟨rfl, b5⟩
    go_wp2_with fail
    refine bodyPost_ret (v := .tuple #[.string (bstr (126 :: Z)), .int .i64 (j1 : Int)]) (by simp [results, Try.results33, go_sem]) rfl ?_
    rw [HT.out]
    refine ⟨?_, hnext LB.out b5⟩
    show _ = Ending.returned (.tuple #[.string (bstr (126 :: Z)), .int .i64 ((i + (t.ser.length + 1) : Nat) : Int)])
    rw [← HJ.out]
  | bin x a b iha ihb =>
    intro hok hnok i rest v w hv hdrop hlen
    have hil : i < l.length := by
      have h1 := congrArg List.length hdrop
      rw [List.length_drop] at h1
      simp [T.ser] at h1; omega
    have hil' : (i : Int) < (l.length : Int) := by omega
    have hi0 : (0 : Int) ≤ (i : Int) := by omega
    have hi1 : IntKind.i64.wrap ((i : Int) + 1) = ((i + 1 : Nat) : Int) := by rw [IntKind.wrap_i64]; omega
    have hxi : l[i] = x := by
      have h1 := hdrop
      rw [List.drop_eq_getElem_cons hil] at h1
      exact (List.cons.inj h1).1
    have HDR : Hid (l.drop (i + 1) = a.ser ++ (b.ser ++ rest)) := by
      have h1 := hdrop
      rw [List.drop_eq_getElem_cons hil] at h1
      first | exact (List.cons.inj h1).2 | exact (List.cons.inj h1).2.trans (List.append_assoc _ _ _)
    have HV := hid hv
    obtain ⟨adr, cap, rfl, hc⟩ := hv
    obtain ⟨g, off, rfl, q0, q1, q2, q3, q4, q5⟩ := hc i hil
    rw [hxi] at q0 q1 q2 q3 q4 q5
    clear hc hdrop hxi
    obtain ⟨op, c, ⟨k, n, b0, s⟩⟩ := x
    simp only at q0 q1 q2 q3 q4 q5
    obtain ⟨o1, hoka, hokb⟩ := hok
    obtain ⟨hna, hnb⟩ := hnok
    replace o1 : op = 9 ∨ op = 10 := o1
    have HLA : Hid (a.ser.length ≤ 1000000) := by have := hlen; simp [T.ser] at this; show _ ≤ _; omega
    have HLB : Hid (b.ser.length ≤ 1000000) := by have := hlen; simp [T.ser] at this; show _ ≤ _; omega
    have HDB : Hid (l.drop (i + 1 + a.ser.length) = b.ser ++ rest) := by
      show _ = _
      rw [← List.drop_drop, HDR.out, List.drop_left]
    have hza : (bstr a.txt).size ≤ 30000000000 := by have h1 := T.txt_len a hna; have h2 := HLA.out; show a.txt.length ≤ _; omega
    have hzb : (bstr b.txt).size ≤ 30000000000 := by have h1 := T.txt_len b hnb; have h2 := HLB.out; show b.txt.length ≤ _; omega
    have ca0 := fun (w : World) (h : NsAt w (.slice (some ⟨g, off, none⟩) l.length cap) l) => iha hoka hna (i + 1) (b.ser ++ rest) _ w h HDR.out HLA.out
    have cb0 := fun (w : World) (h : NsAt w (.slice (some ⟨g, off, none⟩) l.length cap) l) => ihb hokb hnb (i + 1 + a.ser.length) rest _ w h HDB.out HLB.out
    have HJ : Hid (i + 1 + a.ser.length + b.ser.length = i + ((a.ser ++ b.ser).length + 1)) := by show _ = _; rw [List.length_append]; omega
    obtain ⟨j1, hj1⟩ : ∃ j1, i + 1 + a.ser.length = j1 := ⟨_, rfl⟩
    rw [hj1] at ca0 cb0 HJ
    obtain ⟨j2, hj2⟩ : ∃ j2, j1 + b.ser.length = j2 := ⟨_, rfl⟩
    rw [hj2] at cb0 HJ
    have ca := hid ca0
    have cb := hid cb0
    clear ca0 cb0 hna hnb hoka hokb hlen hj1 hj2
    rcases o1 with rfl | rfl
    · have LB := hid (hba w (.cells #[.int .i64 9, .int .i64 c, .int .i64 k, .int .i64 n, .int .u64 (b0 : Int), .string s] 41))
      have HV1 := hid (HV.out.below (hba w (.cells #[.int .i64 9, .int .i64 c, .int .i64 k, .int .i64 n, .int .u64 (b0 : Int), .string s] 41)))
      have bn := hid (BN.new 41 w ⟨9, c, ⟨k, n, b0, s⟩⟩)
      have hi := fun w => (idx_bin w).1
      have HT : Hid ((T.bin ⟨9, c, ⟨k, n, b0, s⟩⟩ a b).txt = 40 :: (a.txt ++ (38 :: (b.txt ++ [41])))) := rfl
      have hj1 : (⟨#[40]⟩ : ByteArray) ++ bstr a.txt = bstr (40 :: a.txt) := bstr_append [40] _
      have hj2 : bstr (40 :: a.txt) ++ (⟨#[38]⟩ : ByteArray) = bstr (40 :: a.txt ++ [38]) := bstr_append _ [38]
      have hj3 : bstr (40 :: a.txt ++ [38]) ++ bstr b.txt = bstr (40 :: a.txt ++ [38] ++ b.txt) := bstr_append _ _
      have hj4 : bstr (40 :: a.txt ++ [38] ++ b.txt) ++ (⟨#[41]⟩ : ByteArray) = bstr (40 :: (a.txt ++ (38 :: (b.txt ++ [41])))) := (bstr_append _ [41]).trans (by simp)
      have hz1 : (bstr (40 :: a.txt)).size ≤ 30000000001 := by show a.txt.length + 1 ≤ _; have : a.txt.length ≤ 30000000000 := hza; omega
      have hz2 : (bstr (40 :: a.txt ++ [38])).size ≤ 30000000002 := by show (40 :: a.txt ++ [38]).length ≤ _; have : a.txt.length ≤ 30000000000 := hza; simp; omega
      have hz3 : (bstr (40 :: a.txt ++ [38] ++ b.txt)).size ≤ 60000000002 := by show (40 :: a.txt ++ [38] ++ b.txt).length ≤ _; have : a.txt.length ≤ 30000000000 := hza; have : b.txt.length ≤ 30000000000 := hzb; simp; omega
      generalize bstr (40 :: a.txt ++ [38] ++ b.txt) = S3 at *
      generalize bstr (40 :: a.txt ++ [38]) = S2 at *
      generalize bstr (40 :: a.txt) = S1 at *
      generalize hS4 : bstr (40 :: (a.txt ++ (38 :: (b.txt ++ [41])))) = S4 at *
      have HS4 := hid hS4
      clear hS4
      generalize a.txt = A at *
      generalize b.txt = B at *
      go_enter Try.func33, Try.ntmps33
      go_wp2_with fail
      refine (ca.out _ HV1.out).mono ?_; rintro e w5 ⟨rfl, b5⟩
      have HV5 := hid (HV1.out.below b5)
      have L5 := hid (hnext LB.out b5)
      have bn5 := hid (bn.out.keep b5)
      clear b5
      go_wp2_with fail
      refine (cb.out _ HV5.out).mono ?_; rintro e w6 ⟨rfl, b6⟩
      obtain ⟨y0, y1, y2, y3, y4, y5, _, _, _, _, _, _, yl⟩ := (bn5.out.keep b6).cells
      simp only at y0 y1 y2 y3 y4 y5
      have L6 := hid (hnext L5.out b6)
      clear b6
      go_wp2_with fail
      refine bodyPost_ret (v := .tuple #[.string S4, .int .i64 (j2 : Int)]) (by simp [results, Try.results33, go_sem]) rfl ?_
      rw [HT.out, HS4.out]
      refine ⟨?_, L6.out⟩
      show _ = Ending.returned (.tuple #[.string S4, .int .i64 ((i + ((a.ser ++ b.ser).length + 1) : Nat) : Int)])
      rw [← HJ.out]
    · have LB := hid (hba w (.cells #[.int .i64 10, .int .i64 c, .int .i64 k, .int .i64 n, .int .u64 (b0 : Int), .string s] 41))
      have HV1 := hid (HV.out.below (hba w (.cells #[.int .i64 10, .int .i64 c, .int .i64 k, .int .i64 n, .int .u64 (b0 : Int), .string s] 41)))
      have bn := hid (BN.new 41 w ⟨10, c, ⟨k, n, b0, s⟩⟩)
      have hi := fun w => (idx_bin w).2
      have HT : Hid ((T.bin ⟨10, c, ⟨k, n, b0, s⟩⟩ a b).txt = 40 :: (a.txt ++ (124 :: (b.txt ++ [41])))) := rfl
      have hj1 : (⟨#[40]⟩ : ByteArray) ++ bstr a.txt = bstr (40 :: a.txt) := bstr_append [40] _
      have hj2 : bstr (40 :: a.txt) ++ (⟨#[124]⟩ : ByteArray) = bstr (40 :: a.txt ++ [124]) := bstr_append _ [124]
      have hj3 : bstr (40 :: a.txt ++ [124]) ++ bstr b.txt = bstr (40 :: a.txt ++ [124] ++ b.txt) := bstr_append _ _
      have hj4 : bstr (40 :: a.txt ++ [124] ++ b.txt) ++ (⟨#[41]⟩ : ByteArray) = bstr (40 :: (a.txt ++ (124 :: (b.txt ++ [41])))) := (bstr_append _ [41]).trans (by simp)
      have hz1 : (bstr (40 :: a.txt)).size ≤ 30000000001 := by show a.txt.length + 1 ≤ _; have : a.txt.length ≤ 30000000000 := hza; omega
      have hz2 : (bstr (40 :: a.txt ++ [124])).size ≤ 30000000002 := by show (40 :: a.txt ++ [124]).length ≤ _; have : a.txt.length ≤ 30000000000 := hza; simp; omega
      have hz3 : (bstr (40 :: a.txt ++ [124] ++ b.txt)).size ≤ 60000000002 := by show (40 :: a.txt ++ [124] ++ b.txt).length ≤ _; have : a.txt.length ≤ 30000000000 := hza; have : b.txt.length ≤ 30000000000 := hzb; simp; omega
      generalize bstr (40 :: a.txt ++ [124] ++ b.txt) = S3 at *
      generalize bstr (40 :: a.txt ++ [124]) = S2 at *
      generalize bstr (40 :: a.txt) = S1 at *
      generalize hS4 : bstr (40 :: (a.txt ++ (124 :: (b.txt ++ [41])))) = S4 at *
      have HS4 := hid hS4
      clear hS4
      generalize a.txt = A at *
      generalize b.txt = B at *
      go_enter Try.func33, Try.ntmps33
      go_wp2_with fail
      refine (ca.out _ HV1.out).mono ?_; rintro e w5 ⟨rfl, b5⟩
      have HV5 := hid (HV1.out.below b5)
      have L5 := hid (hnext LB.out b5)
      have bn5 := hid (bn.out.keep b5)
      clear b5
      go_wp2_with fail
      refine (cb.out _ HV5.out).mono ?_; rintro e w6 ⟨rfl, b6⟩
      obtain ⟨y0, y1, y2, y3, y4, y5, _, _, _, _, _, _, yl⟩ := (bn5.out.keep b6).cells
      simp only at y0 y1 y2 y3 y4 y5
      have L6 := hid (hnext L5.out b6)
      clear b6
      go_wp2_with fail
      refine bodyPost_ret (v := .tuple #[.string S4, .int .i64 (j2 : Int)]) (by simp [results, Try.results33, go_sem]) rfl ?_
      rw [HT.out, HS4.out]
      refine ⟨?_, L6.out⟩
      show _ = Ending.returned (.tuple #[.string S4, .int .i64 ((i + ((a.ser ++ b.ser).length + 1) : Nat) : Int)])
      rw [← HJ.out]
/-- a condition's text -/
def Pd.txtL (l : List N) (z : List UInt8) : Prop := (whole l = false ∧ z = []) ∨ ∃ t : T, t.ok ∧ l = t.ser ∧ whole l = true ∧ z = t.txt
set_option maxRecDepth 100000 in
set_option maxHeartbeats 6400000 in
theorem pshow_any (v : Value) (l : List N) (w : World) (hv : NsAt w v l) (hl : l.length ≤ 1000000) (hok : ∀ x ∈ l, Nok x) : Calls Try.prog 20 #[v] w fun e w' => ∃ z, e = .returned (.string (bstr z)) ∧ txtL l z ∧ Below w.heap.size w w' := by
  have cw0 := whole_any v l w hv hl
  have HV := hid hv
  obtain ⟨adr, cap, rfl⟩ := hv.slc
  clear hv
  cases hw : whole l with
  | false =>
    rw [hw] at cw0
    have cw := hid cw0
    have HE := hid hw
    clear cw0 hw hok
    go_enter Try.func20, Try.ntmps20
    go_wp2_with fail
    refine cw.out.mono ?_; rintro e w1 ⟨rfl, rfl⟩
    go_wp2_with fail
    go_ret
    exact ⟨[], rfl, .inl ⟨HE.out, rfl⟩, Below.refl _ _⟩
  | true =>
    obtain ⟨t, ht, hlt⟩ := tree (whole_ends hw).1
    rw [hw] at cw0
    have cw := hid cw0
    have HX := hid (show txtL l t.txt from .inr ⟨t, ht, hlt, hw, rfl⟩)
    have hnk : t.nok := T.nok_of t (fun x hx => hok x (by rw [hlt]; exact hx))
    have cs0 := show_tree l hl t ht hnk 0 [] _ w HV.out (by rw [List.drop_zero, List.append_nil]; exact hlt) (by rw [← hlt]; exact hl)
    rw [show ((0 : Nat) : Int) = 0 from rfl] at cs0
    have cs := hid cs0
    clear cw0 cs0 hw hok ht hlt hnk
    go_enter Try.func20, Try.ntmps20
    go_wp2_with fail
    refine cw.out.mono ?_; rintro e w1 ⟨rfl, rfl⟩
    go_wp2_with fail
    refine cs.out.mono ?_; rintro e w2 ⟨rfl, b2⟩
    go_wp2_with fail
    go_ret
    exact ⟨_, rfl, HX.out, b2⟩
end Go.Proofs.Ytfdehigepgeknaa
