/-
  What a value as an argument is; boxes; AsFloat of a value that is none. No condition.
-/
import Derived.Test.YtgdegoacjobpdaaKo
import Derived.Test.YtgdegoacjobpdaaVp
import Derived.Lib.SmallJoins
namespace Go.Proofs.Ytgdegoacjobpdaa
open Go.RowKit Go.Joins Go.ChangeShapes Go.WideShapes Go.Deep

theorem cellsVal : Try.prog.cellsOf 24 = 4 := by kernel_rfl
theorem int64_of {n : Int} (h : (Lit.int .i64 n).wf = true) : -9223372036854775808 ≤ n ∧ n ≤ 9223372036854775807 := by
  simpa [Lit.wf, IntKind.min, IntKind.max, IntKind.signed, IntKind.bits] using h
theorem open_value {H : Type} {enc : TypeId × Value → H} {W : World} {base b0 : Nat} {sp : Nat → Bool} {hd : Bool} {r : Reach} {v : Value} {d : DataW H} {p : List MemPlace} (hv : Value.okWide Try.prog W r b0 24 v) (h : DataW.Trod enc Try.prog W base sp hd 24 v d p) :
    ∃ (k n : Int) (b : Nat) (s : ByteArray), v = .agg #[.int .i64 k, .int .i64 n, .int .u64 (b : Int), .string s] ∧ (-9223372036854775808 ≤ n ∧ n ≤ 9223372036854775807) ∧ b < 18446744073709551616 ∧ s.size ≤ maxLen := by
  obtain ⟨v0, v1, v2, v3, y0, y1, y2, y3, n, rfl, _, _, h0, h1, h2, h3⟩ := open_agg4 Try.underlying24 (by kernel_rfl) cellsVal hv h
  obtain ⟨k0, e0, _, _⟩ := DataW.trod_int Try.underlying3 h0
  obtain ⟨k1, e1, _, w1⟩ := DataW.trod_int Try.underlying3 h1
  obtain ⟨k2, e2, _, w2⟩ := DataW.trod_int Try.underlying22 h2
  obtain ⟨s, e3, _, w3⟩ := DataW.trod_string Try.underlying9 h3
  simp at e0 e1 e2 e3
  subst e0 e1 e2 e3
  obtain ⟨b, rfl, hb⟩ := u64_of w2
  exact ⟨k0, k1, b, s, rfl, int64_of w1, hb, w3⟩
/-- a value, laid -/
def box (w : World) (k n : Int) (b : Nat) (s : ByteArray) : World := w.alloc (.cells #[.int .i64 k, .int .i64 n, .int .u64 (b : Int), .string s] 24)
theorem box_size (w : World) (k n : Int) (b : Nat) (s : ByteArray) : (box w k n b s).heap.size = w.heap.size + 1 := by unfold box; simp
theorem boxes2 (w : World) (k n : Int) (b : Nat) (s : ByteArray) (k2 n2 : Int) (b2 : Nat) (s2 : ByteArray) :
    Below w.heap.size w (box (box w k n b s) k2 n2 b2 s2) ∧ BV (box (box w k n b s) k2 n2 b2 s2) w.heap.size k n b s ∧ BV (box (box w k n b s) k2 n2 b2 s2) (w.heap.size + 1) k2 n2 b2 s2 := by
  refine ⟨hnext (hba _ _) (hba _ _), (BV.new w k n b s).keep (hba _ _), ?_⟩
  have h := BV.new (box w k n b s) k2 n2 b2 s2
  rwa [box_size] at h
theorem boxes3 (w : World) (k n : Int) (b : Nat) (s : ByteArray) (k2 n2 : Int) (b2 : Nat) (s2 : ByteArray) (k3 n3 : Int) (b3 : Nat) (s3 : ByteArray) :
    Below w.heap.size w (box (box (box w k n b s) k2 n2 b2 s2) k3 n3 b3 s3) ∧ BV (box (box (box w k n b s) k2 n2 b2 s2) k3 n3 b3 s3) w.heap.size k n b s ∧ BV (box (box (box w k n b s) k2 n2 b2 s2) k3 n3 b3 s3) (w.heap.size + 1) k2 n2 b2 s2 ∧ BV (box (box (box w k n b s) k2 n2 b2 s2) k3 n3 b3 s3) (w.heap.size + 2) k3 n3 b3 s3 := by
  obtain ⟨h1, h2, h3⟩ := boxes2 w k n b s k2 n2 b2 s2
  refine ⟨hnext h1 (hba _ _), h2.keep (hba _ _), h3.keep (hba _ _), ?_⟩
  have h := BV.new (box (box w k n b s) k2 n2 b2 s2) k3 n3 b3 s3
  rwa [box_size, box_size] at h
set_option maxRecDepth 100000 in
set_option maxHeartbeats 3200000 in
theorem asfloat_odd (k n : Int) (b : Nat) (s : ByteArray) (hs : s.size ≤ maxLen) (hr : Va.right k n b s = false) (w : World) : Calls Try.prog 23 #[vv k n b s] w fun e w' => e = .returned (.float .f64 0) ∧ Below w.heap.size w w' := by
  have cr0 := fun W => right_any k n b s hs W
  rw [hr] at cr0
  unfold vv at cr0 ⊢
  have cr := hid cr0
  clear cr0 hr
  have bv := BV.new w k n b s
  have L0 := hid (hba w (.cells #[.int .i64 k, .int .i64 n, .int .u64 (b : Int), .string s] 24))
  by_cases hk : k = 3
  · subst hk
    go_enter Try.func23, Try.ntmps23
    go_wp2_with fail
    refine (cr.out _).mono ?_; rintro e w1 ⟨rfl, b1⟩
    have bv1 := bv.keep b1
    have L1 := hid (hnext L0.out b1)
    clear b1 bv L0
    obtain ⟨v0, v1, v2, v3, vf0, vf1, vf2, vf3, vl⟩ := bv1.cells
    go_wp2_with fail
    go_ret
    exact ⟨rfl, L1.out⟩
  · have e1 : (k != 3) = true := by rw [bne_iff_ne]; exact hk
    have e2 : (k == 3) = false := by rw [beq_eq_false_iff_ne]; exact hk
    clear hk
    go_enter Try.func23, Try.ntmps23
    go_wp2_with fail
    go_ret
    exact ⟨rfl, L0.out⟩
/-- an odd value -/
theorem odd_no {k n : Int} {b : Nat} {s : ByteArray} (h : (k = 0 ∨ k = 3) ∧ n = 1 ∨ k = 1 ∧ n = 2 ∨ (k ≠ 0 ∧ k ≠ 3 ∧ k ≠ 1) ∧ b = 1) : Va.right k n b s = false := by
  cases hr : Va.right k n b s with
  | false => rfl
  | true =>
    exfalso
    rcases Ky.right_cases hr with h1 | h1 | h1 | h1 | h1 <;> omega
theorem cmp_odd1 {x y : Cd.V} (h : x.right = false) : Ky.cmp x y = 0 := by unfold Ky.cmp; rw [if_pos h]
theorem cmp_odd2 {x y : Cd.V} (h : y.right = false) : Ky.cmp x y = 0 := by
  unfold Ky.cmp
  by_cases hx : x.right = false
  · rw [if_pos hx]
  · rw [if_neg hx, if_pos h]
end Go.Proofs.Ytgdegoacjobpdaa
