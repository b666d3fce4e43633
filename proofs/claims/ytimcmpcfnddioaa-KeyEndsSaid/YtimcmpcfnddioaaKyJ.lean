/-
  The reference's Compare: its contract. Condition: the texts have at most 2^63 - 1 bytes.
-/
import Derived.Test.YtimcmpcfnddioaaKyI
import Derived.Test.YtimcmpcfnddioaaReg
namespace Go.Proofs.Ytimcmpcfnddioaa
open Go.RowKit

/-- which value is ahead, as the reference says it -/
def Ky.lessI (a b : Nat) : Int := if Ky.less a b then -1 else if Ky.less b a then 1 else 0
def Ky.cmpR (x y : Cd.V) : Int :=
  if x.right = false then 0 else if y.right = false then 0 else if x.k = y.k then (if x.k = 3 then Ky.lessI x.b y.b else if x.k = 4 ∨ x.k = 5 then Ky.strs x.s y.s else Ky.ints x.n y.n) else Ky.ints x.k y.k
set_option maxRecDepth 100000 in
set_option maxHeartbeats 3200000 in
theorem compareR_any (x y : Cd.V) (hx : x.s.size ≤ maxLen) (hy : y.s.size ≤ maxLen) (hxb : x.b < 18446744073709551616) (hyb : y.b < 18446744073709551616) (w : World) : Calls Try.prog 28 #[vv x.k x.n x.b x.s, vv y.k y.n y.b y.s] w fun e w' => e = .returned (.int .i64 (Ky.cmpR x y)) ∧ Below w.heap.size w w' := by
  obtain ⟨xk, xn, xb, xs⟩ := x
  obtain ⟨yk, yn, yb, ys⟩ := y
  simp only at hx hy hxb hyb ⊢
  have rx0 := fun W => rightR_any xk xn xb xs hx hxb W
  have ry0 := fun W => rightR_any yk yn yb ys hy hyb W
  have X0 : Hid (VB ((w.alloc (.cells #[.int .i64 xk, .int .i64 xn, .int .u64 (xb : Int), .string xs] 39)).alloc (.cells #[.int .i64 yk, .int .i64 yn, .int .u64 (yb : Int), .string ys] 39)) w.heap.size xk xn xb xs) := (VB.new w xk xn xb xs).keep (hba _ _)
  have Y0 : Hid (VB ((w.alloc (.cells #[.int .i64 xk, .int .i64 xn, .int .u64 (xb : Int), .string xs] 39)).alloc (.cells #[.int .i64 yk, .int .i64 yn, .int .u64 (yb : Int), .string ys] 39)) (w.heap.size + 1) yk yn yb ys) := by
    have h := VB.new (w.alloc (.cells #[.int .i64 xk, .int .i64 xn, .int .u64 (xb : Int), .string xs] 39)) yk yn yb ys
    rw [show (w.alloc (.cells #[.int .i64 xk, .int .i64 xn, .int .u64 (xb : Int), .string xs] 39)).heap.size = w.heap.size + 1 by simp] at h
    exact h
  have L0 := hid (hnext (hba w (.cells #[.int .i64 xk, .int .i64 xn, .int .u64 (xb : Int), .string xs] 39)) (hba _ (.cells #[.int .i64 yk, .int .i64 yn, .int .u64 (yb : Int), .string ys] 39)))
  obtain ⟨q0, q1, q2, q3⟩ := X0.out.cells
  obtain ⟨p0, p1, p2, p3⟩ := Y0.out.cells
  cases hrx : Va.right xk xn xb xs
  · rw [hrx] at rx0
    have HE : Hid (Ky.cmpR ⟨xk, xn, xb, xs⟩ ⟨yk, yn, yb, ys⟩ = 0) := if_pos hrx
    unfold vv at rx0 ⊢
    have rx := hid rx0
    clear rx0 ry0 hrx
    go_enter Try.func28, Try.ntmps28
    go_wp2_with fail
    refine (rx.out _).mono ?_; rintro e w1 ⟨rfl, b1⟩
    have L1 := hid (hnext L0.out b1)
    go_wp2_with fail
    go_ret
    rw [HE.out]
    exact ⟨rfl, L1.out⟩
  cases hry : Va.right yk yn yb ys
  · rw [hrx] at rx0
    rw [hry] at ry0
    have HE : Hid (Ky.cmpR ⟨xk, xn, xb, xs⟩ ⟨yk, yn, yb, ys⟩ = 0) := by
      show _ = _
      unfold Ky.cmpR Cd.V.right
      simp only [hrx, hry]
      rfl
    unfold vv at rx0 ry0 ⊢
    have rx := hid rx0
    have ry := hid ry0
    clear rx0 ry0 hrx hry
    go_enter Try.func28, Try.ntmps28
    go_wp2_with fail
    refine (rx.out _).mono ?_; rintro e w1 ⟨rfl, b1⟩
    have X1 := X0.out.keep b1
    have Y1 := Y0.out.keep b1
    have L1 := hid (hnext L0.out b1)
    clear b1
    obtain ⟨q0, q1, q2, q3⟩ := X1.cells
    obtain ⟨p0, p1, p2, p3⟩ := Y1.cells
    go_wp2_with fail
    refine (ry.out _).mono ?_; rintro e w2 ⟨rfl, b2⟩
    have L2 := hid (hnext L1.out b2)
    go_wp2_with fail
    go_ret
    rw [HE.out]
    exact ⟨rfl, L2.out⟩
  have HC : Hid (Ky.cmpR ⟨xk, xn, xb, xs⟩ ⟨yk, yn, yb, ys⟩ = if xk = yk then (if xk = 3 then Ky.lessI xb yb else if xk = 4 ∨ xk = 5 then Ky.strs xs ys else Ky.ints xn yn) else Ky.ints xk yk) := by
    show _ = _
    unfold Ky.cmpR Cd.V.right
    simp only [hrx, hry]
    rfl
  rw [hrx] at rx0
  rw [hry] at ry0
  have rx := hid rx0
  have ry := hid ry0
  clear rx0 ry0 hrx hry
  by_cases hk : xk = yk
  · have ek : (xk != yk) = false := by rw [bne_eq_false_iff_eq]; exact hk
    by_cases h3 : xk = 3
    · have HE0 : Hid (Ky.cmpR ⟨xk, xn, xb, xs⟩ ⟨yk, yn, yb, ys⟩ = Ky.lessI xb yb) := by show _ = _; rw [HC.out, if_pos hk, if_pos h3]
      have e3 : (xk == 3) = true := by rw [beq_iff_eq]; exact h3
      have la := hid (fun W => lessR_any xb yb hxb hyb W)
      have lb := hid (fun W => lessR_any yb xb hyb hxb W)
      unfold Ky.lessI at HE0
      unfold vv at rx ry ⊢
      clear HC h3 hk
      generalize Ky.less xb yb = p at HE0 la
      generalize Ky.less yb xb = q at HE0 lb
      cases p
      · cases q
        · have HE : Hid (Ky.cmpR ⟨xk, xn, xb, xs⟩ ⟨yk, yn, yb, ys⟩ = 0) := HE0.out
          go_enter Try.func28, Try.ntmps28
          go_wp2_with fail
          refine (rx.out _).mono ?_; rintro e w1 ⟨rfl, b1⟩
          have X1 := X0.out.keep b1
          have Y1 := Y0.out.keep b1
          have L1 := hid (hnext L0.out b1)
          clear b1
          obtain ⟨q0, q1, q2, q3⟩ := X1.cells
          obtain ⟨p0, p1, p2, p3⟩ := Y1.cells
          go_wp2_with fail
          refine (ry.out _).mono ?_; rintro e w2 ⟨rfl, b2⟩
          have X2 := X1.keep b2
          have Y2 := Y1.keep b2
          have L2 := hid (hnext L1.out b2)
          clear b2 X1 Y1 q0 q1 q2 q3 p0 p1 p2 p3
          obtain ⟨q0, q1, q2, q3⟩ := X2.cells
          obtain ⟨p0, p1, p2, p3⟩ := Y2.cells
          go_wp2_with fail
          refine (la.out _).mono ?_; rintro e w3 ⟨rfl, rfl⟩
          go_wp2_with fail
          refine (lb.out _).mono ?_; rintro e w3 ⟨rfl, rfl⟩
          go_wp2_with fail
          go_ret
          rw [HE.out]
          exact ⟨rfl, L2.out⟩
        · have HE : Hid (Ky.cmpR ⟨xk, xn, xb, xs⟩ ⟨yk, yn, yb, ys⟩ = 1) := HE0.out
          go_enter Try.func28, Try.ntmps28
          go_wp2_with fail
          refine (rx.out _).mono ?_; rintro e w1 ⟨rfl, b1⟩
          have X1 := X0.out.keep b1
          have Y1 := Y0.out.keep b1
          have L1 := hid (hnext L0.out b1)
          clear b1
          obtain ⟨q0, q1, q2, q3⟩ := X1.cells
          obtain ⟨p0, p1, p2, p3⟩ := Y1.cells
          go_wp2_with fail
          refine (ry.out _).mono ?_; rintro e w2 ⟨rfl, b2⟩
          have X2 := X1.keep b2
          have Y2 := Y1.keep b2
          have L2 := hid (hnext L1.out b2)
          clear b2 X1 Y1 q0 q1 q2 q3 p0 p1 p2 p3
          obtain ⟨q0, q1, q2, q3⟩ := X2.cells
          obtain ⟨p0, p1, p2, p3⟩ := Y2.cells
          go_wp2_with fail
          refine (la.out _).mono ?_; rintro e w3 ⟨rfl, rfl⟩
          go_wp2_with fail
          refine (lb.out _).mono ?_; rintro e w3 ⟨rfl, rfl⟩
          go_wp2_with fail
          go_ret
          rw [HE.out]
          exact ⟨rfl, L2.out⟩
      · have HE : Hid (Ky.cmpR ⟨xk, xn, xb, xs⟩ ⟨yk, yn, yb, ys⟩ = -1) := HE0.out
        go_enter Try.func28, Try.ntmps28
        go_wp2_with fail
        refine (rx.out _).mono ?_; rintro e w1 ⟨rfl, b1⟩
        have X1 := X0.out.keep b1
        have Y1 := Y0.out.keep b1
        have L1 := hid (hnext L0.out b1)
        clear b1
        obtain ⟨q0, q1, q2, q3⟩ := X1.cells
        obtain ⟨p0, p1, p2, p3⟩ := Y1.cells
        go_wp2_with fail
        refine (ry.out _).mono ?_; rintro e w2 ⟨rfl, b2⟩
        have X2 := X1.keep b2
        have Y2 := Y1.keep b2
        have L2 := hid (hnext L1.out b2)
        clear b2 X1 Y1 q0 q1 q2 q3 p0 p1 p2 p3
        obtain ⟨q0, q1, q2, q3⟩ := X2.cells
        obtain ⟨p0, p1, p2, p3⟩ := Y2.cells
        go_wp2_with fail
        refine (la.out _).mono ?_; rintro e w3 ⟨rfl, rfl⟩
        go_wp2_with fail
        go_ret
        rw [HE.out]
        exact ⟨rfl, L2.out⟩
    · have e3 : (xk == 3) = false := by rw [beq_eq_false_iff_ne]; exact h3
      by_cases h4 : xk = 4
      · have HE : Hid (Ky.cmpR ⟨xk, xn, xb, xs⟩ ⟨yk, yn, yb, ys⟩ = Ky.strs xs ys) := by show _ = _; rw [HC.out, if_pos hk, if_neg h3, if_pos (.inl h4)]
        have e4 : (xk == 4) = true := by rw [beq_iff_eq]; exact h4
        have co := hid (fun W => bytesR_any xs ys hx hy W)
        unfold vv at rx ry ⊢
        clear HC h3 hk h4
        go_enter Try.func28, Try.ntmps28
        go_wp2_with fail
        refine (rx.out _).mono ?_; rintro e w1 ⟨rfl, b1⟩
        have X1 := X0.out.keep b1
        have Y1 := Y0.out.keep b1
        have L1 := hid (hnext L0.out b1)
        clear b1
        obtain ⟨q0, q1, q2, q3⟩ := X1.cells
        obtain ⟨p0, p1, p2, p3⟩ := Y1.cells
        go_wp2_with fail
        refine (ry.out _).mono ?_; rintro e w2 ⟨rfl, b2⟩
        have X2 := X1.keep b2
        have Y2 := Y1.keep b2
        have L2 := hid (hnext L1.out b2)
        clear b2 X1 Y1 q0 q1 q2 q3 p0 p1 p2 p3
        obtain ⟨q0, q1, q2, q3⟩ := X2.cells
        obtain ⟨p0, p1, p2, p3⟩ := Y2.cells
        go_wp2_with fail
        refine (co.out _).mono ?_; rintro e w3 ⟨rfl, b3⟩
        go_wp2_with fail
        go_ret
        rw [HE.out]
        exact ⟨rfl, hnext L2.out b3⟩
      · have e4 : (xk == 4) = false := by rw [beq_eq_false_iff_ne]; exact h4
        by_cases h5 : xk = 5
        · have HE : Hid (Ky.cmpR ⟨xk, xn, xb, xs⟩ ⟨yk, yn, yb, ys⟩ = Ky.strs xs ys) := by show _ = _; rw [HC.out, if_pos hk, if_neg h3, if_pos (.inr h5)]
          have e5 : (xk == 5) = true := by rw [beq_iff_eq]; exact h5
          have co := hid (fun W => bytesR_any xs ys hx hy W)
          unfold vv at rx ry ⊢
          clear HC h3 hk h4 h5
          go_enter Try.func28, Try.ntmps28
          go_wp2_with fail
          refine (rx.out _).mono ?_; rintro e w1 ⟨rfl, b1⟩
          have X1 := X0.out.keep b1
          have Y1 := Y0.out.keep b1
          have L1 := hid (hnext L0.out b1)
          clear b1
          obtain ⟨q0, q1, q2, q3⟩ := X1.cells
          obtain ⟨p0, p1, p2, p3⟩ := Y1.cells
          go_wp2_with fail
          refine (ry.out _).mono ?_; rintro e w2 ⟨rfl, b2⟩
          have X2 := X1.keep b2
          have Y2 := Y1.keep b2
          have L2 := hid (hnext L1.out b2)
          clear b2 X1 Y1 q0 q1 q2 q3 p0 p1 p2 p3
          obtain ⟨q0, q1, q2, q3⟩ := X2.cells
          obtain ⟨p0, p1, p2, p3⟩ := Y2.cells
          go_wp2_with fail
          refine (co.out _).mono ?_; rintro e w3 ⟨rfl, b3⟩
          go_wp2_with fail
          go_ret
          rw [HE.out]
          exact ⟨rfl, hnext L2.out b3⟩
        · have HE : Hid (Ky.cmpR ⟨xk, xn, xb, xs⟩ ⟨yk, yn, yb, ys⟩ = Ky.ints xn yn) := by show _ = _; rw [HC.out, if_pos hk, if_neg h3, if_neg (fun h => h.elim h4 h5)]
          have e5 : (xk == 5) = false := by rw [beq_eq_false_iff_ne]; exact h5
          have co := hid (fun W => ints_any xn yn W)
          unfold vv at rx ry ⊢
          clear HC h3 hk h4 h5
          go_enter Try.func28, Try.ntmps28
          go_wp2_with fail
          refine (rx.out _).mono ?_; rintro e w1 ⟨rfl, b1⟩
          have X1 := X0.out.keep b1
          have Y1 := Y0.out.keep b1
          have L1 := hid (hnext L0.out b1)
          clear b1
          obtain ⟨q0, q1, q2, q3⟩ := X1.cells
          obtain ⟨p0, p1, p2, p3⟩ := Y1.cells
          go_wp2_with fail
          refine (ry.out _).mono ?_; rintro e w2 ⟨rfl, b2⟩
          have X2 := X1.keep b2
          have Y2 := Y1.keep b2
          have L2 := hid (hnext L1.out b2)
          clear b2 X1 Y1 q0 q1 q2 q3 p0 p1 p2 p3
          obtain ⟨q0, q1, q2, q3⟩ := X2.cells
          obtain ⟨p0, p1, p2, p3⟩ := Y2.cells
          go_wp2_with fail
          refine (co.out _).mono ?_; rintro e w3 ⟨rfl, rfl⟩
          go_wp2_with fail
          go_ret
          rw [HE.out]
          exact ⟨rfl, L2.out⟩
  · have ek : (xk != yk) = true := by rw [bne_iff_ne]; exact hk
    have HE : Hid (Ky.cmpR ⟨xk, xn, xb, xs⟩ ⟨yk, yn, yb, ys⟩ = Ky.ints xk yk) := by show _ = _; rw [HC.out, if_neg hk]
    have co := hid (fun W => ints_any xk yk W)
    unfold vv at rx ry ⊢
    clear HC hk
    go_enter Try.func28, Try.ntmps28
    go_wp2_with fail
    refine (rx.out _).mono ?_; rintro e w1 ⟨rfl, b1⟩
    have X1 := X0.out.keep b1
    have Y1 := Y0.out.keep b1
    have L1 := hid (hnext L0.out b1)
    clear b1
    obtain ⟨q0, q1, q2, q3⟩ := X1.cells
    obtain ⟨p0, p1, p2, p3⟩ := Y1.cells
    go_wp2_with fail
    refine (ry.out _).mono ?_; rintro e w2 ⟨rfl, b2⟩
    have X2 := X1.keep b2
    have Y2 := Y1.keep b2
    have L2 := hid (hnext L1.out b2)
    clear b2 X1 Y1 q0 q1 q2 q3 p0 p1 p2 p3
    obtain ⟨q0, q1, q2, q3⟩ := X2.cells
    obtain ⟨p0, p1, p2, p3⟩ := Y2.cells
    go_wp2_with fail
    refine (co.out _).mono ?_; rintro e w3 ⟨rfl, rfl⟩
    go_wp2_with fail
    go_ret
    rw [HE.out]
    exact ⟨rfl, L2.out⟩
end Go.Proofs.Ytimcmpcfnddioaa
