/-
  CodeNil answers true at any number. No condition.
-/
import Derived.Test.YtanmomlkdfnakaaZig
namespace Go.Proofs.Ytanmomlkdfnakaa
open Go.RowKit

theorem mUint_nil (w : World) : Calls Try.prog 25 #[.pointer none] w fun e w' => e = .returned (.int .u64 0) ∧ Below w.heap.size w w' := by
  have hmf := run_makeFunc
  go_enter Try.func25, Try.ntmps25
  go_wp2_with fail
  refine (try_uint64_nil _).mono ?_; rintro e w1 ⟨rfl, b⟩
  go_wp2_with fail
  go_ret
  exact ⟨rfl, b⟩
theorem mInt_nil (w : World) : Calls Try.prog 27 #[.pointer none] w fun e w' => e = .returned (.int .i64 0) ∧ Below w.heap.size w w' := by
  have hmf := run_makeFunc
  go_enter Try.func27, Try.ntmps27
  go_wp2_with fail
  refine (try_int_nil _).mono ?_; rintro e w1 ⟨rfl, b⟩
  go_wp2_with fail
  go_ret
  exact ⟨rfl, b⟩
theorem mText_nil (w : World) : Calls Try.prog 29 #[.pointer none] w fun e w' => e = .returned (.string ⟨#[]⟩) ∧ Below w.heap.size w w' := by
  have hmf := run_makeFunc
  have hb := hba w (.cells #[.pointer none] 36)
  go_enter Try.func29, Try.ntmps29
  go_wp2_with fail
  refine (try_string_nil _ _).mono ?_; rintro e w1 ⟨rfl, b⟩
  go_wp2_with fail
  go_ret
  exact ⟨rfl, hnext hb b⟩
theorem mRow_nil (w : World) : Calls Try.prog 34 #[.pointer none] w fun e w' => e = .returned (.slice none 0 0) ∧ Below w.heap.size w w' := by
  have hmf := run_makeFunc
  go_enter Try.func34, Try.ntmps34
  go_wp2_with fail
  refine (try_row_nil _).mono ?_; rintro e w1 ⟨rfl, b⟩
  go_wp2_with fail
  go_ret
  exact ⟨rfl, b⟩
theorem mValue_nil (w : World) : Calls Try.prog 31 #[.pointer none] w fun e w' => e = .returned (.agg #[.int .i64 0, .int .i64 0, .int .u64 0, .string ⟨#[]⟩]) ∧ Below w.heap.size w w' := by
  have hmf := run_makeFunc
  have hb := hba w (.cells #[.int .i64 0, .int .i64 0, .int .u64 0, .string ⟨#[]⟩] 28)
  have hx := hid (Var.new w #[.int .i64 0, .int .i64 0, .int .u64 0, .string ⟨#[]⟩] 28 rfl)
  go_enter Try.func31, Try.ntmps31
  go_wp2_with fail
  refine (try_value_nil _).mono ?_; rintro e w1 ⟨rfl, b⟩
  have hX1 := hx.out.keep b
  have hbb := hnext hb b
  have x0 := hX1.cell 0
  have x1 := hX1.cell 1
  have x2 := hX1.cell 2
  have x3 := hX1.cell 3
  have y0 := hX1.free 0
  have y1 := hX1.free 1
  have y2 := hX1.free 2
  have y3 := hX1.free 3
  have hX2 := (((hX1.set 0 (.int .i64 0)).set 1 (.int .i64 0)).set 2 (.int .u64 0)).set 3 (.string ⟨#[]⟩)
  have z0 := hX2.cell 0
  have z1 := hX2.cell 1
  have z2 := hX2.cell 2
  have z3 := hX2.cell 3
  clear hX1 hX2 hx hb b
  go_wp2_with fail
  refine bodyPost_ret (v := .agg #[.int .i64 0, .int .i64 0, .int .u64 0, .string ⟨#[]⟩]) (by simp [results, Try.results31, go_sem, z0, z1, z2, z3]) rfl ?_
  refine ⟨rfl, ?_⟩
  exact (((hbb.setCell (p := ⟨w.heap.size, 0, none⟩) (Nat.le_refl _) _).setCell (p := ⟨w.heap.size, 1, none⟩) (Nat.le_refl _) _).setCell (p := ⟨w.heap.size, 2, none⟩) (Nat.le_refl _) _).setCell (p := ⟨w.heap.size, 3, none⟩) (Nat.le_refl _) _

set_option maxHeartbeats 800000 in
theorem codeNil_walk (n0 : Int) (hn0 : (Lit.int .u64 n0).wf = true) (w : World) :
    Calls Try.prog 8 #[.int .u64 n0] w fun e w' => e = .returned (.bool true) ∧ Below w.heap.size w w' := by
  obtain ⟨n, rfl, hn⟩ := u64_of hn0
  clear hn0
  have c1 := hid (fun W => uint_any n hn W)
  have hl : (0 : Int) < (bstr (Cd.enc n)).size := by have := (Cd.enc_length n).1; rw [bstr_size]; omega
  generalize bstr (Cd.enc n) = A at *
  go_enter Try.func8, Try.ntmps8
  go_wp2_with fail
  refine (mUint_nil _).mono ?_; rintro e w1 ⟨rfl, b1⟩
  go_wp2_with fail
  refine (mInt_nil _).mono ?_; rintro e w2 ⟨rfl, b2⟩
  go_wp2_with fail
  refine (mText_nil _).mono ?_; rintro e w3 ⟨rfl, b3⟩
  go_wp2_with fail
  refine (mValue_nil _).mono ?_; rintro e w4 ⟨rfl, b4⟩
  go_wp2_with fail
  refine (mRow_nil _).mono ?_; rintro e w5 ⟨rfl, b5⟩
  go_wp2_with fail
  refine (left_nil _).mono ?_; rintro e w6 ⟨rfl, b6⟩
  go_wp2_with fail
  refine (err_nil _).mono ?_; rintro e w7 ⟨rfl, rfl⟩
  go_wp2_with fail
  refine (c1.out _).mono ?_; rintro e w8 ⟨rfl, b8⟩
  go_wp2_with fail
  refine (known_any _).mono ?_; rintro e w9 ⟨rfl, b9⟩
  go_wp2
  go_ret
  exact ⟨rfl, hnext (hnext (hnext (hnext (hnext (hnext (hnext b1 b2) b3) b4) b5) b6) b8) b9⟩
end Go.Proofs.Ytanmomlkdfnakaa
