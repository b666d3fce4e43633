/-
  The methods of code's reader, New: their contracts. Condition: the text has at most 1000000000 bytes.
-/
import Derived.Test.YtanmomlkdfnakaaTry
namespace Go.Proofs.Ytanmomlkdfnakaa
open Go.RowKit

theorem new_any (s : ByteArray) (w : World) : Calls Try.prog 23 #[.string s] w fun e w' => e = .returned (.pointer (some ⟨w.heap.size, 0, none⟩)) ∧ w' = w.alloc (.cells #[.string s, .int .i64 0, .int .i64 0] 60) := by
  go_enter Try.func23, Try.ntmps23
  go_wp2
  go_ret
  exact ⟨rfl, rfl⟩
theorem new_rdr (s : ByteArray) (w : World) : Rdr (w.alloc (.cells #[.string s, .int .i64 0, .int .i64 0] 60)) w.heap.size s 0 0 := heap_alloc_new w _

set_option maxRecDepth 100000 in
theorem left_any (g : Nat) (s : ByteArray) (i : Nat) (er : Int) (w : World) (hr : Rdr w g s i er) (hi : i ≤ s.size) (hs : s.size ≤ 1000000000) :
    Calls Try.prog 36 #[.pointer (some ⟨g, 0, none⟩)] w fun e w' => e = .returned (.int .i64 ((s.size - i : Nat) : Int)) ∧ Below w.heap.size w w' := by
  obtain ⟨c0, c1, c2, f1, f2, hg⟩ := hr.cells
  have hw1 : IntKind.i64.wrap ((s.size : Int) - (i : Int)) = ((s.size - i : Nat) : Int) := by rw [IntKind.wrap_i64]; omega
  generalize s.size - i = d at *
  go_enter Try.func36, Try.ntmps36
  go_wp2_with fail
  go_quiet (fail)
  go_wp2
  go_ret
  exact ⟨rfl, hdrewN (Below.refl _ _) nq⟩
theorem left_nil (w : World) : Calls Try.prog 36 #[.pointer none] w fun e w' => e = .returned (.int .i64 0) ∧ Below w.heap.size w w' := by
  go_enter Try.func36, Try.ntmps36
  go_wp2
  go_ret
  exact ⟨rfl, Below.refl _ _⟩
theorem err_any (g : Nat) (s : ByteArray) (i : Nat) (er : Int) (w : World) (hr : Rdr w g s i er) :
    Calls Try.prog 38 #[.pointer (some ⟨g, 0, none⟩)] w fun e w' => e = .returned (.int .i64 er) ∧ w = w' := by
  obtain ⟨c0, c1, c2, f1, f2, hg⟩ := hr.cells
  go_enter Try.func38, Try.ntmps38
  go_wp2
  go_ret
  exact ⟨rfl, rfl⟩
theorem err_nil (w : World) : Calls Try.prog 38 #[.pointer none] w fun e w' => e = .returned (.int .i64 13) ∧ w = w' := by
  go_enter Try.func38, Try.ntmps38
  go_wp2
  go_ret
  exact ⟨rfl, rfl⟩

theorem mUint (g : Nat) (s : ByteArray) (i : Nat) (er : Int) (w : World) (hr : Rdr w g s i er) (hi : i ≤ s.size) (hs : s.size ≤ 1000000000) :
    Calls Try.prog 25 #[.pointer (some ⟨g, 0, none⟩)] w (Top (fun n : Nat => .int .u64 (n : Int)) g s (Cd.top 0 (Cd.uintR s.data.toList) i er) w) := by
  have hmf := run_makeFunc
  have h := hid (try_uint64 g s i er w hr hi hs)
  go_enter Try.func25, Try.ntmps25
  go_wp2_with fail
  refine (h.out).mono ?_; rintro e w1 ⟨rfl, hu, hR, hj⟩
  go_wp2_with fail
  go_ret
  exact ⟨rfl, hu, hR, hj⟩
theorem mInt (g : Nat) (s : ByteArray) (i : Nat) (er : Int) (w : World) (hr : Rdr w g s i er) (hi : i ≤ s.size) (hs : s.size ≤ 1000000000) :
    Calls Try.prog 27 #[.pointer (some ⟨g, 0, none⟩)] w (Top (fun n : Int => .int .i64 n) g s (Cd.top 0 (Cd.intR s.data.toList) i er) w) := by
  have hmf := run_makeFunc
  have h := hid (try_int g s i er w hr hi hs)
  go_enter Try.func27, Try.ntmps27
  go_wp2_with fail
  refine (h.out).mono ?_; rintro e w1 ⟨rfl, hu, hR, hj⟩
  go_wp2_with fail
  go_ret
  exact ⟨rfl, hu, hR, hj⟩
theorem mText (g : Nat) (s : ByteArray) (i : Nat) (er : Int) (w : World) (hr : Rdr w g s i er) (hi : i ≤ s.size) (hs : s.size ≤ 1000000000) :
    Calls Try.prog 29 #[.pointer (some ⟨g, 0, none⟩)] w (Top (fun t : ByteArray => .string t) g s (Cd.top ⟨#[]⟩ (Cd.textR s 1000000) i er) w) := by
  have hmf := run_makeFunc
  have hb := hba w (.cells #[.pointer (some ⟨g, 0, none⟩)] 36)
  have h := hid (try_string g w.heap.size s i er (w.alloc (.cells #[.pointer (some ⟨g, 0, none⟩)] 36)) (hr.keep hb) (Var.new w _ _ rfl) hi hs)
  have hB := hid hb
  clear hb
  go_enter Try.func29, Try.ntmps29
  go_wp2_with fail
  refine (h.out).mono ?_; rintro e w1 ⟨rfl, hu, hR, hj⟩
  go_wp2_with fail
  go_ret
  exact ⟨rfl, (Upd.of hB.out).trans hu, hR, hj⟩
theorem mRow (g : Nat) (s : ByteArray) (i : Nat) (er : Int) (w : World) (hr : Rdr w g s i er) (hi : i ≤ s.size) (hs : s.size ≤ 1000000000) :
    Calls Try.prog 34 #[.pointer (some ⟨g, 0, none⟩)] w (TopRow g s (Cd.top [] (Cd.rowR s) i er) w) := by
  have hmf := run_makeFunc
  have h := hid (try_row g s i er w hr hi hs)
  go_enter Try.func34, Try.ntmps34
  go_wp2_with fail
  refine (h.out).mono ?_; rintro e w1 ⟨⟨v', rfl, hown⟩, hu, hR, hj⟩
  have hO := hid hown
  clear hown
  go_wp2_with fail
  go_ret
  exact ⟨⟨_, rfl, hO.out⟩, hu, hR, hj⟩
set_option maxRecDepth 100000 in
theorem mValue (g : Nat) (s : ByteArray) (i : Nat) (er : Int) (w : World) (hr : Rdr w g s i er) (hi : i ≤ s.size) (hs : s.size ≤ 1000000000) :
    Calls Try.prog 31 #[.pointer (some ⟨g, 0, none⟩)] w (Top vvV g s (Cd.top ⟨0, 0, 0, ⟨#[]⟩⟩ (Cd.valueR s) i er) w) := by
  have hmf := run_makeFunc
  have hb := hba w (.cells #[.int .i64 0, .int .i64 0, .int .u64 0, .string ⟨#[]⟩] 28)
  have hx := hid (Var.new w #[.int .i64 0, .int .i64 0, .int .u64 0, .string ⟨#[]⟩] 28 rfl)
  have h := hid (try_value g s i er (w.alloc (.cells #[.int .i64 0, .int .i64 0, .int .u64 0, .string ⟨#[]⟩] 28)) (hr.keep hb) hi hs)
  have hB := hid hb
  have hxg : w.heap.size ≠ g := by have := hr.cells.2.2.2.2.2; omega
  clear hb
  go_enter Try.func31, Try.ntmps31
  go_wp2_with fail
  refine (h.out).mono ?_; rintro e w1 ⟨rfl, hu, hR, hj⟩
  have hX1 := hx.out.upd hu hxg
  have hU1 := (Upd.of hB.out).trans hu
  have x0 := hX1.cell 0
  have x1 := hX1.cell 1
  have x2 := hX1.cell 2
  have x3 := hX1.cell 3
  have y0 := hX1.free 0
  have y1 := hX1.free 1
  have y2 := hX1.free 2
  have y3 := hX1.free 3
  clear hu hx hB h
  generalize hT : Cd.top ⟨0, 0, 0, ⟨#[]⟩⟩ (Cd.valueR s) i er = T at hR hj
  have HT := hid hT
  clear hT
  obtain ⟨n, j, er2⟩ := T
  simp only at hR hj
  dsimp only
  unfold vvV vv
  go_wp2_with fail
  have hX2 := (((hX1.set 0 (.int .i64 n.k)).set 1 (.int .i64 n.n)).set 2 (.int .u64 (n.b : Int))).set 3 (.string n.s)
  have z0 := hX2.cell 0
  have z1 := hX2.cell 1
  have z2 := hX2.cell 2
  have z3 := hX2.cell 3
  have hR2 := (((hR.setO (o := 0) (.int .i64 n.k) hxg).setO (o := 1) (.int .i64 n.n) hxg).setO (o := 2) (.int .u64 (n.b : Int)) hxg).setO (o := 3) (.string n.s) hxg
  have hU2 := (((hU1.setNew (o := 0) (.int .i64 n.k) (Nat.le_refl _)).setNew (o := 1) (.int .i64 n.n) (Nat.le_refl _)).setNew (o := 2) (.int .u64 (n.b : Int)) (Nat.le_refl _)).setNew (o := 3) (.string n.s) (Nat.le_refl _)
  refine bodyPost_ret (v := .agg #[.int .i64 n.k, .int .i64 n.n, .int .u64 (n.b : Int), .string n.s]) (by simp [results, Try.results31, go_sem, z0, z1, z2, z3]) rfl ?_
  rw [HT.out]
  exact ⟨rfl, hU2, hR2, hj⟩
end Go.Proofs.Ytanmomlkdfnakaa
