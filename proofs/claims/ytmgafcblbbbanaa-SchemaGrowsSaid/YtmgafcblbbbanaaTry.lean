/-
  code's try of each kind: its contracts. Condition: the text has at most 1000000000 bytes.
-/
import Derived.Test.YtmgafcblbbbanaaTr
namespace Go.Proofs.Ytmgafcblbbbanaa
open Go.RowKit

/-- what a read of a reader leaves, whatever was wrong before -/
def Top {α : Type} (P : α → Value) (g : Nat) (s : ByteArray) (r : α × Nat × Int) (w : World) (e : Ending) (w' : World) : Prop :=
  e = .returned (P r.1) ∧ Upd g w w' ∧ Rdr w' g s r.2.1 r.2.2 ∧ r.2.1 ≤ s.size
theorem top_was {α : Type} (z : α) (f : Nat → Cd.R α) (i : Nat) {er : Int} (h : er ≠ 0) : Cd.top z f i er = (z, i, er) := by unfold Cd.top; rw [if_pos h]
theorem top_ok {α : Type} {z : α} {f : Nat → Cd.R α} {i : Nat} {v : α} {j : Nat} (h : f i = .ok (v, j)) : Cd.top z f i 0 = (v, j, 0) := by unfold Cd.top; rw [if_neg (by omega), h]
theorem top_err {α : Type} {z : α} {f : Nat → Cd.R α} {i : Nat} {x : Int} (h : f i = .error x) : Cd.top z f i 0 = (z, i, x) := by unfold Cd.top; rw [if_neg (by omega), h]
theorem Var.new (w : World) (cs : Array Value) (t : TypeId) {b : Nat} (hb : b = w.heap.size) : Var (w.alloc (.cells cs t)) b cs t := by subst hb; exact heap_alloc_new w _
theorem run_makeFunc (fn : Fn) (first cap : Array Value) (w : World) : (Instr.makeFunc fn first cap).run Try.prog w = .ok (.func fn first cap) w := rfl

set_option maxRecDepth 100000 in
theorem text1_rd (g b : Nat) (s : ByteArray) (i : Nat) (er : Int) (w : World) (hv : Var w b #[.pointer (some ⟨g, 0, none⟩)] 56) (hr : Rdr w g s i er) (hi : i ≤ s.size) (hs : s.size ≤ 1000000000) :
    Calls Try.prog 47 #[.pointer (some ⟨b, 0, none⟩)] w (Told (fun t : ByteArray => .string t) g s er (Cd.textR s 1000000 i) w) := by
  have h := hid (text_rd 1000000 (by omega) g s i er w hr hi hs)
  have c0 := hv.cell 0
  cases hres : Cd.textR s 1000000 i with
  | error x =>
    rw [hres] at h
    go_enter Try.func47, Try.ntmps47
    go_wp2_with fail
    refine (h.out).mono ?_; rintro e w1 ⟨hu, rfl, j, hR, hj⟩
    go_wp2_with fail
    exact ⟨rfl, Told.mk_err rfl hu rfl hR hj⟩
  | ok p =>
    obtain ⟨t, j⟩ := p
    rw [hres] at h
    go_enter Try.func47, Try.ntmps47
    go_wp2_with fail
    refine (h.out).mono ?_; rintro e w1 ⟨hu, rfl, hR, hj⟩
    go_wp2_with fail
    go_ret
    exact Told.mk_ok rfl hu rfl hR hj

set_option maxRecDepth 100000 in
set_option maxHeartbeats 1600000 in
theorem try_uint64 (g : Nat) (s : ByteArray) (i : Nat) (er : Int) (w : World) (hr : Rdr w g s i er) (hi : i ≤ s.size) (hs : s.size ≤ 1000000000) :
    Calls Try.prog 49 #[.pointer (some ⟨g, 0, none⟩), .func (.func 50) #[.pointer (some ⟨g, 0, none⟩)] #[]] w (Top (fun n : Nat => .int .u64 (n : Int)) g s (Cd.top 0 (Cd.uintR s.data.toList) i er) w) := by
  obtain ⟨c0, c1, c2, f1, f2, hg⟩ := hr.cells
  have hgn : g ≠ w.heap.size := Nat.ne_of_lt hg
  have hgn2 : g ≠ w.heap.size + 1 := by omega
  have hmf := run_makeFunc
  by_cases her : er = 0
  · subst her
    have hread : Hid (∀ W, Rdr W g s i 0 → Calls Try.prog 50 #[.pointer (some ⟨g, 0, none⟩)] W (Told (fun n : Nat => .int .u64 (n : Int)) g s 0 (Cd.uintR s.data.toList i) W)) := fun W h => uint_rd g s i 0 W h hi hs
    have hB1 := hba w (.cells #[.pointer (some ⟨g, 0, none⟩)] 56)
    have hB2 := hnext hB1 (hba (w.alloc (.cells #[.pointer (some ⟨g, 0, none⟩)] 56)) (.cells #[.int .u64 0] 44))
    have hB3 := hnext hB2 (hba ((w.alloc (.cells #[.pointer (some ⟨g, 0, none⟩)] 56)).alloc (.cells #[.int .u64 0] 44)) (.cells #[.int .i64 (i : Int)] 3))
    have hR3 := hid (hr.keep hB3)
    have hr3 : Hid (Var (((w.alloc (.cells #[.pointer (some ⟨g, 0, none⟩)] 56)).alloc (.cells #[.int .u64 0] 44)).alloc (.cells #[.int .i64 (i : Int)] 3)) w.heap.size #[.pointer (some ⟨g, 0, none⟩)] 56) := Var.keep (Var.keep (heap_alloc_new w _ : Var (w.alloc (.cells #[.pointer (some ⟨g, 0, none⟩)] 56)) w.heap.size #[.pointer (some ⟨g, 0, none⟩)] 56) (hba _ _)) (hba _ _)
    have hx3 : Hid (Var (((w.alloc (.cells #[.pointer (some ⟨g, 0, none⟩)] 56)).alloc (.cells #[.int .u64 0] 44)).alloc (.cells #[.int .i64 (i : Int)] 3)) (w.heap.size + 1) #[.int .u64 0] 44) := Var.keep (Var.new (w.alloc (.cells #[.pointer (some ⟨g, 0, none⟩)] 56)) #[.int .u64 0] 44 (by simp)) (hba _ _)
    have hp3 : Hid (Var (((w.alloc (.cells #[.pointer (some ⟨g, 0, none⟩)] 56)).alloc (.cells #[.int .u64 0] 44)).alloc (.cells #[.int .i64 (i : Int)] 3)) (w.heap.size + 1 + 1) #[.int .i64 (i : Int)] 3) := Var.new ((w.alloc (.cells #[.pointer (some ⟨g, 0, none⟩)] 56)).alloc (.cells #[.int .u64 0] 44)) #[.int .i64 (i : Int)] 3 (by simp)
    have hU3 := hid (UB.of (g := g) hB3)
    have hrg : w.heap.size ≠ g := by omega
    have hxg : w.heap.size + 1 ≠ g := by omega
    have hpg : w.heap.size + 1 + 1 ≠ g := by omega
    cases hres : Cd.uintR s.data.toList i with
    | error x =>
      rw [hres] at hread
      have hT := hid (top_err (z := 0) (f := Cd.uintR s.data.toList) hres)
      clear hr hB1 hB2 hB3 hres
      go_enter_defers Try.func49, Try.ntmps49
      go_wp2_with fail
      refine (hread.out _ hR3.out).mono ?_; rintro e w1 ⟨hu, rfl, j, hR1, hj⟩
      have hX1 := hx3.out.upd hu hxg
      have hP1 := hp3.out.upd hu hpg
      have hr1 := hr3.out.upd hu hrg
      have hU1 := hU3.out.trans (UB.upd hu (by simp; omega))
      have hsz := hU1.size
      clear hu hx3 hR3 hU3 hr3 hp3
      go_wp2_with fail
      refine leaves_cons (f := 57) (args := #[.pointer (some ⟨w.heap.size + 1 + 1, 0, none⟩), .pointer (some ⟨w.heap.size + 1, 0, none⟩), .pointer (some ⟨w.heap.size, 0, none⟩)]) (by simp) (by simp [go_sem]) ?_
      refine (catch_uint64 x (w.heap.size + 1 + 1) (w.heap.size + 1) w.heap.size g w.heap.size s i j 0 _ hP1 hX1 hr1 hR1 (by omega) (by omega) hpg hxg hrg (by omega) hsz).mono ?_
      rintro e u' w'' ⟨rfl, rfl, hU2, hX2, hR2⟩
      have z0 := hX2.cell 0
      simp [Leaves, settle, results, Try.results49, go_sem, z0]
      rw [hT.out]
      exact ⟨rfl, (hU1.trans hU2).toUpd, hR2, hi⟩
    | ok p =>
      obtain ⟨n, j⟩ := p
      rw [hres] at hread
      have hT := hid (top_ok (z := 0) (f := Cd.uintR s.data.toList) hres)
      clear hr hB1 hB2 hB3 hres hr3 hp3
      go_enter_defers Try.func49, Try.ntmps49
      go_wp2_with fail
      refine (hread.out _ hR3.out).mono ?_; rintro e w1 ⟨hu, rfl, hR, hj⟩
      have hX1 := hx3.out.upd hu hxg
      have hR1 := hR
      have hU1 := hU3.out.trans (UB.upd hu (by simp; omega))
      clear hu hR3 hU3 hR hx3
      have x0 := hX1.cell 0
      have y0 := hX1.free 0
      go_wp2_with fail
      have hX2 := (hX1.set 0 (.int .u64 (n : Int)))
      have hR2 := (hR1.setO (o := 0) (.int .u64 (n : Int)) hxg)
      have hU2 := (hU1.trans (UB.set (o := 0) _ (.int .u64 (n : Int)) (.inl (Nat.le_succ _))))
      refine leaves_cons (f := 57) (args := #[.pointer (some ⟨w.heap.size + 1 + 1, 0, none⟩), .pointer (some ⟨w.heap.size + 1, 0, none⟩), .pointer (some ⟨w.heap.size, 0, none⟩)]) (by simp) (by simp [go_sem]) ?_
      refine (idle_uint64 _ _ _ _).mono ?_
      rintro e u' w'' ⟨rfl, rfl, rfl⟩
      have z0 := hX2.cell 0
      simp [Leaves, settle, results, Try.results49, go_sem, z0]
      rw [hT.out]
      exact ⟨rfl, hU2.toUpd, hR2, hj⟩
  · have h1 : (er == 0) = false := by rw [beq_eq_false_iff_ne]; exact her
    have h2 : (er != 0) = true := by rw [bne_iff_ne]; exact her
    have hT := hid (top_was 0 (Cd.uintR s.data.toList) i her)
    have hB1 := hba w (.cells #[.pointer (some ⟨g, 0, none⟩)] 56)
    have hB2 := hnext hB1 (hba (w.alloc (.cells #[.pointer (some ⟨g, 0, none⟩)] 56)) (.cells #[.int .u64 0] 44))
    have hR := hid hr
    clear her hr
    go_enter_defers Try.func49, Try.ntmps49
    go_wp2
    simp [bodyPostD, Leaves, results, Try.results49, go_sem]
    rw [hT.out]
    exact ⟨rfl, Upd.of hB2, hR.out.keep hB2, hi⟩

set_option maxRecDepth 100000 in
set_option maxHeartbeats 1600000 in
theorem try_string (g : Nat) (b : Nat) (s : ByteArray) (i : Nat) (er : Int) (w : World) (hr : Rdr w g s i er) (hb0 : Var w b #[.pointer (some ⟨g, 0, none⟩)] 56) (hi : i ≤ s.size) (hs : s.size ≤ 1000000000) :
    Calls Try.prog 46 #[.pointer (some ⟨g, 0, none⟩), .func (.func 47) #[] #[.pointer (some ⟨b, 0, none⟩)]] w (Top (fun t : ByteArray => .string t) g s (Cd.top ⟨#[]⟩ (Cd.textR s 1000000) i er) w) := by
  obtain ⟨c0, c1, c2, f1, f2, hg⟩ := hr.cells
  have hgn : g ≠ w.heap.size := Nat.ne_of_lt hg
  have hgn2 : g ≠ w.heap.size + 1 := by omega
  have hmf := run_makeFunc
  by_cases her : er = 0
  · subst her
    have hread : Hid (∀ W, Var W b #[.pointer (some ⟨g, 0, none⟩)] 56 → Rdr W g s i 0 → Calls Try.prog 47 #[.pointer (some ⟨b, 0, none⟩)] W (Told (fun t : ByteArray => .string t) g s 0 (Cd.textR s 1000000 i) W)) := fun W hb h => text1_rd g b s i 0 W hb h hi hs
    have hB1 := hba w (.cells #[.pointer (some ⟨g, 0, none⟩)] 56)
    have hB2 := hnext hB1 (hba (w.alloc (.cells #[.pointer (some ⟨g, 0, none⟩)] 56)) (.cells #[.string ⟨#[]⟩] 9))
    have hB3 := hnext hB2 (hba ((w.alloc (.cells #[.pointer (some ⟨g, 0, none⟩)] 56)).alloc (.cells #[.string ⟨#[]⟩] 9)) (.cells #[.int .i64 (i : Int)] 3))
    have hR3 := hid (hr.keep hB3)
    have hr3 : Hid (Var (((w.alloc (.cells #[.pointer (some ⟨g, 0, none⟩)] 56)).alloc (.cells #[.string ⟨#[]⟩] 9)).alloc (.cells #[.int .i64 (i : Int)] 3)) w.heap.size #[.pointer (some ⟨g, 0, none⟩)] 56) := Var.keep (Var.keep (heap_alloc_new w _ : Var (w.alloc (.cells #[.pointer (some ⟨g, 0, none⟩)] 56)) w.heap.size #[.pointer (some ⟨g, 0, none⟩)] 56) (hba _ _)) (hba _ _)
    have hx3 : Hid (Var (((w.alloc (.cells #[.pointer (some ⟨g, 0, none⟩)] 56)).alloc (.cells #[.string ⟨#[]⟩] 9)).alloc (.cells #[.int .i64 (i : Int)] 3)) (w.heap.size + 1) #[.string ⟨#[]⟩] 9) := Var.keep (Var.new (w.alloc (.cells #[.pointer (some ⟨g, 0, none⟩)] 56)) #[.string ⟨#[]⟩] 9 (by simp)) (hba _ _)
    have hp3 : Hid (Var (((w.alloc (.cells #[.pointer (some ⟨g, 0, none⟩)] 56)).alloc (.cells #[.string ⟨#[]⟩] 9)).alloc (.cells #[.int .i64 (i : Int)] 3)) (w.heap.size + 1 + 1) #[.int .i64 (i : Int)] 3) := Var.new ((w.alloc (.cells #[.pointer (some ⟨g, 0, none⟩)] 56)).alloc (.cells #[.string ⟨#[]⟩] 9)) #[.int .i64 (i : Int)] 3 (by simp)
    have hU3 := hid (UB.of (g := g) hB3)
    have hrg : w.heap.size ≠ g := by omega
    have hxg : w.heap.size + 1 ≠ g := by omega
    have hpg : w.heap.size + 1 + 1 ≠ g := by omega
    cases hres : Cd.textR s 1000000 i with
    | error x =>
      rw [hres] at hread
      have hT := hid (top_err (z := ⟨#[]⟩) (f := Cd.textR s 1000000) hres)
      have hb1 := hid (hb0.keep hB3)
      clear hr hB1 hB2 hB3 hres
      go_enter_defers Try.func46, Try.ntmps46
      go_wp2_with fail
      refine (hread.out _ hb1.out hR3.out).mono ?_; rintro e w1 ⟨hu, rfl, j, hR1, hj⟩
      have hX1 := hx3.out.upd hu hxg
      have hP1 := hp3.out.upd hu hpg
      have hr1 := hr3.out.upd hu hrg
      have hU1 := hU3.out.trans (UB.upd hu (by simp; omega))
      have hsz := hU1.size
      clear hu hx3 hR3 hU3 hr3 hp3
      go_wp2_with fail
      refine leaves_cons (f := 56) (args := #[.pointer (some ⟨w.heap.size + 1 + 1, 0, none⟩), .pointer (some ⟨w.heap.size + 1, 0, none⟩), .pointer (some ⟨w.heap.size, 0, none⟩)]) (by simp) (by simp [go_sem]) ?_
      refine (catch_string x (w.heap.size + 1 + 1) (w.heap.size + 1) w.heap.size g w.heap.size s i j 0 _ hP1 hX1 hr1 hR1 (by omega) (by omega) hpg hxg hrg (by omega) hsz).mono ?_
      rintro e u' w'' ⟨rfl, rfl, hU2, hX2, hR2⟩
      have z0 := hX2.cell 0
      simp [Leaves, settle, results, Try.results46, go_sem, z0]
      rw [hT.out]
      exact ⟨rfl, (hU1.trans hU2).toUpd, hR2, hi⟩
    | ok p =>
      obtain ⟨n, j⟩ := p
      rw [hres] at hread
      have hT := hid (top_ok (z := ⟨#[]⟩) (f := Cd.textR s 1000000) hres)
      have hb1 := hid (hb0.keep hB3)
      clear hr hB1 hB2 hB3 hres hr3 hp3
      go_enter_defers Try.func46, Try.ntmps46
      go_wp2_with fail
      refine (hread.out _ hb1.out hR3.out).mono ?_; rintro e w1 ⟨hu, rfl, hR, hj⟩
      have hX1 := hx3.out.upd hu hxg
      have hR1 := hR
      have hU1 := hU3.out.trans (UB.upd hu (by simp; omega))
      clear hu hR3 hU3 hR hx3
      have x0 := hX1.cell 0
      have y0 := hX1.free 0
      go_wp2_with fail
      have hX2 := (hX1.set 0 (.string n))
      have hR2 := (hR1.setO (o := 0) (.string n) hxg)
      have hU2 := (hU1.trans (UB.set (o := 0) _ (.string n) (.inl (Nat.le_succ _))))
      refine leaves_cons (f := 56) (args := #[.pointer (some ⟨w.heap.size + 1 + 1, 0, none⟩), .pointer (some ⟨w.heap.size + 1, 0, none⟩), .pointer (some ⟨w.heap.size, 0, none⟩)]) (by simp) (by simp [go_sem]) ?_
      refine (idle_string _ _ _ _).mono ?_
      rintro e u' w'' ⟨rfl, rfl, rfl⟩
      have z0 := hX2.cell 0
      simp [Leaves, settle, results, Try.results46, go_sem, z0]
      rw [hT.out]
      exact ⟨rfl, hU2.toUpd, hR2, hj⟩
  · have h1 : (er == 0) = false := by rw [beq_eq_false_iff_ne]; exact her
    have h2 : (er != 0) = true := by rw [bne_iff_ne]; exact her
    have hT := hid (top_was ⟨#[]⟩ (Cd.textR s 1000000) i her)
    have hB1 := hba w (.cells #[.pointer (some ⟨g, 0, none⟩)] 56)
    have hB2 := hnext hB1 (hba (w.alloc (.cells #[.pointer (some ⟨g, 0, none⟩)] 56)) (.cells #[.string ⟨#[]⟩] 9))
    have hR := hid hr
    clear her hr
    go_enter_defers Try.func46, Try.ntmps46
    go_wp2
    simp [bodyPostD, Leaves, results, Try.results46, go_sem]
    rw [hT.out]
    exact ⟨rfl, Upd.of hB2, hR.out.keep hB2, hi⟩

end Go.Proofs.Ytmgafcblbbbanaa
