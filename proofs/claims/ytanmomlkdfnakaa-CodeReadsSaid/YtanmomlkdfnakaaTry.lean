/-
  code's try of each kind: its contracts. Condition: the text has at most 1000000000 bytes.
-/
import Derived.Test.YtanmomlkdfnakaaTr
namespace Go.Proofs.Ytanmomlkdfnakaa
open Go.RowKit

/-- what a read of a reader leaves, whatever was wrong before -/
def Top {α : Type} (P : α → Value) (g : Nat) (s : ByteArray) (r : α × Nat × Int) (w : World) (e : Ending) (w' : World) : Prop :=
  e = .returned (P r.1) ∧ Upd g w w' ∧ Rdr w' g s r.2.1 r.2.2 ∧ r.2.1 ≤ s.size
def TopRow (g : Nat) (s : ByteArray) (r : List Cd.V × Nat × Int) (w : World) (e : Ending) (w' : World) : Prop :=
  (∃ v', e = .returned v' ∧ w'.ownsRow w.heap.size 28 4 v' r.1.length (vcells r.1)) ∧ Upd g w w' ∧ Rdr w' g s r.2.1 r.2.2 ∧ r.2.1 ≤ s.size
theorem top_was {α : Type} (z : α) (f : Nat → Cd.R α) (i : Nat) {er : Int} (h : er ≠ 0) : Cd.top z f i er = (z, i, er) := by unfold Cd.top; rw [if_pos h]
theorem top_ok {α : Type} {z : α} {f : Nat → Cd.R α} {i : Nat} {v : α} {j : Nat} (h : f i = .ok (v, j)) : Cd.top z f i 0 = (v, j, 0) := by unfold Cd.top; rw [if_neg (by omega), h]
theorem top_err {α : Type} {z : α} {f : Nat → Cd.R α} {i : Nat} {x : Int} (h : f i = .error x) : Cd.top z f i 0 = (z, i, x) := by unfold Cd.top; rw [if_neg (by omega), h]
theorem Var.new (w : World) (cs : Array Value) (t : TypeId) {b : Nat} (hb : b = w.heap.size) : Var (w.alloc (.cells cs t)) b cs t := by subst hb; exact heap_alloc_new w _
theorem own_setO {w : World} {B e size : Nat} {v u : Value} {n r o : Nat} {xs : List Value} (h : w.ownsRow B e size v n xs) (hr : r < B) : (w.setCell ⟨r, o, none⟩ u).ownsRow B e size v n xs :=
  h.kept (row := some r) (UB.set (B := w.heap.size) (g := r) (o := o) w u (.inr rfl)).toUpd (Or.inr (fun e => by have := (h.lt r e).1; omega))
theorem own_mono4 {w : World} {B B' e size : Nat} {v : Value} {n : Nat} {xs : List Value} (h : w.ownsRow B e size v n xs) (hB : B' ≤ B) : w.ownsRow B' e size v n xs := by
  refine ⟨h.1, ?_⟩
  rcases h.2 with h1 | ⟨g, cap, cur, q1, q2, q3⟩
  · exact .inl h1
  · exact .inr ⟨g, cap, cur, q1, Nat.le_trans hB q2, q3⟩
theorem own_slice {w : World} {B e size : Nat} {v : Value} {n : Nat} {xs : List Value} (h : w.ownsRow B e size v n xs) : ∃ ao ln cp, v = .slice ao ln cp := by
  rcases h.2 with ⟨h1, _⟩ | ⟨g, cap, cur, q1, _⟩
  · exact ⟨_, _, _, h1⟩
  · exact ⟨_, _, _, q1⟩
theorem run_makeFunc (fn : Fn) (first cap : Array Value) (w : World) : (Instr.makeFunc fn first cap).run Try.prog w = .ok (.func fn first cap) w := rfl

set_option maxRecDepth 100000 in
theorem text1_rd (g b : Nat) (s : ByteArray) (i : Nat) (er : Int) (w : World) (hv : Var w b #[.pointer (some ⟨g, 0, none⟩)] 36) (hr : Rdr w g s i er) (hi : i ≤ s.size) (hs : s.size ≤ 1000000000) :
    Calls Try.prog 52 #[.pointer (some ⟨b, 0, none⟩)] w (Told (fun t : ByteArray => .string t) g s er (Cd.textR s 1000000 i) w) := by
  have h := hid (text_rd 1000000 (by omega) g s i er w hr hi hs)
  have c0 := hv.cell 0
  cases hres : Cd.textR s 1000000 i with
  | error x =>
    rw [hres] at h
    go_enter Try.func52, Try.ntmps52
    go_wp2_with fail
    refine (h.out).mono ?_; rintro e w1 ⟨hu, rfl, j, hR, hj⟩
    go_wp2_with fail
    exact ⟨rfl, Told.mk_err rfl hu rfl hR hj⟩
  | ok p =>
    obtain ⟨t, j⟩ := p
    rw [hres] at h
    go_enter Try.func52, Try.ntmps52
    go_wp2_with fail
    refine (h.out).mono ?_; rintro e w1 ⟨hu, rfl, hR, hj⟩
    go_wp2_with fail
    go_ret
    exact Told.mk_ok rfl hu rfl hR hj

set_option maxRecDepth 100000 in
theorem try_uint64_nil (w : World) : Calls Try.prog 44 #[.pointer none, .func (.func 45) #[.pointer none] #[]] w fun e w' => e = .returned (.int .u64 0) ∧ Below w.heap.size w w' := by
  go_enter_defers Try.func44, Try.ntmps44
  go_wp2
  simp [bodyPostD, Leaves, results, Try.results44, go_sem]
  exact hnext (hba w _) (hba _ _)
set_option maxRecDepth 100000 in
set_option maxHeartbeats 1600000 in
theorem try_uint64 (g : Nat) (s : ByteArray) (i : Nat) (er : Int) (w : World) (hr : Rdr w g s i er) (hi : i ≤ s.size) (hs : s.size ≤ 1000000000) :
    Calls Try.prog 44 #[.pointer (some ⟨g, 0, none⟩), .func (.func 45) #[.pointer (some ⟨g, 0, none⟩)] #[]] w (Top (fun n : Nat => .int .u64 (n : Int)) g s (Cd.top 0 (Cd.uintR s.data.toList) i er) w) := by
  obtain ⟨c0, c1, c2, f1, f2, hg⟩ := hr.cells
  have hgn : g ≠ w.heap.size := Nat.ne_of_lt hg
  have hgn2 : g ≠ w.heap.size + 1 := by omega
  have hmf := run_makeFunc
  by_cases her : er = 0
  · subst her
    have hread : Hid (∀ W, Rdr W g s i 0 → Calls Try.prog 45 #[.pointer (some ⟨g, 0, none⟩)] W (Told (fun n : Nat => .int .u64 (n : Int)) g s 0 (Cd.uintR s.data.toList i) W)) := fun W h => uint_rd g s i 0 W h hi hs
    have hB1 := hba w (.cells #[.pointer (some ⟨g, 0, none⟩)] 36)
    have hB2 := hnext hB1 (hba (w.alloc (.cells #[.pointer (some ⟨g, 0, none⟩)] 36)) (.cells #[.int .u64 0] 22))
    have hB3 := hnext hB2 (hba ((w.alloc (.cells #[.pointer (some ⟨g, 0, none⟩)] 36)).alloc (.cells #[.int .u64 0] 22)) (.cells #[.int .i64 (i : Int)] 3))
    have hR3 := hid (hr.keep hB3)
    have hr3 : Hid (Var (((w.alloc (.cells #[.pointer (some ⟨g, 0, none⟩)] 36)).alloc (.cells #[.int .u64 0] 22)).alloc (.cells #[.int .i64 (i : Int)] 3)) w.heap.size #[.pointer (some ⟨g, 0, none⟩)] 36) := Var.keep (Var.keep (heap_alloc_new w _ : Var (w.alloc (.cells #[.pointer (some ⟨g, 0, none⟩)] 36)) w.heap.size #[.pointer (some ⟨g, 0, none⟩)] 36) (hba _ _)) (hba _ _)
    have hx3 : Hid (Var (((w.alloc (.cells #[.pointer (some ⟨g, 0, none⟩)] 36)).alloc (.cells #[.int .u64 0] 22)).alloc (.cells #[.int .i64 (i : Int)] 3)) (w.heap.size + 1) #[.int .u64 0] 22) := Var.keep (Var.new (w.alloc (.cells #[.pointer (some ⟨g, 0, none⟩)] 36)) #[.int .u64 0] 22 (by simp)) (hba _ _)
    have hp3 : Hid (Var (((w.alloc (.cells #[.pointer (some ⟨g, 0, none⟩)] 36)).alloc (.cells #[.int .u64 0] 22)).alloc (.cells #[.int .i64 (i : Int)] 3)) (w.heap.size + 1 + 1) #[.int .i64 (i : Int)] 3) := Var.new ((w.alloc (.cells #[.pointer (some ⟨g, 0, none⟩)] 36)).alloc (.cells #[.int .u64 0] 22)) #[.int .i64 (i : Int)] 3 (by simp)
    have hU3 := hid (UB.of (g := g) hB3)
    have hrg : w.heap.size ≠ g := by omega
    have hxg : w.heap.size + 1 ≠ g := by omega
    have hpg : w.heap.size + 1 + 1 ≠ g := by omega
    cases hres : Cd.uintR s.data.toList i with
    | error x =>
      rw [hres] at hread
      have hT := hid (top_err (z := 0) (f := Cd.uintR s.data.toList) hres)
      clear hr hB1 hB2 hB3 hres
      go_enter_defers Try.func44, Try.ntmps44
      go_wp2_with fail
      refine (hread.out _ hR3.out).mono ?_; rintro e w1 ⟨hu, rfl, j, hR1, hj⟩
      have hX1 := hx3.out.upd hu hxg
      have hP1 := hp3.out.upd hu hpg
      have hr1 := hr3.out.upd hu hrg
      have hU1 := hU3.out.trans (UB.upd hu (by simp; omega))
      have hsz := hU1.size
      clear hu hx3 hR3 hU3 hr3 hp3
      go_wp2_with fail
      refine leaves_cons (f := 64) (args := #[.pointer (some ⟨w.heap.size + 1 + 1, 0, none⟩), .pointer (some ⟨w.heap.size + 1, 0, none⟩), .pointer (some ⟨w.heap.size, 0, none⟩)]) (by simp) (by simp [go_sem]) ?_
      refine (catch_uint64 x (w.heap.size + 1 + 1) (w.heap.size + 1) w.heap.size g w.heap.size s i j 0 _ hP1 hX1 hr1 hR1 (by omega) (by omega) hpg hxg hrg (by omega) hsz).mono ?_
      rintro e u' w'' ⟨rfl, rfl, hU2, hX2, hR2⟩
      have z0 := hX2.cell 0
      simp [Leaves, settle, results, Try.results44, go_sem, z0]
      rw [hT.out]
      exact ⟨rfl, (hU1.trans hU2).toUpd, hR2, hi⟩
    | ok p =>
      obtain ⟨n, j⟩ := p
      rw [hres] at hread
      have hT := hid (top_ok (z := 0) (f := Cd.uintR s.data.toList) hres)
      clear hr hB1 hB2 hB3 hres hr3 hp3
      go_enter_defers Try.func44, Try.ntmps44
      go_wp2_with fail
      refine (hread.out _ hR3.out).mono ?_; rintro e w1 ⟨hu, rfl, hR, hj⟩
      have hX1 := hx3.out.upd hu hxg
      have hR1 := hR
      have hU1 := hU3.out.trans (UB.upd hu (by simp; omega))
      clear hu hR3 hU3 hR hx3
      have x0 := hX1.cell 0
      have y0 := hX1.free 0
      go_wp2_with fail
      have hX2 := (hX1.set 0 (.int .u64 (n : Int)))
      have hR2 := (hR1.setO (o := 0) (.int .u64 (n : Int)) hxg)
      have hU2 := (hU1.trans (UB.set (o := 0) _ (.int .u64 (n : Int)) (.inl (Nat.le_succ _))))
      refine leaves_cons (f := 64) (args := #[.pointer (some ⟨w.heap.size + 1 + 1, 0, none⟩), .pointer (some ⟨w.heap.size + 1, 0, none⟩), .pointer (some ⟨w.heap.size, 0, none⟩)]) (by simp) (by simp [go_sem]) ?_
      refine (idle_uint64 _ _ _ _).mono ?_
      rintro e u' w'' ⟨rfl, rfl, rfl⟩
      have z0 := hX2.cell 0
      simp [Leaves, settle, results, Try.results44, go_sem, z0]
      rw [hT.out]
      exact ⟨rfl, hU2.toUpd, hR2, hj⟩
  · have h1 : (er == 0) = false := by rw [beq_eq_false_iff_ne]; exact her
    have h2 : (er != 0) = true := by rw [bne_iff_ne]; exact her
    have hT := hid (top_was 0 (Cd.uintR s.data.toList) i her)
    have hB1 := hba w (.cells #[.pointer (some ⟨g, 0, none⟩)] 36)
    have hB2 := hnext hB1 (hba (w.alloc (.cells #[.pointer (some ⟨g, 0, none⟩)] 36)) (.cells #[.int .u64 0] 22))
    have hR := hid hr
    clear her hr
    go_enter_defers Try.func44, Try.ntmps44
    go_wp2
    simp [bodyPostD, Leaves, results, Try.results44, go_sem]
    rw [hT.out]
    exact ⟨rfl, Upd.of hB2, hR.out.keep hB2, hi⟩

set_option maxRecDepth 100000 in
theorem try_int_nil (w : World) : Calls Try.prog 48 #[.pointer none, .func (.func 49) #[.pointer none] #[]] w fun e w' => e = .returned (.int .i64 0) ∧ Below w.heap.size w w' := by
  go_enter_defers Try.func48, Try.ntmps48
  go_wp2
  simp [bodyPostD, Leaves, results, Try.results48, go_sem]
  exact hnext (hba w _) (hba _ _)
set_option maxRecDepth 100000 in
set_option maxHeartbeats 1600000 in
theorem try_int (g : Nat) (s : ByteArray) (i : Nat) (er : Int) (w : World) (hr : Rdr w g s i er) (hi : i ≤ s.size) (hs : s.size ≤ 1000000000) :
    Calls Try.prog 48 #[.pointer (some ⟨g, 0, none⟩), .func (.func 49) #[.pointer (some ⟨g, 0, none⟩)] #[]] w (Top (fun n : Int => .int .i64 n) g s (Cd.top 0 (Cd.intR s.data.toList) i er) w) := by
  obtain ⟨c0, c1, c2, f1, f2, hg⟩ := hr.cells
  have hgn : g ≠ w.heap.size := Nat.ne_of_lt hg
  have hgn2 : g ≠ w.heap.size + 1 := by omega
  have hmf := run_makeFunc
  by_cases her : er = 0
  · subst her
    have hread : Hid (∀ W, Rdr W g s i 0 → Calls Try.prog 49 #[.pointer (some ⟨g, 0, none⟩)] W (Told (fun n : Int => .int .i64 n) g s 0 (Cd.intR s.data.toList i) W)) := fun W h => int_rd g s i 0 W h hi hs
    have hB1 := hba w (.cells #[.pointer (some ⟨g, 0, none⟩)] 36)
    have hB2 := hnext hB1 (hba (w.alloc (.cells #[.pointer (some ⟨g, 0, none⟩)] 36)) (.cells #[.int .i64 0] 3))
    have hB3 := hnext hB2 (hba ((w.alloc (.cells #[.pointer (some ⟨g, 0, none⟩)] 36)).alloc (.cells #[.int .i64 0] 3)) (.cells #[.int .i64 (i : Int)] 3))
    have hR3 := hid (hr.keep hB3)
    have hr3 : Hid (Var (((w.alloc (.cells #[.pointer (some ⟨g, 0, none⟩)] 36)).alloc (.cells #[.int .i64 0] 3)).alloc (.cells #[.int .i64 (i : Int)] 3)) w.heap.size #[.pointer (some ⟨g, 0, none⟩)] 36) := Var.keep (Var.keep (heap_alloc_new w _ : Var (w.alloc (.cells #[.pointer (some ⟨g, 0, none⟩)] 36)) w.heap.size #[.pointer (some ⟨g, 0, none⟩)] 36) (hba _ _)) (hba _ _)
    have hx3 : Hid (Var (((w.alloc (.cells #[.pointer (some ⟨g, 0, none⟩)] 36)).alloc (.cells #[.int .i64 0] 3)).alloc (.cells #[.int .i64 (i : Int)] 3)) (w.heap.size + 1) #[.int .i64 0] 3) := Var.keep (Var.new (w.alloc (.cells #[.pointer (some ⟨g, 0, none⟩)] 36)) #[.int .i64 0] 3 (by simp)) (hba _ _)
    have hp3 : Hid (Var (((w.alloc (.cells #[.pointer (some ⟨g, 0, none⟩)] 36)).alloc (.cells #[.int .i64 0] 3)).alloc (.cells #[.int .i64 (i : Int)] 3)) (w.heap.size + 1 + 1) #[.int .i64 (i : Int)] 3) := Var.new ((w.alloc (.cells #[.pointer (some ⟨g, 0, none⟩)] 36)).alloc (.cells #[.int .i64 0] 3)) #[.int .i64 (i : Int)] 3 (by simp)
    have hU3 := hid (UB.of (g := g) hB3)
    have hrg : w.heap.size ≠ g := by omega
    have hxg : w.heap.size + 1 ≠ g := by omega
    have hpg : w.heap.size + 1 + 1 ≠ g := by omega
    cases hres : Cd.intR s.data.toList i with
    | error x =>
      rw [hres] at hread
      have hT := hid (top_err (z := 0) (f := Cd.intR s.data.toList) hres)
      clear hr hB1 hB2 hB3 hres
      go_enter_defers Try.func48, Try.ntmps48
      go_wp2_with fail
      refine (hread.out _ hR3.out).mono ?_; rintro e w1 ⟨hu, rfl, j, hR1, hj⟩
      have hX1 := hx3.out.upd hu hxg
      have hP1 := hp3.out.upd hu hpg
      have hr1 := hr3.out.upd hu hrg
      have hU1 := hU3.out.trans (UB.upd hu (by simp; omega))
      have hsz := hU1.size
      clear hu hx3 hR3 hU3 hr3 hp3
      go_wp2_with fail
      refine leaves_cons (f := 67) (args := #[.pointer (some ⟨w.heap.size + 1 + 1, 0, none⟩), .pointer (some ⟨w.heap.size + 1, 0, none⟩), .pointer (some ⟨w.heap.size, 0, none⟩)]) (by simp) (by simp [go_sem]) ?_
      refine (catch_int x (w.heap.size + 1 + 1) (w.heap.size + 1) w.heap.size g w.heap.size s i j 0 _ hP1 hX1 hr1 hR1 (by omega) (by omega) hpg hxg hrg (by omega) hsz).mono ?_
      rintro e u' w'' ⟨rfl, rfl, hU2, hX2, hR2⟩
      have z0 := hX2.cell 0
      simp [Leaves, settle, results, Try.results48, go_sem, z0]
      rw [hT.out]
      exact ⟨rfl, (hU1.trans hU2).toUpd, hR2, hi⟩
    | ok p =>
      obtain ⟨n, j⟩ := p
      rw [hres] at hread
      have hT := hid (top_ok (z := 0) (f := Cd.intR s.data.toList) hres)
      clear hr hB1 hB2 hB3 hres hr3 hp3
      go_enter_defers Try.func48, Try.ntmps48
      go_wp2_with fail
      refine (hread.out _ hR3.out).mono ?_; rintro e w1 ⟨hu, rfl, hR, hj⟩
      have hX1 := hx3.out.upd hu hxg
      have hR1 := hR
      have hU1 := hU3.out.trans (UB.upd hu (by simp; omega))
      clear hu hR3 hU3 hR hx3
      have x0 := hX1.cell 0
      have y0 := hX1.free 0
      go_wp2_with fail
      have hX2 := (hX1.set 0 (.int .i64 n))
      have hR2 := (hR1.setO (o := 0) (.int .i64 n) hxg)
      have hU2 := (hU1.trans (UB.set (o := 0) _ (.int .i64 n) (.inl (Nat.le_succ _))))
      refine leaves_cons (f := 67) (args := #[.pointer (some ⟨w.heap.size + 1 + 1, 0, none⟩), .pointer (some ⟨w.heap.size + 1, 0, none⟩), .pointer (some ⟨w.heap.size, 0, none⟩)]) (by simp) (by simp [go_sem]) ?_
      refine (idle_int _ _ _ _).mono ?_
      rintro e u' w'' ⟨rfl, rfl, rfl⟩
      have z0 := hX2.cell 0
      simp [Leaves, settle, results, Try.results48, go_sem, z0]
      rw [hT.out]
      exact ⟨rfl, hU2.toUpd, hR2, hj⟩
  · have h1 : (er == 0) = false := by rw [beq_eq_false_iff_ne]; exact her
    have h2 : (er != 0) = true := by rw [bne_iff_ne]; exact her
    have hT := hid (top_was 0 (Cd.intR s.data.toList) i her)
    have hB1 := hba w (.cells #[.pointer (some ⟨g, 0, none⟩)] 36)
    have hB2 := hnext hB1 (hba (w.alloc (.cells #[.pointer (some ⟨g, 0, none⟩)] 36)) (.cells #[.int .i64 0] 3))
    have hR := hid hr
    clear her hr
    go_enter_defers Try.func48, Try.ntmps48
    go_wp2
    simp [bodyPostD, Leaves, results, Try.results48, go_sem]
    rw [hT.out]
    exact ⟨rfl, Upd.of hB2, hR.out.keep hB2, hi⟩

set_option maxRecDepth 100000 in
theorem try_string_nil (b : Nat) (w : World) : Calls Try.prog 51 #[.pointer none, .func (.func 52) #[] #[.pointer (some ⟨b, 0, none⟩)]] w fun e w' => e = .returned (.string ⟨#[]⟩) ∧ Below w.heap.size w w' := by
  go_enter_defers Try.func51, Try.ntmps51
  go_wp2
  simp [bodyPostD, Leaves, results, Try.results51, go_sem]
  exact hnext (hba w _) (hba _ _)
set_option maxRecDepth 100000 in
set_option maxHeartbeats 1600000 in
theorem try_string (g : Nat) (b : Nat) (s : ByteArray) (i : Nat) (er : Int) (w : World) (hr : Rdr w g s i er) (hb0 : Var w b #[.pointer (some ⟨g, 0, none⟩)] 36) (hi : i ≤ s.size) (hs : s.size ≤ 1000000000) :
    Calls Try.prog 51 #[.pointer (some ⟨g, 0, none⟩), .func (.func 52) #[] #[.pointer (some ⟨b, 0, none⟩)]] w (Top (fun t : ByteArray => .string t) g s (Cd.top ⟨#[]⟩ (Cd.textR s 1000000) i er) w) := by
  obtain ⟨c0, c1, c2, f1, f2, hg⟩ := hr.cells
  have hgn : g ≠ w.heap.size := Nat.ne_of_lt hg
  have hgn2 : g ≠ w.heap.size + 1 := by omega
  have hmf := run_makeFunc
  by_cases her : er = 0
  · subst her
    have hread : Hid (∀ W, Var W b #[.pointer (some ⟨g, 0, none⟩)] 36 → Rdr W g s i 0 → Calls Try.prog 52 #[.pointer (some ⟨b, 0, none⟩)] W (Told (fun t : ByteArray => .string t) g s 0 (Cd.textR s 1000000 i) W)) := fun W hb h => text1_rd g b s i 0 W hb h hi hs
    have hB1 := hba w (.cells #[.pointer (some ⟨g, 0, none⟩)] 36)
    have hB2 := hnext hB1 (hba (w.alloc (.cells #[.pointer (some ⟨g, 0, none⟩)] 36)) (.cells #[.string ⟨#[]⟩] 9))
    have hB3 := hnext hB2 (hba ((w.alloc (.cells #[.pointer (some ⟨g, 0, none⟩)] 36)).alloc (.cells #[.string ⟨#[]⟩] 9)) (.cells #[.int .i64 (i : Int)] 3))
    have hR3 := hid (hr.keep hB3)
    have hr3 : Hid (Var (((w.alloc (.cells #[.pointer (some ⟨g, 0, none⟩)] 36)).alloc (.cells #[.string ⟨#[]⟩] 9)).alloc (.cells #[.int .i64 (i : Int)] 3)) w.heap.size #[.pointer (some ⟨g, 0, none⟩)] 36) := Var.keep (Var.keep (heap_alloc_new w _ : Var (w.alloc (.cells #[.pointer (some ⟨g, 0, none⟩)] 36)) w.heap.size #[.pointer (some ⟨g, 0, none⟩)] 36) (hba _ _)) (hba _ _)
    have hx3 : Hid (Var (((w.alloc (.cells #[.pointer (some ⟨g, 0, none⟩)] 36)).alloc (.cells #[.string ⟨#[]⟩] 9)).alloc (.cells #[.int .i64 (i : Int)] 3)) (w.heap.size + 1) #[.string ⟨#[]⟩] 9) := Var.keep (Var.new (w.alloc (.cells #[.pointer (some ⟨g, 0, none⟩)] 36)) #[.string ⟨#[]⟩] 9 (by simp)) (hba _ _)
    have hp3 : Hid (Var (((w.alloc (.cells #[.pointer (some ⟨g, 0, none⟩)] 36)).alloc (.cells #[.string ⟨#[]⟩] 9)).alloc (.cells #[.int .i64 (i : Int)] 3)) (w.heap.size + 1 + 1) #[.int .i64 (i : Int)] 3) := Var.new ((w.alloc (.cells #[.pointer (some ⟨g, 0, none⟩)] 36)).alloc (.cells #[.string ⟨#[]⟩] 9)) #[.int .i64 (i : Int)] 3 (by simp)
    have hU3 := hid (UB.of (g := g) hB3)
    have hrg : w.heap.size ≠ g := by omega
    have hxg : w.heap.size + 1 ≠ g := by omega
    have hpg : w.heap.size + 1 + 1 ≠ g := by omega
    cases hres : Cd.textR s 1000000 i with
    | error x =>
      rw [hres] at hread
      have hT := hid (top_err (z := ⟨#[]⟩) (f := Cd.textR s 1000000) hres)
      have hb1 := hid (hb0.keep hB3)
      clear hr hB1 hB2 hB3 hres
      go_enter_defers Try.func51, Try.ntmps51
      go_wp2_with fail
      refine (hread.out _ hb1.out hR3.out).mono ?_; rintro e w1 ⟨hu, rfl, j, hR1, hj⟩
      have hX1 := hx3.out.upd hu hxg
      have hP1 := hp3.out.upd hu hpg
      have hr1 := hr3.out.upd hu hrg
      have hU1 := hU3.out.trans (UB.upd hu (by simp; omega))
      have hsz := hU1.size
      clear hu hx3 hR3 hU3 hr3 hp3
      go_wp2_with fail
      refine leaves_cons (f := 68) (args := #[.pointer (some ⟨w.heap.size + 1 + 1, 0, none⟩), .pointer (some ⟨w.heap.size + 1, 0, none⟩), .pointer (some ⟨w.heap.size, 0, none⟩)]) (by simp) (by simp [go_sem]) ?_
      refine (catch_string x (w.heap.size + 1 + 1) (w.heap.size + 1) w.heap.size g w.heap.size s i j 0 _ hP1 hX1 hr1 hR1 (by omega) (by omega) hpg hxg hrg (by omega) hsz).mono ?_
      rintro e u' w'' ⟨rfl, rfl, hU2, hX2, hR2⟩
      have z0 := hX2.cell 0
      simp [Leaves, settle, results, Try.results51, go_sem, z0]
      rw [hT.out]
      exact ⟨rfl, (hU1.trans hU2).toUpd, hR2, hi⟩
    | ok p =>
      obtain ⟨n, j⟩ := p
      rw [hres] at hread
      have hT := hid (top_ok (z := ⟨#[]⟩) (f := Cd.textR s 1000000) hres)
      have hb1 := hid (hb0.keep hB3)
      clear hr hB1 hB2 hB3 hres hr3 hp3
      go_enter_defers Try.func51, Try.ntmps51
      go_wp2_with fail
      refine (hread.out _ hb1.out hR3.out).mono ?_; rintro e w1 ⟨hu, rfl, hR, hj⟩
      have hX1 := hx3.out.upd hu hxg
      have hR1 := hR
      have hU1 := hU3.out.trans (UB.upd hu (by simp; omega))
      clear hu hR3 hU3 hR hx3
      have x0 := hX1.cell 0
      have y0 := hX1.free 0
      go_wp2_with fail
      have hX2 := (hX1.set 0 (.string n))
      have hR2 := (hR1.setO (o := 0) (.string n) hxg)
      have hU2 := (hU1.trans (UB.set (o := 0) _ (.string n) (.inl (Nat.le_succ _))))
      refine leaves_cons (f := 68) (args := #[.pointer (some ⟨w.heap.size + 1 + 1, 0, none⟩), .pointer (some ⟨w.heap.size + 1, 0, none⟩), .pointer (some ⟨w.heap.size, 0, none⟩)]) (by simp) (by simp [go_sem]) ?_
      refine (idle_string _ _ _ _).mono ?_
      rintro e u' w'' ⟨rfl, rfl, rfl⟩
      have z0 := hX2.cell 0
      simp [Leaves, settle, results, Try.results51, go_sem, z0]
      rw [hT.out]
      exact ⟨rfl, hU2.toUpd, hR2, hj⟩
  · have h1 : (er == 0) = false := by rw [beq_eq_false_iff_ne]; exact her
    have h2 : (er != 0) = true := by rw [bne_iff_ne]; exact her
    have hT := hid (top_was ⟨#[]⟩ (Cd.textR s 1000000) i her)
    have hB1 := hba w (.cells #[.pointer (some ⟨g, 0, none⟩)] 36)
    have hB2 := hnext hB1 (hba (w.alloc (.cells #[.pointer (some ⟨g, 0, none⟩)] 36)) (.cells #[.string ⟨#[]⟩] 9))
    have hR := hid hr
    clear her hr
    go_enter_defers Try.func51, Try.ntmps51
    go_wp2
    simp [bodyPostD, Leaves, results, Try.results51, go_sem]
    rw [hT.out]
    exact ⟨rfl, Upd.of hB2, hR.out.keep hB2, hi⟩

set_option maxRecDepth 100000 in
theorem try_value_nil (w : World) : Calls Try.prog 55 #[.pointer none, .func (.func 56) #[.pointer none] #[]] w fun e w' => e = .returned (.agg #[.int .i64 0, .int .i64 0, .int .u64 0, .string ⟨#[]⟩]) ∧ Below w.heap.size w w' := by
  go_enter_defers Try.func55, Try.ntmps55
  go_wp2
  simp [bodyPostD, Leaves, results, Try.results55, go_sem]
  exact hnext (hba w _) (hba _ _)
set_option maxRecDepth 100000 in
set_option maxHeartbeats 1600000 in
theorem try_value (g : Nat) (s : ByteArray) (i : Nat) (er : Int) (w : World) (hr : Rdr w g s i er) (hi : i ≤ s.size) (hs : s.size ≤ 1000000000) :
    Calls Try.prog 55 #[.pointer (some ⟨g, 0, none⟩), .func (.func 56) #[.pointer (some ⟨g, 0, none⟩)] #[]] w (Top vvV g s (Cd.top ⟨0, 0, 0, ⟨#[]⟩⟩ (Cd.valueR s) i er) w) := by
  obtain ⟨c0, c1, c2, f1, f2, hg⟩ := hr.cells
  have hgn : g ≠ w.heap.size := Nat.ne_of_lt hg
  have hgn2 : g ≠ w.heap.size + 1 := by omega
  have hmf := run_makeFunc
  by_cases her : er = 0
  · subst her
    have hread : Hid (∀ W, Rdr W g s i 0 → Calls Try.prog 56 #[.pointer (some ⟨g, 0, none⟩)] W (Told vvV g s 0 (Cd.valueR s i) W)) := fun W h => value_rd g s i 0 W h hi hs
    have hB1 := hba w (.cells #[.pointer (some ⟨g, 0, none⟩)] 36)
    have hB2 := hnext hB1 (hba (w.alloc (.cells #[.pointer (some ⟨g, 0, none⟩)] 36)) (.cells #[.int .i64 0, .int .i64 0, .int .u64 0, .string ⟨#[]⟩] 28))
    have hB3 := hnext hB2 (hba ((w.alloc (.cells #[.pointer (some ⟨g, 0, none⟩)] 36)).alloc (.cells #[.int .i64 0, .int .i64 0, .int .u64 0, .string ⟨#[]⟩] 28)) (.cells #[.int .i64 (i : Int)] 3))
    have hR3 := hid (hr.keep hB3)
    have hr3 : Hid (Var (((w.alloc (.cells #[.pointer (some ⟨g, 0, none⟩)] 36)).alloc (.cells #[.int .i64 0, .int .i64 0, .int .u64 0, .string ⟨#[]⟩] 28)).alloc (.cells #[.int .i64 (i : Int)] 3)) w.heap.size #[.pointer (some ⟨g, 0, none⟩)] 36) := Var.keep (Var.keep (heap_alloc_new w _ : Var (w.alloc (.cells #[.pointer (some ⟨g, 0, none⟩)] 36)) w.heap.size #[.pointer (some ⟨g, 0, none⟩)] 36) (hba _ _)) (hba _ _)
    have hx3 : Hid (Var (((w.alloc (.cells #[.pointer (some ⟨g, 0, none⟩)] 36)).alloc (.cells #[.int .i64 0, .int .i64 0, .int .u64 0, .string ⟨#[]⟩] 28)).alloc (.cells #[.int .i64 (i : Int)] 3)) (w.heap.size + 1) #[.int .i64 0, .int .i64 0, .int .u64 0, .string ⟨#[]⟩] 28) := Var.keep (Var.new (w.alloc (.cells #[.pointer (some ⟨g, 0, none⟩)] 36)) #[.int .i64 0, .int .i64 0, .int .u64 0, .string ⟨#[]⟩] 28 (by simp)) (hba _ _)
    have hp3 : Hid (Var (((w.alloc (.cells #[.pointer (some ⟨g, 0, none⟩)] 36)).alloc (.cells #[.int .i64 0, .int .i64 0, .int .u64 0, .string ⟨#[]⟩] 28)).alloc (.cells #[.int .i64 (i : Int)] 3)) (w.heap.size + 1 + 1) #[.int .i64 (i : Int)] 3) := Var.new ((w.alloc (.cells #[.pointer (some ⟨g, 0, none⟩)] 36)).alloc (.cells #[.int .i64 0, .int .i64 0, .int .u64 0, .string ⟨#[]⟩] 28)) #[.int .i64 (i : Int)] 3 (by simp)
    have hU3 := hid (UB.of (g := g) hB3)
    have hrg : w.heap.size ≠ g := by omega
    have hxg : w.heap.size + 1 ≠ g := by omega
    have hpg : w.heap.size + 1 + 1 ≠ g := by omega
    cases hres : Cd.valueR s i with
    | error x =>
      rw [hres] at hread
      have hT := hid (top_err (z := ⟨0, 0, 0, ⟨#[]⟩⟩) (f := Cd.valueR s) hres)
      clear hr hB1 hB2 hB3 hres
      go_enter_defers Try.func55, Try.ntmps55
      go_wp2_with fail
      refine (hread.out _ hR3.out).mono ?_; rintro e w1 ⟨hu, rfl, j, hR1, hj⟩
      have hX1 := hx3.out.upd hu hxg
      have hP1 := hp3.out.upd hu hpg
      have hr1 := hr3.out.upd hu hrg
      have hU1 := hU3.out.trans (UB.upd hu (by simp; omega))
      have hsz := hU1.size
      clear hu hx3 hR3 hU3 hr3 hp3
      go_wp2_with fail
      refine leaves_cons (f := 69) (args := #[.pointer (some ⟨w.heap.size + 1 + 1, 0, none⟩), .pointer (some ⟨w.heap.size + 1, 0, none⟩), .pointer (some ⟨w.heap.size, 0, none⟩)]) (by simp) (by simp [go_sem]) ?_
      refine (catch_value x (w.heap.size + 1 + 1) (w.heap.size + 1) w.heap.size g w.heap.size s i j 0 _ hP1 hX1 hr1 hR1 (by omega) (by omega) hpg hxg hrg (by omega) hsz).mono ?_
      rintro e u' w'' ⟨rfl, rfl, hU2, hX2, hR2⟩
      have z0 := hX2.cell 0
      have z1 := hX2.cell 1
      have z2 := hX2.cell 2
      have z3 := hX2.cell 3
      simp [Leaves, settle, results, Try.results55, go_sem, z0, z1, z2, z3]
      rw [hT.out]
      exact ⟨rfl, (hU1.trans hU2).toUpd, hR2, hi⟩
    | ok p =>
      obtain ⟨n, j⟩ := p
      rw [hres] at hread
      have hT := hid (top_ok (z := ⟨0, 0, 0, ⟨#[]⟩⟩) (f := Cd.valueR s) hres)
      clear hr hB1 hB2 hB3 hres hr3 hp3
      go_enter_defers Try.func55, Try.ntmps55
      go_wp2_with fail
      refine (hread.out _ hR3.out).mono ?_; rintro e w1 ⟨hu, rfl, hR, hj⟩
      have hX1 := hx3.out.upd hu hxg
      have hR1 := hR
      have hU1 := hU3.out.trans (UB.upd hu (by simp; omega))
      clear hu hR3 hU3 hR hx3
      have x0 := hX1.cell 0
      have y0 := hX1.free 0
      have x1 := hX1.cell 1
      have y1 := hX1.free 1
      have x2 := hX1.cell 2
      have y2 := hX1.free 2
      have x3 := hX1.cell 3
      have y3 := hX1.free 3
      unfold vvV vv
      go_wp2_with fail
      have hX2 := ((((hX1.set 0 (.int .i64 n.k)).set 1 (.int .i64 n.n)).set 2 (.int .u64 (n.b : Int))).set 3 (.string n.s))
      have hR2 := ((((hR1.setO (o := 0) (.int .i64 n.k) hxg).setO (o := 1) (.int .i64 n.n) hxg).setO (o := 2) (.int .u64 (n.b : Int)) hxg).setO (o := 3) (.string n.s) hxg)
      have hU2 := ((((hU1.trans (UB.set (o := 0) _ (.int .i64 n.k) (.inl (Nat.le_succ _)))).trans (UB.set (o := 1) _ (.int .i64 n.n) (.inl (Nat.le_succ _)))).trans (UB.set (o := 2) _ (.int .u64 (n.b : Int)) (.inl (Nat.le_succ _)))).trans (UB.set (o := 3) _ (.string n.s) (.inl (Nat.le_succ _))))
      refine leaves_cons (f := 69) (args := #[.pointer (some ⟨w.heap.size + 1 + 1, 0, none⟩), .pointer (some ⟨w.heap.size + 1, 0, none⟩), .pointer (some ⟨w.heap.size, 0, none⟩)]) (by simp) (by simp [go_sem]) ?_
      refine (idle_value _ _ _ _).mono ?_
      rintro e u' w'' ⟨rfl, rfl, rfl⟩
      have z0 := hX2.cell 0
      have z1 := hX2.cell 1
      have z2 := hX2.cell 2
      have z3 := hX2.cell 3
      simp [Leaves, settle, results, Try.results55, go_sem, z0, z1, z2, z3]
      rw [hT.out]
      exact ⟨rfl, hU2.toUpd, hR2, hj⟩
  · have h1 : (er == 0) = false := by rw [beq_eq_false_iff_ne]; exact her
    have h2 : (er != 0) = true := by rw [bne_iff_ne]; exact her
    have hT := hid (top_was ⟨0, 0, 0, ⟨#[]⟩⟩ (Cd.valueR s) i her)
    have hB1 := hba w (.cells #[.pointer (some ⟨g, 0, none⟩)] 36)
    have hB2 := hnext hB1 (hba (w.alloc (.cells #[.pointer (some ⟨g, 0, none⟩)] 36)) (.cells #[.int .i64 0, .int .i64 0, .int .u64 0, .string ⟨#[]⟩] 28))
    have hR := hid hr
    clear her hr
    go_enter_defers Try.func55, Try.ntmps55
    go_wp2
    simp [bodyPostD, Leaves, results, Try.results55, go_sem]
    rw [hT.out]
    exact ⟨rfl, Upd.of hB2, hR.out.keep hB2, hi⟩

set_option maxRecDepth 100000 in
theorem try_row_nil (w : World) : Calls Try.prog 58 #[.pointer none, .func (.func 59) #[.pointer none] #[]] w fun e w' => e = .returned (.slice none 0 0) ∧ Below w.heap.size w w' := by
  go_enter_defers Try.func58, Try.ntmps58
  go_wp2
  simp [bodyPostD, Leaves, results, Try.results58, go_sem]
  exact hnext (hba w _) (hba _ _)
set_option maxRecDepth 100000 in
set_option maxHeartbeats 1600000 in
theorem try_row (g : Nat) (s : ByteArray) (i : Nat) (er : Int) (w : World) (hr : Rdr w g s i er) (hi : i ≤ s.size) (hs : s.size ≤ 1000000000) :
    Calls Try.prog 58 #[.pointer (some ⟨g, 0, none⟩), .func (.func 59) #[.pointer (some ⟨g, 0, none⟩)] #[]] w (TopRow g s (Cd.top [] (Cd.rowR s) i er) w) := by
  obtain ⟨c0, c1, c2, f1, f2, hg⟩ := hr.cells
  have hgn : g ≠ w.heap.size := Nat.ne_of_lt hg
  have hgn2 : g ≠ w.heap.size + 1 := by omega
  have hmf := run_makeFunc
  by_cases her : er = 0
  · subst her
    have hread : Hid (∀ W, Rdr W g s i 0 → Calls Try.prog 59 #[.pointer (some ⟨g, 0, none⟩)] W (ToldRow g s 0 (Cd.rowR s i) W)) := fun W h => row_rd g s i 0 W h hi hs
    have hB1 := hba w (.cells #[.pointer (some ⟨g, 0, none⟩)] 36)
    have hB2 := hnext hB1 (hba (w.alloc (.cells #[.pointer (some ⟨g, 0, none⟩)] 36)) (.cells #[.slice none 0 0] 24))
    have hB3 := hnext hB2 (hba ((w.alloc (.cells #[.pointer (some ⟨g, 0, none⟩)] 36)).alloc (.cells #[.slice none 0 0] 24)) (.cells #[.int .i64 (i : Int)] 3))
    have hR3 := hid (hr.keep hB3)
    have hr3 : Hid (Var (((w.alloc (.cells #[.pointer (some ⟨g, 0, none⟩)] 36)).alloc (.cells #[.slice none 0 0] 24)).alloc (.cells #[.int .i64 (i : Int)] 3)) w.heap.size #[.pointer (some ⟨g, 0, none⟩)] 36) := Var.keep (Var.keep (heap_alloc_new w _ : Var (w.alloc (.cells #[.pointer (some ⟨g, 0, none⟩)] 36)) w.heap.size #[.pointer (some ⟨g, 0, none⟩)] 36) (hba _ _)) (hba _ _)
    have hx3 : Hid (Var (((w.alloc (.cells #[.pointer (some ⟨g, 0, none⟩)] 36)).alloc (.cells #[.slice none 0 0] 24)).alloc (.cells #[.int .i64 (i : Int)] 3)) (w.heap.size + 1) #[.slice none 0 0] 24) := Var.keep (Var.new (w.alloc (.cells #[.pointer (some ⟨g, 0, none⟩)] 36)) #[.slice none 0 0] 24 (by simp)) (hba _ _)
    have hp3 : Hid (Var (((w.alloc (.cells #[.pointer (some ⟨g, 0, none⟩)] 36)).alloc (.cells #[.slice none 0 0] 24)).alloc (.cells #[.int .i64 (i : Int)] 3)) (w.heap.size + 1 + 1) #[.int .i64 (i : Int)] 3) := Var.new ((w.alloc (.cells #[.pointer (some ⟨g, 0, none⟩)] 36)).alloc (.cells #[.slice none 0 0] 24)) #[.int .i64 (i : Int)] 3 (by simp)
    have hU3 := hid (UB.of (g := g) hB3)
    have hrg : w.heap.size ≠ g := by omega
    have hxg : w.heap.size + 1 ≠ g := by omega
    have hpg : w.heap.size + 1 + 1 ≠ g := by omega
    cases hres : Cd.rowR s i with
    | error x =>
      rw [hres] at hread
      have hT := hid (top_err (z := []) (f := Cd.rowR s) hres)
      clear hr hB1 hB2 hB3 hres
      go_enter_defers Try.func58, Try.ntmps58
      go_wp2_with fail
      refine (hread.out _ hR3.out).mono ?_; rintro e w1 ⟨hu, rfl, j, hR1, hj⟩
      have hX1 := hx3.out.upd hu hxg
      have hP1 := hp3.out.upd hu hpg
      have hr1 := hr3.out.upd hu hrg
      have hU1 := hU3.out.trans (UB.upd hu (by simp; omega))
      have hsz := hU1.size
      clear hu hx3 hR3 hU3 hr3 hp3
      go_wp2_with fail
      refine leaves_cons (f := 70) (args := #[.pointer (some ⟨w.heap.size + 1 + 1, 0, none⟩), .pointer (some ⟨w.heap.size + 1, 0, none⟩), .pointer (some ⟨w.heap.size, 0, none⟩)]) (by simp) (by simp [go_sem]) ?_
      refine (catch_row x (w.heap.size + 1 + 1) (w.heap.size + 1) w.heap.size g w.heap.size s i j 0 _ hP1 hX1 hr1 hR1 (by omega) (by omega) hpg hxg hrg (by omega) hsz).mono ?_
      rintro e u' w'' ⟨rfl, rfl, hU2, hX2, hR2⟩
      have z0 := hX2.cell 0
      simp [Leaves, settle, results, Try.results58, go_sem, z0]
      rw [hT.out]
      exact ⟨⟨_, rfl, World.ownsRow_nil _ _ _ _⟩, (hU1.trans hU2).toUpd, hR2, hi⟩
    | ok p =>
      obtain ⟨n, j⟩ := p
      rw [hres] at hread
      have hT := hid (top_ok (z := []) (f := Cd.rowR s) hres)
      clear hr hB1 hB2 hB3 hres hr3 hp3
      go_enter_defers Try.func58, Try.ntmps58
      go_wp2_with fail
      refine (hread.out _ hR3.out).mono ?_; rintro e w1 ⟨hu, ⟨v', rfl, hown⟩, hR, hj⟩
      have hX1 := hx3.out.upd hu hxg
      have hR1 := hR
      have hU1 := hU3.out.trans (UB.upd hu (by simp; omega))
      clear hu hR3 hU3 hR hx3
      have x0 := hX1.cell 0
      have y0 := hX1.free 0
      obtain ⟨ao, ln, cp, rfl⟩ := own_slice hown
      have hO := hid hown
      clear hown
      go_wp2_with fail
      have hX2 := (hX1.set 0 (.slice ao ln cp))
      have hR2 := (hR1.setO (o := 0) (.slice ao ln cp) hxg)
      have hU2 := (hU1.trans (UB.set (o := 0) _ (.slice ao ln cp) (.inl (Nat.le_succ _))))
      refine leaves_cons (f := 70) (args := #[.pointer (some ⟨w.heap.size + 1 + 1, 0, none⟩), .pointer (some ⟨w.heap.size + 1, 0, none⟩), .pointer (some ⟨w.heap.size, 0, none⟩)]) (by simp) (by simp [go_sem]) ?_
      refine (idle_row _ _ _ _).mono ?_
      rintro e u' w'' ⟨rfl, rfl, rfl⟩
      have z0 := hX2.cell 0
      simp [Leaves, settle, results, Try.results58, go_sem, z0]
      rw [hT.out]
      exact ⟨⟨_, rfl, own_mono4 (own_setO hO.out (by first | (simp; done) | (simp; omega))) (by first | (simp; done) | (simp; omega))⟩, hU2.toUpd, hR2, hj⟩
  · have h1 : (er == 0) = false := by rw [beq_eq_false_iff_ne]; exact her
    have h2 : (er != 0) = true := by rw [bne_iff_ne]; exact her
    have hT := hid (top_was [] (Cd.rowR s) i her)
    have hB1 := hba w (.cells #[.pointer (some ⟨g, 0, none⟩)] 36)
    have hB2 := hnext hB1 (hba (w.alloc (.cells #[.pointer (some ⟨g, 0, none⟩)] 36)) (.cells #[.slice none 0 0] 24))
    have hR := hid hr
    clear her hr
    go_enter_defers Try.func58, Try.ntmps58
    go_wp2
    simp [bodyPostD, Leaves, results, Try.results58, go_sem]
    rw [hT.out]
    exact ⟨⟨_, rfl, World.ownsRow_nil _ _ _ _⟩, Upd.of hB2, hR.out.keep hB2, hi⟩
end Go.Proofs.Ytanmomlkdfnakaa
