/-
  code's value of a reader: its contract. Condition: the text has at most 1000000000 bytes.
-/
import Derived.Test.YtanmomlkdfnakaaRd2
namespace Go.Proofs.Ytanmomlkdfnakaa
open Go.RowKit

/-- a value in a block of its own -/
def BV (w : World) (g : Nat) (k n : Int) (b : Nat) (s : ByteArray) : Prop := w.heap[g]? = some (.cells #[.int .i64 k, .int .i64 n, .int .u64 (b : Int), .string s] 28 (0, 0))
theorem BV.cells {w : World} {g : Nat} {k n : Int} {b : Nat} {s : ByteArray} (h : BV w g k n b s) : w.cell? ⟨g, 0, none⟩ = some (.int .i64 k) ∧ w.cell? ⟨g, 1, none⟩ = some (.int .i64 n) ∧ w.cell? ⟨g, 2, none⟩ = some (.int .u64 (b : Int)) ∧ w.cell? ⟨g, 3, none⟩ = some (.string s) ∧
    w.frozen? ⟨g, 0, none⟩ = false ∧ w.frozen? ⟨g, 1, none⟩ = false ∧ w.frozen? ⟨g, 2, none⟩ = false ∧ w.frozen? ⟨g, 3, none⟩ = false ∧ g < w.heap.size :=
  ⟨cell_of_row w g 0 _ _ _ h, cell_of_row w g 1 _ _ _ h, cell_of_row w g 2 _ _ _ h, cell_of_row w g 3 _ _ _ h, frozen_of_row w g 0 _ _ h, frozen_of_row w g 1 _ _ h, frozen_of_row w g 2 _ _ h, frozen_of_row w g 3 _ _ h, (Array.getElem?_eq_some_iff.1 h).1⟩
theorem BV.keep {w w' : World} {g : Nat} {k n : Int} {b : Nat} {s : ByteArray} (h : BV w g k n b s) (hb : Below w.heap.size w w') : BV w' g k n b s := keepBlock h hb
theorem BV.upd {w w' : World} {g r : Nat} {k n : Int} {b : Nat} {s : ByteArray} (h : BV w g k n b s) (hb : Upd r w w') (hne : g ≠ r) : BV w' g k n b s := by
  show w'.heap[g]? = _
  rw [hb.block g h.cells.2.2.2.2.2.2.2.2 (by simpa using hne)]; exact h
theorem BV.new (w : World) (k n : Int) (b : Nat) (s : ByteArray) : BV (w.alloc (.cells #[.int .i64 k, .int .i64 n, .int .u64 (b : Int), .string s] 28)) w.heap.size k n b s := heap_alloc_new w _
theorem BV.setN {w : World} {g : Nat} {k n : Int} {b : Nat} {s : ByteArray} (h : BV w g k n b s) (m : Int) : BV (w.setCell ⟨g, 1, none⟩ (.int .i64 m)) g k m b s := heap_setCell_same w g 1 _ _ (.int .i64 m) h
theorem BV.setB {w : World} {g : Nat} {k n : Int} {b : Nat} {s : ByteArray} (h : BV w g k n b s) (m : Nat) : BV (w.setCell ⟨g, 2, none⟩ (.int .u64 (m : Int))) g k n m s := heap_setCell_same w g 2 _ _ (.int .u64 (m : Int)) h
theorem BV.setS {w : World} {g : Nat} {k n : Int} {b : Nat} {s : ByteArray} (h : BV w g k n b s) (t : ByteArray) : BV (w.setCell ⟨g, 3, none⟩ (.string t)) g k n b t := heap_setCell_same w g 3 _ _ (.string t) h
theorem BV.setO {w : World} {g r o : Nat} {k n : Int} {b : Nat} {s : ByteArray} (h : BV w g k n b s) (v : Value) (hne : r ≠ g) : BV (w.setCell ⟨r, o, none⟩ v) g k n b s :=
  (heap_setCell_other w ⟨r, o, none⟩ g v (by simpa [eq_comm] using hne)).trans h
theorem Rdr.setO {w : World} {g r o : Nat} {s : ByteArray} {i : Nat} {er : Int} (h : Rdr w g s i er) (v : Value) (hne : r ≠ g) : Rdr (w.setCell ⟨r, o, none⟩ v) g s i er :=
  (heap_setCell_other w ⟨r, o, none⟩ g v (by simpa [eq_comm] using hne)).trans h
/-- a store into a block that is newer than the call -/
theorem Upd.setNew {g r o : Nat} {w w' : World} (h : Upd g w w') (v : Value) (hr : w.heap.size ≤ r) : Upd g w (w'.setCell ⟨r, o, none⟩ v) := by
  have hb : Below w'.heap.size w' w' := Below.refl _ _
  have hb2 : Below r w' (w'.setCell ⟨r, o, none⟩ v) := (Below.refl r w').setCell (p := ⟨r, o, none⟩) (Nat.le_refl _) v
  exact ⟨hb2.os.trans h.os, hb2.tape.trans h.tape, hb2.output.trans h.output, Nat.le_trans h.size hb2.size, fun i hi hn => by
    rw [heap_setCell_other w' ⟨r, o, none⟩ i v (by simp; omega)]; exact h.block i hi hn⟩
def vvV (v : Cd.V) : Value := vv v.k v.n v.b v.s

theorem nextR_ok (s : ByteArray) (i : Nat) (hi : i < s.size) (c : Nat) (hc : s[i].toNat = c) : Cd.nextR s.data.toList i = .ok (c, i + 1) := by
  have hl : i < s.data.toList.length := by simpa using hi
  unfold Cd.nextR
  rw [List.getElem?_eq_getElem hl]
  show Except.ok (s.data.toList[i].toNat, i + 1) = _
  rw [show s.data.toList[i] = s[i] from rfl, hc]
theorem nextR_no (s : ByteArray) (i : Nat) (hi : s.size ≤ i) : Cd.nextR s.data.toList i = .error 8 := by
  have hl : s.data.toList.length ≤ i := by simpa using hi
  unfold Cd.nextR
  rw [List.getElem?_eq_none hl]

theorem textR_size {s : ByteArray} {most i j : Nat} {t : ByteArray} (h : Cd.textR s most i = .ok (t, j)) : t.size ≤ s.size := by
  unfold Cd.textR at h
  split at h
  · cases h
  · split at h
    · cases h
    · split at h
      · cases h
      · have e : s.extract _ _ = t := congrArg (fun r : Cd.R ByteArray => match r with | .ok x => x.1 | .error _ => t) h
        rw [← e]; simp; omega
theorem bitsF_next (s : ByteArray) (f b j : Nat) (hj : j < s.size) (d : Nat) (hd : s[j].toNat = d) : Cd.bitsF s.data.toList (f + 1) b j = Cd.bitsF s.data.toList f (256 * b + d) (j + 1) := by
  have hl : j < s.data.toList.length := by simpa using hj
  show (match s.data.toList[j]? with | none => _ | some c => _) = _
  rw [List.getElem?_eq_getElem hl]
  show Cd.bitsF _ f (256 * b + s.data.toList[j].toNat) (j + 1) = _
  rw [show s.data.toList[j] = s[j] from rfl, hd]
theorem bitsF_no (s : ByteArray) (f b j : Nat) (hj : s.size ≤ j) : Cd.bitsF s.data.toList (f + 1) b j = .error 8 := by
  have hl : s.data.toList.length ≤ j := by simpa using hj
  show (match s.data.toList[j]? with | none => _ | some c => _) = _
  rw [List.getElem?_eq_none hl]
theorem or_byte (b d : Nat) (hb : b < 72057594037927936) (hd : d < 256) : bits .or .u64 ((256 * b : Nat) : Int) (d : Int) = ((256 * b + d : Nat) : Int) := by
  have h := bits_or_u64_nat (256 * b) d (by omega) (by omega)
  rw [h, show 256 * b = b <<< 8 by rw [Nat.shiftLeft_eq]; omega, Nat.shiftLeft_add_eq_or_of_lt (by omega)]

set_option maxRecDepth 100000 in
set_option maxHeartbeats 12800000 in
theorem value_rd (g : Nat) (s : ByteArray) (i : Nat) (er : Int) (w : World) (hr : Rdr w g s i er) (hi : i ≤ s.size) (hs : s.size ≤ 1000000000) :
    Calls Try.prog 56 #[.pointer (some ⟨g, 0, none⟩)] w (Told vvV g s er (Cd.valueR s i) w) := by
  by_cases hi1 : i < s.size
  · obtain ⟨c, hc⟩ : ∃ c : Nat, s[i].toNat = c := ⟨_, rfl⟩
    have hnx : Hid (Cd.nextR s.data.toList i = .ok (c, i + 1)) := nextR_ok s i hi1 c hc
    by_cases hk : c = 1
    · obtain rfl : 1 = c := hk.symm
      have hraw : Hid (Cd.rawR s i = match Cd.nextR s.data.toList (i + 1) with | .error e => .error e | .ok (n, m) => .ok (⟨1, n, 0, ⟨#[]⟩⟩, m)) := by show _ = _; unfold Cd.rawR; rw [hnx.out]; rfl
      have hn1 : Hid (∀ W, Rdr W g s i er → Calls Try.prog 65 #[.pointer (some ⟨g, 0, none⟩)] W fun e w' => e = .returned (.int .u8 1) ∧ Upd g W w' ∧ Rdr w' g s (i + 1) er) := fun W h => by have := next_ok g s i er W h hi1 (by omega); rwa [show (s[i].toNat : Int) = 1 by rw [hc]; rfl] at this
      by_cases hi2 : i + 1 < s.size
      · obtain ⟨d, hd⟩ : ∃ d : Nat, s[i + 1].toNat = d := ⟨_, rfl⟩
        have HE : Hid (Cd.rawR s i = .ok (⟨1, d, 0, ⟨#[]⟩⟩, i + 1 + 1)) := by show _ = _; rw [hraw.out, nextR_ok s (i + 1) hi2 d hd]
        have hn2 : Hid (∀ W, Rdr W g s (i + 1) er → Calls Try.prog 65 #[.pointer (some ⟨g, 0, none⟩)] W fun e w' => Upd g W w' ∧ e = .returned (.int .u8 (d : Int)) ∧ Rdr w' g s (i + 1 + 1) er ∧ i + 1 + 1 ≤ s.size) := fun W h => (next_ok g s (i + 1) er W h hi2 (by omega)).mono fun _ _ ⟨h1, h2, h3⟩ => ⟨h2, by rw [h1, hd], h3, by omega⟩
        have hdl : d < 256 := by rw [← hd]; exact s[i + 1].toNat_lt
        clear hraw hnx hc hd
        obtain ⟨j, hj0⟩ : ∃ j, i + 1 + 1 = j := ⟨_, rfl⟩
        rw [hj0] at HE hn2
        clear hj0
        go_enter Try.func56, Try.ntmps56
        go_wp2_with fail
        have hb0 := hba w (.cells #[.int .i64 0, .int .i64 0, .int .u64 0, .string ⟨#[]⟩] 28)
        have hr0 := hr.keep hb0
        have bz0 : BV (w.alloc (.cells #[.int .i64 0, .int .i64 0, .int .u64 0, .string ⟨#[]⟩] 28)) w.heap.size 0 0 0 ⟨#[]⟩ := BV.new w 0 0 0 ⟨#[]⟩
        have hg0 : w.heap.size ≠ g := by have := hr.cells.2.2.2.2.2; omega
        have hu0 : Upd g w _ := Upd.of hb0
        refine (hn1.out _ hr0).mono ?_; rintro e w1 ⟨rfl, hu1, hr1⟩
        have bz1 := bz0.upd hu1 hg0
        replace hu1 := hu0.trans hu1
        clear hb0 hr0 bz0 hu0
        go_wp2_with fail
        have bt1 : BV (w1.alloc (.cells #[.int .i64 1, .int .i64 0, .int .u64 0, .string ⟨#[]⟩] 28)) w1.heap.size 1 0 0 ⟨#[]⟩ := BV.new w1 1 0 0 ⟨#[]⟩
        have hba1 := hba w1 (.cells #[.int .i64 1, .int .i64 0, .int .u64 0, .string ⟨#[]⟩] 28)
        have bz2 := bz1.keep hba1
        have hr2 := hr1.keep hba1
        have hu2 := hu1.trans (Upd.of hba1)
        have hg1 : w1.heap.size ≠ g := by have := hr1.cells.2.2.2.2.2; omega
        have hg2 : w1.heap.size ≠ w.heap.size := by have := bz1.cells.2.2.2.2.2.2.2.2; omega
        have hg3 : w.heap.size ≤ w1.heap.size := hu1.size
        generalize hz1 : w1.heap.size = b3 at *
        generalize w1.alloc (.cells #[.int .i64 1, .int .i64 0, .int .u64 0, .string ⟨#[]⟩] 28) = w2 at *
        clear hba1 hr1 hu1 bz1 hz1 w1
        refine (hn2.out _ hr2).mono ?_; rintro e w3 ⟨hu3, rfl, hr3, hj⟩
        have bz3 := bz2.upd hu3 hg0
        have bt3 := bt1.upd hu3 hg1
        replace hu3 := hu2.trans hu3
        clear hu2 hr2 bz2 bt1
        obtain ⟨t0, t1, t2, t3, tf0, tf1, tf2, tf3, tl⟩ := bt3.cells
        go_wp2_with fail
        clear t0 t1 t2 t3 tf0 tf1 tf2 tf3 tl
        have hrW := hr3.setO (o := 1) (.int .i64 (d : Int)) hg1
        have btW := bt3.setN (d : Int)
        have bzW := bz3.setO (o := 1) (.int .i64 (d : Int)) hg2
        have huW := hu3.setNew (o := 1) (.int .i64 (d : Int)) hg3
        generalize w3.setCell ⟨b3, 1, none⟩ (.int .i64 (d : Int)) = w4 at *
        clear hr3 bt3 bz3 hu3 w3
        have hRt := fun W => right_any 1 (d : Int) 0 ⟨#[]⟩ (by show ByteArray.size _ ≤ _; decide) W
        have HV : Hid (Cd.valueR s i = if Va.right 1 (d : Int) 0 ⟨#[]⟩ then .ok (⟨1, (d : Int), 0, ⟨#[]⟩⟩, j) else .error 7) := by show _ = _; unfold Cd.valueR; rw [HE.out]; rfl
        unfold vv at hRt
        cases hrt : Va.right 1 (d : Int) 0 ⟨#[]⟩
        · rw [hrt] at hRt
          have HRT := hid hRt
          have HW : Hid (Cd.valueR s i = .error 7) := by show _ = _; rw [HV.out, hrt]; rfl
          clear hRt hrt
          refine (HRT.out _).mono ?_; rintro e w5 ⟨rfl, hb5⟩
          go_wp2_with fail
          exact ⟨rfl, Told.mk_err HW.out (huW.trans (Upd.of hb5)) rfl (hrW.keep hb5) hj⟩
        · rw [hrt] at hRt
          have HRT := hid hRt
          have HW : Hid (Cd.valueR s i = .ok (⟨1, (d : Int), 0, ⟨#[]⟩⟩, j)) := by show _ = _; rw [HV.out, hrt]; rfl
          clear hRt hrt
          refine (HRT.out _).mono ?_; rintro e w5 ⟨rfl, hb5⟩
          have bt5 := btW.keep hb5
          have bz5 := bzW.keep hb5
          have hr5 := hrW.keep hb5
          have hu5 := huW.trans (Upd.of hb5)
          clear hb5 huW hrW bzW btW
          obtain ⟨t0, t1, t2, t3, _, _, _, _, tl⟩ := bt5.cells
          obtain ⟨z0, z1, z2, z3, zf0, zf1, zf2, zf3, _⟩ := bz5.cells
          go_wp2_with fail
          have hrF := (((hr5.setO (o := 0) (.int .i64 1) hg0).setO (o := 1) (.int .i64 (d : Int)) hg0).setO (o := 2) (.int .u64 0) hg0).setO (o := 3) (.string ⟨#[]⟩) hg0
          have huF := (((hu5.setNew (o := 0) (.int .i64 1) (Nat.le_refl _)).setNew (o := 1) (.int .i64 (d : Int)) (Nat.le_refl _)).setNew (o := 2) (.int .u64 0) (Nat.le_refl _)).setNew (o := 3) (.string ⟨#[]⟩) (Nat.le_refl _)
          exact bodyPost_ret (v := .agg #[.int .i64 1, .int .i64 (d : Int), .int .u64 0, .string ⟨#[]⟩]) (by simp [results, Try.results56, go_sem, z0, z1, z2, z3]) rfl (Told.mk_ok HW.out huF rfl hrF hj)
      · have HE : Hid (Cd.valueR s i = .error 8) := by show _ = _; unfold Cd.valueR; rw [hraw.out, nextR_no s (i + 1) (by omega)]
        have hn2 : Hid (∀ W, Rdr W g s (i + 1) er → Calls Try.prog 65 #[.pointer (some ⟨g, 0, none⟩)] W fun e w' => Upd g W w' ∧ e = .panicked [{ v := fault 8, recovered := false }] ∧ ∃ j, Rdr w' g s j er ∧ j ≤ s.size) := fun W h => (next_no g s (i + 1) er W h (by omega)).mono fun _ _ ⟨h1, h2, h3⟩ => ⟨h2, h1, _, h3, by omega⟩
        clear hraw hnx hc
        go_enter Try.func56, Try.ntmps56
        go_wp2_with fail
        have hb0 := hba w (.cells #[.int .i64 0, .int .i64 0, .int .u64 0, .string ⟨#[]⟩] 28)
        have hr0 := hr.keep hb0
        have bz0 : BV (w.alloc (.cells #[.int .i64 0, .int .i64 0, .int .u64 0, .string ⟨#[]⟩] 28)) w.heap.size 0 0 0 ⟨#[]⟩ := BV.new w 0 0 0 ⟨#[]⟩
        have hg0 : w.heap.size ≠ g := by have := hr.cells.2.2.2.2.2; omega
        have hu0 : Upd g w _ := Upd.of hb0
        refine (hn1.out _ hr0).mono ?_; rintro e w1 ⟨rfl, hu1, hr1⟩
        have bz1 := bz0.upd hu1 hg0
        replace hu1 := hu0.trans hu1
        clear hb0 hr0 bz0 hu0
        go_wp2_with fail
        have bt1 : BV (w1.alloc (.cells #[.int .i64 1, .int .i64 0, .int .u64 0, .string ⟨#[]⟩] 28)) w1.heap.size 1 0 0 ⟨#[]⟩ := BV.new w1 1 0 0 ⟨#[]⟩
        have hba1 := hba w1 (.cells #[.int .i64 1, .int .i64 0, .int .u64 0, .string ⟨#[]⟩] 28)
        have bz2 := bz1.keep hba1
        have hr2 := hr1.keep hba1
        have hu2 := hu1.trans (Upd.of hba1)
        have hg1 : w1.heap.size ≠ g := by have := hr1.cells.2.2.2.2.2; omega
        have hg2 : w1.heap.size ≠ w.heap.size := by have := bz1.cells.2.2.2.2.2.2.2.2; omega
        have hg3 : w.heap.size ≤ w1.heap.size := hu1.size
        generalize hz1 : w1.heap.size = b3 at *
        generalize w1.alloc (.cells #[.int .i64 1, .int .i64 0, .int .u64 0, .string ⟨#[]⟩] 28) = w2 at *
        clear hba1 hr1 hu1 bz1 hz1 w1
        refine (hn2.out _ hr2).mono ?_; rintro e w3 ⟨hu3, rfl, j, hr3, hj⟩
        go_wp2_with fail
        exact ⟨rfl, Told.mk_err HE.out (hu2.trans hu3) rfl hr3 hj⟩
    by_cases hk2 : c = 2
    · obtain rfl : 2 = c := hk2.symm
      have hraw : Hid (Cd.rawR s i = match Cd.intR s.data.toList (i + 1) with | .error e => .error e | .ok (x, m) => .ok (⟨2, x, 0, ⟨#[]⟩⟩, m)) := by show _ = _; unfold Cd.rawR; rw [hnx.out]; rfl
      have hn1 : Hid (∀ W, Rdr W g s i er → Calls Try.prog 65 #[.pointer (some ⟨g, 0, none⟩)] W fun e w' => e = .returned (.int .u8 2) ∧ Upd g W w' ∧ Rdr w' g s (i + 1) er) := fun W h => by have := next_ok g s i er W h hi1 (by omega); rwa [show (s[i].toNat : Int) = 2 by rw [hc]; rfl] at this
      cases hres : Cd.intR s.data.toList (i + 1) with
      | error x =>
        have HE : Hid (Cd.valueR s i = .error x) := by show _ = _; unfold Cd.valueR; rw [hraw.out, hres]
        have hn2 : Hid (∀ W, Rdr W g s (i + 1) er → Calls Try.prog 49 #[.pointer (some ⟨g, 0, none⟩)] W fun e w' => Upd g W w' ∧ e = .panicked [{ v := fault x, recovered := false }] ∧ ∃ j, Rdr w' g s j er ∧ j ≤ s.size) := fun W h => by have hh := int_rd g s (i + 1) er W h (by omega) hs; rw [hres] at hh; exact hh
        clear hraw hnx hc hres
        go_enter Try.func56, Try.ntmps56
        go_wp2_with fail
        have hb0 := hba w (.cells #[.int .i64 0, .int .i64 0, .int .u64 0, .string ⟨#[]⟩] 28)
        have hr0 := hr.keep hb0
        have bz0 : BV (w.alloc (.cells #[.int .i64 0, .int .i64 0, .int .u64 0, .string ⟨#[]⟩] 28)) w.heap.size 0 0 0 ⟨#[]⟩ := BV.new w 0 0 0 ⟨#[]⟩
        have hg0 : w.heap.size ≠ g := by have := hr.cells.2.2.2.2.2; omega
        have hu0 : Upd g w _ := Upd.of hb0
        refine (hn1.out _ hr0).mono ?_; rintro e w1 ⟨rfl, hu1, hr1⟩
        have bz1 := bz0.upd hu1 hg0
        replace hu1 := hu0.trans hu1
        clear hb0 hr0 bz0 hu0
        go_wp2_with fail
        have bt1 : BV (w1.alloc (.cells #[.int .i64 2, .int .i64 0, .int .u64 0, .string ⟨#[]⟩] 28)) w1.heap.size 2 0 0 ⟨#[]⟩ := BV.new w1 2 0 0 ⟨#[]⟩
        have hba1 := hba w1 (.cells #[.int .i64 2, .int .i64 0, .int .u64 0, .string ⟨#[]⟩] 28)
        have bz2 := bz1.keep hba1
        have hr2 := hr1.keep hba1
        have hu2 := hu1.trans (Upd.of hba1)
        have hg1 : w1.heap.size ≠ g := by have := hr1.cells.2.2.2.2.2; omega
        have hg2 : w1.heap.size ≠ w.heap.size := by have := bz1.cells.2.2.2.2.2.2.2.2; omega
        have hg3 : w.heap.size ≤ w1.heap.size := hu1.size
        generalize hz1 : w1.heap.size = b3 at *
        generalize w1.alloc (.cells #[.int .i64 2, .int .i64 0, .int .u64 0, .string ⟨#[]⟩] 28) = w2 at *
        clear hba1 hr1 hu1 bz1 hz1 w1
        refine (hn2.out _ hr2).mono ?_; rintro e w3 ⟨hu3, rfl, j, hr3, hj⟩
        go_wp2_with fail
        exact ⟨rfl, Told.mk_err HE.out (hu2.trans hu3) rfl hr3 hj⟩
      | ok p =>
        obtain ⟨n, j⟩ := p
        have HE : Hid (Cd.rawR s i = .ok (⟨2, n, 0, ⟨#[]⟩⟩, j)) := by show _ = _; rw [hraw.out, hres]
        have hn2 : Hid (∀ W, Rdr W g s (i + 1) er → Calls Try.prog 49 #[.pointer (some ⟨g, 0, none⟩)] W fun e w' => Upd g W w' ∧ e = .returned (.int .i64 n) ∧ Rdr w' g s j er ∧ j ≤ s.size) := fun W h => by have hh := int_rd g s (i + 1) er W h (by omega) hs; rw [hres] at hh; exact hh
        skip
        clear hraw hnx hc hres
        go_enter Try.func56, Try.ntmps56
        go_wp2_with fail
        have hb0 := hba w (.cells #[.int .i64 0, .int .i64 0, .int .u64 0, .string ⟨#[]⟩] 28)
        have hr0 := hr.keep hb0
        have bz0 : BV (w.alloc (.cells #[.int .i64 0, .int .i64 0, .int .u64 0, .string ⟨#[]⟩] 28)) w.heap.size 0 0 0 ⟨#[]⟩ := BV.new w 0 0 0 ⟨#[]⟩
        have hg0 : w.heap.size ≠ g := by have := hr.cells.2.2.2.2.2; omega
        have hu0 : Upd g w _ := Upd.of hb0
        refine (hn1.out _ hr0).mono ?_; rintro e w1 ⟨rfl, hu1, hr1⟩
        have bz1 := bz0.upd hu1 hg0
        replace hu1 := hu0.trans hu1
        clear hb0 hr0 bz0 hu0
        go_wp2_with fail
        have bt1 : BV (w1.alloc (.cells #[.int .i64 2, .int .i64 0, .int .u64 0, .string ⟨#[]⟩] 28)) w1.heap.size 2 0 0 ⟨#[]⟩ := BV.new w1 2 0 0 ⟨#[]⟩
        have hba1 := hba w1 (.cells #[.int .i64 2, .int .i64 0, .int .u64 0, .string ⟨#[]⟩] 28)
        have bz2 := bz1.keep hba1
        have hr2 := hr1.keep hba1
        have hu2 := hu1.trans (Upd.of hba1)
        have hg1 : w1.heap.size ≠ g := by have := hr1.cells.2.2.2.2.2; omega
        have hg2 : w1.heap.size ≠ w.heap.size := by have := bz1.cells.2.2.2.2.2.2.2.2; omega
        have hg3 : w.heap.size ≤ w1.heap.size := hu1.size
        generalize hz1 : w1.heap.size = b3 at *
        generalize w1.alloc (.cells #[.int .i64 2, .int .i64 0, .int .u64 0, .string ⟨#[]⟩] 28) = w2 at *
        clear hba1 hr1 hu1 bz1 hz1 w1
        refine (hn2.out _ hr2).mono ?_; rintro e w3 ⟨hu3, rfl, hr3, hj⟩
        have bz3 := bz2.upd hu3 hg0
        have bt3 := bt1.upd hu3 hg1
        replace hu3 := hu2.trans hu3
        clear hu2 hr2 bz2 bt1
        obtain ⟨t0, t1, t2, t3, tf0, tf1, tf2, tf3, tl⟩ := bt3.cells
        go_wp2_with fail
        clear t0 t1 t2 t3 tf0 tf1 tf2 tf3 tl
        have hrW := hr3.setO (o := 1) (.int .i64 n) hg1
        have btW := bt3.setN n
        have bzW := bz3.setO (o := 1) (.int .i64 n) hg2
        have huW := hu3.setNew (o := 1) (.int .i64 n) hg3
        generalize w3.setCell ⟨b3, 1, none⟩ (.int .i64 n) = w4 at *
        clear hr3 bt3 bz3 hu3 w3
        have hRt := fun W => right_any 2 n 0 ⟨#[]⟩ (by show ByteArray.size _ ≤ _; decide) W
        have HV : Hid (Cd.valueR s i = if Va.right 2 n 0 ⟨#[]⟩ then .ok (⟨2, n, 0, ⟨#[]⟩⟩, j) else .error 7) := by show _ = _; unfold Cd.valueR; rw [HE.out]; rfl
        unfold vv at hRt
        cases hrt : Va.right 2 n 0 ⟨#[]⟩
        · rw [hrt] at hRt
          have HRT := hid hRt
          have HW : Hid (Cd.valueR s i = .error 7) := by show _ = _; rw [HV.out, hrt]; rfl
          clear hRt hrt
          refine (HRT.out _).mono ?_; rintro e w5 ⟨rfl, hb5⟩
          go_wp2_with fail
          exact ⟨rfl, Told.mk_err HW.out (huW.trans (Upd.of hb5)) rfl (hrW.keep hb5) hj⟩
        · rw [hrt] at hRt
          have HRT := hid hRt
          have HW : Hid (Cd.valueR s i = .ok (⟨2, n, 0, ⟨#[]⟩⟩, j)) := by show _ = _; rw [HV.out, hrt]; rfl
          clear hRt hrt
          refine (HRT.out _).mono ?_; rintro e w5 ⟨rfl, hb5⟩
          have bt5 := btW.keep hb5
          have bz5 := bzW.keep hb5
          have hr5 := hrW.keep hb5
          have hu5 := huW.trans (Upd.of hb5)
          clear hb5 huW hrW bzW btW
          obtain ⟨t0, t1, t2, t3, _, _, _, _, tl⟩ := bt5.cells
          obtain ⟨z0, z1, z2, z3, zf0, zf1, zf2, zf3, _⟩ := bz5.cells
          go_wp2_with fail
          have hrF := (((hr5.setO (o := 0) (.int .i64 2) hg0).setO (o := 1) (.int .i64 n) hg0).setO (o := 2) (.int .u64 0) hg0).setO (o := 3) (.string ⟨#[]⟩) hg0
          have huF := (((hu5.setNew (o := 0) (.int .i64 2) (Nat.le_refl _)).setNew (o := 1) (.int .i64 n) (Nat.le_refl _)).setNew (o := 2) (.int .u64 0) (Nat.le_refl _)).setNew (o := 3) (.string ⟨#[]⟩) (Nat.le_refl _)
          exact bodyPost_ret (v := .agg #[.int .i64 2, .int .i64 n, .int .u64 0, .string ⟨#[]⟩]) (by simp [results, Try.results56, go_sem, z0, z1, z2, z3]) rfl (Told.mk_ok HW.out huF rfl hrF hj)
    by_cases hk4 : c = 4
    · obtain rfl : 4 = c := hk4.symm
      have hraw : Hid (Cd.rawR s i = match Cd.textR s 4096 (i + 1) with | .error e => .error e | .ok (x, m) => .ok (⟨4, 0, 0, x⟩, m)) := by show _ = _; unfold Cd.rawR; rw [hnx.out]; rfl
      have hn1 : Hid (∀ W, Rdr W g s i er → Calls Try.prog 65 #[.pointer (some ⟨g, 0, none⟩)] W fun e w' => e = .returned (.int .u8 4) ∧ Upd g W w' ∧ Rdr w' g s (i + 1) er) := fun W h => by have := next_ok g s i er W h hi1 (by omega); rwa [show (s[i].toNat : Int) = 4 by rw [hc]; rfl] at this
      cases hres : Cd.textR s 4096 (i + 1) with
      | error x =>
        have HE : Hid (Cd.valueR s i = .error x) := by show _ = _; unfold Cd.valueR; rw [hraw.out, hres]
        have hn2 : Hid (∀ W, Rdr W g s (i + 1) er → Calls Try.prog 53 #[.pointer (some ⟨g, 0, none⟩), .int .u64 4096] W fun e w' => Upd g W w' ∧ e = .panicked [{ v := fault x, recovered := false }] ∧ ∃ j, Rdr w' g s j er ∧ j ≤ s.size) := fun W h => by have hh := text_rd 4096 (by omega) g s (i + 1) er W h (by omega) hs; rw [hres] at hh; exact hh
        clear hraw hnx hc hres
        go_enter Try.func56, Try.ntmps56
        go_wp2_with fail
        have hb0 := hba w (.cells #[.int .i64 0, .int .i64 0, .int .u64 0, .string ⟨#[]⟩] 28)
        have hr0 := hr.keep hb0
        have bz0 : BV (w.alloc (.cells #[.int .i64 0, .int .i64 0, .int .u64 0, .string ⟨#[]⟩] 28)) w.heap.size 0 0 0 ⟨#[]⟩ := BV.new w 0 0 0 ⟨#[]⟩
        have hg0 : w.heap.size ≠ g := by have := hr.cells.2.2.2.2.2; omega
        have hu0 : Upd g w _ := Upd.of hb0
        refine (hn1.out _ hr0).mono ?_; rintro e w1 ⟨rfl, hu1, hr1⟩
        have bz1 := bz0.upd hu1 hg0
        replace hu1 := hu0.trans hu1
        clear hb0 hr0 bz0 hu0
        go_wp2_with fail
        have bt1 : BV (w1.alloc (.cells #[.int .i64 4, .int .i64 0, .int .u64 0, .string ⟨#[]⟩] 28)) w1.heap.size 4 0 0 ⟨#[]⟩ := BV.new w1 4 0 0 ⟨#[]⟩
        have hba1 := hba w1 (.cells #[.int .i64 4, .int .i64 0, .int .u64 0, .string ⟨#[]⟩] 28)
        have bz2 := bz1.keep hba1
        have hr2 := hr1.keep hba1
        have hu2 := hu1.trans (Upd.of hba1)
        have hg1 : w1.heap.size ≠ g := by have := hr1.cells.2.2.2.2.2; omega
        have hg2 : w1.heap.size ≠ w.heap.size := by have := bz1.cells.2.2.2.2.2.2.2.2; omega
        have hg3 : w.heap.size ≤ w1.heap.size := hu1.size
        generalize hz1 : w1.heap.size = b3 at *
        generalize w1.alloc (.cells #[.int .i64 4, .int .i64 0, .int .u64 0, .string ⟨#[]⟩] 28) = w2 at *
        clear hba1 hr1 hu1 bz1 hz1 w1
        refine (hn2.out _ hr2).mono ?_; rintro e w3 ⟨hu3, rfl, j, hr3, hj⟩
        go_wp2_with fail
        exact ⟨rfl, Told.mk_err HE.out (hu2.trans hu3) rfl hr3 hj⟩
      | ok p =>
        obtain ⟨t, j⟩ := p
        have HE : Hid (Cd.rawR s i = .ok (⟨4, 0, 0, t⟩, j)) := by show _ = _; rw [hraw.out, hres]
        have hn2 : Hid (∀ W, Rdr W g s (i + 1) er → Calls Try.prog 53 #[.pointer (some ⟨g, 0, none⟩), .int .u64 4096] W fun e w' => Upd g W w' ∧ e = .returned (.string t) ∧ Rdr w' g s j er ∧ j ≤ s.size) := fun W h => by have hh := text_rd 4096 (by omega) g s (i + 1) er W h (by omega) hs; rw [hres] at hh; exact hh
        have hts : t.size ≤ maxLen := by have := textR_size hres; unfold maxLen; omega
        clear hraw hnx hc hres
        go_enter Try.func56, Try.ntmps56
        go_wp2_with fail
        have hb0 := hba w (.cells #[.int .i64 0, .int .i64 0, .int .u64 0, .string ⟨#[]⟩] 28)
        have hr0 := hr.keep hb0
        have bz0 : BV (w.alloc (.cells #[.int .i64 0, .int .i64 0, .int .u64 0, .string ⟨#[]⟩] 28)) w.heap.size 0 0 0 ⟨#[]⟩ := BV.new w 0 0 0 ⟨#[]⟩
        have hg0 : w.heap.size ≠ g := by have := hr.cells.2.2.2.2.2; omega
        have hu0 : Upd g w _ := Upd.of hb0
        refine (hn1.out _ hr0).mono ?_; rintro e w1 ⟨rfl, hu1, hr1⟩
        have bz1 := bz0.upd hu1 hg0
        replace hu1 := hu0.trans hu1
        clear hb0 hr0 bz0 hu0
        go_wp2_with fail
        have bt1 : BV (w1.alloc (.cells #[.int .i64 4, .int .i64 0, .int .u64 0, .string ⟨#[]⟩] 28)) w1.heap.size 4 0 0 ⟨#[]⟩ := BV.new w1 4 0 0 ⟨#[]⟩
        have hba1 := hba w1 (.cells #[.int .i64 4, .int .i64 0, .int .u64 0, .string ⟨#[]⟩] 28)
        have bz2 := bz1.keep hba1
        have hr2 := hr1.keep hba1
        have hu2 := hu1.trans (Upd.of hba1)
        have hg1 : w1.heap.size ≠ g := by have := hr1.cells.2.2.2.2.2; omega
        have hg2 : w1.heap.size ≠ w.heap.size := by have := bz1.cells.2.2.2.2.2.2.2.2; omega
        have hg3 : w.heap.size ≤ w1.heap.size := hu1.size
        generalize hz1 : w1.heap.size = b3 at *
        generalize w1.alloc (.cells #[.int .i64 4, .int .i64 0, .int .u64 0, .string ⟨#[]⟩] 28) = w2 at *
        clear hba1 hr1 hu1 bz1 hz1 w1
        refine (hn2.out _ hr2).mono ?_; rintro e w3 ⟨hu3, rfl, hr3, hj⟩
        have bz3 := bz2.upd hu3 hg0
        have bt3 := bt1.upd hu3 hg1
        replace hu3 := hu2.trans hu3
        clear hu2 hr2 bz2 bt1
        obtain ⟨t0, t1, t2, t3, tf0, tf1, tf2, tf3, tl⟩ := bt3.cells
        go_wp2_with fail
        clear t0 t1 t2 t3 tf0 tf1 tf2 tf3 tl
        have hrW := hr3.setO (o := 3) (.string t) hg1
        have btW := bt3.setS t
        have bzW := bz3.setO (o := 3) (.string t) hg2
        have huW := hu3.setNew (o := 3) (.string t) hg3
        generalize w3.setCell ⟨b3, 3, none⟩ (.string t) = w4 at *
        clear hr3 bt3 bz3 hu3 w3
        have hRt := fun W => right_any 4 0 0 t hts W
        have HV : Hid (Cd.valueR s i = if Va.right 4 0 0 t then .ok (⟨4, 0, 0, t⟩, j) else .error 7) := by show _ = _; unfold Cd.valueR; rw [HE.out]; rfl
        unfold vv at hRt
        cases hrt : Va.right 4 0 0 t
        · rw [hrt] at hRt
          have HRT := hid hRt
          have HW : Hid (Cd.valueR s i = .error 7) := by show _ = _; rw [HV.out, hrt]; rfl
          clear hRt hrt
          refine (HRT.out _).mono ?_; rintro e w5 ⟨rfl, hb5⟩
          go_wp2_with fail
          exact ⟨rfl, Told.mk_err HW.out (huW.trans (Upd.of hb5)) rfl (hrW.keep hb5) hj⟩
        · rw [hrt] at hRt
          have HRT := hid hRt
          have HW : Hid (Cd.valueR s i = .ok (⟨4, 0, 0, t⟩, j)) := by show _ = _; rw [HV.out, hrt]; rfl
          clear hRt hrt
          refine (HRT.out _).mono ?_; rintro e w5 ⟨rfl, hb5⟩
          have bt5 := btW.keep hb5
          have bz5 := bzW.keep hb5
          have hr5 := hrW.keep hb5
          have hu5 := huW.trans (Upd.of hb5)
          clear hb5 huW hrW bzW btW
          obtain ⟨t0, t1, t2, t3, _, _, _, _, tl⟩ := bt5.cells
          obtain ⟨z0, z1, z2, z3, zf0, zf1, zf2, zf3, _⟩ := bz5.cells
          go_wp2_with fail
          have hrF := (((hr5.setO (o := 0) (.int .i64 4) hg0).setO (o := 1) (.int .i64 0) hg0).setO (o := 2) (.int .u64 0) hg0).setO (o := 3) (.string t) hg0
          have huF := (((hu5.setNew (o := 0) (.int .i64 4) (Nat.le_refl _)).setNew (o := 1) (.int .i64 0) (Nat.le_refl _)).setNew (o := 2) (.int .u64 0) (Nat.le_refl _)).setNew (o := 3) (.string t) (Nat.le_refl _)
          exact bodyPost_ret (v := .agg #[.int .i64 4, .int .i64 0, .int .u64 0, .string t]) (by simp [results, Try.results56, go_sem, z0, z1, z2, z3]) rfl (Told.mk_ok HW.out huF rfl hrF hj)
    by_cases hk5 : c = 5
    · obtain rfl : 5 = c := hk5.symm
      have hraw : Hid (Cd.rawR s i = match Cd.textR s 4096 (i + 1) with | .error e => .error e | .ok (x, m) => .ok (⟨5, 0, 0, x⟩, m)) := by show _ = _; unfold Cd.rawR; rw [hnx.out]; rfl
      have hn1 : Hid (∀ W, Rdr W g s i er → Calls Try.prog 65 #[.pointer (some ⟨g, 0, none⟩)] W fun e w' => e = .returned (.int .u8 5) ∧ Upd g W w' ∧ Rdr w' g s (i + 1) er) := fun W h => by have := next_ok g s i er W h hi1 (by omega); rwa [show (s[i].toNat : Int) = 5 by rw [hc]; rfl] at this
      cases hres : Cd.textR s 4096 (i + 1) with
      | error x =>
        have HE : Hid (Cd.valueR s i = .error x) := by show _ = _; unfold Cd.valueR; rw [hraw.out, hres]
        have hn2 : Hid (∀ W, Rdr W g s (i + 1) er → Calls Try.prog 53 #[.pointer (some ⟨g, 0, none⟩), .int .u64 4096] W fun e w' => Upd g W w' ∧ e = .panicked [{ v := fault x, recovered := false }] ∧ ∃ j, Rdr w' g s j er ∧ j ≤ s.size) := fun W h => by have hh := text_rd 4096 (by omega) g s (i + 1) er W h (by omega) hs; rw [hres] at hh; exact hh
        clear hraw hnx hc hres
        go_enter Try.func56, Try.ntmps56
        go_wp2_with fail
        have hb0 := hba w (.cells #[.int .i64 0, .int .i64 0, .int .u64 0, .string ⟨#[]⟩] 28)
        have hr0 := hr.keep hb0
        have bz0 : BV (w.alloc (.cells #[.int .i64 0, .int .i64 0, .int .u64 0, .string ⟨#[]⟩] 28)) w.heap.size 0 0 0 ⟨#[]⟩ := BV.new w 0 0 0 ⟨#[]⟩
        have hg0 : w.heap.size ≠ g := by have := hr.cells.2.2.2.2.2; omega
        have hu0 : Upd g w _ := Upd.of hb0
        refine (hn1.out _ hr0).mono ?_; rintro e w1 ⟨rfl, hu1, hr1⟩
        have bz1 := bz0.upd hu1 hg0
        replace hu1 := hu0.trans hu1
        clear hb0 hr0 bz0 hu0
        go_wp2_with fail
        have bt1 : BV (w1.alloc (.cells #[.int .i64 5, .int .i64 0, .int .u64 0, .string ⟨#[]⟩] 28)) w1.heap.size 5 0 0 ⟨#[]⟩ := BV.new w1 5 0 0 ⟨#[]⟩
        have hba1 := hba w1 (.cells #[.int .i64 5, .int .i64 0, .int .u64 0, .string ⟨#[]⟩] 28)
        have bz2 := bz1.keep hba1
        have hr2 := hr1.keep hba1
        have hu2 := hu1.trans (Upd.of hba1)
        have hg1 : w1.heap.size ≠ g := by have := hr1.cells.2.2.2.2.2; omega
        have hg2 : w1.heap.size ≠ w.heap.size := by have := bz1.cells.2.2.2.2.2.2.2.2; omega
        have hg3 : w.heap.size ≤ w1.heap.size := hu1.size
        generalize hz1 : w1.heap.size = b3 at *
        generalize w1.alloc (.cells #[.int .i64 5, .int .i64 0, .int .u64 0, .string ⟨#[]⟩] 28) = w2 at *
        clear hba1 hr1 hu1 bz1 hz1 w1
        refine (hn2.out _ hr2).mono ?_; rintro e w3 ⟨hu3, rfl, j, hr3, hj⟩
        go_wp2_with fail
        exact ⟨rfl, Told.mk_err HE.out (hu2.trans hu3) rfl hr3 hj⟩
      | ok p =>
        obtain ⟨t, j⟩ := p
        have HE : Hid (Cd.rawR s i = .ok (⟨5, 0, 0, t⟩, j)) := by show _ = _; rw [hraw.out, hres]
        have hn2 : Hid (∀ W, Rdr W g s (i + 1) er → Calls Try.prog 53 #[.pointer (some ⟨g, 0, none⟩), .int .u64 4096] W fun e w' => Upd g W w' ∧ e = .returned (.string t) ∧ Rdr w' g s j er ∧ j ≤ s.size) := fun W h => by have hh := text_rd 4096 (by omega) g s (i + 1) er W h (by omega) hs; rw [hres] at hh; exact hh
        have hts : t.size ≤ maxLen := by have := textR_size hres; unfold maxLen; omega
        clear hraw hnx hc hres
        go_enter Try.func56, Try.ntmps56
        go_wp2_with fail
        have hb0 := hba w (.cells #[.int .i64 0, .int .i64 0, .int .u64 0, .string ⟨#[]⟩] 28)
        have hr0 := hr.keep hb0
        have bz0 : BV (w.alloc (.cells #[.int .i64 0, .int .i64 0, .int .u64 0, .string ⟨#[]⟩] 28)) w.heap.size 0 0 0 ⟨#[]⟩ := BV.new w 0 0 0 ⟨#[]⟩
        have hg0 : w.heap.size ≠ g := by have := hr.cells.2.2.2.2.2; omega
        have hu0 : Upd g w _ := Upd.of hb0
        refine (hn1.out _ hr0).mono ?_; rintro e w1 ⟨rfl, hu1, hr1⟩
        have bz1 := bz0.upd hu1 hg0
        replace hu1 := hu0.trans hu1
        clear hb0 hr0 bz0 hu0
        go_wp2_with fail
        have bt1 : BV (w1.alloc (.cells #[.int .i64 5, .int .i64 0, .int .u64 0, .string ⟨#[]⟩] 28)) w1.heap.size 5 0 0 ⟨#[]⟩ := BV.new w1 5 0 0 ⟨#[]⟩
        have hba1 := hba w1 (.cells #[.int .i64 5, .int .i64 0, .int .u64 0, .string ⟨#[]⟩] 28)
        have bz2 := bz1.keep hba1
        have hr2 := hr1.keep hba1
        have hu2 := hu1.trans (Upd.of hba1)
        have hg1 : w1.heap.size ≠ g := by have := hr1.cells.2.2.2.2.2; omega
        have hg2 : w1.heap.size ≠ w.heap.size := by have := bz1.cells.2.2.2.2.2.2.2.2; omega
        have hg3 : w.heap.size ≤ w1.heap.size := hu1.size
        generalize hz1 : w1.heap.size = b3 at *
        generalize w1.alloc (.cells #[.int .i64 5, .int .i64 0, .int .u64 0, .string ⟨#[]⟩] 28) = w2 at *
        clear hba1 hr1 hu1 bz1 hz1 w1
        refine (hn2.out _ hr2).mono ?_; rintro e w3 ⟨hu3, rfl, hr3, hj⟩
        have bz3 := bz2.upd hu3 hg0
        have bt3 := bt1.upd hu3 hg1
        replace hu3 := hu2.trans hu3
        clear hu2 hr2 bz2 bt1
        obtain ⟨t0, t1, t2, t3, tf0, tf1, tf2, tf3, tl⟩ := bt3.cells
        go_wp2_with fail
        clear t0 t1 t2 t3 tf0 tf1 tf2 tf3 tl
        have hrW := hr3.setO (o := 3) (.string t) hg1
        have btW := bt3.setS t
        have bzW := bz3.setO (o := 3) (.string t) hg2
        have huW := hu3.setNew (o := 3) (.string t) hg3
        generalize w3.setCell ⟨b3, 3, none⟩ (.string t) = w4 at *
        clear hr3 bt3 bz3 hu3 w3
        have hRt := fun W => right_any 5 0 0 t hts W
        have HV : Hid (Cd.valueR s i = if Va.right 5 0 0 t then .ok (⟨5, 0, 0, t⟩, j) else .error 7) := by show _ = _; unfold Cd.valueR; rw [HE.out]; rfl
        unfold vv at hRt
        cases hrt : Va.right 5 0 0 t
        · rw [hrt] at hRt
          have HRT := hid hRt
          have HW : Hid (Cd.valueR s i = .error 7) := by show _ = _; rw [HV.out, hrt]; rfl
          clear hRt hrt
          refine (HRT.out _).mono ?_; rintro e w5 ⟨rfl, hb5⟩
          go_wp2_with fail
          exact ⟨rfl, Told.mk_err HW.out (huW.trans (Upd.of hb5)) rfl (hrW.keep hb5) hj⟩
        · rw [hrt] at hRt
          have HRT := hid hRt
          have HW : Hid (Cd.valueR s i = .ok (⟨5, 0, 0, t⟩, j)) := by show _ = _; rw [HV.out, hrt]; rfl
          clear hRt hrt
          refine (HRT.out _).mono ?_; rintro e w5 ⟨rfl, hb5⟩
          have bt5 := btW.keep hb5
          have bz5 := bzW.keep hb5
          have hr5 := hrW.keep hb5
          have hu5 := huW.trans (Upd.of hb5)
          clear hb5 huW hrW bzW btW
          obtain ⟨t0, t1, t2, t3, _, _, _, _, tl⟩ := bt5.cells
          obtain ⟨z0, z1, z2, z3, zf0, zf1, zf2, zf3, _⟩ := bz5.cells
          go_wp2_with fail
          have hrF := (((hr5.setO (o := 0) (.int .i64 5) hg0).setO (o := 1) (.int .i64 0) hg0).setO (o := 2) (.int .u64 0) hg0).setO (o := 3) (.string t) hg0
          have huF := (((hu5.setNew (o := 0) (.int .i64 5) (Nat.le_refl _)).setNew (o := 1) (.int .i64 0) (Nat.le_refl _)).setNew (o := 2) (.int .u64 0) (Nat.le_refl _)).setNew (o := 3) (.string t) (Nat.le_refl _)
          exact bodyPost_ret (v := .agg #[.int .i64 5, .int .i64 0, .int .u64 0, .string t]) (by simp [results, Try.results56, go_sem, z0, z1, z2, z3]) rfl (Told.mk_ok HW.out huF rfl hrF hj)
    by_cases hk3 : c = 3
    · obtain rfl : 3 = c := hk3.symm
      have hraw : Hid (Cd.rawR s i = match Cd.bitsF s.data.toList 8 0 (i + 1) with | .error e => .error e | .ok (b, m) => .ok (⟨3, 0, b, ⟨#[]⟩⟩, m)) := by show _ = _; unfold Cd.rawR; rw [hnx.out]; rfl
      have hn1 : Hid (∀ W, Rdr W g s i er → Calls Try.prog 65 #[.pointer (some ⟨g, 0, none⟩)] W fun e w' => e = .returned (.int .u8 3) ∧ Upd g W w' ∧ Rdr w' g s (i + 1) er) := fun W h => by have := next_ok g s i er W h hi1 (by omega); rwa [show (s[i].toNat : Int) = 3 by rw [hc]; rfl] at this
      clear hnx hc
      go_enter Try.func56, Try.ntmps56
      go_wp2_with fail
      have hb0 := hba w (.cells #[.int .i64 0, .int .i64 0, .int .u64 0, .string ⟨#[]⟩] 28)
      have hr0 := hr.keep hb0
      have bz0 : BV (w.alloc (.cells #[.int .i64 0, .int .i64 0, .int .u64 0, .string ⟨#[]⟩] 28)) w.heap.size 0 0 0 ⟨#[]⟩ := BV.new w 0 0 0 ⟨#[]⟩
      have hg0 : w.heap.size ≠ g := by have := hr.cells.2.2.2.2.2; omega
      have hu0 : Upd g w _ := Upd.of hb0
      refine (hn1.out _ hr0).mono ?_; rintro e w1 ⟨rfl, hu1, hr1⟩
      have bz1 := bz0.upd hu1 hg0
      replace hu1 := hu0.trans hu1
      clear hb0 hr0 bz0 hu0
      go_wp2_with fail
      have bt1 : BV (w1.alloc (.cells #[.int .i64 3, .int .i64 0, .int .u64 0, .string ⟨#[]⟩] 28)) w1.heap.size 3 0 0 ⟨#[]⟩ := BV.new w1 3 0 0 ⟨#[]⟩
      have hba1 := hba w1 (.cells #[.int .i64 3, .int .i64 0, .int .u64 0, .string ⟨#[]⟩] 28)
      have bz2 := bz1.keep hba1
      have hr2 := hr1.keep hba1
      have hu2 := hu1.trans (Upd.of hba1)
      have hg1 : w1.heap.size ≠ g := by have := hr1.cells.2.2.2.2.2; omega
      have hg2 : w1.heap.size ≠ w.heap.size := by have := bz1.cells.2.2.2.2.2.2.2.2; omega
      have hg3 : w.heap.size ≤ w1.heap.size := hu1.size
      generalize hz1 : w1.heap.size = b3 at *
      generalize w1.alloc (.cells #[.int .i64 3, .int .i64 0, .int .u64 0, .string ⟨#[]⟩] 28) = w2 at *
      clear hba1 hr1 hu1 bz1 hz1 w1
      go_loopw [23] (fun q wr => ∃ (f kk b j : Nat), q = .int .i64 (kk : Int) ∧ kk + f = 8 ∧ Hid (b < 256 ^ kk) ∧ BV wr b3 3 0 b ⟨#[]⟩ ∧ BV wr w.heap.size 0 0 0 ⟨#[]⟩ ∧ Rdr wr g s j er ∧ j ≤ s.size ∧ Upd g w wr ∧ Hid (Cd.bitsF s.data.toList f b j = Cd.bitsF s.data.toList 8 0 (i + 1))) (fun q _ => 8 - (intOf q).toNat)
      case atStart => exact ⟨8, 0, 0, i + 1, rfl, rfl, by show _ < _; decide, bt1, bz2, hr2, by omega, hu2, rfl⟩
      case round =>
        obtain ⟨f, kk, b, j, rfl, hkf, hb, bt3, bz3, hr3, hj, hu3, hE⟩ := hrel
        clear hr2 hu2 bz2 bt1
        obtain ⟨w4, rfl⟩ : ∃ w4 : World, w4 = wr := ⟨_, rfl⟩
        have hk0 : (0 : Int) ≤ (kk : Int) := by omega
        cases f with
        | zero =>
          obtain rfl : kk = 8 := by omega
          have HEb := hid (show Cd.bitsF s.data.toList 8 0 (i + 1) = .ok (b, j) from hE.out.symm)
          have hb64 : b < 18446744073709551616 := Nat.lt_of_lt_of_le hb.out (by decide)
          have HE : Hid (Cd.rawR s i = .ok (⟨3, 0, b, ⟨#[]⟩⟩, j)) := by show _ = _; rw [hraw.out, HEb.out]
          clear hE hraw HEb
          obtain ⟨t0, t1, t2, t3, tf0, tf1, tf2, tf3, tl⟩ := bt3.cells
          go_wp2_with fail
          have hrW := hr3
          have btW := bt3
          have bzW := bz3
          have huW := hu3
          clear t0 t1 t2 t3 tf0 tf1 tf2 tf3 tl hr3 bt3 bz3 hu3
          have hRt := fun W => right_any 3 0 b ⟨#[]⟩ (by show ByteArray.size _ ≤ _; decide) W
          have HV : Hid (Cd.valueR s i = if Va.right 3 0 b ⟨#[]⟩ then .ok (⟨3, 0, b, ⟨#[]⟩⟩, j) else .error 7) := by show _ = _; unfold Cd.valueR; rw [HE.out]; rfl
          unfold vv at hRt
          cases hrt : Va.right 3 0 b ⟨#[]⟩
          · rw [hrt] at hRt
            have HRT := hid hRt
            have HW : Hid (Cd.valueR s i = .error 7) := by show _ = _; rw [HV.out, hrt]; rfl
            clear hRt hrt
            refine (HRT.out _).mono ?_; rintro e w5 ⟨rfl, hb5⟩
            go_wp2_with fail
            exact ⟨rfl, Told.mk_err HW.out (huW.trans (Upd.of hb5)) rfl (hrW.keep hb5) hj⟩
          · rw [hrt] at hRt
            have HRT := hid hRt
            have HW : Hid (Cd.valueR s i = .ok (⟨3, 0, b, ⟨#[]⟩⟩, j)) := by show _ = _; rw [HV.out, hrt]; rfl
            clear hRt hrt
            refine (HRT.out _).mono ?_; rintro e w5 ⟨rfl, hb5⟩
            have bt5 := btW.keep hb5
            have bz5 := bzW.keep hb5
            have hr5 := hrW.keep hb5
            have hu5 := huW.trans (Upd.of hb5)
            clear hb5 huW hrW bzW btW
            obtain ⟨t0, t1, t2, t3, _, _, _, _, tl⟩ := bt5.cells
            obtain ⟨z0, z1, z2, z3, zf0, zf1, zf2, zf3, _⟩ := bz5.cells
            go_wp2_with fail
            have hrF := (((hr5.setO (o := 0) (.int .i64 3) hg0).setO (o := 1) (.int .i64 0) hg0).setO (o := 2) (.int .u64 (b : Int)) hg0).setO (o := 3) (.string ⟨#[]⟩) hg0
            have huF := (((hu5.setNew (o := 0) (.int .i64 3) (Nat.le_refl _)).setNew (o := 1) (.int .i64 0) (Nat.le_refl _)).setNew (o := 2) (.int .u64 (b : Int)) (Nat.le_refl _)).setNew (o := 3) (.string ⟨#[]⟩) (Nat.le_refl _)
            exact bodyPost_ret (v := .agg #[.int .i64 3, .int .i64 0, .int .u64 (b : Int), .string ⟨#[]⟩]) (by simp [results, Try.results56, go_sem, z0, z1, z2, z3]) rfl (Told.mk_ok HW.out huF rfl hrF hj)
        | succ f =>
          have hk8 : (kk : Int) < 8 := by omega
          have hb7 : b < 72057594037927936 := Nat.lt_of_lt_of_le hb.out (Nat.le_trans (Nat.pow_le_pow_right (by decide) (show kk ≤ 7 by omega)) (by decide))
          have hsh : IntKind.u64.wrap ((b : Int) * 256) = ((256 * b : Nat) : Int) := by rw [IntKind.wrap_u64]; omega
          by_cases hjs : j < s.size
          · obtain ⟨d, hd⟩ : ∃ d : Nat, s[j].toNat = d := ⟨_, rfl⟩
            have hdl : d < 256 := by rw [← hd]; exact s[j].toNat_lt
            have hn2 : Hid (∀ W, Rdr W g s j er → Calls Try.prog 65 #[.pointer (some ⟨g, 0, none⟩)] W fun e w' => e = .returned (.int .u8 (d : Int)) ∧ Upd g W w' ∧ Rdr w' g s (j + 1) er) := fun W h => by have := next_ok g s j er W h hjs (by omega); rwa [hd] at this
            have HE2 : Hid (Cd.bitsF s.data.toList f (256 * b + d) (j + 1) = Cd.bitsF s.data.toList 8 0 (i + 1)) := by show _ = _; rw [← hE.out, bitsF_next s f b j hjs d hd]
            have HB2 : Hid (256 * b + d < 256 ^ (kk + 1)) := by have := hb.out; show _ < _; rw [Nat.pow_succ]; omega
            have hcv : IntKind.u64.wrap (d : Int) = (d : Int) := by rw [IntKind.wrap_u64]; omega
            have hor : bits .or .u64 ((256 * b : Nat) : Int) (d : Int) = ((256 * b + d : Nat) : Int) := or_byte b d (by omega) hdl
            obtain ⟨y, hy⟩ : ∃ y, 256 * b + d = y := ⟨_, rfl⟩
            rw [hy] at hor HE2 HB2
            have HY := hid hy
            clear hy
            generalize hX : (256 * b : Nat) = x at hsh hor
            have HX := hid hX
            clear hd hE hX
            obtain ⟨t0, t1, t2, t3, tf0, tf1, tf2, tf3, tl⟩ := bt3.cells
            go_wp2_with fail
            refine wp_region_held_drew (S := (fun _ => True)) (by kernel_rfl) trivial (fun hH => ?_)
            clear t0 t1 t2 t3 tf0 tf1 tf2 tf3 tl
            replace bt3 : BV w4.drew b3 3 0 b ⟨#[]⟩ := bt3
            replace bz3 : BV w4.drew w.heap.size 0 0 0 ⟨#[]⟩ := bz3
            replace hr3 : Rdr w4.drew g s j er := hr3
            replace hu3 := hu3.trans (Upd.of (Below.refl w4.heap.size w4).drew)
            generalize w4.drew = w4 at *
            obtain ⟨t0, t1, t2, t3, tf0, tf1, tf2, tf3, tl⟩ := bt3.cells
            refine wpAnyH_take (i := 0) (oi := ({ dst := some 25, op := Op.fieldAddr 28 (Operand.tmp 3) 2, type := 0, pos := "code.go:153", after := #[], guard := none } : Oper)) (v := ?_) rfl (by kernel_rfl) (by kernel_rfl) (by kernel_rfl) (fun _ _ _ h => h) (Or.inl ⟨by rfl, ?_⟩) hH ?_
            rotate_left
            · intro w hSw; (try dsimp only at hSw); go_simp; (try with_reducible rfl)
            simp only [Act.put, List.setIfInBounds_toArray, List.set_cons_zero, List.set_cons_succ]
            refine wpAnyH_take (i := 3) (oi := ({ dst := some 28, op := Op.move (Operand.tmp 0), type := 36, pos := "code.go:153", after := #[], guard := none } : Oper)) (v := ?_) rfl (by kernel_rfl) (by kernel_rfl) (by kernel_rfl) (fun _ _ _ h => h) (Or.inl ⟨by rfl, ?_⟩) hH ?_
            rotate_left
            · intro w hSw; (try dsimp only at hSw); go_simp; (try with_reducible rfl)
            simp only [Act.put, List.setIfInBounds_toArray, List.set_cons_zero, List.set_cons_succ]
            refine wpAnyH_ready (rs := [1, 4]) (by kernel_rfl) (by simp) ?_
            refine AllReadyH.cons (o := ({ dst := some 26, op := Op.load 22 (Operand.tmp 25), type := 22, pos := "code.go:153", after := #[{ on := 0, ground := Ground.data }], guard := none } : Oper)) rfl (fun K hK => ?_) (AllReadyH.cons (o := ({ dst := some 29, op := Op.call { callee := Callee.value (Operand.func 65), args := #[Operand.tmp 28], argTypes := #[36] }, type := 5, pos := "code.go:153", after := #[{ on := 3, ground := Ground.data }], guard := none } : Oper)) rfl (fun K hK => ?_) AllReadyH.nil)
            · go_simp
              refine hK.out _ _ trivial (fun hH => ?_)
              clear hK K
              (try simp only [Act.put, List.setIfInBounds_toArray, List.set_cons_zero, List.set_cons_succ])
              refine wpAnyH_take (i := 2) (oi := ({ dst := some 27, op := Op.binOp BinOp.shl 22 (Operand.tmp 26) (Operand.const (Value.int IntKind.u64 8)) 57, type := 22, pos := "code.go:153", after := #[{ on := 1, ground := Ground.data }], guard := none } : Oper)) (v := ?_) rfl (by kernel_rfl) (by kernel_rfl) (by kernel_rfl) (fun _ _ _ h => h) (Or.inl ⟨by rfl, ?_⟩) hH ?_
              rotate_left
              · intro w hSw; (try dsimp only at hSw); go_simp; (try with_reducible rfl)
              simp only [Act.put, List.setIfInBounds_toArray, List.set_cons_zero, List.set_cons_succ]
              refine wpAnyH_ready (rs := [4]) (by kernel_rfl) (by simp) ?_
              refine AllReadyH.cons (o := ({ dst := some 29, op := Op.call { callee := Callee.value (Operand.func 65), args := #[Operand.tmp 28], argTypes := #[36] }, type := 5, pos := "code.go:153", after := #[{ on := 3, ground := Ground.data }], guard := none } : Oper)) rfl (fun K hK => ?_) AllReadyH.nil
              go_simp
              refine (hn2.out _ hr3).mono ?_; rintro e w5 ⟨rfl, hu5, hr5⟩
              replace bt3 := bt3.upd hu5 hg1
              replace bz3 := bz3.upd hu5 hg0
              replace hu3 := hu3.trans hu5
              clear t0 t1 t2 t3 tf0 tf1 tf2 tf3 tl
              obtain ⟨t0, t1, t2, t3, tf0, tf1, tf2, tf3, tl⟩ := bt3.cells
              go_wp2_with fail
              refine hK.out _ _ trivial (fun hH => ?_)
              clear hK K hu5
              (try simp only [Act.put, List.setIfInBounds_toArray, List.set_cons_zero, List.set_cons_succ])
              refine wpAnyH_take (i := 5) (oi := ({ dst := some 30, op := Op.convert 5 22 (Operand.tmp 29), type := 22, pos := "code.go:153", after := #[{ on := 4, ground := Ground.data }], guard := none } : Oper)) (v := ?_) rfl (by kernel_rfl) (by kernel_rfl) (by kernel_rfl) (fun _ _ _ h => h) (Or.inl ⟨by rfl, ?_⟩) hH ?_
              rotate_left
              · intro w hSw; (try dsimp only at hSw); go_simp; (try with_reducible rfl)
              simp only [Act.put, List.setIfInBounds_toArray, List.set_cons_zero, List.set_cons_succ]
              refine wpAnyH_take (i := 6) (oi := ({ dst := some 31, op := Op.binOp BinOp.or 22 (Operand.tmp 27) (Operand.tmp 30) 22, type := 22, pos := "code.go:153", after := #[{ on := 2, ground := Ground.data }, { on := 5, ground := Ground.data }], guard := none } : Oper)) (v := ?_) rfl (by kernel_rfl) (by kernel_rfl) (by kernel_rfl) (fun _ _ _ h => h) (Or.inl ⟨by rfl, ?_⟩) hH ?_
              rotate_left
              · intro w hSw; (try dsimp only at hSw); go_simp; (try with_reducible rfl)
              simp only [Act.put, List.setIfInBounds_toArray, List.set_cons_zero, List.set_cons_succ]
              refine wpAnyH_take (i := 7) (oi := ({ dst := some 32, op := Op.fieldAddr 28 (Operand.tmp 3) 2, type := 0, pos := "code.go:153", after := #[{ on := 0, ground := Ground.phase }, { on := 1, ground := Ground.phase }, { on := 2, ground := Ground.phase }, { on := 3, ground := Ground.phase }, { on := 4, ground := Ground.phase }, { on := 5, ground := Ground.phase }, { on := 6, ground := Ground.phase }], guard := none } : Oper)) (v := ?_) rfl (by kernel_rfl) (by kernel_rfl) (by kernel_rfl) (fun _ _ _ h => h) (Or.inl ⟨by rfl, ?_⟩) hH ?_
              rotate_left
              · intro w hSw; (try dsimp only at hSw); go_simp; (try with_reducible rfl)
              simp only [Act.put, List.setIfInBounds_toArray, List.set_cons_zero, List.set_cons_succ]
              refine wpAnyH_ready (rs := [8]) (by kernel_rfl) (by simp) ?_
              refine AllReadyH.cons (o := ({ dst := none, op := Op.store 22 (Operand.tmp 32) (Operand.tmp 31), type := 0, pos := "code.go:153", after := #[{ on := 7, ground := Ground.data }, { on := 6, ground := Ground.data }, { on := 4, ground := Ground.chain }, { on := 0, ground := Ground.phase }, { on := 1, ground := Ground.phase }, { on := 2, ground := Ground.phase }, { on := 3, ground := Ground.phase }, { on := 4, ground := Ground.phase }, { on := 5, ground := Ground.phase }, { on := 6, ground := Ground.phase }], guard := none } : Oper)) rfl (fun K hK => ?_) AllReadyH.nil
              go_simp
              refine hK.out _ _ trivial (fun hH => ?_)
              clear hK K
              (try simp only [Act.put, List.setIfInBounds_toArray, List.set_cons_zero, List.set_cons_succ])
              refine wpAnyH_done (by kernel_rfl) ?_ _
              have bt4 := bt3.setB y
              have hr6 := hr5.setO (o := 2) (.int .u64 (y : Int)) hg1
              have bz4 := bz3.setO (o := 2) (.int .u64 (y : Int)) hg2
              have hu6 := hu3.setNew (o := 2) (.int .u64 (y : Int)) hg3
              go_wp2_with fail
              go_roundw
              case rel => exact ⟨f, kk + 1, y, j + 1, by go_num, by omega, HB2, bt4, bz4, hr6, by omega, hu6, HE2⟩
              case measure => simp [intOf]; omega
            · go_simp
              refine (hn2.out _ hr3).mono ?_; rintro e w5 ⟨rfl, hu5, hr5⟩
              replace bt3 := bt3.upd hu5 hg1
              replace bz3 := bz3.upd hu5 hg0
              replace hu3 := hu3.trans hu5
              clear t0 t1 t2 t3 tf0 tf1 tf2 tf3 tl
              obtain ⟨t0, t1, t2, t3, tf0, tf1, tf2, tf3, tl⟩ := bt3.cells
              go_wp2_with fail
              refine hK.out _ _ trivial (fun hH => ?_)
              clear hK K hu5
              (try simp only [Act.put, List.setIfInBounds_toArray, List.set_cons_zero, List.set_cons_succ])
              refine wpAnyH_take (i := 5) (oi := ({ dst := some 30, op := Op.convert 5 22 (Operand.tmp 29), type := 22, pos := "code.go:153", after := #[{ on := 4, ground := Ground.data }], guard := none } : Oper)) (v := ?_) rfl (by kernel_rfl) (by kernel_rfl) (by kernel_rfl) (fun _ _ _ h => h) (Or.inl ⟨by rfl, ?_⟩) hH ?_
              rotate_left
              · intro w hSw; (try dsimp only at hSw); go_simp; (try with_reducible rfl)
              simp only [Act.put, List.setIfInBounds_toArray, List.set_cons_zero, List.set_cons_succ]
              refine wpAnyH_ready (rs := [1]) (by kernel_rfl) (by simp) ?_
              refine AllReadyH.cons (o := ({ dst := some 26, op := Op.load 22 (Operand.tmp 25), type := 22, pos := "code.go:153", after := #[{ on := 0, ground := Ground.data }], guard := none } : Oper)) rfl (fun K hK => ?_) AllReadyH.nil
              go_simp
              refine hK.out _ _ trivial (fun hH => ?_)
              clear hK K
              (try simp only [Act.put, List.setIfInBounds_toArray, List.set_cons_zero, List.set_cons_succ])
              refine wpAnyH_take (i := 2) (oi := ({ dst := some 27, op := Op.binOp BinOp.shl 22 (Operand.tmp 26) (Operand.const (Value.int IntKind.u64 8)) 57, type := 22, pos := "code.go:153", after := #[{ on := 1, ground := Ground.data }], guard := none } : Oper)) (v := ?_) rfl (by kernel_rfl) (by kernel_rfl) (by kernel_rfl) (fun _ _ _ h => h) (Or.inl ⟨by rfl, ?_⟩) hH ?_
              rotate_left
              · intro w hSw; (try dsimp only at hSw); go_simp; (try with_reducible rfl)
              simp only [Act.put, List.setIfInBounds_toArray, List.set_cons_zero, List.set_cons_succ]
              refine wpAnyH_take (i := 6) (oi := ({ dst := some 31, op := Op.binOp BinOp.or 22 (Operand.tmp 27) (Operand.tmp 30) 22, type := 22, pos := "code.go:153", after := #[{ on := 2, ground := Ground.data }, { on := 5, ground := Ground.data }], guard := none } : Oper)) (v := ?_) rfl (by kernel_rfl) (by kernel_rfl) (by kernel_rfl) (fun _ _ _ h => h) (Or.inl ⟨by rfl, ?_⟩) hH ?_
              rotate_left
              · intro w hSw; (try dsimp only at hSw); go_simp; (try with_reducible rfl)
              simp only [Act.put, List.setIfInBounds_toArray, List.set_cons_zero, List.set_cons_succ]
              refine wpAnyH_take (i := 7) (oi := ({ dst := some 32, op := Op.fieldAddr 28 (Operand.tmp 3) 2, type := 0, pos := "code.go:153", after := #[{ on := 0, ground := Ground.phase }, { on := 1, ground := Ground.phase }, { on := 2, ground := Ground.phase }, { on := 3, ground := Ground.phase }, { on := 4, ground := Ground.phase }, { on := 5, ground := Ground.phase }, { on := 6, ground := Ground.phase }], guard := none } : Oper)) (v := ?_) rfl (by kernel_rfl) (by kernel_rfl) (by kernel_rfl) (fun _ _ _ h => h) (Or.inl ⟨by rfl, ?_⟩) hH ?_
              rotate_left
              · intro w hSw; (try dsimp only at hSw); go_simp; (try with_reducible rfl)
              simp only [Act.put, List.setIfInBounds_toArray, List.set_cons_zero, List.set_cons_succ]
              refine wpAnyH_ready (rs := [8]) (by kernel_rfl) (by simp) ?_
              refine AllReadyH.cons (o := ({ dst := none, op := Op.store 22 (Operand.tmp 32) (Operand.tmp 31), type := 0, pos := "code.go:153", after := #[{ on := 7, ground := Ground.data }, { on := 6, ground := Ground.data }, { on := 4, ground := Ground.chain }, { on := 0, ground := Ground.phase }, { on := 1, ground := Ground.phase }, { on := 2, ground := Ground.phase }, { on := 3, ground := Ground.phase }, { on := 4, ground := Ground.phase }, { on := 5, ground := Ground.phase }, { on := 6, ground := Ground.phase }], guard := none } : Oper)) rfl (fun K hK => ?_) AllReadyH.nil
              go_simp
              refine hK.out _ _ trivial (fun hH => ?_)
              clear hK K
              (try simp only [Act.put, List.setIfInBounds_toArray, List.set_cons_zero, List.set_cons_succ])
              refine wpAnyH_done (by kernel_rfl) ?_ _
              have bt4 := bt3.setB y
              have hr6 := hr5.setO (o := 2) (.int .u64 (y : Int)) hg1
              have bz4 := bz3.setO (o := 2) (.int .u64 (y : Int)) hg2
              have hu6 := hu3.setNew (o := 2) (.int .u64 (y : Int)) hg3
              go_wp2_with fail
              go_roundw
              case rel => exact ⟨f, kk + 1, y, j + 1, by go_num, by omega, HB2, bt4, bz4, hr6, by omega, hu6, HE2⟩
              case measure => simp [intOf]; omega
          · have HE : Hid (Cd.valueR s i = .error 8) := by show _ = _; unfold Cd.valueR; rw [hraw.out, ← hE.out, bitsF_no s f b j (by omega)]
            have hn2 : Hid (∀ W, Rdr W g s j er → Calls Try.prog 65 #[.pointer (some ⟨g, 0, none⟩)] W fun e w' => e = .panicked [{ v := fault 8, recovered := false }] ∧ Upd g W w' ∧ Rdr w' g s j er) := fun W h => next_no g s j er W h (by omega)
            clear hE hraw
            obtain ⟨t0, t1, t2, t3, tf0, tf1, tf2, tf3, tl⟩ := bt3.cells
            go_wp2_with fail
            refine wp_region_held_drew (S := (fun _ => True)) (by kernel_rfl) trivial (fun hH => ?_)
            clear t0 t1 t2 t3 tf0 tf1 tf2 tf3 tl
            replace bt3 : BV w4.drew b3 3 0 b ⟨#[]⟩ := bt3
            replace bz3 : BV w4.drew w.heap.size 0 0 0 ⟨#[]⟩ := bz3
            replace hr3 : Rdr w4.drew g s j er := hr3
            replace hu3 := hu3.trans (Upd.of (Below.refl w4.heap.size w4).drew)
            generalize w4.drew = w4 at *
            obtain ⟨t0, t1, t2, t3, tf0, tf1, tf2, tf3, tl⟩ := bt3.cells
            refine wpAnyH_take (i := 0) (oi := ({ dst := some 25, op := Op.fieldAddr 28 (Operand.tmp 3) 2, type := 0, pos := "code.go:153", after := #[], guard := none } : Oper)) (v := ?_) rfl (by kernel_rfl) (by kernel_rfl) (by kernel_rfl) (fun _ _ _ h => h) (Or.inl ⟨by rfl, ?_⟩) hH ?_
            rotate_left
            · intro w hSw; (try dsimp only at hSw); go_simp; (try with_reducible rfl)
            simp only [Act.put, List.setIfInBounds_toArray, List.set_cons_zero, List.set_cons_succ]
            refine wpAnyH_take (i := 3) (oi := ({ dst := some 28, op := Op.move (Operand.tmp 0), type := 36, pos := "code.go:153", after := #[], guard := none } : Oper)) (v := ?_) rfl (by kernel_rfl) (by kernel_rfl) (by kernel_rfl) (fun _ _ _ h => h) (Or.inl ⟨by rfl, ?_⟩) hH ?_
            rotate_left
            · intro w hSw; (try dsimp only at hSw); go_simp; (try with_reducible rfl)
            simp only [Act.put, List.setIfInBounds_toArray, List.set_cons_zero, List.set_cons_succ]
            refine wpAnyH_ready (rs := [1, 4]) (by kernel_rfl) (by simp) ?_
            refine AllReadyH.cons (o := ({ dst := some 26, op := Op.load 22 (Operand.tmp 25), type := 22, pos := "code.go:153", after := #[{ on := 0, ground := Ground.data }], guard := none } : Oper)) rfl (fun K hK => ?_) (AllReadyH.cons (o := ({ dst := some 29, op := Op.call { callee := Callee.value (Operand.func 65), args := #[Operand.tmp 28], argTypes := #[36] }, type := 5, pos := "code.go:153", after := #[{ on := 3, ground := Ground.data }], guard := none } : Oper)) rfl (fun K hK => ?_) AllReadyH.nil)
            · go_simp
              refine hK.out _ _ trivial (fun hH => ?_)
              clear hK K
              (try simp only [Act.put, List.setIfInBounds_toArray, List.set_cons_zero, List.set_cons_succ])
              refine wpAnyH_take (i := 2) (oi := ({ dst := some 27, op := Op.binOp BinOp.shl 22 (Operand.tmp 26) (Operand.const (Value.int IntKind.u64 8)) 57, type := 22, pos := "code.go:153", after := #[{ on := 1, ground := Ground.data }], guard := none } : Oper)) (v := ?_) rfl (by kernel_rfl) (by kernel_rfl) (by kernel_rfl) (fun _ _ _ h => h) (Or.inl ⟨by rfl, ?_⟩) hH ?_
              rotate_left
              · intro w hSw; (try dsimp only at hSw); go_simp; (try with_reducible rfl)
              simp only [Act.put, List.setIfInBounds_toArray, List.set_cons_zero, List.set_cons_succ]
              refine wpAnyH_ready (rs := [4]) (by kernel_rfl) (by simp) ?_
              refine AllReadyH.cons (o := ({ dst := some 29, op := Op.call { callee := Callee.value (Operand.func 65), args := #[Operand.tmp 28], argTypes := #[36] }, type := 5, pos := "code.go:153", after := #[{ on := 3, ground := Ground.data }], guard := none } : Oper)) rfl (fun K hK => ?_) AllReadyH.nil
              go_simp
              refine (hn2.out _ hr3).mono ?_; rintro e w5 ⟨rfl, hu5, hr5⟩
              go_wp2_with fail
              exact ⟨rfl, Told.mk_err HE.out (hu3.trans hu5) rfl hr5 (by omega)⟩
            · go_simp
              refine (hn2.out _ hr3).mono ?_; rintro e w5 ⟨rfl, hu5, hr5⟩
              go_wp2_with fail
              exact ⟨rfl, Told.mk_err HE.out (hu3.trans hu5) rfl hr5 (by omega)⟩
    have HE : Hid (Cd.rawR s i = .ok (⟨c, 0, 0, ⟨#[]⟩⟩, i + 1)) := by show _ = _; unfold Cd.rawR; rw [hnx.out]; dsimp only; rw [if_neg hk, if_neg hk2, if_neg hk3, if_neg (by omega)]
    have e1 : ((c : Int) == 1) = false := by rw [beq_eq_false_iff_ne]; omega
    have e2 : ((c : Int) == 2) = false := by rw [beq_eq_false_iff_ne]; omega
    have e3 : ((c : Int) == 3) = false := by rw [beq_eq_false_iff_ne]; omega
    have e4 : ((c : Int) == 4) = false := by rw [beq_eq_false_iff_ne]; omega
    have e5 : ((c : Int) == 5) = false := by rw [beq_eq_false_iff_ne]; omega
    have hcl : c < 256 := by rw [← hc]; exact s[i].toNat_lt
    have hn1 : Hid (∀ W, Rdr W g s i er → Calls Try.prog 65 #[.pointer (some ⟨g, 0, none⟩)] W fun e w' => e = .returned (.int .u8 (c : Int)) ∧ Upd g W w' ∧ Rdr w' g s (i + 1) er) := fun W h => by have := next_ok g s i er W h hi1 (by omega); rwa [hc] at this
    clear hnx hc
    obtain ⟨j, hj0⟩ : ∃ j, i + 1 = j := ⟨_, rfl⟩
    have hj : j ≤ s.size := by omega
    rw [hj0] at HE hn1
    clear hj0
    go_enter Try.func56, Try.ntmps56
    go_wp2_with fail
    have hb0 := hba w (.cells #[.int .i64 0, .int .i64 0, .int .u64 0, .string ⟨#[]⟩] 28)
    have hr0 := hr.keep hb0
    have bz0 : BV (w.alloc (.cells #[.int .i64 0, .int .i64 0, .int .u64 0, .string ⟨#[]⟩] 28)) w.heap.size 0 0 0 ⟨#[]⟩ := BV.new w 0 0 0 ⟨#[]⟩
    have hg0 : w.heap.size ≠ g := by have := hr.cells.2.2.2.2.2; omega
    have hu0 : Upd g w _ := Upd.of hb0
    refine (hn1.out _ hr0).mono ?_; rintro e w1 ⟨rfl, hu1, hr1⟩
    have bz1 := bz0.upd hu1 hg0
    replace hu1 := hu0.trans hu1
    clear hb0 hr0 bz0 hu0
    go_wp2_with fail
    have bt1 : BV (w1.alloc (.cells #[.int .i64 (c : Int), .int .i64 0, .int .u64 0, .string ⟨#[]⟩] 28)) w1.heap.size (c : Int) 0 0 ⟨#[]⟩ := BV.new w1 (c : Int) 0 0 ⟨#[]⟩
    have hba1 := hba w1 (.cells #[.int .i64 (c : Int), .int .i64 0, .int .u64 0, .string ⟨#[]⟩] 28)
    have bz2 := bz1.keep hba1
    have hr2 := hr1.keep hba1
    have hu2 := hu1.trans (Upd.of hba1)
    have hg1 : w1.heap.size ≠ g := by have := hr1.cells.2.2.2.2.2; omega
    have hg2 : w1.heap.size ≠ w.heap.size := by have := bz1.cells.2.2.2.2.2.2.2.2; omega
    have hg3 : w.heap.size ≤ w1.heap.size := hu1.size
    generalize hz1 : w1.heap.size = b3 at *
    generalize w1.alloc (.cells #[.int .i64 (c : Int), .int .i64 0, .int .u64 0, .string ⟨#[]⟩] 28) = w2 at *
    clear hba1 hr1 hu1 bz1 hz1 w1
    have hrW := hr2
    have btW := bt1
    have bzW := bz2
    have huW := hu2
    clear hr2 bt1 bz2 hu2
    have hRt := fun W => right_any (c : Int) 0 0 ⟨#[]⟩ (by show ByteArray.size _ ≤ _; decide) W
    have HV : Hid (Cd.valueR s i = if Va.right (c : Int) 0 0 ⟨#[]⟩ then .ok (⟨(c : Int), 0, 0, ⟨#[]⟩⟩, j) else .error 7) := by show _ = _; unfold Cd.valueR; rw [HE.out]; rfl
    unfold vv at hRt
    cases hrt : Va.right (c : Int) 0 0 ⟨#[]⟩
    · rw [hrt] at hRt
      have HRT := hid hRt
      have HW : Hid (Cd.valueR s i = .error 7) := by show _ = _; rw [HV.out, hrt]; rfl
      clear hRt hrt
      refine (HRT.out _).mono ?_; rintro e w5 ⟨rfl, hb5⟩
      go_wp2_with fail
      exact ⟨rfl, Told.mk_err HW.out (huW.trans (Upd.of hb5)) rfl (hrW.keep hb5) hj⟩
    · rw [hrt] at hRt
      have HRT := hid hRt
      have HW : Hid (Cd.valueR s i = .ok (⟨(c : Int), 0, 0, ⟨#[]⟩⟩, j)) := by show _ = _; rw [HV.out, hrt]; rfl
      clear hRt hrt
      refine (HRT.out _).mono ?_; rintro e w5 ⟨rfl, hb5⟩
      have bt5 := btW.keep hb5
      have bz5 := bzW.keep hb5
      have hr5 := hrW.keep hb5
      have hu5 := huW.trans (Upd.of hb5)
      clear hb5 huW hrW bzW btW
      obtain ⟨t0, t1, t2, t3, _, _, _, _, tl⟩ := bt5.cells
      obtain ⟨z0, z1, z2, z3, zf0, zf1, zf2, zf3, _⟩ := bz5.cells
      go_wp2_with fail
      have hrF := (((hr5.setO (o := 0) (.int .i64 (c : Int)) hg0).setO (o := 1) (.int .i64 0) hg0).setO (o := 2) (.int .u64 0) hg0).setO (o := 3) (.string ⟨#[]⟩) hg0
      have huF := (((hu5.setNew (o := 0) (.int .i64 (c : Int)) (Nat.le_refl _)).setNew (o := 1) (.int .i64 0) (Nat.le_refl _)).setNew (o := 2) (.int .u64 0) (Nat.le_refl _)).setNew (o := 3) (.string ⟨#[]⟩) (Nat.le_refl _)
      exact bodyPost_ret (v := .agg #[.int .i64 (c : Int), .int .i64 0, .int .u64 0, .string ⟨#[]⟩]) (by simp [results, Try.results56, go_sem, z0, z1, z2, z3]) rfl (Told.mk_ok HW.out huF rfl hrF hj)
  · have HE : Hid (Cd.valueR s i = .error 8) := by show _ = _; unfold Cd.valueR Cd.rawR; rw [nextR_no s i (by omega)]
    have hn1 : Hid (∀ W, Rdr W g s i er → Calls Try.prog 65 #[.pointer (some ⟨g, 0, none⟩)] W fun e w' => e = .panicked [{ v := fault 8, recovered := false }] ∧ Upd g W w' ∧ Rdr w' g s i er) := fun W h => next_no g s i er W h (by omega)
    go_enter Try.func56, Try.ntmps56
    go_wp2_with fail
    have hb0 := hba w (.cells #[.int .i64 0, .int .i64 0, .int .u64 0, .string ⟨#[]⟩] 28)
    have hr0 := hr.keep hb0
    have bz0 : BV (w.alloc (.cells #[.int .i64 0, .int .i64 0, .int .u64 0, .string ⟨#[]⟩] 28)) w.heap.size 0 0 0 ⟨#[]⟩ := BV.new w 0 0 0 ⟨#[]⟩
    have hg0 : w.heap.size ≠ g := by have := hr.cells.2.2.2.2.2; omega
    have hu0 : Upd g w _ := Upd.of hb0
    refine (hn1.out _ hr0).mono ?_; rintro e w1 ⟨rfl, hu1, hr1⟩
    go_wp2_with fail
    exact ⟨rfl, Told.mk_err HE.out (hu0.trans hu1) rfl hr1 hi⟩
end Go.Proofs.Ytanmomlkdfnakaa
