/-
  The layers below: the reference's readers.
-/
import Derived.Test.YtmcneelapghfcaaCb

namespace Go.Proofs.Ytmcneelapghfcaa
open Go.RowKit

/-- the reference's reader: its text, its place, what is wrong -/
def Rfx (w : World) (g : Nat) (s : ByteArray) (i : Nat) (er : Int) : Prop := w.heap[g]? = some (.cells #[.string s, .int .i64 (i : Int), .int .i64 er] 97 (0, 0))
theorem Rfx.cells {w : World} {g : Nat} {s : ByteArray} {i : Nat} {er : Int} (h : Rfx w g s i er) : w.cell? ⟨g, 0, none⟩ = some (.string s) ∧ w.cell? ⟨g, 1, none⟩ = some (.int .i64 (i : Int)) ∧ w.cell? ⟨g, 2, none⟩ = some (.int .i64 er) ∧
    w.frozen? ⟨g, 1, none⟩ = false ∧ w.frozen? ⟨g, 2, none⟩ = false ∧ g < w.heap.size :=
  ⟨cell_of_row w g 0 _ _ _ h, cell_of_row w g 1 _ _ _ h, cell_of_row w g 2 _ _ _ h, frozen_of_row w g 1 _ _ h, frozen_of_row w g 2 _ _ h, (Array.getElem?_eq_some_iff.1 h).1⟩
theorem Rfx.keep {w w' : World} {g : Nat} {s : ByteArray} {i : Nat} {er : Int} (h : Rfx w g s i er) (hb : Below w.heap.size w w') : Rfx w' g s i er := keepBlock h hb
theorem Rfx.upd {w w' : World} {g g2 : Nat} {s : ByteArray} {i : Nat} {er : Int} (h : Rfx w g2 s i er) (hu : Upd g w w') (hne : g2 ≠ g) : Rfx w' g2 s i er := Var.upd (w := w) (b := g2) (cs := #[.string s, .int .i64 (i : Int), .int .i64 er]) h hu hne
theorem Rfx.setE {w : World} {g : Nat} {s : ByteArray} {i : Nat} {er : Int} (h : Rfx w g s i er) (e : Int) : Rfx (w.setCell ⟨g, 2, none⟩ (.int .i64 e)) g s i e := heap_setCell_same w g 2 _ _ (.int .i64 e) h
theorem Rfx.setI {w : World} {g : Nat} {s : ByteArray} {i : Nat} {er : Int} (h : Rfx w g s i er) (j : Nat) : Rfx (w.setCell ⟨g, 1, none⟩ (.int .i64 (j : Int))) g s j er := heap_setCell_same w g 1 _ _ (.int .i64 (j : Int)) h

theorem Rfx.setAt {w : World} {g : Nat} {s : ByteArray} {i : Nat} {er : Int} (h : Rfx w g s i er) (j : Int) : (w.setCell ⟨g, 1, none⟩ (.int .i64 j)).heap[g]? = some (.cells #[.string s, .int .i64 j, .int .i64 er] 97 (0, 0)) :=
  heap_setCell_same w g 1 _ _ (.int .i64 j) h

theorem newX_any (s : ByteArray) (w : World) : Calls Try.prog 51 #[.string s] w fun e w' => e = .returned (.pointer (some ⟨w.heap.size, 0, none⟩)) ∧ w' = w.alloc (.cells #[.string s, .int .i64 0, .int .i64 0] 97) := by
  go_enter Try.func51, Try.ntmps51
  go_wp2
  go_ret
  exact ⟨rfl, rfl⟩
theorem newX_rfx (s : ByteArray) (w : World) : Rfx (w.alloc (.cells #[.string s, .int .i64 0, .int .i64 0] 97)) w.heap.size s 0 0 := heap_alloc_new w _
theorem failX_was (g : Nat) (s : ByteArray) (i : Nat) (er e0 : Int) (w : World) (hr : Rfx w g s i er) (he : er ≠ 0) :
    Calls Try.prog 91 #[.pointer (some ⟨g, 0, none⟩), .int .i64 e0] w fun e w' => (∃ v, e = .returned v) ∧ w = w' := by
  obtain ⟨c0, c1, c2, f1, f2, hg⟩ := hr.cells
  have hq : (er == 0) = false := by rw [beq_eq_false_iff_ne]; exact he
  go_enter Try.func91, Try.ntmps91
  go_wp2
  exact ⟨rfl, .tuple #[], by simp [results, Try.results91, go_sem], ⟨_, rfl⟩, rfl⟩
theorem failX_new (g : Nat) (s : ByteArray) (i : Nat) (e0 : Int) (w : World) (hr : Rfx w g s i 0) :
    Calls Try.prog 91 #[.pointer (some ⟨g, 0, none⟩), .int .i64 e0] w fun e w' => (∃ v, e = .returned v) ∧ Upd g w w' ∧ Rfx w' g s i e0 := by
  obtain ⟨c0, c1, c2, f1, f2, hg⟩ := hr.cells
  go_enter Try.func91, Try.ntmps91
  go_wp2
  exact ⟨rfl, .tuple #[], by simp [results, Try.results91, go_sem], ⟨_, rfl⟩, Upd.set g 2 _ _, hr.setE e0⟩
set_option maxRecDepth 100000 in
theorem nextX_was (g : Nat) (s : ByteArray) (i : Nat) (er : Int) (w : World) (hr : Rfx w g s i er) (he : er ≠ 0) :
    Calls Try.prog 110 #[.pointer (some ⟨g, 0, none⟩)] w fun e w' => e = .returned (.int .i64 0) ∧ w = w' := by
  obtain ⟨c0, c1, c2, f1, f2, hg⟩ := hr.cells
  have hq : (er != 0) = true := by rw [bne_iff_ne]; exact he
  go_enter Try.func110, Try.ntmps110
  go_wp2
  go_ret
  exact ⟨rfl, rfl⟩
set_option maxRecDepth 100000 in
theorem nextX_no (g : Nat) (s : ByteArray) (i : Nat) (w : World) (hr : Rfx w g s i 0) (hi : s.size ≤ i) :
    Calls Try.prog 110 #[.pointer (some ⟨g, 0, none⟩)] w fun e w' => e = .returned (.int .i64 0) ∧ Upd g w w' ∧ Rfx w' g s i 8 := by
  obtain ⟨c0, c1, c2, f1, f2, hg⟩ := hr.cells
  have hd : decide ((s.size : Int) ≤ (i : Int)) = true := by simp; omega
  have hf := hid (fun W h => failX_new g s i 8 W h)
  go_enter Try.func110, Try.ntmps110
  go_wp2_with fail
  go_quiet (fail)
  go_wp2_with fail
  refine (hf.out (w.drewN nq) hr).mono ?_; rintro e w1 ⟨⟨v, rfl⟩, hu, hR⟩
  go_wp2_with fail
  go_ret
  exact ⟨rfl, (Upd.of (hdrewN (Below.refl _ _) nq)).trans hu, hR⟩
set_option maxRecDepth 100000 in
theorem nextX_ok (g : Nat) (s : ByteArray) (i : Nat) (w : World) (hr : Rfx w g s i 0) (hi : i < s.size) (hs : i ≤ 1000000000) :
    Calls Try.prog 110 #[.pointer (some ⟨g, 0, none⟩)] w fun e w' => e = .returned (.int .i64 (s[i].toNat : Int)) ∧ Upd g w w' ∧ Rfx w' g s (i + 1) 0 := by
  obtain ⟨c0, c1, c2, f1, f2, hg⟩ := hr.cells
  have hd : decide ((s.size : Int) ≤ (i : Int)) = false := by simp; omega
  have hi' : (i : Int) < s.size := by omega
  have hi0 : (0 : Int) ≤ (i : Int) := by omega
  have hb := s[i].toNat_lt
  go_enter Try.func110, Try.ntmps110
  go_wp2_with fail
  go_quiet (fail)
  go_wp2_with fail
  have hw2 : IntKind.i64.wrap (i : Int) = (i : Int) := IntWalk.i64_in _ (by omega)
  go_quiet (fail)
  go_wp2_with fail
  go_ret
  exact ⟨rfl, (Upd.of (hdrewN (Below.refl _ _) _)).trans (Upd.set g 1 _ _), Rfx.setAt (w := w.drewN _) hr _⟩
theorem endX_ok (g : Nat) (s : ByteArray) (i a : Nat) (w : World) (hr : Rfx w g s i 0) :
    Calls Try.prog 89 #[.pointer (some ⟨g, 0, none⟩), .int .i64 (a : Int)] w fun e w' => e = .returned (.bool true) ∧ w = w' := by
  obtain ⟨c0, c1, c2, f1, f2, hg⟩ := hr.cells
  go_enter Try.func89, Try.ntmps89
  go_wp2
  go_ret
  exact ⟨rfl, rfl⟩
theorem endX_no (g : Nat) (s : ByteArray) (i a : Nat) (er : Int) (w : World) (hr : Rfx w g s i er) (he : er ≠ 0) :
    Calls Try.prog 89 #[.pointer (some ⟨g, 0, none⟩), .int .i64 (a : Int)] w fun e w' => e = .returned (.bool false) ∧ Upd g w w' ∧ Rfx w' g s a er := by
  obtain ⟨c0, c1, c2, f1, f2, hg⟩ := hr.cells
  have hq : (er != 0) = true := by rw [bne_iff_ne]; exact he
  go_enter Try.func89, Try.ntmps89
  go_wp2
  go_ret
  exact ⟨rfl, Upd.set g 1 _ _, hr.setI a⟩
end Go.Proofs.Ytmcneelapghfcaa

namespace Go.Proofs.Ytmcneelapghfcaa
open Go.RowKit

/-- what a read of the reference's leaves: of what it tells, P is the value -/
def ToldX {α : Type} (Z : α → Prop) (P : α → Value) (g : Nat) (s : ByteArray) (r : Cd.R α) (w : World) (e : Ending) (w' : World) : Prop :=
  ∃ x, e = .returned (P x) ∧ Upd g w w' ∧ match r with
    | .ok (y, j) => x = y ∧ Rfx w' g s j 0 ∧ j ≤ s.size
    | .error er => Z x ∧ ∃ j, Rfx w' g s j er ∧ j ≤ s.size
theorem ToldX.mk_ok {α : Type} {Z : α → Prop} {P : α → Value} {g : Nat} {s : ByteArray} {r : Cd.R α} {w w' : World} {e : Ending} {x : α} {j : Nat} (hr : r = .ok (x, j)) (hu : Upd g w w') (he : e = .returned (P x)) (hR : Rfx w' g s j 0) (hj : j ≤ s.size) : ToldX Z P g s r w e w' := by
  subst hr; exact ⟨x, he, hu, rfl, hR, hj⟩
theorem ToldX.mk_err {α : Type} {Z : α → Prop} {P : α → Value} {g : Nat} {s : ByteArray} {r : Cd.R α} {w w' : World} {e : Ending} {x : Int} {j : Nat} (y : α) (hy : Z y) (hr : r = .error x) (hu : Upd g w w') (he : e = .returned (P y)) (hR : Rfx w' g s j x) (hj : j ≤ s.size) : ToldX Z P g s r w e w' := by
  subst hr; exact ⟨y, he, hu, hy, j, hR, hj⟩

set_option maxRecDepth 100000 in
set_option maxHeartbeats 6400000 in
theorem uintX_rd (g : Nat) (s : ByteArray) (i : Nat) (w : World) (hr : Rfx w g s i 0) (hi : i ≤ s.size) (hs : s.size ≤ 1000000000) :
    Calls Try.prog 88 #[.pointer (some ⟨g, 0, none⟩)] w (ToldX (fun n : Nat => n = 0) (fun n : Nat => .int .u64 (n : Int)) g s (Cd.uintR s.data.toList i) w) := by
  have hlen : s.data.toList.length = s.size := by simp
  have HL := hid hlen
  clear hlen
  go_enter Try.func88, Try.ntmps88
  go_wp2_with fail
  go_loopw [3, 4, 5] (fun n sc k wr => ∃ (f kk nn j : Nat), k = .int .i64 (kk : Int) ∧ kk + f = 9 ∧ sc = .int .u64 ((128 ^ kk : Nat) : Int) ∧ n = .int .u64 (nn : Int) ∧ Hid (nn < 128 ^ kk) ∧ Rfx wr g s j 0 ∧ j ≤ s.size ∧ Upd g w wr ∧ Hid (Cd.uintF s.data.toList (f + 1) kk nn j = Cd.uintR s.data.toList i)) (fun _ _ k _ => 10 - (intOf k).toNat)
  case atStart => exact ⟨9, 0, 0, i, rfl, rfl, rfl, rfl, by show _ < _; decide, hr, hi, Upd.refl _ _, rfl⟩
  case round =>
    obtain ⟨f, kk, nn, j, rfl, hkf, rfl, rfl, hnn, hrj, hj, hu, hE⟩ := hrel
    clear hr
    obtain ⟨w4, rfl⟩ : ∃ w4 : World, w4 = wr := ⟨_, rfl⟩
    by_cases hjs : j < s.size
    · have HN := hid (uintF_next s.data.toList f kk nn j (by rw [HL.out]; exact hjs))
      have hgc : s.data.toList[j]'(by rw [HL.out]; exact hjs) = s[j] := rfl
      rw [hgc] at HN
      clear hgc
      have hnext := hid (nextX_ok g s j w4 hrj hjs (by omega))
      have hcl := s[j].toNat_lt
      generalize s[j].toNat = c at HN hnext hcl
      rcases (show kk = 0 ∨ kk = 1 ∨ kk = 2 ∨ kk = 3 ∨ kk = 4 ∨ kk = 5 ∨ kk = 6 ∨ kk = 7 ∨ kk = 8 ∨ kk = 9 by omega) with rfl | rfl | rfl | rfl | rfl | rfl | rfl | rfl | rfl | rfl
      · by_cases h0 : c = 0
        · have e0 : ((c : Int) == 0) = true := by rw [beq_iff_eq]; omega
          have e1 : (c : Int) < 128 := by omega
          have HE : Hid (Cd.uintR s.data.toList i = .ok (nn + c * 128 ^ 0, j + 1)) := by show _ = _; rw [← hE.out, HN.out, if_neg (by omega), if_pos (by omega)]
          clear HN hE
          go_wp2_with fail
          refine (hnext.out).mono ?_; rintro e w5 ⟨rfl, hu5, hr5⟩
          have c2 := hr5.cells.2.2.1
          go_wp2_with fail
          go_ret
          exact ToldX.mk_ok HE.out (hu.trans hu5) (ret_eq (by have hnn := hnn.out; rw [show (128 : Nat) ^ 0 = 1 from by decide] at hnn ⊢; first | (rw [IntKind.wrap_u64]; omega) | omega)) hr5 (by omega)
        · skip
          by_cases h1 : c < 128
          · have e0 : ((c : Int) == 0) = false := by rw [beq_eq_false_iff_ne]; omega
            have e1 : (c : Int) < 128 := by omega
            have HE : Hid (Cd.uintR s.data.toList i = .ok (nn + c * 128 ^ 0, j + 1)) := by show _ = _; rw [← hE.out, HN.out, if_neg (by omega), if_pos (by omega)]
            clear HN hE
            go_wp2_with fail
            refine (hnext.out).mono ?_; rintro e w5 ⟨rfl, hu5, hr5⟩
            have c2 := hr5.cells.2.2.1
            go_wp2_with fail
            go_ret
            exact ToldX.mk_ok HE.out (hu.trans hu5) (ret_eq (by have hnn := hnn.out; rw [show (128 : Nat) ^ 0 = 1 from by decide] at hnn ⊢; first | (rw [IntKind.wrap_u64]; omega) | omega)) hr5 (by omega)
          · skip
            have e0 : ((c : Int) == 0) = false := by rw [beq_eq_false_iff_ne]; omega
            have e1 : ¬ (c : Int) < 128 := by omega
            have HE : Hid (Cd.uintF s.data.toList f 1 (nn + c % 128 * 128 ^ 0) (j + 1) = Cd.uintR s.data.toList i) := by show _ = _; rw [← hE.out, HN.out, if_neg (by omega), if_neg (by omega)]
            clear HN hE
            go_wp2_with fail
            refine (hnext.out).mono ?_; rintro e w5 ⟨rfl, hu5, hr5⟩
            have c2 := hr5.cells.2.2.1
            go_wp2_with fail
            go_roundw
            case rel => exact ⟨f - 1, 1, nn + c % 128 * 128 ^ 0, j + 1, rfl, by omega, by rw [show (128 : Nat) ^ 1 = 128 from by decide]; rfl, int_eq (by have hnn := hnn.out; rw [show (128 : Nat) ^ 0 = 1 from by decide] at hnn ⊢; first | (rw [IntKind.wrap_u64]; omega) | omega), by have hnn := hnn.out; show _ < _; rw [show (128 : Nat) ^ 0 = 1 from by decide] at hnn ⊢; rw [show (128 : Nat) ^ 1 = 128 from by decide]; omega, hr5, by omega, hu.trans hu5, by have := HE.out; rwa [show f - 1 + 1 = f from by omega]⟩
            case measure => simp [intOf]
      · by_cases h0 : c = 0
        · have e0 : ((c : Int) == 0) = true := by rw [beq_iff_eq]; omega
          have HE : Hid (Cd.uintR s.data.toList i = .error 7) := by show _ = _; rw [← hE.out, HN.out, if_pos (by omega)]
          have hfail := hid (fun W h => failX_new g s (j + 1) 7 W h)
          clear HN hE
          go_wp2_with fail
          refine (hnext.out).mono ?_; rintro e w5 ⟨rfl, hu5, hr5⟩
          have c2 := hr5.cells.2.2.1
          go_wp2_with fail
          refine (hfail.out _ hr5).mono ?_; rintro e w6 ⟨⟨v, rfl⟩, hu6, hr6⟩
          go_wp2_with fail
          go_ret
          exact ToldX.mk_err 0 rfl HE.out ((hu.trans hu5).trans hu6) rfl hr6 (by omega)
        · skip
          by_cases h1 : c < 128
          · have e0 : ((c : Int) == 0) = false := by rw [beq_eq_false_iff_ne]; omega
            have e1 : (c : Int) < 128 := by omega
            have HE : Hid (Cd.uintR s.data.toList i = .ok (nn + c * 128 ^ 1, j + 1)) := by show _ = _; rw [← hE.out, HN.out, if_neg (by omega), if_pos (by omega)]
            clear HN hE
            go_wp2_with fail
            refine (hnext.out).mono ?_; rintro e w5 ⟨rfl, hu5, hr5⟩
            have c2 := hr5.cells.2.2.1
            go_wp2_with fail
            go_ret
            exact ToldX.mk_ok HE.out (hu.trans hu5) (ret_eq (by have hnn := hnn.out; rw [show (128 : Nat) ^ 1 = 128 from by decide] at hnn ⊢; first | (rw [IntKind.wrap_u64]; omega) | omega)) hr5 (by omega)
          · skip
            have e0 : ((c : Int) == 0) = false := by rw [beq_eq_false_iff_ne]; omega
            have e1 : ¬ (c : Int) < 128 := by omega
            have HE : Hid (Cd.uintF s.data.toList f 2 (nn + c % 128 * 128 ^ 1) (j + 1) = Cd.uintR s.data.toList i) := by show _ = _; rw [← hE.out, HN.out, if_neg (by omega), if_neg (by omega)]
            clear HN hE
            go_wp2_with fail
            refine (hnext.out).mono ?_; rintro e w5 ⟨rfl, hu5, hr5⟩
            have c2 := hr5.cells.2.2.1
            go_wp2_with fail
            go_roundw
            case rel => exact ⟨f - 1, 2, nn + c % 128 * 128 ^ 1, j + 1, rfl, by omega, by rw [show (128 : Nat) ^ 2 = 16384 from by decide]; rfl, int_eq (by have hnn := hnn.out; rw [show (128 : Nat) ^ 1 = 128 from by decide] at hnn ⊢; first | (rw [IntKind.wrap_u64]; omega) | omega), by have hnn := hnn.out; show _ < _; rw [show (128 : Nat) ^ 1 = 128 from by decide] at hnn ⊢; rw [show (128 : Nat) ^ 2 = 16384 from by decide]; omega, hr5, by omega, hu.trans hu5, by have := HE.out; rwa [show f - 1 + 1 = f from by omega]⟩
            case measure => simp [intOf]
      · by_cases h0 : c = 0
        · have e0 : ((c : Int) == 0) = true := by rw [beq_iff_eq]; omega
          have HE : Hid (Cd.uintR s.data.toList i = .error 7) := by show _ = _; rw [← hE.out, HN.out, if_pos (by omega)]
          have hfail := hid (fun W h => failX_new g s (j + 1) 7 W h)
          clear HN hE
          go_wp2_with fail
          refine (hnext.out).mono ?_; rintro e w5 ⟨rfl, hu5, hr5⟩
          have c2 := hr5.cells.2.2.1
          go_wp2_with fail
          refine (hfail.out _ hr5).mono ?_; rintro e w6 ⟨⟨v, rfl⟩, hu6, hr6⟩
          go_wp2_with fail
          go_ret
          exact ToldX.mk_err 0 rfl HE.out ((hu.trans hu5).trans hu6) rfl hr6 (by omega)
        · skip
          by_cases h1 : c < 128
          · have e0 : ((c : Int) == 0) = false := by rw [beq_eq_false_iff_ne]; omega
            have e1 : (c : Int) < 128 := by omega
            have HE : Hid (Cd.uintR s.data.toList i = .ok (nn + c * 128 ^ 2, j + 1)) := by show _ = _; rw [← hE.out, HN.out, if_neg (by omega), if_pos (by omega)]
            clear HN hE
            go_wp2_with fail
            refine (hnext.out).mono ?_; rintro e w5 ⟨rfl, hu5, hr5⟩
            have c2 := hr5.cells.2.2.1
            go_wp2_with fail
            go_ret
            exact ToldX.mk_ok HE.out (hu.trans hu5) (ret_eq (by have hnn := hnn.out; rw [show (128 : Nat) ^ 2 = 16384 from by decide] at hnn ⊢; first | (rw [IntKind.wrap_u64]; omega) | omega)) hr5 (by omega)
          · skip
            have e0 : ((c : Int) == 0) = false := by rw [beq_eq_false_iff_ne]; omega
            have e1 : ¬ (c : Int) < 128 := by omega
            have HE : Hid (Cd.uintF s.data.toList f 3 (nn + c % 128 * 128 ^ 2) (j + 1) = Cd.uintR s.data.toList i) := by show _ = _; rw [← hE.out, HN.out, if_neg (by omega), if_neg (by omega)]
            clear HN hE
            go_wp2_with fail
            refine (hnext.out).mono ?_; rintro e w5 ⟨rfl, hu5, hr5⟩
            have c2 := hr5.cells.2.2.1
            go_wp2_with fail
            go_roundw
            case rel => exact ⟨f - 1, 3, nn + c % 128 * 128 ^ 2, j + 1, rfl, by omega, by rw [show (128 : Nat) ^ 3 = 2097152 from by decide]; rfl, int_eq (by have hnn := hnn.out; rw [show (128 : Nat) ^ 2 = 16384 from by decide] at hnn ⊢; first | (rw [IntKind.wrap_u64]; omega) | omega), by have hnn := hnn.out; show _ < _; rw [show (128 : Nat) ^ 2 = 16384 from by decide] at hnn ⊢; rw [show (128 : Nat) ^ 3 = 2097152 from by decide]; omega, hr5, by omega, hu.trans hu5, by have := HE.out; rwa [show f - 1 + 1 = f from by omega]⟩
            case measure => simp [intOf]
      · by_cases h0 : c = 0
        · have e0 : ((c : Int) == 0) = true := by rw [beq_iff_eq]; omega
          have HE : Hid (Cd.uintR s.data.toList i = .error 7) := by show _ = _; rw [← hE.out, HN.out, if_pos (by omega)]
          have hfail := hid (fun W h => failX_new g s (j + 1) 7 W h)
          clear HN hE
          go_wp2_with fail
          refine (hnext.out).mono ?_; rintro e w5 ⟨rfl, hu5, hr5⟩
          have c2 := hr5.cells.2.2.1
          go_wp2_with fail
          refine (hfail.out _ hr5).mono ?_; rintro e w6 ⟨⟨v, rfl⟩, hu6, hr6⟩
          go_wp2_with fail
          go_ret
          exact ToldX.mk_err 0 rfl HE.out ((hu.trans hu5).trans hu6) rfl hr6 (by omega)
        · skip
          by_cases h1 : c < 128
          · have e0 : ((c : Int) == 0) = false := by rw [beq_eq_false_iff_ne]; omega
            have e1 : (c : Int) < 128 := by omega
            have HE : Hid (Cd.uintR s.data.toList i = .ok (nn + c * 128 ^ 3, j + 1)) := by show _ = _; rw [← hE.out, HN.out, if_neg (by omega), if_pos (by omega)]
            clear HN hE
            go_wp2_with fail
            refine (hnext.out).mono ?_; rintro e w5 ⟨rfl, hu5, hr5⟩
            have c2 := hr5.cells.2.2.1
            go_wp2_with fail
            go_ret
            exact ToldX.mk_ok HE.out (hu.trans hu5) (ret_eq (by have hnn := hnn.out; rw [show (128 : Nat) ^ 3 = 2097152 from by decide] at hnn ⊢; first | (rw [IntKind.wrap_u64]; omega) | omega)) hr5 (by omega)
          · skip
            have e0 : ((c : Int) == 0) = false := by rw [beq_eq_false_iff_ne]; omega
            have e1 : ¬ (c : Int) < 128 := by omega
            have HE : Hid (Cd.uintF s.data.toList f 4 (nn + c % 128 * 128 ^ 3) (j + 1) = Cd.uintR s.data.toList i) := by show _ = _; rw [← hE.out, HN.out, if_neg (by omega), if_neg (by omega)]
            clear HN hE
            go_wp2_with fail
            refine (hnext.out).mono ?_; rintro e w5 ⟨rfl, hu5, hr5⟩
            have c2 := hr5.cells.2.2.1
            go_wp2_with fail
            go_roundw
            case rel => exact ⟨f - 1, 4, nn + c % 128 * 128 ^ 3, j + 1, rfl, by omega, by rw [show (128 : Nat) ^ 4 = 268435456 from by decide]; rfl, int_eq (by have hnn := hnn.out; rw [show (128 : Nat) ^ 3 = 2097152 from by decide] at hnn ⊢; first | (rw [IntKind.wrap_u64]; omega) | omega), by have hnn := hnn.out; show _ < _; rw [show (128 : Nat) ^ 3 = 2097152 from by decide] at hnn ⊢; rw [show (128 : Nat) ^ 4 = 268435456 from by decide]; omega, hr5, by omega, hu.trans hu5, by have := HE.out; rwa [show f - 1 + 1 = f from by omega]⟩
            case measure => simp [intOf]
      · by_cases h0 : c = 0
        · have e0 : ((c : Int) == 0) = true := by rw [beq_iff_eq]; omega
          have HE : Hid (Cd.uintR s.data.toList i = .error 7) := by show _ = _; rw [← hE.out, HN.out, if_pos (by omega)]
          have hfail := hid (fun W h => failX_new g s (j + 1) 7 W h)
          clear HN hE
          go_wp2_with fail
          refine (hnext.out).mono ?_; rintro e w5 ⟨rfl, hu5, hr5⟩
          have c2 := hr5.cells.2.2.1
          go_wp2_with fail
          refine (hfail.out _ hr5).mono ?_; rintro e w6 ⟨⟨v, rfl⟩, hu6, hr6⟩
          go_wp2_with fail
          go_ret
          exact ToldX.mk_err 0 rfl HE.out ((hu.trans hu5).trans hu6) rfl hr6 (by omega)
        · skip
          by_cases h1 : c < 128
          · have e0 : ((c : Int) == 0) = false := by rw [beq_eq_false_iff_ne]; omega
            have e1 : (c : Int) < 128 := by omega
            have HE : Hid (Cd.uintR s.data.toList i = .ok (nn + c * 128 ^ 4, j + 1)) := by show _ = _; rw [← hE.out, HN.out, if_neg (by omega), if_pos (by omega)]
            clear HN hE
            go_wp2_with fail
            refine (hnext.out).mono ?_; rintro e w5 ⟨rfl, hu5, hr5⟩
            have c2 := hr5.cells.2.2.1
            go_wp2_with fail
            go_ret
            exact ToldX.mk_ok HE.out (hu.trans hu5) (ret_eq (by have hnn := hnn.out; rw [show (128 : Nat) ^ 4 = 268435456 from by decide] at hnn ⊢; first | (rw [IntKind.wrap_u64]; omega) | omega)) hr5 (by omega)
          · skip
            have e0 : ((c : Int) == 0) = false := by rw [beq_eq_false_iff_ne]; omega
            have e1 : ¬ (c : Int) < 128 := by omega
            have HE : Hid (Cd.uintF s.data.toList f 5 (nn + c % 128 * 128 ^ 4) (j + 1) = Cd.uintR s.data.toList i) := by show _ = _; rw [← hE.out, HN.out, if_neg (by omega), if_neg (by omega)]
            clear HN hE
            go_wp2_with fail
            refine (hnext.out).mono ?_; rintro e w5 ⟨rfl, hu5, hr5⟩
            have c2 := hr5.cells.2.2.1
            go_wp2_with fail
            go_roundw
            case rel => exact ⟨f - 1, 5, nn + c % 128 * 128 ^ 4, j + 1, rfl, by omega, by rw [show (128 : Nat) ^ 5 = 34359738368 from by decide]; rfl, int_eq (by have hnn := hnn.out; rw [show (128 : Nat) ^ 4 = 268435456 from by decide] at hnn ⊢; first | (rw [IntKind.wrap_u64]; omega) | omega), by have hnn := hnn.out; show _ < _; rw [show (128 : Nat) ^ 4 = 268435456 from by decide] at hnn ⊢; rw [show (128 : Nat) ^ 5 = 34359738368 from by decide]; omega, hr5, by omega, hu.trans hu5, by have := HE.out; rwa [show f - 1 + 1 = f from by omega]⟩
            case measure => simp [intOf]
      · by_cases h0 : c = 0
        · have e0 : ((c : Int) == 0) = true := by rw [beq_iff_eq]; omega
          have HE : Hid (Cd.uintR s.data.toList i = .error 7) := by show _ = _; rw [← hE.out, HN.out, if_pos (by omega)]
          have hfail := hid (fun W h => failX_new g s (j + 1) 7 W h)
          clear HN hE
          go_wp2_with fail
          refine (hnext.out).mono ?_; rintro e w5 ⟨rfl, hu5, hr5⟩
          have c2 := hr5.cells.2.2.1
          go_wp2_with fail
          refine (hfail.out _ hr5).mono ?_; rintro e w6 ⟨⟨v, rfl⟩, hu6, hr6⟩
          go_wp2_with fail
          go_ret
          exact ToldX.mk_err 0 rfl HE.out ((hu.trans hu5).trans hu6) rfl hr6 (by omega)
        · skip
          by_cases h1 : c < 128
          · have e0 : ((c : Int) == 0) = false := by rw [beq_eq_false_iff_ne]; omega
            have e1 : (c : Int) < 128 := by omega
            have HE : Hid (Cd.uintR s.data.toList i = .ok (nn + c * 128 ^ 5, j + 1)) := by show _ = _; rw [← hE.out, HN.out, if_neg (by omega), if_pos (by omega)]
            clear HN hE
            go_wp2_with fail
            refine (hnext.out).mono ?_; rintro e w5 ⟨rfl, hu5, hr5⟩
            have c2 := hr5.cells.2.2.1
            go_wp2_with fail
            go_ret
            exact ToldX.mk_ok HE.out (hu.trans hu5) (ret_eq (by have hnn := hnn.out; rw [show (128 : Nat) ^ 5 = 34359738368 from by decide] at hnn ⊢; first | (rw [IntKind.wrap_u64]; omega) | omega)) hr5 (by omega)
          · skip
            have e0 : ((c : Int) == 0) = false := by rw [beq_eq_false_iff_ne]; omega
            have e1 : ¬ (c : Int) < 128 := by omega
            have HE : Hid (Cd.uintF s.data.toList f 6 (nn + c % 128 * 128 ^ 5) (j + 1) = Cd.uintR s.data.toList i) := by show _ = _; rw [← hE.out, HN.out, if_neg (by omega), if_neg (by omega)]
            clear HN hE
            go_wp2_with fail
            refine (hnext.out).mono ?_; rintro e w5 ⟨rfl, hu5, hr5⟩
            have c2 := hr5.cells.2.2.1
            go_wp2_with fail
            go_roundw
            case rel => exact ⟨f - 1, 6, nn + c % 128 * 128 ^ 5, j + 1, rfl, by omega, by rw [show (128 : Nat) ^ 6 = 4398046511104 from by decide]; rfl, int_eq (by have hnn := hnn.out; rw [show (128 : Nat) ^ 5 = 34359738368 from by decide] at hnn ⊢; first | (rw [IntKind.wrap_u64]; omega) | omega), by have hnn := hnn.out; show _ < _; rw [show (128 : Nat) ^ 5 = 34359738368 from by decide] at hnn ⊢; rw [show (128 : Nat) ^ 6 = 4398046511104 from by decide]; omega, hr5, by omega, hu.trans hu5, by have := HE.out; rwa [show f - 1 + 1 = f from by omega]⟩
            case measure => simp [intOf]
      · by_cases h0 : c = 0
        · have e0 : ((c : Int) == 0) = true := by rw [beq_iff_eq]; omega
          have HE : Hid (Cd.uintR s.data.toList i = .error 7) := by show _ = _; rw [← hE.out, HN.out, if_pos (by omega)]
          have hfail := hid (fun W h => failX_new g s (j + 1) 7 W h)
          clear HN hE
          go_wp2_with fail
          refine (hnext.out).mono ?_; rintro e w5 ⟨rfl, hu5, hr5⟩
          have c2 := hr5.cells.2.2.1
          go_wp2_with fail
          refine (hfail.out _ hr5).mono ?_; rintro e w6 ⟨⟨v, rfl⟩, hu6, hr6⟩
          go_wp2_with fail
          go_ret
          exact ToldX.mk_err 0 rfl HE.out ((hu.trans hu5).trans hu6) rfl hr6 (by omega)
        · skip
          by_cases h1 : c < 128
          · have e0 : ((c : Int) == 0) = false := by rw [beq_eq_false_iff_ne]; omega
            have e1 : (c : Int) < 128 := by omega
            have HE : Hid (Cd.uintR s.data.toList i = .ok (nn + c * 128 ^ 6, j + 1)) := by show _ = _; rw [← hE.out, HN.out, if_neg (by omega), if_pos (by omega)]
            clear HN hE
            go_wp2_with fail
            refine (hnext.out).mono ?_; rintro e w5 ⟨rfl, hu5, hr5⟩
            have c2 := hr5.cells.2.2.1
            go_wp2_with fail
            go_ret
            exact ToldX.mk_ok HE.out (hu.trans hu5) (ret_eq (by have hnn := hnn.out; rw [show (128 : Nat) ^ 6 = 4398046511104 from by decide] at hnn ⊢; first | (rw [IntKind.wrap_u64]; omega) | omega)) hr5 (by omega)
          · skip
            have e0 : ((c : Int) == 0) = false := by rw [beq_eq_false_iff_ne]; omega
            have e1 : ¬ (c : Int) < 128 := by omega
            have HE : Hid (Cd.uintF s.data.toList f 7 (nn + c % 128 * 128 ^ 6) (j + 1) = Cd.uintR s.data.toList i) := by show _ = _; rw [← hE.out, HN.out, if_neg (by omega), if_neg (by omega)]
            clear HN hE
            go_wp2_with fail
            refine (hnext.out).mono ?_; rintro e w5 ⟨rfl, hu5, hr5⟩
            have c2 := hr5.cells.2.2.1
            go_wp2_with fail
            go_roundw
            case rel => exact ⟨f - 1, 7, nn + c % 128 * 128 ^ 6, j + 1, rfl, by omega, by rw [show (128 : Nat) ^ 7 = 562949953421312 from by decide]; rfl, int_eq (by have hnn := hnn.out; rw [show (128 : Nat) ^ 6 = 4398046511104 from by decide] at hnn ⊢; first | (rw [IntKind.wrap_u64]; omega) | omega), by have hnn := hnn.out; show _ < _; rw [show (128 : Nat) ^ 6 = 4398046511104 from by decide] at hnn ⊢; rw [show (128 : Nat) ^ 7 = 562949953421312 from by decide]; omega, hr5, by omega, hu.trans hu5, by have := HE.out; rwa [show f - 1 + 1 = f from by omega]⟩
            case measure => simp [intOf]
      · by_cases h0 : c = 0
        · have e0 : ((c : Int) == 0) = true := by rw [beq_iff_eq]; omega
          have HE : Hid (Cd.uintR s.data.toList i = .error 7) := by show _ = _; rw [← hE.out, HN.out, if_pos (by omega)]
          have hfail := hid (fun W h => failX_new g s (j + 1) 7 W h)
          clear HN hE
          go_wp2_with fail
          refine (hnext.out).mono ?_; rintro e w5 ⟨rfl, hu5, hr5⟩
          have c2 := hr5.cells.2.2.1
          go_wp2_with fail
          refine (hfail.out _ hr5).mono ?_; rintro e w6 ⟨⟨v, rfl⟩, hu6, hr6⟩
          go_wp2_with fail
          go_ret
          exact ToldX.mk_err 0 rfl HE.out ((hu.trans hu5).trans hu6) rfl hr6 (by omega)
        · skip
          by_cases h1 : c < 128
          · have e0 : ((c : Int) == 0) = false := by rw [beq_eq_false_iff_ne]; omega
            have e1 : (c : Int) < 128 := by omega
            have HE : Hid (Cd.uintR s.data.toList i = .ok (nn + c * 128 ^ 7, j + 1)) := by show _ = _; rw [← hE.out, HN.out, if_neg (by omega), if_pos (by omega)]
            clear HN hE
            go_wp2_with fail
            refine (hnext.out).mono ?_; rintro e w5 ⟨rfl, hu5, hr5⟩
            have c2 := hr5.cells.2.2.1
            go_wp2_with fail
            go_ret
            exact ToldX.mk_ok HE.out (hu.trans hu5) (ret_eq (by have hnn := hnn.out; rw [show (128 : Nat) ^ 7 = 562949953421312 from by decide] at hnn ⊢; first | (rw [IntKind.wrap_u64]; omega) | omega)) hr5 (by omega)
          · skip
            have e0 : ((c : Int) == 0) = false := by rw [beq_eq_false_iff_ne]; omega
            have e1 : ¬ (c : Int) < 128 := by omega
            have HE : Hid (Cd.uintF s.data.toList f 8 (nn + c % 128 * 128 ^ 7) (j + 1) = Cd.uintR s.data.toList i) := by show _ = _; rw [← hE.out, HN.out, if_neg (by omega), if_neg (by omega)]
            clear HN hE
            go_wp2_with fail
            refine (hnext.out).mono ?_; rintro e w5 ⟨rfl, hu5, hr5⟩
            have c2 := hr5.cells.2.2.1
            go_wp2_with fail
            go_roundw
            case rel => exact ⟨f - 1, 8, nn + c % 128 * 128 ^ 7, j + 1, rfl, by omega, by rw [show (128 : Nat) ^ 8 = 72057594037927936 from by decide]; rfl, int_eq (by have hnn := hnn.out; rw [show (128 : Nat) ^ 7 = 562949953421312 from by decide] at hnn ⊢; first | (rw [IntKind.wrap_u64]; omega) | omega), by have hnn := hnn.out; show _ < _; rw [show (128 : Nat) ^ 7 = 562949953421312 from by decide] at hnn ⊢; rw [show (128 : Nat) ^ 8 = 72057594037927936 from by decide]; omega, hr5, by omega, hu.trans hu5, by have := HE.out; rwa [show f - 1 + 1 = f from by omega]⟩
            case measure => simp [intOf]
      · by_cases h0 : c = 0
        · have e0 : ((c : Int) == 0) = true := by rw [beq_iff_eq]; omega
          have HE : Hid (Cd.uintR s.data.toList i = .error 7) := by show _ = _; rw [← hE.out, HN.out, if_pos (by omega)]
          have hfail := hid (fun W h => failX_new g s (j + 1) 7 W h)
          clear HN hE
          go_wp2_with fail
          refine (hnext.out).mono ?_; rintro e w5 ⟨rfl, hu5, hr5⟩
          have c2 := hr5.cells.2.2.1
          go_wp2_with fail
          refine (hfail.out _ hr5).mono ?_; rintro e w6 ⟨⟨v, rfl⟩, hu6, hr6⟩
          go_wp2_with fail
          go_ret
          exact ToldX.mk_err 0 rfl HE.out ((hu.trans hu5).trans hu6) rfl hr6 (by omega)
        · skip
          by_cases h1 : c < 128
          · have e0 : ((c : Int) == 0) = false := by rw [beq_eq_false_iff_ne]; omega
            have e1 : (c : Int) < 128 := by omega
            have HE : Hid (Cd.uintR s.data.toList i = .ok (nn + c * 128 ^ 8, j + 1)) := by show _ = _; rw [← hE.out, HN.out, if_neg (by omega), if_pos (by omega)]
            clear HN hE
            go_wp2_with fail
            refine (hnext.out).mono ?_; rintro e w5 ⟨rfl, hu5, hr5⟩
            have c2 := hr5.cells.2.2.1
            go_wp2_with fail
            go_ret
            exact ToldX.mk_ok HE.out (hu.trans hu5) (ret_eq (by have hnn := hnn.out; rw [show (128 : Nat) ^ 8 = 72057594037927936 from by decide] at hnn ⊢; first | (rw [IntKind.wrap_u64]; omega) | omega)) hr5 (by omega)
          · skip
            have e0 : ((c : Int) == 0) = false := by rw [beq_eq_false_iff_ne]; omega
            have e1 : ¬ (c : Int) < 128 := by omega
            have HE : Hid (Cd.uintF s.data.toList f 9 (nn + c % 128 * 128 ^ 8) (j + 1) = Cd.uintR s.data.toList i) := by show _ = _; rw [← hE.out, HN.out, if_neg (by omega), if_neg (by omega)]
            clear HN hE
            go_wp2_with fail
            refine (hnext.out).mono ?_; rintro e w5 ⟨rfl, hu5, hr5⟩
            have c2 := hr5.cells.2.2.1
            go_wp2_with fail
            go_roundw
            case rel => exact ⟨f - 1, 9, nn + c % 128 * 128 ^ 8, j + 1, rfl, by omega, by rw [show (128 : Nat) ^ 9 = 9223372036854775808 from by decide]; rfl, int_eq (by have hnn := hnn.out; rw [show (128 : Nat) ^ 8 = 72057594037927936 from by decide] at hnn ⊢; first | (rw [IntKind.wrap_u64]; omega) | omega), by have hnn := hnn.out; show _ < _; rw [show (128 : Nat) ^ 8 = 72057594037927936 from by decide] at hnn ⊢; rw [show (128 : Nat) ^ 9 = 9223372036854775808 from by decide]; omega, hr5, by omega, hu.trans hu5, by have := HE.out; rwa [show f - 1 + 1 = f from by omega]⟩
            case measure => simp [intOf]
      · by_cases h0 : c = 0
        · have e0 : ((c : Int) == 0) = true := by rw [beq_iff_eq]; omega
          have e9 : decide ((1 : Int) < (c : Int)) = false := by simp; omega
          have HE : Hid (Cd.uintR s.data.toList i = .error 7) := by show _ = _; rw [← hE.out, HN.out, if_pos (by omega)]
          have hfail := hid (fun W h => failX_new g s (j + 1) 7 W h)
          clear HN hE
          go_wp2_with fail
          refine (hnext.out).mono ?_; rintro e w5 ⟨rfl, hu5, hr5⟩
          have c2 := hr5.cells.2.2.1
          go_wp2_with fail
          refine (hfail.out _ hr5).mono ?_; rintro e w6 ⟨⟨v, rfl⟩, hu6, hr6⟩
          go_wp2_with fail
          go_ret
          exact ToldX.mk_err 0 rfl HE.out ((hu.trans hu5).trans hu6) rfl hr6 (by omega)
        · skip
          by_cases h9 : 1 < c
          · have e0 : ((c : Int) == 0) = false := by rw [beq_eq_false_iff_ne]; omega
            have e9 : decide ((1 : Int) < (c : Int)) = true := by simp; omega
            have HE : Hid (Cd.uintR s.data.toList i = .error 7) := by show _ = _; rw [← hE.out, HN.out, if_pos (by omega)]
            have hfail := hid (fun W h => failX_new g s (j + 1) 7 W h)
            clear HN hE
            go_wp2_with fail
            refine (hnext.out).mono ?_; rintro e w5 ⟨rfl, hu5, hr5⟩
            have c2 := hr5.cells.2.2.1
            go_wp2_with fail
            refine (hfail.out _ hr5).mono ?_; rintro e w6 ⟨⟨v, rfl⟩, hu6, hr6⟩
            go_wp2_with fail
            go_ret
            exact ToldX.mk_err 0 rfl HE.out ((hu.trans hu5).trans hu6) rfl hr6 (by omega)
          · skip
            have e0 : ((c : Int) == 0) = false := by rw [beq_eq_false_iff_ne]; omega
            have e9 : decide ((1 : Int) < (c : Int)) = false := by simp; omega
            have e1 : (c : Int) < 128 := by omega
            have HE : Hid (Cd.uintR s.data.toList i = .ok (nn + c * 128 ^ 9, j + 1)) := by show _ = _; rw [← hE.out, HN.out, if_neg (by omega), if_pos (by omega)]
            clear HN hE
            go_wp2_with fail
            refine (hnext.out).mono ?_; rintro e w5 ⟨rfl, hu5, hr5⟩
            have c2 := hr5.cells.2.2.1
            go_wp2_with fail
            go_ret
            exact ToldX.mk_ok HE.out (hu.trans hu5) (ret_eq (by have hnn := hnn.out; rw [show (128 : Nat) ^ 9 = 9223372036854775808 from by decide] at hnn ⊢; first | (rw [IntKind.wrap_u64]; omega) | omega)) hr5 (by omega)
    · obtain rfl : j = s.size := by omega
      have hnext := hid (nextX_no g s s.size w4 hrj (Nat.le_refl _))
      have HE : Hid (Cd.uintR s.data.toList i = .error 8) := by show _ = _; rw [← hE.out, uintF_end _ _ _ _ _ (by rw [HL.out]; omega)]
      have hk9 : (kk : Int) < 10 := by omega
      clear hE
      go_wp2_with fail
      refine (hnext.out).mono ?_; rintro e w5 ⟨rfl, hu5, hr5⟩
      have c2 := hr5.cells.2.2.1
      go_wp2_with fail
      go_ret
      exact ToldX.mk_err 0 rfl HE.out (hu.trans hu5) rfl hr5 (Nat.le_refl _)
end Go.Proofs.Ytmcneelapghfcaa

namespace Go.Proofs.Ytmcneelapghfcaa
open Go.RowKit

set_option maxRecDepth 100000 in
theorem wholeX_rd (g : Nat) (s : ByteArray) (i : Nat) (w : World) (hr : Rfx w g s i 0) (hi : i ≤ s.size) (hs : s.size ≤ 1000000000) :
    Calls Try.prog 93 #[.pointer (some ⟨g, 0, none⟩)] w (ToldX (fun n : Int => n = 0) (fun n : Int => .int .i64 n) g s (Cd.intR s.data.toList i) w) := by
  have h := hid (uintX_rd g s i w hr hi hs)
  cases hu : Cd.uintR s.data.toList i with
  | error x =>
    have HI : Hid (Cd.intR s.data.toList i = .error x) := by show _ = _; unfold Cd.intR; rw [hu]
    rw [hu] at h
    clear hu
    go_enter Try.func93, Try.ntmps93
    go_wp2_with fail
    refine (h.out).mono ?_; rintro e w1 ⟨y, rfl, hu, rfl, j, hR, hj⟩
    go_wp2_with fail
    go_ret
    exact ToldX.mk_err 0 rfl HI.out hu rfl hR hj
  | ok p =>
    obtain ⟨n, j⟩ := p
    have HI : Hid (Cd.intR s.data.toList i = .ok (Cd.unzig n, j)) := by show _ = _; unfold Cd.intR; rw [hu]
    have hn := (Cd.uint_inv hu).1
    rw [hu] at h
    clear hu
    by_cases h2 : n % 2 = 0
    · have e1 : ((n : Int) % 2 == 0) = true := by rw [beq_iff_eq]; omega
      have HZ : Hid (Cd.unzig n = ((n / 2 : Nat) : Int)) := by show _ = _; unfold Cd.unzig; rw [if_pos h2]
      go_enter Try.func93, Try.ntmps93
      go_wp2_with fail
      refine (h.out).mono ?_; rintro e w1 ⟨y, rfl, hu, rfl, hR, hj⟩
      go_wp2_with fail
      go_ret
      refine ToldX.mk_ok HI.out hu (ret_eq ?_) hR hj
      rw [HZ.out]
      first | (rw [IntKind.wrap_i64]; omega) | omega
    · have e1 : ((n : Int) % 2 == 0) = false := by rw [beq_eq_false_iff_ne]; omega
      have HZ : Hid (Cd.unzig n = -((n / 2 : Nat) : Int) - 1) := by show _ = _; unfold Cd.unzig; rw [if_neg h2]
      go_enter Try.func93, Try.ntmps93
      go_wp2_with fail
      refine (h.out).mono ?_; rintro e w1 ⟨y, rfl, hu, rfl, hR, hj⟩
      go_wp2_with fail
      go_ret
      refine ToldX.mk_ok HI.out hu (ret_eq ?_) hR hj
      rw [HZ.out]
      first | omega | (rw [IntKind.wrap_i64]; omega) | (rw [IntKind.wrap_i64, IntKind.wrap_i64]; omega) | (rw [IntKind.wrap_i64, IntKind.wrap_i64, IntKind.wrap_i64]; omega)
/-- what a method of the reference's leaves, whatever was wrong before -/
def TopX {α : Type} (P : α → Value) (g : Nat) (s : ByteArray) (r : α × Nat × Int) (w : World) (e : Ending) (w' : World) : Prop :=
  e = .returned (P r.1) ∧ Upd g w w' ∧ Rfx w' g s r.2.1 r.2.2 ∧ r.2.1 ≤ s.size
theorem uintX_was (g : Nat) (s : ByteArray) (i : Nat) (er : Int) (w : World) (hr : Rfx w g s i er) (he : er ≠ 0) :
    Calls Try.prog 88 #[.pointer (some ⟨g, 0, none⟩)] w fun e w' => e = .returned (.int .u64 0) ∧ w = w' := by
  have h := hid (nextX_was g s i er w hr he)
  have hq : (er != 0) = true := by rw [bne_iff_ne]; exact he
  have c2 := hr.cells.2.2.1
  go_enter Try.func88, Try.ntmps88
  go_wp2_with fail
  go_loopw [3, 4, 5] (fun n sc k wr => n = .int .u64 0 ∧ sc = .int .u64 1 ∧ k = .int .i64 0 ∧ wr = w) (fun _ _ k _ => 10 - (intOf k).toNat)
  case atStart => exact ⟨rfl, rfl, rfl, rfl⟩
  case round =>
    obtain ⟨rfl, rfl, rfl, rfl⟩ := hrel
    go_wp2_with fail
    refine (h.out).mono ?_; rintro e w1 ⟨rfl, rfl⟩
    go_wp2_with fail
    go_ret
    exact ⟨rfl, rfl⟩
theorem wholeX_was (g : Nat) (s : ByteArray) (i : Nat) (er : Int) (w : World) (hr : Rfx w g s i er) (he : er ≠ 0) :
    Calls Try.prog 93 #[.pointer (some ⟨g, 0, none⟩)] w fun e w' => e = .returned (.int .i64 0) ∧ w = w' := by
  have h := hid (uintX_was g s i er w hr he)
  go_enter Try.func93, Try.ntmps93
  go_wp2_with fail
  refine (h.out).mono ?_; rintro e w1 ⟨rfl, rfl⟩
  go_wp2_with fail
  go_ret
  exact ⟨rfl, rfl⟩
set_option maxRecDepth 100000 in
theorem mUintX (g : Nat) (s : ByteArray) (i : Nat) (er : Int) (w : World) (hr : Rfx w g s i er) (hi : i ≤ s.size) (hs : s.size ≤ 1000000000) :
    Calls Try.prog 52 #[.pointer (some ⟨g, 0, none⟩)] w (TopX (fun n : Nat => .int .u64 (n : Int)) g s (Cd.top 0 (Cd.uintR s.data.toList) i er) w) := by
  have c1 := hr.cells.2.1
  by_cases he : er = 0
  · subst he
    have h := hid (uintX_rd g s i w hr hi hs)
    cases hu : Cd.uintR s.data.toList i with
    | error x =>
      have HT := hid (top_err (z := 0) hu)
      have hx := Cd.uint_errs s i x hu
      have hend := hid (fun W j h => endX_no g s j i x W h (by omega))
      rw [hu] at h
      clear hu
      go_enter Try.func52, Try.ntmps52
      go_wp2_with fail
      refine (h.out).mono ?_; rintro e w1 ⟨y, rfl, hu, rfl, j, hR, hj⟩
      go_wp2_with fail
      refine (hend.out _ _ hR).mono ?_; rintro e w2 ⟨rfl, hu2, hR2⟩
      go_wp2_with fail
      go_ret
      rw [HT.out]
      exact ⟨rfl, hu.trans hu2, hR2, hi⟩
    | ok p =>
      obtain ⟨n, j⟩ := p
      have HT := hid (top_ok (z := 0) hu)
      have hend := hid (fun W h => endX_ok g s j i W h)
      rw [hu] at h
      clear hu
      go_enter Try.func52, Try.ntmps52
      go_wp2_with fail
      refine (h.out).mono ?_; rintro e w1 ⟨y, rfl, hu, rfl, hR, hj⟩
      go_wp2_with fail
      refine (hend.out _ hR).mono ?_; rintro e w2 ⟨rfl, rfl⟩
      go_wp2_with fail
      go_ret
      rw [HT.out]
      exact ⟨rfl, hu, hR, hj⟩
  · have h := hid (uintX_was g s i er w hr he)
    have HT := hid (top_was 0 (Cd.uintR s.data.toList) i he)
    have hend := hid (fun W h => endX_no g s i i er W h he)
    go_enter Try.func52, Try.ntmps52
    go_wp2_with fail
    refine (h.out).mono ?_; rintro e w1 ⟨rfl, rfl⟩
    go_wp2_with fail
    refine (hend.out _ hr).mono ?_; rintro e w2 ⟨rfl, hu2, hR2⟩
    go_wp2_with fail
    go_ret
    rw [HT.out]
    exact ⟨rfl, hu2, hR2, hi⟩
set_option maxRecDepth 100000 in
theorem mIntX (g : Nat) (s : ByteArray) (i : Nat) (er : Int) (w : World) (hr : Rfx w g s i er) (hi : i ≤ s.size) (hs : s.size ≤ 1000000000) :
    Calls Try.prog 55 #[.pointer (some ⟨g, 0, none⟩)] w (TopX (fun n : Int => .int .i64 n) g s (Cd.top 0 (Cd.intR s.data.toList) i er) w) := by
  have c1 := hr.cells.2.1
  by_cases he : er = 0
  · subst he
    have h := hid (wholeX_rd g s i w hr hi hs)
    cases hu : Cd.intR s.data.toList i with
    | error x =>
      have HT := hid (top_err (z := (0 : Int)) hu)
      have hx := Cd.int_errs s i x hu
      have hend := hid (fun W j h => endX_no g s j i x W h (by omega))
      rw [hu] at h
      clear hu
      go_enter Try.func55, Try.ntmps55
      go_wp2_with fail
      refine (h.out).mono ?_; rintro e w1 ⟨y, rfl, hu, rfl, j, hR, hj⟩
      go_wp2_with fail
      refine (hend.out _ _ hR).mono ?_; rintro e w2 ⟨rfl, hu2, hR2⟩
      go_wp2_with fail
      go_ret
      rw [HT.out]
      exact ⟨rfl, hu.trans hu2, hR2, hi⟩
    | ok p =>
      obtain ⟨n, j⟩ := p
      have HT := hid (top_ok (z := (0 : Int)) hu)
      have hend := hid (fun W h => endX_ok g s j i W h)
      rw [hu] at h
      clear hu
      go_enter Try.func55, Try.ntmps55
      go_wp2_with fail
      refine (h.out).mono ?_; rintro e w1 ⟨y, rfl, hu, rfl, hR, hj⟩
      go_wp2_with fail
      refine (hend.out _ hR).mono ?_; rintro e w2 ⟨rfl, rfl⟩
      go_wp2_with fail
      go_ret
      rw [HT.out]
      exact ⟨rfl, hu, hR, hj⟩
  · have h := hid (wholeX_was g s i er w hr he)
    have HT := hid (top_was (0 : Int) (Cd.intR s.data.toList) i he)
    have hend := hid (fun W h => endX_no g s i i er W h he)
    go_enter Try.func55, Try.ntmps55
    go_wp2_with fail
    refine (h.out).mono ?_; rintro e w1 ⟨rfl, rfl⟩
    go_wp2_with fail
    refine (hend.out _ hr).mono ?_; rintro e w2 ⟨rfl, hu2, hR2⟩
    go_wp2_with fail
    go_ret
    rw [HT.out]
    exact ⟨rfl, hu2, hR2, hi⟩
end Go.Proofs.Ytmcneelapghfcaa

namespace Go.Proofs.Ytmcneelapghfcaa
open Go.RowKit

set_option maxRecDepth 100000 in
set_option maxHeartbeats 800000 in
theorem textX_rd (most : Nat) (hm : most ≤ 1000000) (g : Nat) (s : ByteArray) (i : Nat) (w : World) (hr : Rfx w g s i 0) (hi : i ≤ s.size) (hs : s.size ≤ 1000000000) :
    Calls Try.prog 90 #[.pointer (some ⟨g, 0, none⟩), .int .u64 (most : Int)] w (ToldX (fun t : ByteArray => t = ⟨#[]⟩) (fun t : ByteArray => .string t) g s (Cd.textR s most i) w) := by
  have h := hid (uintX_rd g s i w hr hi hs)
  cases hu : Cd.uintR s.data.toList i with
  | error x =>
    have HI : Hid (Cd.textR s most i = .error x) := by show _ = _; unfold Cd.textR; rw [hu]
    have hx := Cd.uint_errs s i x hu
    have hq : (x != 0) = true := by rw [bne_iff_ne]; omega
    rw [hu] at h
    clear hu hx
    go_enter Try.func90, Try.ntmps90
    go_wp2_with fail
    refine (h.out).mono ?_; rintro e w1 ⟨y, rfl, hu, rfl, j, hR, hj⟩
    have c2 := hR.cells.2.2.1
    go_wp2_with fail
    go_ret
    exact ToldX.mk_err _ rfl HI.out hu rfl hR hj
  | ok p =>
    obtain ⟨n, j⟩ := p
    have HI := hid (Cd.textR_of (most := most) hu)
    have hn := (Cd.uint_inv hu).1
    rw [hu] at h
    clear hu
    by_cases h1 : most < n
    · have h1' : (most : Int) < n := by omega
      have HE : Hid (Cd.textR s most i = .error 19) := by show _ = _; rw [HI.out, if_pos h1]
      have hfail := hid (fun W h => failX_new g s j 19 W h)
      clear HI
      go_enter Try.func90, Try.ntmps90
      go_wp2_with fail
      refine (h.out).mono ?_; rintro e w1 ⟨y, rfl, hu, rfl, hR, hj⟩
      have c2 := hR.cells.2.2.1
      go_wp2_with fail
      refine (hfail.out _ hR).mono ?_; rintro e w2 ⟨⟨v, rfl⟩, hu2, hR2⟩
      go_wp2_with fail
      go_ret
      exact ToldX.mk_err _ rfl HE.out (hu.trans hu2) rfl hR2 hj
    · have h1' : ¬ (most : Int) < n := by omega
      have hcv : IntKind.i64.wrap (n : Int) = (n : Int) := IntWalk.i64_in _ (by omega)
      by_cases h2 : s.size < j + n
      · have HE : Hid (Cd.textR s most i = .error 8) := by show _ = _; rw [HI.out, if_neg h1, if_pos h2]
        have hfail := hid (fun W h => failX_new g s j 8 W h)
        clear HI
        go_enter Try.func90, Try.ntmps90
        go_wp2_with fail
        refine (h.out).mono ?_; rintro e w1 ⟨y, rfl, hu, rfl, hR, hj⟩
        have c2 := hR.cells.2.2.1
        have c0 := hR.cells.1
        have c1 := hR.cells.2.1
        have hg := hR.cells.2.2.2.2.2
        have hd0 : ((s.size : Int) - (j : Int)) < y := by omega
        have hd : decide (((s.size : Int) - (j : Int)) < y) = true := decide_eq_true hd0
        go_wp2_with fail
        go_quiet (fail)
        go_wp2_with fail
        refine (hfail.out (w1.drewN nq) hR).mono ?_; rintro e w2 ⟨⟨v, rfl⟩, hu2, hR2⟩
        go_wp2_with fail
        go_ret
        exact ToldX.mk_err _ rfl HE.out ((hu.trans (Upd.of (hdrewN (Below.refl _ _) nq))).trans hu2) rfl hR2 hj
      · have HE : Hid (Cd.textR s most i = .ok (s.extract j (j + n), j + n)) := by show _ = _; rw [HI.out, if_neg h1, if_neg h2]
        clear HI
        go_enter Try.func90, Try.ntmps90
        go_wp2_with fail
        refine (h.out).mono ?_; rintro e w1 ⟨y, rfl, hu, rfl, hR, hj⟩
        have c2 := hR.cells.2.2.1
        have c0 := hR.cells.1
        have c1 := hR.cells.2.1
        have f1 := hR.cells.2.2.2.1
        have hg := hR.cells.2.2.2.2.2
        have hd0 : ¬ ((s.size : Int) - (j : Int)) < y := by omega
        have hd : decide (((s.size : Int) - (j : Int)) < y) = false := decide_eq_false hd0
        have hn0 : (0 : Int) ≤ (y : Int) := by omega
        have hj0 : (0 : Int) ≤ (j : Int) := by omega
        have hjn : (j : Int) + (y : Int) ≤ s.size := by omega
        have hjn2 : (j : Int) ≤ (j : Int) + (y : Int) := by omega
        go_wp2_with fail
        go_quiet (fail)
        go_wp2_with fail
        go_quiet (fail)
        go_wp2_with fail
        go_ret
        exact ToldX.mk_ok HE.out ((hu.trans (Upd.of (hdrewN (Below.refl _ _) _))).trans (Upd.set g 1 _ _)) rfl (Rfx.setAt (w := w1.drewN _) hR _) (by omega)
theorem textX_was (most : Nat) (g : Nat) (s : ByteArray) (i : Nat) (er : Int) (w : World) (hr : Rfx w g s i er) (he : er ≠ 0) :
    Calls Try.prog 90 #[.pointer (some ⟨g, 0, none⟩), .int .u64 (most : Int)] w fun e w' => e = .returned (.string ⟨#[]⟩) ∧ w = w' := by
  have h := hid (uintX_was g s i er w hr he)
  have hq : (er != 0) = true := by rw [bne_iff_ne]; exact he
  have c2 := hr.cells.2.2.1
  go_enter Try.func90, Try.ntmps90
  go_wp2_with fail
  refine (h.out).mono ?_; rintro e w1 ⟨rfl, rfl⟩
  go_wp2_with fail
  go_ret
  exact ⟨rfl, rfl⟩
set_option maxRecDepth 100000 in
theorem mTextX (g : Nat) (s : ByteArray) (i : Nat) (er : Int) (w : World) (hr : Rfx w g s i er) (hi : i ≤ s.size) (hs : s.size ≤ 1000000000) :
    Calls Try.prog 53 #[.pointer (some ⟨g, 0, none⟩)] w (TopX (fun t : ByteArray => .string t) g s (Cd.top ⟨#[]⟩ (Cd.textR s 1000000) i er) w) := by
  have c1 := hr.cells.2.1
  by_cases he : er = 0
  · subst he
    have h := hid (textX_rd 1000000 (by omega) g s i w hr hi hs)
    cases hu : Cd.textR s 1000000 i with
    | error x =>
      have HT := hid (top_err (z := (⟨#[]⟩ : ByteArray)) hu)
      have hx := Cd.text_errs 1000000 s i x hu
      have hend := hid (fun W j h => endX_no g s j i x W h (by omega))
      rw [hu] at h
      clear hu
      go_enter Try.func53, Try.ntmps53
      go_wp2_with fail
      refine (h.out).mono ?_; rintro e w1 ⟨y, rfl, hu, rfl, j, hR, hj⟩
      go_wp2_with fail
      refine (hend.out _ _ hR).mono ?_; rintro e w2 ⟨rfl, hu2, hR2⟩
      go_wp2_with fail
      go_ret
      rw [HT.out]
      exact ⟨rfl, hu.trans hu2, hR2, hi⟩
    | ok p =>
      obtain ⟨n, j⟩ := p
      have HT := hid (top_ok (z := (⟨#[]⟩ : ByteArray)) hu)
      have hend := hid (fun W h => endX_ok g s j i W h)
      rw [hu] at h
      clear hu
      go_enter Try.func53, Try.ntmps53
      go_wp2_with fail
      refine (h.out).mono ?_; rintro e w1 ⟨y, rfl, hu, rfl, hR, hj⟩
      go_wp2_with fail
      refine (hend.out _ hR).mono ?_; rintro e w2 ⟨rfl, rfl⟩
      go_wp2_with fail
      go_ret
      rw [HT.out]
      exact ⟨rfl, hu, hR, hj⟩
  · have h := hid (textX_was 1000000 g s i er w hr he)
    have HT := hid (top_was (⟨#[]⟩ : ByteArray) (Cd.textR s 1000000) i he)
    have hend := hid (fun W h => endX_no g s i i er W h he)
    go_enter Try.func53, Try.ntmps53
    go_wp2_with fail
    refine (h.out).mono ?_; rintro e w1 ⟨rfl, rfl⟩
    go_wp2_with fail
    refine (hend.out _ hr).mono ?_; rintro e w2 ⟨rfl, hu2, hR2⟩
    go_wp2_with fail
    go_ret
    rw [HT.out]
    exact ⟨rfl, hu2, hR2, hi⟩
end Go.Proofs.Ytmcneelapghfcaa

namespace Go.Proofs.Ytmcneelapghfcaa
open Go.RowKit

theorem Rfx.setO {w : World} {g r o : Nat} {s : ByteArray} {i : Nat} {er : Int} (h : Rfx w g s i er) (v : Value) (hne : r ≠ g) : Rfx (w.setCell ⟨r, o, none⟩ v) g s i er :=
  (heap_setCell_other w ⟨r, o, none⟩ g v (by simpa [eq_comm] using hne)).trans h
set_option maxRecDepth 100000 in
set_option maxHeartbeats 3200000 in
theorem valueX_no (g : Nat) (s : ByteArray) (i : Nat) (w : World) (hr : Rfx w g s i 0) (hi : i ≤ s.size) (_hs : s.size ≤ 1000000000) (hi1 : s.size ≤ i) :
    Calls Try.prog 92 #[.pointer (some ⟨g, 0, none⟩)] w (ToldX (fun _ : Cd.V => True) vvV g s (Cd.valueR s i) w) := by
  have HE : Hid (Cd.valueR s i = .error 8) := by show _ = _; unfold Cd.valueR Cd.rawR; rw [nextR_no s i hi1]
  have hn1 : Hid (∀ W, Rfx W g s i 0 → Calls Try.prog 110 #[.pointer (some ⟨g, 0, none⟩)] W fun e w' => e = .returned (.int .i64 0) ∧ Upd g W w' ∧ Rfx w' g s i 8) := fun W h => nextX_no g s i W h hi1
  go_enter Try.func92, Try.ntmps92
  go_wp2_with fail
  have hb0 := hba w (.cells #[.int .i64 0, .int .i64 0, .int .u64 0, .string ⟨#[]⟩] 36)
  have hr0 := hr.keep hb0
  have bz0 : BV (w.alloc (.cells #[.int .i64 0, .int .i64 0, .int .u64 0, .string ⟨#[]⟩] 36)) w.heap.size 0 0 0 ⟨#[]⟩ := BV.new w 0 0 0 ⟨#[]⟩
  have hg0 : w.heap.size ≠ g := by have := hr.cells.2.2.2.2.2; omega
  have hu0 : Upd g w _ := Upd.of hb0
  refine (hn1.out _ hr0).mono ?_; rintro e w1 ⟨rfl, hu1, hr1⟩
  have bz1 := bz0.upd hu1 hg0
  replace hu1 := hu0.trans hu1
  clear hb0 hr0 bz0 hu0
  obtain ⟨z0, z1, z2, z3, zf0, zf1, zf2, zf3, zl⟩ := bz1.cells
  have hne1 : w.heap.size ≠ w1.heap.size := Nat.ne_of_lt zl
  have hne2 : w1.heap.size ≠ w.heap.size := fun h => hne1 h.symm
  go_wp2_with fail
  have hrF := ((((hr1.setO (o := 0) (.int .i64 0) hg0).setO (o := 1) (.int .i64 0) hg0).setO (o := 2) (.int .u64 0) hg0).setO (o := 3) (.string ⟨#[]⟩) hg0).keep (hba _ (.cells #[.int .i64 0, .int .i64 0, .int .u64 0, .string ⟨#[]⟩] 36))
  have huF := ((((hu1.setNew (o := 0) (.int .i64 0) (Nat.le_refl _)).setNew (o := 1) (.int .i64 0) (Nat.le_refl _)).setNew (o := 2) (.int .u64 0) (Nat.le_refl _)).setNew (o := 3) (.string ⟨#[]⟩) (Nat.le_refl _)).trans (Upd.of (hba _ (.cells #[.int .i64 0, .int .i64 0, .int .u64 0, .string ⟨#[]⟩] 36)))
  exact bodyPost_ret (v := .agg #[.int .i64 0, .int .i64 0, .int .u64 0, .string ⟨#[]⟩]) (by simp [results, Try.results92, go_sem, z0, z1, z2, z3, zl]) rfl (ToldX.mk_err ⟨0, 0, 0, ⟨#[]⟩⟩ trivial HE.out huF rfl hrF hi)
set_option maxRecDepth 100000 in
set_option maxHeartbeats 3200000 in
theorem valueX_0 (g : Nat) (s : ByteArray) (i : Nat) (w : World) (hr : Rfx w g s i 0) (_hi : i ≤ s.size) (hs : s.size ≤ 1000000000) (hi1 : i < s.size) (hc : s[i].toNat = 0) :
    Calls Try.prog 92 #[.pointer (some ⟨g, 0, none⟩)] w (ToldX (fun _ : Cd.V => True) vvV g s (Cd.valueR s i) w) := by
  have HE : Hid (Cd.valueR s i = .ok (⟨0, 0, 0, ⟨#[]⟩⟩, i + 1)) := by show _ = _; unfold Cd.valueR Cd.rawR; rw [nextR_ok s i hi1 0 hc]; rfl
  have hn1 : Hid (∀ W, Rfx W g s i 0 → Calls Try.prog 110 #[.pointer (some ⟨g, 0, none⟩)] W fun e w' => e = .returned (.int .i64 0) ∧ Upd g W w' ∧ Rfx w' g s (i + 1) 0) := fun W h => by have := nextX_ok g s i W h hi1 (by omega); rwa [show (s[i].toNat : Int) = 0 by rw [hc]; rfl] at this
  go_enter Try.func92, Try.ntmps92
  go_wp2_with fail
  have hb0 := hba w (.cells #[.int .i64 0, .int .i64 0, .int .u64 0, .string ⟨#[]⟩] 36)
  have hr0 := hr.keep hb0
  have bz0 : BV (w.alloc (.cells #[.int .i64 0, .int .i64 0, .int .u64 0, .string ⟨#[]⟩] 36)) w.heap.size 0 0 0 ⟨#[]⟩ := BV.new w 0 0 0 ⟨#[]⟩
  have hg0 : w.heap.size ≠ g := by have := hr.cells.2.2.2.2.2; omega
  have hu0 : Upd g w _ := Upd.of hb0
  refine (hn1.out _ hr0).mono ?_; rintro e w1 ⟨rfl, hu1, hr1⟩
  have bz1 := bz0.upd hu1 hg0
  replace hu1 := hu0.trans hu1
  clear hb0 hr0 bz0 hu0
  obtain ⟨z0, z1, z2, z3, zf0, zf1, zf2, zf3, zl⟩ := bz1.cells
  have hne1 : w.heap.size ≠ w1.heap.size := Nat.ne_of_lt zl
  have hne2 : w1.heap.size ≠ w.heap.size := fun h => hne1 h.symm
  go_wp2_with fail
  have hrF := ((((hr1.setO (o := 0) (.int .i64 0) hg0).setO (o := 1) (.int .i64 0) hg0).setO (o := 2) (.int .u64 0) hg0).setO (o := 3) (.string ⟨#[]⟩) hg0).keep (hba _ (.cells #[.int .i64 0, .int .i64 0, .int .u64 0, .string ⟨#[]⟩] 36))
  have huF := ((((hu1.setNew (o := 0) (.int .i64 0) (Nat.le_refl _)).setNew (o := 1) (.int .i64 0) (Nat.le_refl _)).setNew (o := 2) (.int .u64 0) (Nat.le_refl _)).setNew (o := 3) (.string ⟨#[]⟩) (Nat.le_refl _)).trans (Upd.of (hba _ (.cells #[.int .i64 0, .int .i64 0, .int .u64 0, .string ⟨#[]⟩] 36)))
  exact bodyPost_ret (v := .agg #[.int .i64 0, .int .i64 0, .int .u64 0, .string ⟨#[]⟩]) (by simp [results, Try.results92, go_sem, z0, z1, z2, z3, zl]) rfl (ToldX.mk_ok HE.out huF rfl hrF (by omega))
set_option maxRecDepth 100000 in
set_option maxHeartbeats 3200000 in
theorem valueX_more (g : Nat) (s : ByteArray) (i : Nat) (w : World) (hr : Rfx w g s i 0) (_hi : i ≤ s.size) (hs : s.size ≤ 1000000000) (hi1 : i < s.size) (c : Nat) (hc : s[i].toNat = c) (hc5 : 5 < c) :
    Calls Try.prog 92 #[.pointer (some ⟨g, 0, none⟩)] w (ToldX (fun _ : Cd.V => True) vvV g s (Cd.valueR s i) w) := by
  have hraw : Cd.rawR s i = .ok (⟨c, 0, 0, ⟨#[]⟩⟩, i + 1) := by unfold Cd.rawR; rw [nextR_ok s i hi1 c hc]; dsimp only; rw [if_neg (by omega), if_neg (by omega), if_neg (by omega), if_neg (by omega)]
  have hright : (⟨(c : Int), 0, 0, ⟨#[]⟩⟩ : Cd.V).right = false := by show Va.right (c : Int) 0 0 ⟨#[]⟩ = false; unfold Va.right; rw [if_neg (by omega), if_neg (by omega), if_neg (by omega), if_neg (by omega), if_neg (by omega)]
  have HE : Hid (Cd.valueR s i = .error 7) := by show _ = _; unfold Cd.valueR; rw [hraw]; simp only [hright]; rfl
  have e0 : (5 : Int) < (c : Int) := by omega
  have e1 : ((c : Int) == 1) = false := by rw [beq_eq_false_iff_ne]; omega
  have e2 : ((c : Int) == 2) = false := by rw [beq_eq_false_iff_ne]; omega
  have e3 : ((c : Int) == 3) = false := by rw [beq_eq_false_iff_ne]; omega
  have e4 : ((c : Int) == 4) = false := by rw [beq_eq_false_iff_ne]; omega
  have e5 : ((c : Int) == 5) = false := by rw [beq_eq_false_iff_ne]; omega
  have hfail := hid (fun W h => failX_new g s (i + 1) 7 W h)
  have hn1 : Hid (∀ W, Rfx W g s i 0 → Calls Try.prog 110 #[.pointer (some ⟨g, 0, none⟩)] W fun e w' => e = .returned (.int .i64 (c : Int)) ∧ Upd g W w' ∧ Rfx w' g s (i + 1) 0) := fun W h => by have := nextX_ok g s i W h hi1 (by omega); rwa [hc] at this
  clear hraw hright hc
  go_enter Try.func92, Try.ntmps92
  go_wp2_with fail
  have hb0 := hba w (.cells #[.int .i64 0, .int .i64 0, .int .u64 0, .string ⟨#[]⟩] 36)
  have hr0 := hr.keep hb0
  have bz0 : BV (w.alloc (.cells #[.int .i64 0, .int .i64 0, .int .u64 0, .string ⟨#[]⟩] 36)) w.heap.size 0 0 0 ⟨#[]⟩ := BV.new w 0 0 0 ⟨#[]⟩
  have hg0 : w.heap.size ≠ g := by have := hr.cells.2.2.2.2.2; omega
  have hu0 : Upd g w _ := Upd.of hb0
  refine (hn1.out _ hr0).mono ?_; rintro e w1 ⟨rfl, hu1, hr1⟩
  have bz1 := bz0.upd hu1 hg0
  replace hu1 := hu0.trans hu1
  clear hb0 hr0 bz0 hu0
  go_wp2_with fail
  have bt1 : BV (w1.alloc (.cells #[.int .i64 (c : Int), .int .i64 0, .int .u64 0, .string ⟨#[]⟩] 36)) w1.heap.size (c : Int) 0 0 ⟨#[]⟩ := BV.new w1 (c : Int) 0 0 ⟨#[]⟩
  have hba1 := hba w1 (.cells #[.int .i64 (c : Int), .int .i64 0, .int .u64 0, .string ⟨#[]⟩] 36)
  have bz2 := bz1.keep hba1
  have hr2 := hr1.keep hba1
  have hu2 := hu1.trans (Upd.of hba1)
  have hg1 : w1.heap.size ≠ g := by have := hr1.cells.2.2.2.2.2; omega
  have hg2 : w1.heap.size ≠ w.heap.size := by have := bz1.cells.2.2.2.2.2.2.2.2; omega
  have hg3 : w.heap.size ≤ w1.heap.size := hu1.size
  generalize hz1 : w1.heap.size = b3 at *
  generalize w1.alloc (.cells #[.int .i64 (c : Int), .int .i64 0, .int .u64 0, .string ⟨#[]⟩] 36) = w2 at *
  clear hba1 hr1 hu1 bz1 hz1 w1
  obtain ⟨t0, t1, t2, t3, tf0, tf1, tf2, tf3, tl⟩ := bt1.cells
  go_wp2_with fail
  refine (hfail.out _ hr2).mono ?_; rintro e w3 ⟨⟨vf, rfl⟩, hu3, hrW⟩
  have bzW := bz2.upd hu3 hg0
  have btW := bt1.upd hu3 hg1
  have huW := hu2.trans hu3
  clear hu2 hr2 bz2 bt1 hu3 t0 t1 t2 t3 tf0 tf1 tf2 tf3 tl
  obtain ⟨z0, z1, z2, z3, zf0, zf1, zf2, zf3, _⟩ := bzW.cells
  obtain ⟨t0, t1, t2, t3, tf0, tf1, tf2, tf3, tl⟩ := btW.cells
  go_wp2_with fail
  have hrF := (((hrW.setO (o := 0) (.int .i64 (c : Int)) hg0).setO (o := 1) (.int .i64 0) hg0).setO (o := 2) (.int .u64 0) hg0).setO (o := 3) (.string ⟨#[]⟩) hg0
  have huF := (((huW.setNew (o := 0) (.int .i64 (c : Int)) (Nat.le_refl _)).setNew (o := 1) (.int .i64 0) (Nat.le_refl _)).setNew (o := 2) (.int .u64 0) (Nat.le_refl _)).setNew (o := 3) (.string ⟨#[]⟩) (Nat.le_refl _)
  exact bodyPost_ret (v := .agg #[.int .i64 (c : Int), .int .i64 0, .int .u64 0, .string ⟨#[]⟩]) (by simp [results, Try.results92, go_sem, z0, z1, z2, z3]) rfl (ToldX.mk_err ⟨(c : Int), 0, 0, ⟨#[]⟩⟩ trivial HE.out huF rfl hrF (by omega))
end Go.Proofs.Ytmcneelapghfcaa

namespace Go.Proofs.Ytmcneelapghfcaa
open Go.RowKit

set_option maxRecDepth 100000 in
set_option maxHeartbeats 3200000 in
theorem valueX_1 (g : Nat) (s : ByteArray) (i : Nat) (w : World) (hr : Rfx w g s i 0) (_hi : i ≤ s.size) (hs : s.size ≤ 1000000000) (hi1 : i < s.size) (hc : s[i].toNat = 1) :
    Calls Try.prog 92 #[.pointer (some ⟨g, 0, none⟩)] w (ToldX (fun _ : Cd.V => True) vvV g s (Cd.valueR s i) w) := by
  have hraw : Hid (Cd.rawR s i = match Cd.nextR s.data.toList (i + 1) with | .error e => .error e | .ok (n, m) => .ok (⟨1, n, 0, ⟨#[]⟩⟩, m)) := by show _ = _; unfold Cd.rawR; rw [nextR_ok s i hi1 1 hc]; rfl
  have hn1 : Hid (∀ W, Rfx W g s i 0 → Calls Try.prog 110 #[.pointer (some ⟨g, 0, none⟩)] W fun e w' => e = .returned (.int .i64 1) ∧ Upd g W w' ∧ Rfx w' g s (i + 1) 0) := fun W h => by have := nextX_ok g s i W h hi1 (by omega); rwa [show (s[i].toNat : Int) = 1 by rw [hc]; rfl] at this
  by_cases hi2 : i + 1 < s.size
  · obtain ⟨d, hd⟩ : ∃ d : Nat, s[i + 1].toNat = d := ⟨_, rfl⟩
    have HE : Hid (Cd.rawR s i = .ok (⟨1, d, 0, ⟨#[]⟩⟩, i + 1 + 1)) := by show _ = _; rw [hraw.out, nextR_ok s (i + 1) hi2 d hd]
    have hn2 : Hid (∀ W, Rfx W g s (i + 1) 0 → Calls Try.prog 110 #[.pointer (some ⟨g, 0, none⟩)] W fun e w' => e = .returned (.int .i64 (d : Int)) ∧ Upd g W w' ∧ Rfx w' g s (i + 1 + 1) 0) := fun W h => by have := nextX_ok g s (i + 1) W h hi2 (by omega); rwa [hd] at this
    have HW : Hid (Cd.valueR s i = if Va.right 1 (d : Int) 0 ⟨#[]⟩ then .ok (⟨1, d, 0, ⟨#[]⟩⟩, i + 1 + 1) else .error 7) := by show _ = _; unfold Cd.valueR; rw [HE.out]; rfl
    have hdl : d < 256 := by rw [← hd]; exact s[i + 1].toNat_lt
    clear hraw hd hc HE
    by_cases h1 : 1 < d
    · have h1' : (1 : Int) < (d : Int) := by omega
      have HZ : Hid (Cd.valueR s i = .error 7) := by
        show _ = _
        rw [HW.out, if_neg]
        unfold Va.right
        rw [if_neg (by decide), if_pos rfl, decide_eq_false (show ¬ (d : Int) = 0 by omega), decide_eq_false (show ¬ (d : Int) = 1 by omega)]
        decide
      have hfail := hid (fun W h => failX_new g s (i + 1 + 1) 7 W h)
      clear HW
      go_enter Try.func92, Try.ntmps92
      go_wp2_with fail
      have hb0 := hba w (.cells #[.int .i64 0, .int .i64 0, .int .u64 0, .string ⟨#[]⟩] 36)
      have hr0 := hr.keep hb0
      have bz0 : BV (w.alloc (.cells #[.int .i64 0, .int .i64 0, .int .u64 0, .string ⟨#[]⟩] 36)) w.heap.size 0 0 0 ⟨#[]⟩ := BV.new w 0 0 0 ⟨#[]⟩
      have hg0 : w.heap.size ≠ g := by have := hr.cells.2.2.2.2.2; omega
      have hu0 : Upd g w _ := Upd.of hb0
      refine (hn1.out _ hr0).mono ?_; rintro e w1 ⟨rfl, hu1, hr1⟩
      have bz1 := bz0.upd hu1 hg0
      replace hu1 := hu0.trans hu1
      clear hb0 hr0 bz0 hu0
      go_wp2_with fail
      have bt1 : BV (w1.alloc (.cells #[.int .i64 1, .int .i64 0, .int .u64 0, .string ⟨#[]⟩] 36)) w1.heap.size 1 0 0 ⟨#[]⟩ := BV.new w1 1 0 0 ⟨#[]⟩
      have hba1 := hba w1 (.cells #[.int .i64 1, .int .i64 0, .int .u64 0, .string ⟨#[]⟩] 36)
      have bz2 := bz1.keep hba1
      have hr2 := hr1.keep hba1
      have hu2 := hu1.trans (Upd.of hba1)
      have hg1 : w1.heap.size ≠ g := by have := hr1.cells.2.2.2.2.2; omega
      have hg2 : w1.heap.size ≠ w.heap.size := by have := bz1.cells.2.2.2.2.2.2.2.2; omega
      have hg3 : w.heap.size ≤ w1.heap.size := hu1.size
      generalize hz1 : w1.heap.size = b3 at *
      generalize w1.alloc (.cells #[.int .i64 1, .int .i64 0, .int .u64 0, .string ⟨#[]⟩] 36) = w2 at *
      clear hba1 hr1 hu1 bz1 hz1 w1
      refine (hn2.out _ hr2).mono ?_; rintro e w3 ⟨rfl, hu3, hr3⟩
      have bz3 := bz2.upd hu3 hg0
      have bt3 := bt1.upd hu3 hg1
      replace hu3 := hu2.trans hu3
      clear hu2 hr2 bz2 bt1
      obtain ⟨t0, t1, t2, t3, tf0, tf1, tf2, tf3, tl⟩ := bt3.cells
      go_wp2_with fail
      clear t0 t1 t2 t3 tf0 tf1 tf2 tf3 tl
      have hrW := hr3.setO (o := 1) (.int .i64 (d : Int)) hg1
      have btW := bt3.setN (d : Int)
      have bzW := bz3.setO (o := 1) (.int .i64 (d : Int)) hg2
      have huW := hu3.setNew (o := 1) (.int .i64 (d : Int)) hg3
      generalize w3.setCell ⟨b3, 1, none⟩ (.int .i64 (d : Int)) = w4 at *
      clear hr3 bt3 bz3 hu3 w3
      refine (hfail.out _ hrW).mono ?_; rintro e w5 ⟨⟨vf, rfl⟩, hu5, hr5⟩
      replace hrW := hr5
      replace bzW := bzW.upd hu5 hg0
      replace btW := btW.upd hu5 hg1
      replace huW := huW.trans hu5
      clear hu5 hr5
      obtain ⟨z0, z1, z2, z3, zf0, zf1, zf2, zf3, _⟩ := bzW.cells
      obtain ⟨t0, t1, t2, t3, tf0, tf1, tf2, tf3, tl⟩ := btW.cells
      go_wp2_with fail
      have hrF := (((hrW.setO (o := 0) (.int .i64 1) hg0).setO (o := 1) (.int .i64 (d : Int)) hg0).setO (o := 2) (.int .u64 0) hg0).setO (o := 3) (.string ⟨#[]⟩) hg0
      have huF := (((huW.setNew (o := 0) (.int .i64 1) (Nat.le_refl _)).setNew (o := 1) (.int .i64 (d : Int)) (Nat.le_refl _)).setNew (o := 2) (.int .u64 0) (Nat.le_refl _)).setNew (o := 3) (.string ⟨#[]⟩) (Nat.le_refl _)
      exact bodyPost_ret (v := .agg #[.int .i64 1, .int .i64 (d : Int), .int .u64 0, .string ⟨#[]⟩]) (by simp [results, Try.results92, go_sem, z0, z1, z2, z3]) rfl (ToldX.mk_err ⟨1, (d : Int), 0, ⟨#[]⟩⟩ trivial HZ.out huF rfl hrF (by omega))
    · have h1' : ¬ (1 : Int) < (d : Int) := by omega
      have HZ : Hid (Cd.valueR s i = .ok (⟨1, d, 0, ⟨#[]⟩⟩, i + 1 + 1)) := by
        show _ = _
        rw [HW.out, if_pos]
        have : d = 0 ∨ d = 1 := by omega
        rcases this with rfl | rfl <;> decide
      clear HW
      go_enter Try.func92, Try.ntmps92
      go_wp2_with fail
      have hb0 := hba w (.cells #[.int .i64 0, .int .i64 0, .int .u64 0, .string ⟨#[]⟩] 36)
      have hr0 := hr.keep hb0
      have bz0 : BV (w.alloc (.cells #[.int .i64 0, .int .i64 0, .int .u64 0, .string ⟨#[]⟩] 36)) w.heap.size 0 0 0 ⟨#[]⟩ := BV.new w 0 0 0 ⟨#[]⟩
      have hg0 : w.heap.size ≠ g := by have := hr.cells.2.2.2.2.2; omega
      have hu0 : Upd g w _ := Upd.of hb0
      refine (hn1.out _ hr0).mono ?_; rintro e w1 ⟨rfl, hu1, hr1⟩
      have bz1 := bz0.upd hu1 hg0
      replace hu1 := hu0.trans hu1
      clear hb0 hr0 bz0 hu0
      go_wp2_with fail
      have bt1 : BV (w1.alloc (.cells #[.int .i64 1, .int .i64 0, .int .u64 0, .string ⟨#[]⟩] 36)) w1.heap.size 1 0 0 ⟨#[]⟩ := BV.new w1 1 0 0 ⟨#[]⟩
      have hba1 := hba w1 (.cells #[.int .i64 1, .int .i64 0, .int .u64 0, .string ⟨#[]⟩] 36)
      have bz2 := bz1.keep hba1
      have hr2 := hr1.keep hba1
      have hu2 := hu1.trans (Upd.of hba1)
      have hg1 : w1.heap.size ≠ g := by have := hr1.cells.2.2.2.2.2; omega
      have hg2 : w1.heap.size ≠ w.heap.size := by have := bz1.cells.2.2.2.2.2.2.2.2; omega
      have hg3 : w.heap.size ≤ w1.heap.size := hu1.size
      generalize hz1 : w1.heap.size = b3 at *
      generalize w1.alloc (.cells #[.int .i64 1, .int .i64 0, .int .u64 0, .string ⟨#[]⟩] 36) = w2 at *
      clear hba1 hr1 hu1 bz1 hz1 w1
      refine (hn2.out _ hr2).mono ?_; rintro e w3 ⟨rfl, hu3, hr3⟩
      have bz3 := bz2.upd hu3 hg0
      have bt3 := bt1.upd hu3 hg1
      replace hu3 := hu2.trans hu3
      clear hu2 hr2 bz2 bt1
      obtain ⟨t0, t1, t2, t3, tf0, tf1, tf2, tf3, tl⟩ := bt3.cells
      obtain ⟨z0, z1, z2, z3, zf0, zf1, zf2, zf3, _⟩ := bz3.cells
      have hne1 : w.heap.size ≠ b3 := fun h => hg2 h.symm
      go_wp2_with fail
      have hrW := hr3.setO (o := 1) (.int .i64 (d : Int)) hg1
      have btW := bt3.setN (d : Int)
      have bzW := bz3.setO (o := 1) (.int .i64 (d : Int)) hg2
      have huW := hu3.setNew (o := 1) (.int .i64 (d : Int)) hg3
      have hrF := (((hrW.setO (o := 0) (.int .i64 1) hg0).setO (o := 1) (.int .i64 (d : Int)) hg0).setO (o := 2) (.int .u64 0) hg0).setO (o := 3) (.string ⟨#[]⟩) hg0
      have huF := (((huW.setNew (o := 0) (.int .i64 1) (Nat.le_refl _)).setNew (o := 1) (.int .i64 (d : Int)) (Nat.le_refl _)).setNew (o := 2) (.int .u64 0) (Nat.le_refl _)).setNew (o := 3) (.string ⟨#[]⟩) (Nat.le_refl _)
      exact bodyPost_ret (v := .agg #[.int .i64 1, .int .i64 (d : Int), .int .u64 0, .string ⟨#[]⟩]) (by simp [results, Try.results92, go_sem, z0, z1, z2, z3]) rfl (ToldX.mk_ok HZ.out huF rfl hrF (by omega))
  · have HE : Hid (Cd.valueR s i = .error 8) := by show _ = _; unfold Cd.valueR; rw [hraw.out, nextR_no s (i + 1) (by omega)]
    have hn2 : Hid (∀ W, Rfx W g s (i + 1) 0 → Calls Try.prog 110 #[.pointer (some ⟨g, 0, none⟩)] W fun e w' => e = .returned (.int .i64 0) ∧ Upd g W w' ∧ Rfx w' g s (i + 1) 8) := fun W h => nextX_no g s (i + 1) W h (by omega)
    clear hraw hc
    go_enter Try.func92, Try.ntmps92
    go_wp2_with fail
    have hb0 := hba w (.cells #[.int .i64 0, .int .i64 0, .int .u64 0, .string ⟨#[]⟩] 36)
    have hr0 := hr.keep hb0
    have bz0 : BV (w.alloc (.cells #[.int .i64 0, .int .i64 0, .int .u64 0, .string ⟨#[]⟩] 36)) w.heap.size 0 0 0 ⟨#[]⟩ := BV.new w 0 0 0 ⟨#[]⟩
    have hg0 : w.heap.size ≠ g := by have := hr.cells.2.2.2.2.2; omega
    have hu0 : Upd g w _ := Upd.of hb0
    refine (hn1.out _ hr0).mono ?_; rintro e w1 ⟨rfl, hu1, hr1⟩
    have bz1 := bz0.upd hu1 hg0
    replace hu1 := hu0.trans hu1
    clear hb0 hr0 bz0 hu0
    go_wp2_with fail
    have bt1 : BV (w1.alloc (.cells #[.int .i64 1, .int .i64 0, .int .u64 0, .string ⟨#[]⟩] 36)) w1.heap.size 1 0 0 ⟨#[]⟩ := BV.new w1 1 0 0 ⟨#[]⟩
    have hba1 := hba w1 (.cells #[.int .i64 1, .int .i64 0, .int .u64 0, .string ⟨#[]⟩] 36)
    have bz2 := bz1.keep hba1
    have hr2 := hr1.keep hba1
    have hu2 := hu1.trans (Upd.of hba1)
    have hg1 : w1.heap.size ≠ g := by have := hr1.cells.2.2.2.2.2; omega
    have hg2 : w1.heap.size ≠ w.heap.size := by have := bz1.cells.2.2.2.2.2.2.2.2; omega
    have hg3 : w.heap.size ≤ w1.heap.size := hu1.size
    generalize hz1 : w1.heap.size = b3 at *
    generalize w1.alloc (.cells #[.int .i64 1, .int .i64 0, .int .u64 0, .string ⟨#[]⟩] 36) = w2 at *
    clear hba1 hr1 hu1 bz1 hz1 w1
    refine (hn2.out _ hr2).mono ?_; rintro e w3 ⟨rfl, hu3, hr3⟩
    have bz3 := bz2.upd hu3 hg0
    have bt3 := bt1.upd hu3 hg1
    replace hu3 := hu2.trans hu3
    clear hu2 hr2 bz2 bt1
    obtain ⟨t0, t1, t2, t3, tf0, tf1, tf2, tf3, tl⟩ := bt3.cells
    obtain ⟨z0, z1, z2, z3, zf0, zf1, zf2, zf3, _⟩ := bz3.cells
    have hne1 : w.heap.size ≠ b3 := fun h => hg2 h.symm
    go_wp2_with fail
    have hrW := hr3.setO (o := 1) (.int .i64 0) hg1
    have btW := bt3.setN 0
    have bzW := bz3.setO (o := 1) (.int .i64 0) hg2
    have huW := hu3.setNew (o := 1) (.int .i64 0) hg3
    have hrF := (((hrW.setO (o := 0) (.int .i64 1) hg0).setO (o := 1) (.int .i64 0) hg0).setO (o := 2) (.int .u64 0) hg0).setO (o := 3) (.string ⟨#[]⟩) hg0
    have huF := (((huW.setNew (o := 0) (.int .i64 1) (Nat.le_refl _)).setNew (o := 1) (.int .i64 0) (Nat.le_refl _)).setNew (o := 2) (.int .u64 0) (Nat.le_refl _)).setNew (o := 3) (.string ⟨#[]⟩) (Nat.le_refl _)
    exact bodyPost_ret (v := .agg #[.int .i64 1, .int .i64 0, .int .u64 0, .string ⟨#[]⟩]) (by simp [results, Try.results92, go_sem, z0, z1, z2, z3]) rfl (ToldX.mk_err ⟨1, 0, 0, ⟨#[]⟩⟩ trivial HE.out huF rfl hrF (by omega))
set_option maxRecDepth 100000 in
set_option maxHeartbeats 3200000 in
theorem valueX_2 (g : Nat) (s : ByteArray) (i : Nat) (w : World) (hr : Rfx w g s i 0) (_hi : i ≤ s.size) (hs : s.size ≤ 1000000000) (hi1 : i < s.size) (hc : s[i].toNat = 2) :
    Calls Try.prog 92 #[.pointer (some ⟨g, 0, none⟩)] w (ToldX (fun _ : Cd.V => True) vvV g s (Cd.valueR s i) w) := by
  have hraw : Hid (Cd.rawR s i = match Cd.intR s.data.toList (i + 1) with | .error e => .error e | .ok (x, m) => .ok (⟨2, x, 0, ⟨#[]⟩⟩, m)) := by show _ = _; unfold Cd.rawR; rw [nextR_ok s i hi1 2 hc]; rfl
  have hn1 : Hid (∀ W, Rfx W g s i 0 → Calls Try.prog 110 #[.pointer (some ⟨g, 0, none⟩)] W fun e w' => e = .returned (.int .i64 2) ∧ Upd g W w' ∧ Rfx w' g s (i + 1) 0) := fun W h => by have := nextX_ok g s i W h hi1 (by omega); rwa [show (s[i].toNat : Int) = 2 by rw [hc]; rfl] at this
  have hlem := hid (fun W h => wholeX_rd g s (i + 1) W h (by omega) hs)
  cases hres : Cd.intR s.data.toList (i + 1) with
  | error x =>
    have HE : Hid (Cd.valueR s i = .error x) := by show _ = _; unfold Cd.valueR; rw [hraw.out, hres]
    have hn2 : Hid (∀ W, Rfx W g s (i + 1) 0 → Calls Try.prog 93 #[.pointer (some ⟨g, 0, none⟩)] W fun e w' => e = .returned (.int .i64 0) ∧ Upd g W w' ∧ ∃ j, Rfx w' g s j x ∧ j ≤ s.size) := fun W h => by
      refine (hlem.out W h).mono ?_
      rintro e w' ⟨y, he, hu, hm⟩
      rw [hres] at hm
      obtain ⟨hz, j, hR, hj⟩ := hm
      exact ⟨by rw [he, hz], hu, j, hR, hj⟩
    clear hraw hc hres hlem
    go_enter Try.func92, Try.ntmps92
    go_wp2_with fail
    have hb0 := hba w (.cells #[.int .i64 0, .int .i64 0, .int .u64 0, .string ⟨#[]⟩] 36)
    have hr0 := hr.keep hb0
    have bz0 : BV (w.alloc (.cells #[.int .i64 0, .int .i64 0, .int .u64 0, .string ⟨#[]⟩] 36)) w.heap.size 0 0 0 ⟨#[]⟩ := BV.new w 0 0 0 ⟨#[]⟩
    have hg0 : w.heap.size ≠ g := by have := hr.cells.2.2.2.2.2; omega
    have hu0 : Upd g w _ := Upd.of hb0
    refine (hn1.out _ hr0).mono ?_; rintro e w1 ⟨rfl, hu1, hr1⟩
    have bz1 := bz0.upd hu1 hg0
    replace hu1 := hu0.trans hu1
    clear hb0 hr0 bz0 hu0
    go_wp2_with fail
    have bt1 : BV (w1.alloc (.cells #[.int .i64 2, .int .i64 0, .int .u64 0, .string ⟨#[]⟩] 36)) w1.heap.size 2 0 0 ⟨#[]⟩ := BV.new w1 2 0 0 ⟨#[]⟩
    have hba1 := hba w1 (.cells #[.int .i64 2, .int .i64 0, .int .u64 0, .string ⟨#[]⟩] 36)
    have bz2 := bz1.keep hba1
    have hr2 := hr1.keep hba1
    have hu2 := hu1.trans (Upd.of hba1)
    have hg1 : w1.heap.size ≠ g := by have := hr1.cells.2.2.2.2.2; omega
    have hg2 : w1.heap.size ≠ w.heap.size := by have := bz1.cells.2.2.2.2.2.2.2.2; omega
    have hg3 : w.heap.size ≤ w1.heap.size := hu1.size
    generalize hz1 : w1.heap.size = b3 at *
    generalize w1.alloc (.cells #[.int .i64 2, .int .i64 0, .int .u64 0, .string ⟨#[]⟩] 36) = w2 at *
    clear hba1 hr1 hu1 bz1 hz1 w1
    refine (hn2.out _ hr2).mono ?_; rintro e w3 ⟨rfl, hu3, j3, hr3, hj3⟩
    have bz3 := bz2.upd hu3 hg0
    have bt3 := bt1.upd hu3 hg1
    replace hu3 := hu2.trans hu3
    clear hu2 hr2 bz2 bt1
    obtain ⟨t0, t1, t2, t3, tf0, tf1, tf2, tf3, tl⟩ := bt3.cells
    obtain ⟨z0, z1, z2, z3, zf0, zf1, zf2, zf3, _⟩ := bz3.cells
    have hne1 : w.heap.size ≠ b3 := fun h => hg2 h.symm
    go_wp2_with fail
    have hrW := hr3.setO (o := 1) (.int .i64 0) hg1
    have btW := bt3.setN 0
    have bzW := bz3.setO (o := 1) (.int .i64 0) hg2
    have huW := hu3.setNew (o := 1) (.int .i64 0) hg3
    have hrF := (((hrW.setO (o := 0) (.int .i64 2) hg0).setO (o := 1) (.int .i64 0) hg0).setO (o := 2) (.int .u64 0) hg0).setO (o := 3) (.string ⟨#[]⟩) hg0
    have huF := (((huW.setNew (o := 0) (.int .i64 2) (Nat.le_refl _)).setNew (o := 1) (.int .i64 0) (Nat.le_refl _)).setNew (o := 2) (.int .u64 0) (Nat.le_refl _)).setNew (o := 3) (.string ⟨#[]⟩) (Nat.le_refl _)
    exact bodyPost_ret (v := .agg #[.int .i64 2, .int .i64 0, .int .u64 0, .string ⟨#[]⟩]) (by simp [results, Try.results92, go_sem, z0, z1, z2, z3]) rfl (ToldX.mk_err ⟨2, 0, 0, ⟨#[]⟩⟩ trivial HE.out huF rfl hrF hj3)
  | ok p =>
    obtain ⟨n, j⟩ := p
    have hr1 : Va.right 2 n 0 ⟨#[]⟩ = true := by unfold Va.right; rw [if_neg (by decide), if_neg (by decide), if_pos rfl]; decide
    have HE : Hid (Cd.valueR s i = .ok (⟨2, n, 0, ⟨#[]⟩⟩, j)) := by show _ = _; unfold Cd.valueR; rw [hraw.out, hres]; show (if Va.right 2 n 0 ⟨#[]⟩ = true then _ else _) = _; rw [if_pos hr1]
    have hn2 : Hid (∀ W, Rfx W g s (i + 1) 0 → Calls Try.prog 93 #[.pointer (some ⟨g, 0, none⟩)] W fun e w' => e = .returned (.int .i64 n) ∧ Upd g W w' ∧ Rfx w' g s j 0 ∧ j ≤ s.size) := fun W h => by
      refine (hlem.out W h).mono ?_
      rintro e w' ⟨y, he, hu, hm⟩
      rw [hres] at hm
      obtain ⟨hz, hR, hj⟩ := hm
      exact ⟨by rw [he, hz], hu, hR, hj⟩
    clear hraw hc hres hlem hr1
    go_enter Try.func92, Try.ntmps92
    go_wp2_with fail
    have hb0 := hba w (.cells #[.int .i64 0, .int .i64 0, .int .u64 0, .string ⟨#[]⟩] 36)
    have hr0 := hr.keep hb0
    have bz0 : BV (w.alloc (.cells #[.int .i64 0, .int .i64 0, .int .u64 0, .string ⟨#[]⟩] 36)) w.heap.size 0 0 0 ⟨#[]⟩ := BV.new w 0 0 0 ⟨#[]⟩
    have hg0 : w.heap.size ≠ g := by have := hr.cells.2.2.2.2.2; omega
    have hu0 : Upd g w _ := Upd.of hb0
    refine (hn1.out _ hr0).mono ?_; rintro e w1 ⟨rfl, hu1, hr1⟩
    have bz1 := bz0.upd hu1 hg0
    replace hu1 := hu0.trans hu1
    clear hb0 hr0 bz0 hu0
    go_wp2_with fail
    have bt1 : BV (w1.alloc (.cells #[.int .i64 2, .int .i64 0, .int .u64 0, .string ⟨#[]⟩] 36)) w1.heap.size 2 0 0 ⟨#[]⟩ := BV.new w1 2 0 0 ⟨#[]⟩
    have hba1 := hba w1 (.cells #[.int .i64 2, .int .i64 0, .int .u64 0, .string ⟨#[]⟩] 36)
    have bz2 := bz1.keep hba1
    have hr2 := hr1.keep hba1
    have hu2 := hu1.trans (Upd.of hba1)
    have hg1 : w1.heap.size ≠ g := by have := hr1.cells.2.2.2.2.2; omega
    have hg2 : w1.heap.size ≠ w.heap.size := by have := bz1.cells.2.2.2.2.2.2.2.2; omega
    have hg3 : w.heap.size ≤ w1.heap.size := hu1.size
    generalize hz1 : w1.heap.size = b3 at *
    generalize w1.alloc (.cells #[.int .i64 2, .int .i64 0, .int .u64 0, .string ⟨#[]⟩] 36) = w2 at *
    clear hba1 hr1 hu1 bz1 hz1 w1
    refine (hn2.out _ hr2).mono ?_; rintro e w3 ⟨rfl, hu3, hr3, hj3⟩
    have bz3 := bz2.upd hu3 hg0
    have bt3 := bt1.upd hu3 hg1
    replace hu3 := hu2.trans hu3
    clear hu2 hr2 bz2 bt1
    obtain ⟨t0, t1, t2, t3, tf0, tf1, tf2, tf3, tl⟩ := bt3.cells
    obtain ⟨z0, z1, z2, z3, zf0, zf1, zf2, zf3, _⟩ := bz3.cells
    have hne1 : w.heap.size ≠ b3 := fun h => hg2 h.symm
    go_wp2_with fail
    have hrW := hr3.setO (o := 1) (.int .i64 n) hg1
    have btW := bt3.setN n
    have bzW := bz3.setO (o := 1) (.int .i64 n) hg2
    have huW := hu3.setNew (o := 1) (.int .i64 n) hg3
    have hrF := (((hrW.setO (o := 0) (.int .i64 2) hg0).setO (o := 1) (.int .i64 n) hg0).setO (o := 2) (.int .u64 0) hg0).setO (o := 3) (.string ⟨#[]⟩) hg0
    have huF := (((huW.setNew (o := 0) (.int .i64 2) (Nat.le_refl _)).setNew (o := 1) (.int .i64 n) (Nat.le_refl _)).setNew (o := 2) (.int .u64 0) (Nat.le_refl _)).setNew (o := 3) (.string ⟨#[]⟩) (Nat.le_refl _)
    exact bodyPost_ret (v := .agg #[.int .i64 2, .int .i64 n, .int .u64 0, .string ⟨#[]⟩]) (by simp [results, Try.results92, go_sem, z0, z1, z2, z3]) rfl (ToldX.mk_ok HE.out huF rfl hrF hj3)
theorem textR_bound {s : ByteArray} {most i j : Nat} {t : ByteArray} (h : Cd.textR s most i = .ok (t, j)) : t.size ≤ most := by
  unfold Cd.textR at h
  split at h
  · cases h
  · split at h
    · cases h
    · split at h
      · cases h
      · have e : s.extract _ _ = t := congrArg (fun r : Cd.R ByteArray => match r with | .ok x => x.1 | .error _ => t) h
        rw [← e]; simp; omega
set_option maxRecDepth 100000 in
set_option maxHeartbeats 3200000 in
theorem valueX_4 (g : Nat) (s : ByteArray) (i : Nat) (w : World) (hr : Rfx w g s i 0) (_hi : i ≤ s.size) (hs : s.size ≤ 1000000000) (hi1 : i < s.size) (hc : s[i].toNat = 4) :
    Calls Try.prog 92 #[.pointer (some ⟨g, 0, none⟩)] w (ToldX (fun _ : Cd.V => True) vvV g s (Cd.valueR s i) w) := by
  have hraw : Hid (Cd.rawR s i = match Cd.textR s 4096 (i + 1) with | .error e => .error e | .ok (x, m) => .ok (⟨4, 0, 0, x⟩, m)) := by show _ = _; unfold Cd.rawR; rw [nextR_ok s i hi1 4 hc]; rfl
  have hn1 : Hid (∀ W, Rfx W g s i 0 → Calls Try.prog 110 #[.pointer (some ⟨g, 0, none⟩)] W fun e w' => e = .returned (.int .i64 4) ∧ Upd g W w' ∧ Rfx w' g s (i + 1) 0) := fun W h => by have := nextX_ok g s i W h hi1 (by omega); rwa [show (s[i].toNat : Int) = 4 by rw [hc]; rfl] at this
  have hlem := hid (fun W h => textX_rd 4096 (by omega) g s (i + 1) W h (by omega) hs)
  cases hres : Cd.textR s 4096 (i + 1) with
  | error x =>
    have HE : Hid (Cd.valueR s i = .error x) := by show _ = _; unfold Cd.valueR; rw [hraw.out, hres]
    have hn2 : Hid (∀ W, Rfx W g s (i + 1) 0 → Calls Try.prog 90 #[.pointer (some ⟨g, 0, none⟩), .int .u64 4096] W fun e w' => e = .returned (.string ⟨#[]⟩) ∧ Upd g W w' ∧ ∃ j, Rfx w' g s j x ∧ j ≤ s.size) := fun W h => by
      refine (hlem.out W h).mono ?_
      rintro e w' ⟨y, he, hu, hm⟩
      rw [hres] at hm
      obtain ⟨hz, j, hR, hj⟩ := hm
      exact ⟨by rw [he, hz], hu, j, hR, hj⟩
    clear hraw hc hres hlem
    go_enter Try.func92, Try.ntmps92
    go_wp2_with fail
    have hb0 := hba w (.cells #[.int .i64 0, .int .i64 0, .int .u64 0, .string ⟨#[]⟩] 36)
    have hr0 := hr.keep hb0
    have bz0 : BV (w.alloc (.cells #[.int .i64 0, .int .i64 0, .int .u64 0, .string ⟨#[]⟩] 36)) w.heap.size 0 0 0 ⟨#[]⟩ := BV.new w 0 0 0 ⟨#[]⟩
    have hg0 : w.heap.size ≠ g := by have := hr.cells.2.2.2.2.2; omega
    have hu0 : Upd g w _ := Upd.of hb0
    refine (hn1.out _ hr0).mono ?_; rintro e w1 ⟨rfl, hu1, hr1⟩
    have bz1 := bz0.upd hu1 hg0
    replace hu1 := hu0.trans hu1
    clear hb0 hr0 bz0 hu0
    go_wp2_with fail
    have bt1 : BV (w1.alloc (.cells #[.int .i64 4, .int .i64 0, .int .u64 0, .string ⟨#[]⟩] 36)) w1.heap.size 4 0 0 ⟨#[]⟩ := BV.new w1 4 0 0 ⟨#[]⟩
    have hba1 := hba w1 (.cells #[.int .i64 4, .int .i64 0, .int .u64 0, .string ⟨#[]⟩] 36)
    have bz2 := bz1.keep hba1
    have hr2 := hr1.keep hba1
    have hu2 := hu1.trans (Upd.of hba1)
    have hg1 : w1.heap.size ≠ g := by have := hr1.cells.2.2.2.2.2; omega
    have hg2 : w1.heap.size ≠ w.heap.size := by have := bz1.cells.2.2.2.2.2.2.2.2; omega
    have hg3 : w.heap.size ≤ w1.heap.size := hu1.size
    generalize hz1 : w1.heap.size = b3 at *
    generalize w1.alloc (.cells #[.int .i64 4, .int .i64 0, .int .u64 0, .string ⟨#[]⟩] 36) = w2 at *
    clear hba1 hr1 hu1 bz1 hz1 w1
    refine (hn2.out _ hr2).mono ?_; rintro e w3 ⟨rfl, hu3, j3, hr3, hj3⟩
    have bz3 := bz2.upd hu3 hg0
    have bt3 := bt1.upd hu3 hg1
    replace hu3 := hu2.trans hu3
    clear hu2 hr2 bz2 bt1
    obtain ⟨t0, t1, t2, t3, tf0, tf1, tf2, tf3, tl⟩ := bt3.cells
    obtain ⟨z0, z1, z2, z3, zf0, zf1, zf2, zf3, _⟩ := bz3.cells
    have hne1 : w.heap.size ≠ b3 := fun h => hg2 h.symm
    go_wp2_with fail
    have hrW := hr3.setO (o := 3) (.string ⟨#[]⟩) hg1
    have btW := bt3.setS ⟨#[]⟩
    have bzW := bz3.setO (o := 3) (.string ⟨#[]⟩) hg2
    have huW := hu3.setNew (o := 3) (.string ⟨#[]⟩) hg3
    have hrF := (((hrW.setO (o := 0) (.int .i64 4) hg0).setO (o := 1) (.int .i64 0) hg0).setO (o := 2) (.int .u64 0) hg0).setO (o := 3) (.string ⟨#[]⟩) hg0
    have huF := (((huW.setNew (o := 0) (.int .i64 4) (Nat.le_refl _)).setNew (o := 1) (.int .i64 0) (Nat.le_refl _)).setNew (o := 2) (.int .u64 0) (Nat.le_refl _)).setNew (o := 3) (.string ⟨#[]⟩) (Nat.le_refl _)
    exact bodyPost_ret (v := .agg #[.int .i64 4, .int .i64 0, .int .u64 0, .string ⟨#[]⟩]) (by simp [results, Try.results92, go_sem, z0, z1, z2, z3]) rfl (ToldX.mk_err ⟨4, 0, 0, ⟨#[]⟩⟩ trivial HE.out huF rfl hrF hj3)
  | ok p =>
    obtain ⟨t, j⟩ := p
    have hr1 : Va.right 4 0 0 t = true := by have hts := textR_bound hres; unfold Va.right; rw [if_neg (by decide), if_neg (by decide), if_neg (by decide), if_neg (by decide), if_pos (by decide), decide_eq_true hts]; decide
    have HE : Hid (Cd.valueR s i = .ok (⟨4, 0, 0, t⟩, j)) := by show _ = _; unfold Cd.valueR; rw [hraw.out, hres]; show (if Va.right 4 0 0 t = true then _ else _) = _; rw [if_pos hr1]
    have hn2 : Hid (∀ W, Rfx W g s (i + 1) 0 → Calls Try.prog 90 #[.pointer (some ⟨g, 0, none⟩), .int .u64 4096] W fun e w' => e = .returned (.string t) ∧ Upd g W w' ∧ Rfx w' g s j 0 ∧ j ≤ s.size) := fun W h => by
      refine (hlem.out W h).mono ?_
      rintro e w' ⟨y, he, hu, hm⟩
      rw [hres] at hm
      obtain ⟨hz, hR, hj⟩ := hm
      exact ⟨by rw [he, hz], hu, hR, hj⟩
    clear hraw hc hres hlem hr1
    go_enter Try.func92, Try.ntmps92
    go_wp2_with fail
    have hb0 := hba w (.cells #[.int .i64 0, .int .i64 0, .int .u64 0, .string ⟨#[]⟩] 36)
    have hr0 := hr.keep hb0
    have bz0 : BV (w.alloc (.cells #[.int .i64 0, .int .i64 0, .int .u64 0, .string ⟨#[]⟩] 36)) w.heap.size 0 0 0 ⟨#[]⟩ := BV.new w 0 0 0 ⟨#[]⟩
    have hg0 : w.heap.size ≠ g := by have := hr.cells.2.2.2.2.2; omega
    have hu0 : Upd g w _ := Upd.of hb0
    refine (hn1.out _ hr0).mono ?_; rintro e w1 ⟨rfl, hu1, hr1⟩
    have bz1 := bz0.upd hu1 hg0
    replace hu1 := hu0.trans hu1
    clear hb0 hr0 bz0 hu0
    go_wp2_with fail
    have bt1 : BV (w1.alloc (.cells #[.int .i64 4, .int .i64 0, .int .u64 0, .string ⟨#[]⟩] 36)) w1.heap.size 4 0 0 ⟨#[]⟩ := BV.new w1 4 0 0 ⟨#[]⟩
    have hba1 := hba w1 (.cells #[.int .i64 4, .int .i64 0, .int .u64 0, .string ⟨#[]⟩] 36)
    have bz2 := bz1.keep hba1
    have hr2 := hr1.keep hba1
    have hu2 := hu1.trans (Upd.of hba1)
    have hg1 : w1.heap.size ≠ g := by have := hr1.cells.2.2.2.2.2; omega
    have hg2 : w1.heap.size ≠ w.heap.size := by have := bz1.cells.2.2.2.2.2.2.2.2; omega
    have hg3 : w.heap.size ≤ w1.heap.size := hu1.size
    generalize hz1 : w1.heap.size = b3 at *
    generalize w1.alloc (.cells #[.int .i64 4, .int .i64 0, .int .u64 0, .string ⟨#[]⟩] 36) = w2 at *
    clear hba1 hr1 hu1 bz1 hz1 w1
    refine (hn2.out _ hr2).mono ?_; rintro e w3 ⟨rfl, hu3, hr3, hj3⟩
    have bz3 := bz2.upd hu3 hg0
    have bt3 := bt1.upd hu3 hg1
    replace hu3 := hu2.trans hu3
    clear hu2 hr2 bz2 bt1
    obtain ⟨t0, t1, t2, t3, tf0, tf1, tf2, tf3, tl⟩ := bt3.cells
    obtain ⟨z0, z1, z2, z3, zf0, zf1, zf2, zf3, _⟩ := bz3.cells
    have hne1 : w.heap.size ≠ b3 := fun h => hg2 h.symm
    go_wp2_with fail
    have hrW := hr3.setO (o := 3) (.string t) hg1
    have btW := bt3.setS t
    have bzW := bz3.setO (o := 3) (.string t) hg2
    have huW := hu3.setNew (o := 3) (.string t) hg3
    have hrF := (((hrW.setO (o := 0) (.int .i64 4) hg0).setO (o := 1) (.int .i64 0) hg0).setO (o := 2) (.int .u64 0) hg0).setO (o := 3) (.string t) hg0
    have huF := (((huW.setNew (o := 0) (.int .i64 4) (Nat.le_refl _)).setNew (o := 1) (.int .i64 0) (Nat.le_refl _)).setNew (o := 2) (.int .u64 0) (Nat.le_refl _)).setNew (o := 3) (.string t) (Nat.le_refl _)
    exact bodyPost_ret (v := .agg #[.int .i64 4, .int .i64 0, .int .u64 0, .string t]) (by simp [results, Try.results92, go_sem, z0, z1, z2, z3]) rfl (ToldX.mk_ok HE.out huF rfl hrF hj3)
set_option maxRecDepth 100000 in
set_option maxHeartbeats 3200000 in
theorem valueX_5 (g : Nat) (s : ByteArray) (i : Nat) (w : World) (hr : Rfx w g s i 0) (_hi : i ≤ s.size) (hs : s.size ≤ 1000000000) (hi1 : i < s.size) (hc : s[i].toNat = 5) :
    Calls Try.prog 92 #[.pointer (some ⟨g, 0, none⟩)] w (ToldX (fun _ : Cd.V => True) vvV g s (Cd.valueR s i) w) := by
  have hraw : Hid (Cd.rawR s i = match Cd.textR s 4096 (i + 1) with | .error e => .error e | .ok (x, m) => .ok (⟨5, 0, 0, x⟩, m)) := by show _ = _; unfold Cd.rawR; rw [nextR_ok s i hi1 5 hc]; rfl
  have hn1 : Hid (∀ W, Rfx W g s i 0 → Calls Try.prog 110 #[.pointer (some ⟨g, 0, none⟩)] W fun e w' => e = .returned (.int .i64 5) ∧ Upd g W w' ∧ Rfx w' g s (i + 1) 0) := fun W h => by have := nextX_ok g s i W h hi1 (by omega); rwa [show (s[i].toNat : Int) = 5 by rw [hc]; rfl] at this
  have hlem := hid (fun W h => textX_rd 4096 (by omega) g s (i + 1) W h (by omega) hs)
  cases hres : Cd.textR s 4096 (i + 1) with
  | error x =>
    have HE : Hid (Cd.valueR s i = .error x) := by show _ = _; unfold Cd.valueR; rw [hraw.out, hres]
    have hn2 : Hid (∀ W, Rfx W g s (i + 1) 0 → Calls Try.prog 90 #[.pointer (some ⟨g, 0, none⟩), .int .u64 4096] W fun e w' => e = .returned (.string ⟨#[]⟩) ∧ Upd g W w' ∧ ∃ j, Rfx w' g s j x ∧ j ≤ s.size) := fun W h => by
      refine (hlem.out W h).mono ?_
      rintro e w' ⟨y, he, hu, hm⟩
      rw [hres] at hm
      obtain ⟨hz, j, hR, hj⟩ := hm
      exact ⟨by rw [he, hz], hu, j, hR, hj⟩
    clear hraw hc hres hlem
    go_enter Try.func92, Try.ntmps92
    go_wp2_with fail
    have hb0 := hba w (.cells #[.int .i64 0, .int .i64 0, .int .u64 0, .string ⟨#[]⟩] 36)
    have hr0 := hr.keep hb0
    have bz0 : BV (w.alloc (.cells #[.int .i64 0, .int .i64 0, .int .u64 0, .string ⟨#[]⟩] 36)) w.heap.size 0 0 0 ⟨#[]⟩ := BV.new w 0 0 0 ⟨#[]⟩
    have hg0 : w.heap.size ≠ g := by have := hr.cells.2.2.2.2.2; omega
    have hu0 : Upd g w _ := Upd.of hb0
    refine (hn1.out _ hr0).mono ?_; rintro e w1 ⟨rfl, hu1, hr1⟩
    have bz1 := bz0.upd hu1 hg0
    replace hu1 := hu0.trans hu1
    clear hb0 hr0 bz0 hu0
    go_wp2_with fail
    have bt1 : BV (w1.alloc (.cells #[.int .i64 5, .int .i64 0, .int .u64 0, .string ⟨#[]⟩] 36)) w1.heap.size 5 0 0 ⟨#[]⟩ := BV.new w1 5 0 0 ⟨#[]⟩
    have hba1 := hba w1 (.cells #[.int .i64 5, .int .i64 0, .int .u64 0, .string ⟨#[]⟩] 36)
    have bz2 := bz1.keep hba1
    have hr2 := hr1.keep hba1
    have hu2 := hu1.trans (Upd.of hba1)
    have hg1 : w1.heap.size ≠ g := by have := hr1.cells.2.2.2.2.2; omega
    have hg2 : w1.heap.size ≠ w.heap.size := by have := bz1.cells.2.2.2.2.2.2.2.2; omega
    have hg3 : w.heap.size ≤ w1.heap.size := hu1.size
    generalize hz1 : w1.heap.size = b3 at *
    generalize w1.alloc (.cells #[.int .i64 5, .int .i64 0, .int .u64 0, .string ⟨#[]⟩] 36) = w2 at *
    clear hba1 hr1 hu1 bz1 hz1 w1
    refine (hn2.out _ hr2).mono ?_; rintro e w3 ⟨rfl, hu3, j3, hr3, hj3⟩
    have bz3 := bz2.upd hu3 hg0
    have bt3 := bt1.upd hu3 hg1
    replace hu3 := hu2.trans hu3
    clear hu2 hr2 bz2 bt1
    obtain ⟨t0, t1, t2, t3, tf0, tf1, tf2, tf3, tl⟩ := bt3.cells
    obtain ⟨z0, z1, z2, z3, zf0, zf1, zf2, zf3, _⟩ := bz3.cells
    have hne1 : w.heap.size ≠ b3 := fun h => hg2 h.symm
    go_wp2_with fail
    have hrW := hr3.setO (o := 3) (.string ⟨#[]⟩) hg1
    have btW := bt3.setS ⟨#[]⟩
    have bzW := bz3.setO (o := 3) (.string ⟨#[]⟩) hg2
    have huW := hu3.setNew (o := 3) (.string ⟨#[]⟩) hg3
    have hrF := (((hrW.setO (o := 0) (.int .i64 5) hg0).setO (o := 1) (.int .i64 0) hg0).setO (o := 2) (.int .u64 0) hg0).setO (o := 3) (.string ⟨#[]⟩) hg0
    have huF := (((huW.setNew (o := 0) (.int .i64 5) (Nat.le_refl _)).setNew (o := 1) (.int .i64 0) (Nat.le_refl _)).setNew (o := 2) (.int .u64 0) (Nat.le_refl _)).setNew (o := 3) (.string ⟨#[]⟩) (Nat.le_refl _)
    exact bodyPost_ret (v := .agg #[.int .i64 5, .int .i64 0, .int .u64 0, .string ⟨#[]⟩]) (by simp [results, Try.results92, go_sem, z0, z1, z2, z3]) rfl (ToldX.mk_err ⟨5, 0, 0, ⟨#[]⟩⟩ trivial HE.out huF rfl hrF hj3)
  | ok p =>
    obtain ⟨t, j⟩ := p
    have hr1 : Va.right 5 0 0 t = true := by have hts := textR_bound hres; unfold Va.right; rw [if_neg (by decide), if_neg (by decide), if_neg (by decide), if_neg (by decide), if_pos (by decide), decide_eq_true hts]; decide
    have HE : Hid (Cd.valueR s i = .ok (⟨5, 0, 0, t⟩, j)) := by show _ = _; unfold Cd.valueR; rw [hraw.out, hres]; show (if Va.right 5 0 0 t = true then _ else _) = _; rw [if_pos hr1]
    have hn2 : Hid (∀ W, Rfx W g s (i + 1) 0 → Calls Try.prog 90 #[.pointer (some ⟨g, 0, none⟩), .int .u64 4096] W fun e w' => e = .returned (.string t) ∧ Upd g W w' ∧ Rfx w' g s j 0 ∧ j ≤ s.size) := fun W h => by
      refine (hlem.out W h).mono ?_
      rintro e w' ⟨y, he, hu, hm⟩
      rw [hres] at hm
      obtain ⟨hz, hR, hj⟩ := hm
      exact ⟨by rw [he, hz], hu, hR, hj⟩
    clear hraw hc hres hlem hr1
    go_enter Try.func92, Try.ntmps92
    go_wp2_with fail
    have hb0 := hba w (.cells #[.int .i64 0, .int .i64 0, .int .u64 0, .string ⟨#[]⟩] 36)
    have hr0 := hr.keep hb0
    have bz0 : BV (w.alloc (.cells #[.int .i64 0, .int .i64 0, .int .u64 0, .string ⟨#[]⟩] 36)) w.heap.size 0 0 0 ⟨#[]⟩ := BV.new w 0 0 0 ⟨#[]⟩
    have hg0 : w.heap.size ≠ g := by have := hr.cells.2.2.2.2.2; omega
    have hu0 : Upd g w _ := Upd.of hb0
    refine (hn1.out _ hr0).mono ?_; rintro e w1 ⟨rfl, hu1, hr1⟩
    have bz1 := bz0.upd hu1 hg0
    replace hu1 := hu0.trans hu1
    clear hb0 hr0 bz0 hu0
    go_wp2_with fail
    have bt1 : BV (w1.alloc (.cells #[.int .i64 5, .int .i64 0, .int .u64 0, .string ⟨#[]⟩] 36)) w1.heap.size 5 0 0 ⟨#[]⟩ := BV.new w1 5 0 0 ⟨#[]⟩
    have hba1 := hba w1 (.cells #[.int .i64 5, .int .i64 0, .int .u64 0, .string ⟨#[]⟩] 36)
    have bz2 := bz1.keep hba1
    have hr2 := hr1.keep hba1
    have hu2 := hu1.trans (Upd.of hba1)
    have hg1 : w1.heap.size ≠ g := by have := hr1.cells.2.2.2.2.2; omega
    have hg2 : w1.heap.size ≠ w.heap.size := by have := bz1.cells.2.2.2.2.2.2.2.2; omega
    have hg3 : w.heap.size ≤ w1.heap.size := hu1.size
    generalize hz1 : w1.heap.size = b3 at *
    generalize w1.alloc (.cells #[.int .i64 5, .int .i64 0, .int .u64 0, .string ⟨#[]⟩] 36) = w2 at *
    clear hba1 hr1 hu1 bz1 hz1 w1
    refine (hn2.out _ hr2).mono ?_; rintro e w3 ⟨rfl, hu3, hr3, hj3⟩
    have bz3 := bz2.upd hu3 hg0
    have bt3 := bt1.upd hu3 hg1
    replace hu3 := hu2.trans hu3
    clear hu2 hr2 bz2 bt1
    obtain ⟨t0, t1, t2, t3, tf0, tf1, tf2, tf3, tl⟩ := bt3.cells
    obtain ⟨z0, z1, z2, z3, zf0, zf1, zf2, zf3, _⟩ := bz3.cells
    have hne1 : w.heap.size ≠ b3 := fun h => hg2 h.symm
    go_wp2_with fail
    have hrW := hr3.setO (o := 3) (.string t) hg1
    have btW := bt3.setS t
    have bzW := bz3.setO (o := 3) (.string t) hg2
    have huW := hu3.setNew (o := 3) (.string t) hg3
    have hrF := (((hrW.setO (o := 0) (.int .i64 5) hg0).setO (o := 1) (.int .i64 0) hg0).setO (o := 2) (.int .u64 0) hg0).setO (o := 3) (.string t) hg0
    have huF := (((huW.setNew (o := 0) (.int .i64 5) (Nat.le_refl _)).setNew (o := 1) (.int .i64 0) (Nat.le_refl _)).setNew (o := 2) (.int .u64 0) (Nat.le_refl _)).setNew (o := 3) (.string t) (Nat.le_refl _)
    exact bodyPost_ret (v := .agg #[.int .i64 5, .int .i64 0, .int .u64 0, .string t]) (by simp [results, Try.results92, go_sem, z0, z1, z2, z3]) rfl (ToldX.mk_ok HE.out huF rfl hrF hj3)
end Go.Proofs.Ytmcneelapghfcaa

namespace Go.Proofs.Ytmcneelapghfcaa
open Go.RowKit

/-- how far the bits are read: what is left comes to the same; or the text has ended -/
def BitSt (s : ByteArray) (i f b j : Nat) (er : Int) : Prop := (er = 0 ∧ Cd.bitsF s.data.toList f b j = Cd.bitsF s.data.toList 8 0 (i + 1)) ∨ (er = 8 ∧ Cd.bitsF s.data.toList 8 0 (i + 1) = .error 8)
theorem bits_round (g : Nat) (s : ByteArray) (i f b j : Nat) (er : Int) (hst : BitSt s i (f + 1) b j er) (hj : j ≤ s.size) (hs : s.size ≤ 1000000000) :
    ∃ (d j' : Nat) (er' : Int), d < 256 ∧ j' ≤ s.size ∧ Hid (∀ W, Rfx W g s j er → Calls Try.prog 110 #[.pointer (some ⟨g, 0, none⟩)] W fun e w' => e = .returned (.int .i64 (d : Int)) ∧ Upd g W w' ∧ Rfx w' g s j' er') ∧ Hid (BitSt s i f (256 * b + d) j' er') := by
  rcases hst with ⟨rfl, h⟩ | ⟨rfl, h⟩
  · by_cases hjs : j < s.size
    · refine ⟨s[j].toNat, j + 1, 0, s[j].toNat_lt, by omega, fun W hW => nextX_ok g s j W hW hjs (by omega), .inl ⟨rfl, ?_⟩⟩
      rw [← h, bitsF_next s f b j hjs _ rfl]
    · refine ⟨0, j, 8, by omega, hj, fun W hW => nextX_no g s j W hW (by omega), .inr ⟨rfl, ?_⟩⟩
      rw [← h, bitsF_no s f b j (by omega)]
  · refine ⟨0, j, 8, by omega, hj, fun W hW => (nextX_was g s j 8 W hW (by decide)).mono ?_, .inr ⟨rfl, h⟩⟩
    rintro e w' ⟨rfl, rfl⟩
    exact ⟨rfl, Upd.refl _ _, hW⟩
/-- what was wrong, behind a note of 7 -/
def noted (er : Int) : Int := if er = 0 then 7 else er
theorem fail7 (g : Nat) (s : ByteArray) (j : Nat) (er : Int) (W : World) (h : Rfx W g s j er) : Calls Try.prog 91 #[.pointer (some ⟨g, 0, none⟩), .int .i64 7] W fun e w' => (∃ v, e = .returned v) ∧ Upd g W w' ∧ Rfx w' g s j (noted er) := by
  unfold noted
  by_cases he : er = 0
  · subst he; rw [if_pos rfl]; exact failX_new g s j 7 W h
  · rw [if_neg he]
    refine (failX_was g s j er 7 W h he).mono ?_
    rintro e w' ⟨hv, rfl⟩
    exact ⟨hv, Upd.refl _ _, h⟩
/-- kind 3, behind its bits -/
theorem bits_end (g : Nat) (s : ByteArray) (i b j : Nat) (er : Int) (w : World) (hc : Cd.rawR s i = match Cd.bitsF s.data.toList 8 0 (i + 1) with | .error e => .error e | .ok (b, m) => .ok (⟨3, 0, b, ⟨#[]⟩⟩, m)) (hst : BitSt s i 0 b j er) (hj : j ≤ s.size) :
    (Va.canon b = b → ∀ e w', Upd g w w' → e = .returned (.agg #[.int .i64 3, .int .i64 0, .int .u64 (b : Int), .string ⟨#[]⟩]) → Rfx w' g s j er → ToldX (fun _ : Cd.V => True) vvV g s (Cd.valueR s i) w e w') ∧
    (Va.canon b ≠ b → ∀ e w', Upd g w w' → e = .returned (.agg #[.int .i64 3, .int .i64 0, .int .u64 (b : Int), .string ⟨#[]⟩]) → Rfx w' g s j (noted er) → ToldX (fun _ : Cd.V => True) vvV g s (Cd.valueR s i) w e w') := by
  rcases hst with ⟨rfl, h⟩ | ⟨rfl, h⟩
  · have HR : Cd.rawR s i = .ok (⟨3, 0, b, ⟨#[]⟩⟩, j) := by rw [hc, ← h]; rfl
    have HV : Cd.valueR s i = if Va.right 3 0 b ⟨#[]⟩ then .ok (⟨3, 0, b, ⟨#[]⟩⟩, j) else .error 7 := by unfold Cd.valueR; rw [HR]; rfl
    have HQ : Va.right 3 0 b ⟨#[]⟩ = decide (Va.canon b = b) := by
      unfold Va.right
      rw [if_neg (by decide), if_neg (by decide), if_neg (by decide), if_pos rfl]
      simp
      exact fun _ => rfl
    rw [HQ] at HV
    constructor
    · intro hb e w' hu he hR
      rw [decide_eq_true hb, if_pos rfl] at HV
      exact ToldX.mk_ok HV hu he hR hj
    · intro hb e w' hu he hR
      rw [decide_eq_false hb, if_neg (by decide)] at HV
      exact ToldX.mk_err ⟨3, 0, b, ⟨#[]⟩⟩ trivial HV hu he hR hj
  · have HV : Cd.valueR s i = .error 8 := by unfold Cd.valueR; rw [hc, h]
    exact ⟨fun _ e w' hu he hR => ToldX.mk_err ⟨3, 0, b, ⟨#[]⟩⟩ trivial HV hu he hR hj, fun _ e w' hu he hR => ToldX.mk_err ⟨3, 0, b, ⟨#[]⟩⟩ trivial HV hu he hR hj⟩
set_option maxRecDepth 100000 in
set_option maxHeartbeats 12800000 in
theorem valueX_3 (g : Nat) (s : ByteArray) (i : Nat) (w : World) (hr : Rfx w g s i 0) (_hi : i ≤ s.size) (hs : s.size ≤ 1000000000) (hi1 : i < s.size) (hc : s[i].toNat = 3) :
    Calls Try.prog 92 #[.pointer (some ⟨g, 0, none⟩)] w (ToldX (fun _ : Cd.V => True) vvV g s (Cd.valueR s i) w) := by
  have hraw : Hid (Cd.rawR s i = match Cd.bitsF s.data.toList 8 0 (i + 1) with | .error e => .error e | .ok (b, m) => .ok (⟨3, 0, b, ⟨#[]⟩⟩, m)) := by show _ = _; unfold Cd.rawR; rw [nextR_ok s i hi1 3 hc]; rfl
  have hn1 : Hid (∀ W, Rfx W g s i 0 → Calls Try.prog 110 #[.pointer (some ⟨g, 0, none⟩)] W fun e w' => e = .returned (.int .i64 3) ∧ Upd g W w' ∧ Rfx w' g s (i + 1) 0) := fun W h => by have := nextX_ok g s i W h hi1 (by omega); rwa [show (s[i].toNat : Int) = 3 by rw [hc]; rfl] at this
  clear hc
  go_enter Try.func92, Try.ntmps92
  go_wp2_with fail
  have hb0 := hba w (.cells #[.int .i64 0, .int .i64 0, .int .u64 0, .string ⟨#[]⟩] 36)
  have hr0 := hr.keep hb0
  have bz0 : BV (w.alloc (.cells #[.int .i64 0, .int .i64 0, .int .u64 0, .string ⟨#[]⟩] 36)) w.heap.size 0 0 0 ⟨#[]⟩ := BV.new w 0 0 0 ⟨#[]⟩
  have hg0 : w.heap.size ≠ g := by have := hr.cells.2.2.2.2.2; omega
  have hu0 : Upd g w _ := Upd.of hb0
  refine (hn1.out _ hr0).mono ?_; rintro e w1 ⟨rfl, hu1, hr1⟩
  have bz1 := bz0.upd hu1 hg0
  replace hu1 := hu0.trans hu1
  clear hb0 hr0 bz0 hu0
  go_wp2_with fail
  have bt1 : BV (w1.alloc (.cells #[.int .i64 3, .int .i64 0, .int .u64 0, .string ⟨#[]⟩] 36)) w1.heap.size 3 0 0 ⟨#[]⟩ := BV.new w1 3 0 0 ⟨#[]⟩
  have hba1 := hba w1 (.cells #[.int .i64 3, .int .i64 0, .int .u64 0, .string ⟨#[]⟩] 36)
  have bz2 := bz1.keep hba1
  have hr2 := hr1.keep hba1
  have hu2 := hu1.trans (Upd.of hba1)
  have hg1 : w1.heap.size ≠ g := by have := hr1.cells.2.2.2.2.2; omega
  have hg2 : w1.heap.size ≠ w.heap.size := by have := bz1.cells.2.2.2.2.2.2.2.2; omega
  have hg3 : w.heap.size ≤ w1.heap.size := hu1.size
  generalize hz1 : w1.heap.size = b3 at *
  generalize w1.alloc (.cells #[.int .i64 3, .int .i64 0, .int .u64 0, .string ⟨#[]⟩] 36) = w2 at *
  clear hba1 hr1 hu1 bz1 hz1 w1
  go_loopw [4] (fun q wr => ∃ (f kk b j : Nat) (er : Int), q = .int .i64 (kk : Int) ∧ kk + f = 8 ∧ Hid (b < 256 ^ kk) ∧ BV wr b3 3 0 b ⟨#[]⟩ ∧ BV wr w.heap.size 0 0 0 ⟨#[]⟩ ∧ Rfx wr g s j er ∧ j ≤ s.size ∧ Upd g w wr ∧ Hid (BitSt s i f b j er)) (fun q _ => 8 - (intOf q).toNat)
  case atStart => exact ⟨8, 0, 0, i + 1, 0, rfl, rfl, by show _ < _; decide, bt1, bz2, hr2, by omega, hu2, .inl ⟨rfl, rfl⟩⟩
  case round =>
    obtain ⟨f, kk, b, j, er, rfl, hkf, hb, bt3, bz3, hr3, hj, hu3, hst⟩ := hrel
    clear hr2 hu2 bz2 bt1
    obtain ⟨w4, rfl⟩ : ∃ w4 : World, w4 = wr := ⟨_, rfl⟩
    have hk0 : (0 : Int) ≤ (kk : Int) := by omega
    cases f with
    | zero =>
      obtain rfl : kk = 8 := by omega
      have hb64 : b < 18446744073709551616 := Nat.lt_of_lt_of_le hb.out (by decide)
      have HE := bits_end g s i b j er w hraw.out hst.out hj
      have hcan := hid (fun w => canonR_any b hb64 w)
      have hfail := hid (fun W h => fail7 g s j er W h)
      clear hst hraw hb hb64
      obtain ⟨t0, t1, t2, t3, tf0, tf1, tf2, tf3, tl⟩ := bt3.cells
      by_cases hcb : Va.canon b = b
      · have HF := hid (HE.1 hcb)
        clear HE hfail
        have hq : ((Va.canon b : Int) != (b : Int)) = false := by rw [bne_eq_false_iff_eq]; omega
        clear hcb
        go_wp2_with fail
        go_quiet ((go_at_call 97; exact Calls.quiet_of_same ((hcan.out _).mono fun _ _ h => ⟨h.1, h.2.symm⟩)))
        replace bt3 : BV (w4.drewN nq) b3 3 0 b ⟨#[]⟩ := bt3
        replace bz3 : BV (w4.drewN nq) w.heap.size 0 0 0 ⟨#[]⟩ := bz3
        replace hr3 : Rfx (w4.drewN nq) g s j er := hr3
        replace hu3 := hu3.trans (Upd.of (hdrewN (Below.refl _ _) nq))
        generalize w4.drewN nq = w4 at *
        clear t0 t1 t2 t3 tf0 tf1 tf2 tf3 tl
        obtain ⟨t0, t1, t2, t3, tf0, tf1, tf2, tf3, tl⟩ := bt3.cells
        obtain ⟨z0, z1, z2, z3, zf0, zf1, zf2, zf3, _⟩ := bz3.cells
        have hne1 : w.heap.size ≠ b3 := fun h => hg2 h.symm
        go_wp2_with fail
        have hrF := (((hr3.setO (o := 0) (.int .i64 3) hg0).setO (o := 1) (.int .i64 0) hg0).setO (o := 2) (.int .u64 (b : Int)) hg0).setO (o := 3) (.string ⟨#[]⟩) hg0
        have huF := (((hu3.setNew (o := 0) (.int .i64 3) (Nat.le_refl _)).setNew (o := 1) (.int .i64 0) (Nat.le_refl _)).setNew (o := 2) (.int .u64 (b : Int)) (Nat.le_refl _)).setNew (o := 3) (.string ⟨#[]⟩) (Nat.le_refl _)
        exact bodyPost_ret (v := .agg #[.int .i64 3, .int .i64 0, .int .u64 (b : Int), .string ⟨#[]⟩]) (by simp [results, Try.results92, go_sem, z0, z1, z2, z3]) rfl (HF.out _ _ huF rfl hrF)
      · have HF := hid (HE.2 hcb)
        clear HE
        have hq : ((Va.canon b : Int) != (b : Int)) = true := by rw [bne_iff_ne]; omega
        clear hcb
        go_wp2_with fail
        go_quiet ((go_at_call 97; exact Calls.quiet_of_same ((hcan.out _).mono fun _ _ h => ⟨h.1, h.2.symm⟩)))
        replace bt3 : BV (w4.drewN nq) b3 3 0 b ⟨#[]⟩ := bt3
        replace bz3 : BV (w4.drewN nq) w.heap.size 0 0 0 ⟨#[]⟩ := bz3
        replace hr3 : Rfx (w4.drewN nq) g s j er := hr3
        replace hu3 := hu3.trans (Upd.of (hdrewN (Below.refl _ _) nq))
        generalize w4.drewN nq = w4 at *
        clear t0 t1 t2 t3 tf0 tf1 tf2 tf3 tl
        obtain ⟨t0, t1, t2, t3, tf0, tf1, tf2, tf3, tl⟩ := bt3.cells
        go_wp2_with fail
        refine (hfail.out _ hr3).mono ?_; rintro e w5 ⟨⟨vf, rfl⟩, hu5, hr5⟩
        replace bt3 := bt3.upd hu5 hg1
        replace bz3 := bz3.upd hu5 hg0
        replace hu3 := hu3.trans hu5
        clear hr3 hu5 t0 t1 t2 t3 tf0 tf1 tf2 tf3 tl
        have hr3 := hr5
        clear hr5
        obtain ⟨t0, t1, t2, t3, tf0, tf1, tf2, tf3, tl⟩ := bt3.cells
        obtain ⟨z0, z1, z2, z3, zf0, zf1, zf2, zf3, _⟩ := bz3.cells
        have hne1 : w.heap.size ≠ b3 := fun h => hg2 h.symm
        go_wp2_with fail
        have hrF := (((hr3.setO (o := 0) (.int .i64 3) hg0).setO (o := 1) (.int .i64 0) hg0).setO (o := 2) (.int .u64 (b : Int)) hg0).setO (o := 3) (.string ⟨#[]⟩) hg0
        have huF := (((hu3.setNew (o := 0) (.int .i64 3) (Nat.le_refl _)).setNew (o := 1) (.int .i64 0) (Nat.le_refl _)).setNew (o := 2) (.int .u64 (b : Int)) (Nat.le_refl _)).setNew (o := 3) (.string ⟨#[]⟩) (Nat.le_refl _)
        exact bodyPost_ret (v := .agg #[.int .i64 3, .int .i64 0, .int .u64 (b : Int), .string ⟨#[]⟩]) (by simp [results, Try.results92, go_sem, z0, z1, z2, z3]) rfl (HF.out _ _ huF rfl hrF)
    | succ f =>
      obtain ⟨d, j2, er2, hdl, hj2, hn2, hst2⟩ := bits_round g s i f b j er hst.out hj hs
      have hk8 : (kk : Int) < 8 := by omega
      have hb7 : b < 72057594037927936 := Nat.lt_of_lt_of_le hb.out (Nat.le_trans (Nat.pow_le_pow_right (by decide) (show kk ≤ 7 by omega)) (by decide))
      have HB2 : Hid (256 * b + d < 256 ^ (kk + 1)) := by have := hb.out; show _ < _; rw [Nat.pow_succ]; omega
      have hsh : IntKind.u64.wrap (256 * (b : Int)) = ((256 * b : Nat) : Int) := by rw [IntKind.wrap_u64]; omega
      have hcv : IntKind.u64.wrap (d : Int) = (d : Int) := by rw [IntKind.wrap_u64]; omega
      have hor : IntKind.u64.wrap (((256 * b : Nat) : Int) + (d : Int)) = ((256 * b + d : Nat) : Int) := by rw [IntKind.wrap_u64]; omega
      obtain ⟨y, hy⟩ : ∃ y, 256 * b + d = y := ⟨_, rfl⟩
      rw [hy] at hor hst2 HB2
      have HY := hid hy
      clear hy
      generalize hX : (256 * b : Nat) = x at hsh hor
      have HX := hid hX
      clear hst hX hraw hn1
      obtain ⟨t0, t1, t2, t3, tf0, tf1, tf2, tf3, tl⟩ := bt3.cells
      go_wp2_with fail
      refine wp_region_held_drew (S := (fun _ => True)) (by kernel_rfl) trivial (fun hH => ?_)
      clear t0 t1 t2 t3 tf0 tf1 tf2 tf3 tl
      replace bt3 : BV w4.drew b3 3 0 b ⟨#[]⟩ := bt3
      replace bz3 : BV w4.drew w.heap.size 0 0 0 ⟨#[]⟩ := bz3
      replace hr3 : Rfx w4.drew g s j er := hr3
      replace hu3 := hu3.trans (Upd.of (Below.refl w4.heap.size w4).drew)
      generalize w4.drew = w4 at *
      obtain ⟨t0, t1, t2, t3, tf0, tf1, tf2, tf3, tl⟩ := bt3.cells
      refine wT 0 hH ?_
      refine wT 3 hH ?_
      refine wpAnyH_ready (rs := [1, 4]) (by kernel_rfl) (by simp) ?_
      refine wC (fun K hK => ?_) (wC (fun K hK => ?_) AllReadyH.nil)
      · go_simp
        refine hK.out _ _ trivial (fun hH => ?_)
        clear hK K
        (try simp only [Act.put, List.setIfInBounds_toArray, List.set_cons_zero, List.set_cons_succ])
        refine wT 2 hH ?_
        refine wpAnyH_ready (rs := [4]) (by kernel_rfl) (by simp) ?_
        refine wC (fun K hK => ?_) AllReadyH.nil
        go_simp
        refine (hn2.out _ hr3).mono ?_; rintro e w5 ⟨rfl, hu5, hr5⟩
        replace bt3 := bt3.upd hu5 hg1
        replace bz3 := bz3.upd hu5 hg0
        replace hu3 := hu3.trans hu5
        clear t0 t1 t2 t3 tf0 tf1 tf2 tf3 tl
        obtain ⟨t0, t1, t2, t3, tf0, tf1, tf2, tf3, tl⟩ := bt3.cells
        go_wp2_with fail
        refine hK.out _ _ trivial (fun hH => ?_)
        clear hK K hu5
        (try simp only [Act.put, List.setIfInBounds_toArray, List.set_cons_zero, List.set_cons_succ])
        refine wT 5 hH ?_
        refine wT 6 hH ?_
        refine wT 7 hH ?_
        refine wpAnyH_ready (rs := [8]) (by kernel_rfl) (by simp) ?_
        refine wC (fun K hK => ?_) AllReadyH.nil
        go_simp
        refine hK.out _ _ trivial (fun hH => ?_)
        clear hK K
        (try simp only [Act.put, List.setIfInBounds_toArray, List.set_cons_zero, List.set_cons_succ])
        refine wpAnyH_done (by kernel_rfl) ?_ _
        have bt4 := bt3.setB y
        have hr6 := hr5.setO (o := 2) (.int .u64 (y : Int)) hg1
        have bz4 := bz3.setO (o := 2) (.int .u64 (y : Int)) hg2
        have hu6 := hu3.setNew (o := 2) (.int .u64 (y : Int)) hg3
        go_wp2_with fail
        go_roundw
        case rel => exact ⟨f, kk + 1, y, j2, er2, by go_num, by omega, HB2, bt4, bz4, hr6, hj2, hu6, hst2⟩
        case measure => simp [intOf]; omega
      · go_simp
        refine (hn2.out _ hr3).mono ?_; rintro e w5 ⟨rfl, hu5, hr5⟩
        replace bt3 := bt3.upd hu5 hg1
        replace bz3 := bz3.upd hu5 hg0
        replace hu3 := hu3.trans hu5
        clear t0 t1 t2 t3 tf0 tf1 tf2 tf3 tl
        obtain ⟨t0, t1, t2, t3, tf0, tf1, tf2, tf3, tl⟩ := bt3.cells
        go_wp2_with fail
        refine hK.out _ _ trivial (fun hH => ?_)
        clear hK K hu5
        (try simp only [Act.put, List.setIfInBounds_toArray, List.set_cons_zero, List.set_cons_succ])
        refine wT 5 hH ?_
        refine wpAnyH_ready (rs := [1]) (by kernel_rfl) (by simp) ?_
        refine wC (fun K hK => ?_) AllReadyH.nil
        go_simp
        refine hK.out _ _ trivial (fun hH => ?_)
        clear hK K
        (try simp only [Act.put, List.setIfInBounds_toArray, List.set_cons_zero, List.set_cons_succ])
        refine wT 2 hH ?_
        refine wT 6 hH ?_
        refine wT 7 hH ?_
        refine wpAnyH_ready (rs := [8]) (by kernel_rfl) (by simp) ?_
        refine wC (fun K hK => ?_) AllReadyH.nil
        go_simp
        refine hK.out _ _ trivial (fun hH => ?_)
        clear hK K
        (try simp only [Act.put, List.setIfInBounds_toArray, List.set_cons_zero, List.set_cons_succ])
        refine wpAnyH_done (by kernel_rfl) ?_ _
        have bt4 := bt3.setB y
        have hr6 := hr5.setO (o := 2) (.int .u64 (y : Int)) hg1
        have bz4 := bz3.setO (o := 2) (.int .u64 (y : Int)) hg2
        have hu6 := hu3.setNew (o := 2) (.int .u64 (y : Int)) hg3
        go_wp2_with fail
        go_roundw
        case rel => exact ⟨f, kk + 1, y, j2, er2, by go_num, by omega, HB2, bt4, bz4, hr6, hj2, hu6, hst2⟩
        case measure => simp [intOf]; omega
/-- the reference's value of a reader -/
theorem valueX_rd (g : Nat) (s : ByteArray) (i : Nat) (w : World) (hr : Rfx w g s i 0) (hi : i ≤ s.size) (hs : s.size ≤ 1000000000) :
    Calls Try.prog 92 #[.pointer (some ⟨g, 0, none⟩)] w (ToldX (fun _ : Cd.V => True) vvV g s (Cd.valueR s i) w) := by
  by_cases hi1 : i < s.size
  · by_cases h0 : s[i].toNat = 0
    · exact valueX_0 g s i w hr hi hs hi1 h0
    by_cases h1 : s[i].toNat = 1
    · exact valueX_1 g s i w hr hi hs hi1 h1
    by_cases h2 : s[i].toNat = 2
    · exact valueX_2 g s i w hr hi hs hi1 h2
    by_cases h3 : s[i].toNat = 3
    · exact valueX_3 g s i w hr hi hs hi1 h3
    by_cases h4 : s[i].toNat = 4
    · exact valueX_4 g s i w hr hi hs hi1 h4
    by_cases h5 : s[i].toNat = 5
    · exact valueX_5 g s i w hr hi hs hi1 h5
    exact valueX_more g s i w hr hi hs hi1 _ rfl (by omega)
  · exact valueX_no g s i w hr hi hs (by omega)
end Go.Proofs.Ytmcneelapghfcaa

namespace Go.Proofs.Ytmcneelapghfcaa
open Go.RowKit

theorem value_errs (s : ByteArray) (i : Nat) (x : Int) (h : Cd.valueR s i = .error x) : x ≠ 0 := by
  have hn : ∀ j y, Cd.nextR s.data.toList j = .error y → y ≠ 0 := by
    intro j y hy
    unfold Cd.nextR at hy
    split at hy
    · cases hy; decide
    · cases hy
  have hb : ∀ f b j y, Cd.bitsF s.data.toList f b j = .error y → y ≠ 0 := by
    intro f
    induction f with
    | zero => intro b j y hy; cases hy
    | succ f ih =>
      intro b j y hy
      unfold Cd.bitsF at hy
      split at hy
      · cases hy; decide
      · exact ih _ _ _ hy
  have hraw : ∀ y, Cd.rawR s i = .error y → y ≠ 0 := by
    intro y hy
    unfold Cd.rawR at hy
    split at hy
    · rename_i hq; cases hy; exact hn _ _ hq
    · split at hy
      · split at hy
        · rename_i hq; cases hy; exact hn _ _ hq
        · cases hy
      · split at hy
        · split at hy
          · rename_i hq; cases hy; have := Cd.int_errs s _ _ hq; omega
          · cases hy
        · split at hy
          · split at hy
            · rename_i hq; cases hy; exact hb _ _ _ _ hq
            · cases hy
          · split at hy
            · split at hy
              · rename_i hq; cases hy; have := Cd.text_errs 4096 s _ _ hq; omega
              · cases hy
            · cases hy
  unfold Cd.valueR at h
  split at h
  · rename_i hq; cases h; exact hraw _ hq
  · split at h
    · cases h
    · cases h; decide
end Go.Proofs.Ytmcneelapghfcaa

namespace Go.Proofs.Ytmcneelapghfcaa
open Go.RowKit

/-- what Row of the reference's leaves, whatever was wrong before -/
def TopRowX (g : Nat) (s : ByteArray) (r : List Cd.V × Nat × Int) (w : World) (e : Ending) (w' : World) : Prop :=
  (∃ v', e = .returned v' ∧ w'.ownsRow w.heap.size 36 4 v' r.1.length (vcells r.1)) ∧ Upd g w w' ∧ Rfx w' g s r.2.1 r.2.2 ∧ r.2.1 ≤ s.size
/-- a value, read -/
def StV (g : Nat) (s : ByteArray) (i : Nat) (w : World) (e : Ending) (w' : World) : Prop :=
  ∃ x j er, e = .returned (vvV x) ∧ Upd g w w' ∧ Rfx w' g s j er ∧ j ≤ s.size ∧ ((er = 0 ∧ Cd.valueR s i = .ok (x, j)) ∨ (er ≠ 0 ∧ Cd.valueR s i = .error er))
theorem valueX_st (g : Nat) (s : ByteArray) (i : Nat) (w : World) (hr : Rfx w g s i 0) (hi : i ≤ s.size) (hs : s.size ≤ 1000000000) :
    Calls Try.prog 92 #[.pointer (some ⟨g, 0, none⟩)] w (StV g s i w) := by
  refine (valueX_rd g s i w hr hi hs).mono ?_
  rintro e w' ⟨x, rfl, hu, hm⟩
  cases hres : Cd.valueR s i with
  | error y =>
    rw [hres] at hm
    obtain ⟨-, j, hR, hj⟩ := hm
    exact ⟨x, j, y, rfl, hu, hR, hj, .inr ⟨value_errs s i y hres, hres⟩⟩
  | ok p =>
    obtain ⟨y, j⟩ := p
    rw [hres] at hm
    obtain ⟨rfl, hR, hj⟩ := hm
    exact ⟨x, j, 0, rfl, hu, hR, hj, .inl ⟨rfl, hres⟩⟩
/-- how far a row is read -/
def RowSt (s : ByteArray) (i n kk : Nat) (l : List Cd.V) (j : Nat) (er : Int) : Prop :=
  (er = 0 ∧ Cd.rowR s i = joinRow l (Cd.rowF s (n - kk) j)) ∨ (er ≠ 0 ∧ Cd.rowR s i = .error er)
theorem RowSt.next {s : ByteArray} {i n kk : Nat} {l : List Cd.V} {j j2 : Nat} {er2 : Int} {x : Cd.V} (h : RowSt s i n kk l j 0) (hk : kk < n) (hx : (er2 = 0 ∧ Cd.valueR s j = .ok (x, j2)) ∨ (er2 ≠ 0 ∧ Cd.valueR s j = .error er2)) :
    RowSt s i n (kk + 1) (l ++ [x]) j2 er2 := by
  rcases h with ⟨-, h⟩ | ⟨h, -⟩
  · obtain ⟨f, hf⟩ : ∃ f, n - kk = f + 1 := ⟨n - kk - 1, by omega⟩
    have hf2 : n - (kk + 1) = f := by omega
    rw [hf, join_next] at h
    rcases hx with ⟨rfl, hx⟩ | ⟨hn, hx⟩
    · rw [hx] at h
      exact .inl ⟨rfl, by rw [h, hf2]⟩
    · rw [hx] at h
      exact .inr ⟨hn, h⟩
  · exact absurd rfl h
theorem top_rowerr {s : ByteArray} {i : Nat} {x : Int} (h : Cd.rowR s i = .error x) : Cd.top [] (Cd.rowR s) i 0 = ([], i, x) := by
  unfold Cd.top; rw [if_neg (by simp), h]
theorem top_rowok {s : ByteArray} {i j : Nat} {l : List Cd.V} (h : Cd.rowR s i = .ok (l, j)) : Cd.top [] (Cd.rowR s) i 0 = (l, j, 0) := by
  unfold Cd.top; rw [if_neg (by simp), h]

set_option maxRecDepth 100000 in
set_option maxHeartbeats 3200000 in
theorem mRowX_was (g : Nat) (s : ByteArray) (i : Nat) (er : Int) (w : World) (hr : Rfx w g s i er) (hi : i ≤ s.size) (he : er ≠ 0) :
    Calls Try.prog 54 #[.pointer (some ⟨g, 0, none⟩)] w (TopRowX g s (Cd.top [] (Cd.rowR s) i er) w) := by
  have h := hid (uintX_was g s i er w hr he)
  have HT : Hid (Cd.top [] (Cd.rowR s) i er = ([], i, er)) := by show _ = _; unfold Cd.top; rw [if_pos he]
  have hend := hid (fun W h => endX_no g s i i er W h he)
  have c1 := hr.cells.2.1
  have c2 := hr.cells.2.2.1
  go_enter Try.func54, Try.ntmps54
  go_wp2_with fail
  refine (h.out).mono ?_; rintro e w1 ⟨rfl, rfl⟩
  go_wp2_with fail
  go_loopw [5, 6] (fun o q wr => o = .slice none 0 0 ∧ q = .int .i64 0 ∧ wr = w) (fun _ _ _ => 0)
  case atStart => exact ⟨rfl, rfl, rfl⟩
  case round =>
    obtain ⟨rfl, rfl, rfl⟩ := hrel
    go_wp2_with fail
    refine (hend.out _ hr).mono ?_; rintro e w2 ⟨rfl, hu2, hR2⟩
    go_wp2_with fail
    go_ret
    rw [HT.out]
    exact ⟨⟨_, rfl, World.ownsRow_nil _ _ _ _⟩, hu2, hR2, hi⟩
set_option maxRecDepth 100000 in
set_option maxHeartbeats 6400000 in
theorem mRowX_no (g : Nat) (s : ByteArray) (i : Nat) (w : World) (hr : Rfx w g s i 0) (hi : i ≤ s.size) (hs : s.size ≤ 1000000000) (x : Int) (hu : Cd.uintR s.data.toList i = .error x) :
    Calls Try.prog 54 #[.pointer (some ⟨g, 0, none⟩)] w (TopRowX g s (Cd.top [] (Cd.rowR s) i 0) w) := by
  have h := hid (uintX_rd g s i w hr hi hs)
  have hx : x ≠ 0 := by have := Cd.uint_errs s i x hu; omega
  have HT := hid (top_rowerr (s := s) (i := i) (x := x) (by unfold Cd.rowR; rw [hu]))
  have hend := hid (fun W j h => endX_no g s j i x W h hx)
  have c1 := hr.cells.2.1
  rw [hu] at h
  clear hu
  go_enter Try.func54, Try.ntmps54
  go_wp2_with fail
  refine (h.out).mono ?_; rintro e w1 ⟨y, rfl, hu, rfl, j, hR, hj⟩
  clear c1
  go_wp2_with fail
  go_loopw [5, 6] (fun o q wr => o = .slice none 0 0 ∧ q = .int .i64 0 ∧ wr = w1) (fun _ _ _ => 0)
  case atStart => exact ⟨rfl, rfl, rfl⟩
  case round =>
    obtain ⟨rfl, rfl, rfl⟩ := hrel
    go_wp2_with fail
    refine (hend.out _ _ hR).mono ?_; rintro e w2 ⟨rfl, hu2, hR2⟩
    go_wp2_with fail
    go_ret
    rw [HT.out]
    exact ⟨⟨_, rfl, World.ownsRow_nil _ _ _ _⟩, hu.trans hu2, hR2, hi⟩
set_option maxRecDepth 100000 in
set_option maxHeartbeats 6400000 in
theorem mRowX_big (g : Nat) (s : ByteArray) (i : Nat) (w : World) (hr : Rfx w g s i 0) (hi : i ≤ s.size) (hs : s.size ≤ 1000000000) (n j : Nat) (hu : Cd.uintR s.data.toList i = .ok (n, j)) (hn : 1000 < n) :
    Calls Try.prog 54 #[.pointer (some ⟨g, 0, none⟩)] w (TopRowX g s (Cd.top [] (Cd.rowR s) i 0) w) := by
  have h := hid (uintX_rd g s i w hr hi hs)
  have HT := hid (top_rowerr (s := s) (i := i) (x := 19) (by unfold Cd.rowR; rw [hu]; dsimp only; rw [if_pos hn]))
  have hend := hid (fun W j h => endX_no g s j i 19 W h (by decide))
  have hfail := hid (fun W h => failX_new g s j 19 W h)
  have c1 := hr.cells.2.1
  have hn' : (1000 : Int) < (n : Int) := by omega
  obtain ⟨m, hm⟩ : ∃ m, IntKind.i64.wrap (n : Int) = m := ⟨_, rfl⟩
  have hm2 : wrap64 (n : Int) = m := (IntWalk.i64_left _).symm.trans hm
  rw [hu] at h
  clear hu
  go_enter Try.func54, Try.ntmps54
  go_wp2_with fail
  refine (h.out).mono ?_; rintro e w1 ⟨y, rfl, hu, rfl, hR, hj⟩
  clear c1
  go_wp2_with fail
  refine (hfail.out _ hR).mono ?_; rintro e w2 ⟨⟨vf, rfl⟩, hu2, hR2⟩
  have c2 := hR2.cells.2.2.1
  clear hn hR h hfail
  go_wp2_with fail
  go_loopw [5, 6] (fun o q wr => o = .slice none 0 0 ∧ q = .int .i64 0 ∧ wr = w2) (fun _ _ _ => 0)
  case atStart => exact ⟨rfl, rfl, rfl⟩
  case round =>
    obtain ⟨rfl, rfl, rfl⟩ := hrel
    go_wp2_with fail
    all_goals
      refine (hend.out _ _ hR2).mono ?_; rintro e w3 ⟨rfl, hu3, hR3⟩
      go_wp2_with fail
      go_ret
      rw [HT.out]
      exact ⟨⟨_, rfl, World.ownsRow_nil _ _ _ _⟩, (hu.trans hu2).trans hu3, hR3, hi⟩
set_option maxRecDepth 100000 in
set_option maxHeartbeats 6400000 in
theorem mRowX_row (g : Nat) (s : ByteArray) (i : Nat) (w : World) (hr : Rfx w g s i 0) (hi : i ≤ s.size) (hs : s.size ≤ 1000000000) (n j0 : Nat) (hu : Cd.uintR s.data.toList i = .ok (n, j0)) (hn : n ≤ 1000) :
    Calls Try.prog 54 #[.pointer (some ⟨g, 0, none⟩)] w (TopRowX g s (Cd.top [] (Cd.rowR s) i 0) w) := by
  have h := hid (uintX_rd g s i w hr hi hs)
  have hgw : g < w.heap.size := hr.cells.2.2.2.2.2
  have hE0 : Hid (RowSt s i n 0 [] j0 0) := .inl ⟨rfl, by unfold Cd.rowR; rw [hu]; dsimp only; rw [if_neg (by omega)]; show Cd.rowF s n j0 = joinRow [] (Cd.rowF s n j0); cases Cd.rowF s n j0 with | error e => rfl | ok q => rfl⟩
  have c1 := hr.cells.2.1
  have hn' : ¬ (1000 : Int) < (n : Int) := by omega
  have hcv : IntKind.i64.wrap (n : Int) = (n : Int) := IntWalk.i64_in _ (by omega)
  rw [hu] at h
  clear hu
  go_enter Try.func54, Try.ntmps54
  go_wp2_with fail
  refine (h.out).mono ?_; rintro e w1 ⟨y, rfl, hu, rfl, hR, hj⟩
  clear c1 h hr
  go_wp2_with fail
  go_loopw [5, 6] (fun o q wr => ∃ (kk j : Nat) (l : List Cd.V) (er : Int), q = .int .i64 (kk : Int) ∧ kk ≤ y ∧ Hid (l.length = kk) ∧ l.length ≤ 1000000 ∧ wr.ownsRow w.heap.size 36 4 o l.length (vcells l) ∧ Rfx wr g s j er ∧ j ≤ s.size ∧ Upd g w wr ∧ Hid (RowSt s i y kk l j er)) (fun _ q _ => y - (intOf q).toNat)
  case atStart => exact ⟨0, j0, [], 0, rfl, by omega, rfl, by simp, World.ownsRow_nil _ _ _ _, hR, hj, hu, hE0⟩
  case round =>
    obtain ⟨kk, j, l, er, rfl, hk, hll, hl6, hown, hrj, hj2, hu2, hst⟩ := hrel
    clear hu hR hE0
    obtain ⟨w4, rfl⟩ : ∃ w4 : World, w4 = wr := ⟨_, rfl⟩
    have c2 := hrj.cells.2.2.1
    have hO := hid hown
    clear hown
    by_cases he : er = 0
    · subst he
      have c1b := hrj.cells.2.1
      by_cases hkn : kk < y
      · have hv := hid (valueX_st g s j w4 hrj hj2 hs)
        clear c1b
        go_wp2_with fail
        refine (hv.out).mono ?_; rintro e w5 ⟨x, m, er2, rfl, hu5, hr5, hm, hx⟩
        have HST := hid (RowSt.next hst.out hkn hx)
        have hO5 := hid (hO.out.kept hu5 (Or.inr (fun e => by have := (hO.out.lt g e).1; omega)))
        have hu25 := hu2.trans hu5
        have hB5 := hu25.size
        clear hu5 hO hv hx hst c2
        unfold vvV vv
        go_wp2_with (at_builtin; refine append_value _ rfl _ _ rfl w.heap.size _ l rfl hO5.out x _ (by first | rfl | (simp; done)) rfl hl6 hB5 ?_; intro v6 w6 hown6 hgrow6; have hO6 := hid hown6; have hr6 : Rfx w6 g s m er2 := (hgrow6.block g hr5.cells.2.2.2.2.2 (fun e => by have := (hO5.out.lt g e.symm).1; omega)).trans hr5; have hu6 : Upd g w w6 := ⟨hgrow6.os.trans hu25.os, hgrow6.tape.trans hu25.tape, hgrow6.output.trans hu25.output, Nat.le_trans hu25.size hgrow6.size, fun k hk hn => (hgrow6.block k (Nat.lt_of_lt_of_le hk hu25.size) (fun e => by have := (hO5.out.lt k e.symm).1; omega)).trans (hu25.block k hk hn)⟩; clear hown6 hgrow6)
        go_roundw
        case rel => exact ⟨kk + 1, m, l ++ [x], er2, by go_num, by omega, (by show _ = _; rw [List.length_append, hll.out]; rfl), (by rw [List.length_append, hll.out]; simp; omega), hO6.out, hr6, hm, hu6, HST⟩
        case measure => simp [intOf]; omega
      · obtain rfl : kk = y := by omega
        have HE : Hid (Cd.top [] (Cd.rowR s) i 0 = (l, j, 0)) := by
          rcases hst.out with ⟨-, hh⟩ | ⟨hh, -⟩
          · rw [Nat.sub_self, join_end] at hh
            exact top_rowok hh
          · exact absurd rfl hh
        have hend := hid (endX_ok g s j i w4 hrj)
        clear hst
        go_wp2_with fail
        refine (hend.out).mono ?_; rintro e w5 ⟨rfl, rfl⟩
        go_wp2_with fail
        go_ret
        rw [HE.out]
        exact ⟨⟨_, rfl, hO.out⟩, hu2, hrj, hj2⟩
    · have HE : Hid (Cd.top [] (Cd.rowR s) i 0 = ([], i, er)) := by
        rcases hst.out with ⟨hh, -⟩ | ⟨-, hh⟩
        · exact absurd hh he
        · exact top_rowerr hh
      have hq : (er == 0) = false := by rw [beq_eq_false_iff_ne]; exact he
      have hend := hid (endX_no g s j i er w4 hrj he)
      clear hst hrj
      by_cases hkn : kk < y
      all_goals
        go_wp2_with fail
        refine (hend.out).mono ?_; rintro e w5 ⟨rfl, hu5, hr5⟩
        go_wp2_with fail
        go_ret
        rw [HE.out]
        exact ⟨⟨_, rfl, World.ownsRow_nil _ _ _ _⟩, hu2.trans hu5, hr5, hi⟩
theorem mRowX (g : Nat) (s : ByteArray) (i : Nat) (er : Int) (w : World) (hr : Rfx w g s i er) (hi : i ≤ s.size) (hs : s.size ≤ 1000000000) :
    Calls Try.prog 54 #[.pointer (some ⟨g, 0, none⟩)] w (TopRowX g s (Cd.top [] (Cd.rowR s) i er) w) := by
  by_cases he : er = 0
  · subst he
    cases hu : Cd.uintR s.data.toList i with
    | error x => exact mRowX_no g s i w hr hi hs x hu
    | ok p =>
      obtain ⟨n, j⟩ := p
      by_cases hn : 1000 < n
      · exact mRowX_big g s i w hr hi hs n j hu hn
      · exact mRowX_row g s i w hr hi hs n j hu (by omega)
  · exact mRowX_was g s i er w hr hi he
end Go.Proofs.Ytmcneelapghfcaa
