/-
  The layers below: the program's readers.
-/
import Derived.Test.YtmcneelapghfcaaCa
import Derived.WalkSmall
import Derived.Defers
import Derived.Recover
import Derived.Laws.Pointers
import Derived.Lib.SlicesS
import Derived.Lib.SmallJoins
import Derived.Deep.SlicePairs

namespace Go.Proofs.Ytmcneelapghfcaa
open Go.RowKit

/-- a reader: its text, its place, what is wrong -/
def Rdr (w : World) (g : Nat) (s : ByteArray) (i : Nat) (er : Int) : Prop := w.heap[g]? = some (.cells #[.string s, .int .i64 (i : Int), .int .i64 er] 117 (0, 0))
theorem Rdr.cells {w : World} {g : Nat} {s : ByteArray} {i : Nat} {er : Int} (h : Rdr w g s i er) : w.cell? ⟨g, 0, none⟩ = some (.string s) ∧ w.cell? ⟨g, 1, none⟩ = some (.int .i64 (i : Int)) ∧ w.cell? ⟨g, 2, none⟩ = some (.int .i64 er) ∧
    w.frozen? ⟨g, 1, none⟩ = false ∧ w.frozen? ⟨g, 2, none⟩ = false ∧ g < w.heap.size :=
  ⟨cell_of_row w g 0 _ _ _ h, cell_of_row w g 1 _ _ _ h, cell_of_row w g 2 _ _ _ h, frozen_of_row w g 1 _ _ h, frozen_of_row w g 2 _ _ h, (Array.getElem?_eq_some_iff.1 h).1⟩
theorem Rdr.keep {w w' : World} {g : Nat} {s : ByteArray} {i : Nat} {er : Int} (h : Rdr w g s i er) (hb : Below w.heap.size w w') : Rdr w' g s i er := keepBlock h hb
theorem Rdr.setAt {w : World} {g : Nat} {s : ByteArray} {i : Nat} {er : Int} (h : Rdr w g s i er) (j : Int) : (w.setCell ⟨g, 1, none⟩ (.int .i64 j)).heap[g]? = some (.cells #[.string s, .int .i64 j, .int .i64 er] 117 (0, 0)) :=
  heap_setCell_same w g 1 _ _ (.int .i64 j) h
theorem Upd.set (g o : Nat) (w : World) (v : Value) : Upd g w (w.setCell ⟨g, o, none⟩ v) := by
  have hb : Below g w (w.setCell ⟨g, o, none⟩ v) := (Below.refl g w).setCell (p := ⟨g, o, none⟩) (Nat.le_refl _) v
  exact ⟨hb.os, hb.tape, hb.output, hb.size, fun i _ hn => heap_setCell_other w ⟨g, o, none⟩ i v (by simpa [eq_comm] using hn)⟩
/-- what a read panics with -/
def fault (e : Int) : Value := .iface 135 (.agg #[.int .i64 e])

/-- what a read leaves: of what it tells, P is the value -/
def Told {α : Type} (P : α → Value) (g : Nat) (s : ByteArray) (er : Int) (r : Cd.R α) (w : World) (e : Ending) (w' : World) : Prop :=
  Upd g w w' ∧ match r with
    | .ok (x, j) => e = .returned (P x) ∧ Rdr w' g s j er ∧ j ≤ s.size
    | .error x => e = .panicked [{ v := fault x, recovered := false }] ∧ ∃ j, Rdr w' g s j er ∧ j ≤ s.size

set_option maxRecDepth 100000 in
theorem next_no (g : Nat) (s : ByteArray) (i : Nat) (er : Int) (w : World) (hr : Rdr w g s i er) (hi : s.size ≤ i) :
    Calls Try.prog 105 #[.pointer (some ⟨g, 0, none⟩)] w fun e w' => e = .panicked [{ v := fault 8, recovered := false }] ∧ Upd g w w' ∧ Rdr w' g s i er := by
  obtain ⟨c0, c1, c2, f1, f2, hg⟩ := hr.cells
  have hd : decide ((s.size : Int) ≤ (i : Int)) = true := by simp; omega
  go_enter Try.func105, Try.ntmps105
  go_wp2_with fail
  go_quiet (fail)
  go_wp2
  exact ⟨rfl, rfl, Upd.of (hdrewN (Below.refl _ _) nq), hr⟩

set_option maxRecDepth 100000 in
theorem next_ok (g : Nat) (s : ByteArray) (i : Nat) (er : Int) (w : World) (hr : Rdr w g s i er) (hi : i < s.size) (hs : i ≤ 1000000000) :
    Calls Try.prog 105 #[.pointer (some ⟨g, 0, none⟩)] w fun e w' => e = .returned (.int .u8 (s[i].toNat : Int)) ∧ Upd g w w' ∧ Rdr w' g s (i + 1) er := by
  obtain ⟨c0, c1, c2, f1, f2, hg⟩ := hr.cells
  have hd : decide ((s.size : Int) ≤ (i : Int)) = false := by simp; omega
  have hi' : (i : Int) < s.size := by omega
  go_enter Try.func105, Try.ntmps105
  go_wp2_with fail
  go_quiet (fail)
  go_wp2_with fail
  have hr3 : Rdr ((w.drewN nq).setCell ⟨g, 1, none⟩ (.int .i64 ((i : Int) + 1))) g s (i + 1) er := Rdr.setAt (w := w.drewN nq) hr _
  have hu3 : Upd g w ((w.drewN nq).setCell ⟨g, 1, none⟩ (.int .i64 ((i : Int) + 1))) := (Upd.of (hdrewN (Below.refl _ _) nq)).trans (Upd.set g 1 _ _)
  generalize (w.drewN nq).setCell ⟨g, 1, none⟩ (.int .i64 ((i : Int) + 1)) = w3 at *
  clear c0 c1 c2 f1 f2 hd
  have c0 := hr3.cells.1
  have c1 : w3.cell? ⟨g, 1, none⟩ = some (.int .i64 ((i : Int) + 1)) := hr3.cells.2.1
  have hw1 : (i : Int) + 1 - 1 = (i : Int) := by omega
  have hw2 : IntKind.i64.wrap (i : Int) = (i : Int) := IntWalk.i64_in _ (by omega)
  have hw3 : IntKind.i64.wrap ((i : Int) + 1 - 1) = (i : Int) := by rw [hw1]; exact hw2
  have hi0 : (0 : Int) ≤ (i : Int) := by omega
  have hR3 := hid hr3
  have hU3 := hid hu3
  clear hr3 hu3 hr
  go_quiet (fail)
  go_wp2_with fail
  go_ret
  exact ⟨rfl, hU3.out.trans (Upd.of (hdrewN (Below.refl _ _) _)), hR3.out⟩

theorem uintF_next (l : List UInt8) (f k n i : Nat) (hi : i < l.length) : Cd.uintF l (f + 1) k n i = if (l[i].toNat = 0 ∧ 0 < k) ∨ (k = 9 ∧ 1 < l[i].toNat) then .error 7
      else if l[i].toNat < 128 then .ok (n + l[i].toNat * 128 ^ k, i + 1) else Cd.uintF l f (k + 1) (n + l[i].toNat % 128 * 128 ^ k) (i + 1) := by
  show (match l[i]? with | none => _ | some c => _) = _
  rw [List.getElem?_eq_getElem hi]
theorem uintF_end (l : List UInt8) (f k n i : Nat) (hi : l.length ≤ i) : Cd.uintF l (f + 1) k n i = .error 8 := by
  show (match l[i]? with | none => _ | some c => _) = _
  rw [List.getElem?_eq_none hi]

theorem Told.mk_ok {α : Type} {P : α → Value} {g : Nat} {s : ByteArray} {er : Int} {r : Cd.R α} {w w' : World} {e : Ending} {x : α} {j : Nat} (hr : r = .ok (x, j)) (hu : Upd g w w') (he : e = .returned (P x)) (hR : Rdr w' g s j er) (hj : j ≤ s.size) : Told P g s er r w e w' := by
  subst hr; exact ⟨hu, he, hR, hj⟩
theorem Told.mk_err {α : Type} {P : α → Value} {g : Nat} {s : ByteArray} {er : Int} {r : Cd.R α} {w w' : World} {e : Ending} {x : Int} {j : Nat} (hr : r = .error x) (hu : Upd g w w') (he : e = .panicked [{ v := fault x, recovered := false }]) (hR : Rdr w' g s j er) (hj : j ≤ s.size) : Told P g s er r w e w' := by
  subst hr; exact ⟨hu, he, j, hR, hj⟩
theorem or_word (nn x kk P : Nat) (hP : P = 128 ^ kk) (h : nn < 128 ^ kk) (h64 : nn < 18446744073709551616) (hb : x * P < 18446744073709551616) : bits .or .u64 (nn : Int) ((x : Int) * (P : Int)) = ((nn + x * 128 ^ kk : Nat) : Int) := by
  have e : 128 ^ kk = 2 ^ (7 * kk) := by rw [Nat.pow_mul]
  have hx : x = 0 ∨ 1 ≤ x := by omega
  rcases hx with rfl | hx
  · have hh := bits_or_u64_nat nn 0 h64 (by decide)
    rw [Nat.or_zero] at hh
    simpa using hh
  · have hh := bits_or_u64_nat nn (x * P) h64 hb
    rw [Int.natCast_mul] at hh
    rw [hh, Nat.or_comm, hP, e, ← Nat.shiftLeft_eq, ← Nat.shiftLeft_add_eq_or_of_lt (by rw [← e]; exact h)]
    rw [Nat.add_comm]
theorem or_int (nn c kk P : Nat) (Q : Int) (hQ : Q = (P : Int)) (hP : P = 128 ^ kk) (h : nn < 128 ^ kk) (hk : kk ≤ 9) (hb : c % 128 * P < 18446744073709551616) : bits .or .u64 (nn : Int) ((c : Int) % 128 * Q) = ((nn + c % 128 * 128 ^ kk : Nat) : Int) := by
  subst hQ
  have h2 : 128 ^ kk ≤ 128 ^ 9 := Nat.pow_le_pow_right (by decide) hk
  have h64 : nn < 18446744073709551616 := Nat.lt_of_lt_of_le h (Nat.le_trans h2 (by decide))
  have := or_word nn (c % 128) kk P hP h h64 hb
  rwa [Int.natCast_emod] at this

set_option maxRecDepth 100000 in
set_option maxHeartbeats 6400000 in
theorem uint_rd (g : Nat) (s : ByteArray) (i : Nat) (er : Int) (w : World) (hr : Rdr w g s i er) (hi : i ≤ s.size) (hs : s.size ≤ 1000000000) :
    Calls Try.prog 80 #[.pointer (some ⟨g, 0, none⟩)] w (Told (fun n : Nat => .int .u64 (n : Int)) g s er (Cd.uintR s.data.toList i) w) := by
  have hlen : s.data.toList.length = s.size := by simp
  have HL := hid hlen
  clear hlen
  go_enter Try.func80, Try.ntmps80
  go_wp2_with fail
  go_loopw [3, 6] (fun n k wr => ∃ (f kk nn j : Nat), k = .int .i64 (kk : Int) ∧ kk + f = 9 ∧ n = .int .u64 (nn : Int) ∧ Hid (nn < 128 ^ kk) ∧ Rdr wr g s j er ∧ j ≤ s.size ∧ Upd g w wr ∧ Hid (Cd.uintF s.data.toList (f + 1) kk nn j = Cd.uintR s.data.toList i)) (fun _ k _ => 10 - (intOf k).toNat)
  case atStart => exact ⟨9, 0, 0, i, rfl, rfl, rfl, by show _ < _; decide, hr, hi, Upd.refl _ _, rfl⟩
  case round =>
    obtain ⟨f, kk, nn, j, rfl, hkf, rfl, hnn, hrj, hj, hu, hE⟩ := hrel
    clear hr
    obtain ⟨w4, rfl⟩ : ∃ w4 : World, w4 = wr := ⟨_, rfl⟩
    by_cases hjs : j < s.size
    · have HN := hid (uintF_next s.data.toList f kk nn j (by rw [HL.out]; exact hjs))
      have hgc : s.data.toList[j]'(by rw [HL.out]; exact hjs) = s[j] := rfl
      rw [hgc] at HN
      clear hgc
      have hnext := hid (next_ok g s j er w4 hrj hjs (by omega))
      have hcl := s[j].toNat_lt
      generalize s[j].toNat = c at HN hnext hcl
      rcases (show kk = 0 ∨ kk = 1 ∨ kk = 2 ∨ kk = 3 ∨ kk = 4 ∨ kk = 5 ∨ kk = 6 ∨ kk = 7 ∨ kk = 8 ∨ kk = 9 by omega) with rfl | rfl | rfl | rfl | rfl | rfl | rfl | rfl | rfl | rfl
      · by_cases h0 : c = 0
        · have e0 : ((c : Int) == 0) = true := by rw [beq_iff_eq]; omega
          have e1 : (c : Int) < 128 := by omega
          have HO : Hid (bits .or .u64 (nn : Int) ((c : Int) % 128) = ((nn + c % 128 * 128 ^ 0 : Nat) : Int)) := by have := or_int nn c 0 1 1 rfl (by decide) hnn.out (by omega) (by omega); rwa [Int.mul_one] at this
          have HO2 : Hid (c = 0 → bits .or .u64 (nn : Int) 0 = ((nn + c * 128 ^ 0 : Nat) : Int)) := fun h => by have := HO.out; rw [h] at this ⊢; exact this
          have HE : Hid (Cd.uintR s.data.toList i = .ok (nn + c * 128 ^ 0, j + 1)) := by show _ = _; rw [← hE.out, HN.out, if_neg (by omega), if_pos (by omega)]
          clear HN hE
          go_wp2_with fail
          refine (hnext.out).mono ?_; rintro e w5 ⟨rfl, hu5, hr5⟩
          go_wp2_with fail
          go_ret
          exact Told.mk_ok HE.out (hu.trans hu5) (ret_eq (by have ho := HO.out; rw [Nat.mod_eq_of_lt (show c < 128 by omega)] at ho; first | exact ho | exact HO2.out h0)) hr5 (by omega)
        · skip
          by_cases h1 : c < 128
          · have e0 : ((c : Int) == 0) = false := by rw [beq_eq_false_iff_ne]; omega
            have e1 : (c : Int) < 128 := by omega
            have HO : Hid (bits .or .u64 (nn : Int) ((c : Int) % 128) = ((nn + c % 128 * 128 ^ 0 : Nat) : Int)) := by have := or_int nn c 0 1 1 rfl (by decide) hnn.out (by omega) (by omega); rwa [Int.mul_one] at this
            have HO2 : Hid (c = 0 → bits .or .u64 (nn : Int) 0 = ((nn + c * 128 ^ 0 : Nat) : Int)) := fun h => by have := HO.out; rw [h] at this ⊢; exact this
            have HE : Hid (Cd.uintR s.data.toList i = .ok (nn + c * 128 ^ 0, j + 1)) := by show _ = _; rw [← hE.out, HN.out, if_neg (by omega), if_pos (by omega)]
            clear HN hE
            go_wp2_with fail
            refine (hnext.out).mono ?_; rintro e w5 ⟨rfl, hu5, hr5⟩
            go_wp2_with fail
            go_ret
            exact Told.mk_ok HE.out (hu.trans hu5) (ret_eq (by have ho := HO.out; rw [Nat.mod_eq_of_lt (show c < 128 by omega)] at ho; first | exact ho | exact HO2.out h0)) hr5 (by omega)
          · skip
            have e0 : ((c : Int) == 0) = false := by rw [beq_eq_false_iff_ne]; omega
            have e1 : ¬ (c : Int) < 128 := by omega
            have HO : Hid (bits .or .u64 (nn : Int) ((c : Int) % 128) = ((nn + c % 128 * 128 ^ 0 : Nat) : Int)) := by have := or_int nn c 0 1 1 rfl (by decide) hnn.out (by omega) (by omega); rwa [Int.mul_one] at this
            have HO2 : Hid (c = 0 → bits .or .u64 (nn : Int) 0 = ((nn + c * 128 ^ 0 : Nat) : Int)) := fun h => by have := HO.out; rw [h] at this ⊢; exact this
            have HE : Hid (Cd.uintF s.data.toList f 1 (nn + c % 128 * 128 ^ 0) (j + 1) = Cd.uintR s.data.toList i) := by show _ = _; rw [← hE.out, HN.out, if_neg (by omega), if_neg (by omega)]
            clear HN hE
            go_wp2_with fail
            refine (hnext.out).mono ?_; rintro e w5 ⟨rfl, hu5, hr5⟩
            go_wp2_with fail
            go_roundw
            case rel => exact ⟨f - 1, 1, nn + c % 128 * 128 ^ 0, j + 1, rfl, by omega, int_eq (by exact HO.out), by have := hnn.out; show _ < _; omega, hr5, by omega, hu.trans hu5, by have := HE.out; rwa [show f - 1 + 1 = f from by omega]⟩
            case measure => simp [intOf]
      · by_cases h0 : c = 0
        · have e0 : ((c : Int) == 0) = true := by rw [beq_iff_eq]; omega
          have HE : Hid (Cd.uintR s.data.toList i = .error 7) := by show _ = _; rw [← hE.out, HN.out, if_pos (by omega)]
          clear HN hE
          go_wp2_with fail
          refine (hnext.out).mono ?_; rintro e w5 ⟨rfl, hu5, hr5⟩
          go_wp2_with fail
          exact ⟨rfl, Told.mk_err HE.out (hu.trans hu5) rfl hr5 (by omega)⟩
        · skip
          by_cases h1 : c < 128
          · have e0 : ((c : Int) == 0) = false := by rw [beq_eq_false_iff_ne]; omega
            have e1 : (c : Int) < 128 := by omega
            have HO : Hid (bits .or .u64 (nn : Int) ((c : Int) % 128 * 128) = ((nn + c % 128 * 128 ^ 1 : Nat) : Int)) := or_int nn c 1 128 128 (by decide) (by decide) hnn.out (by omega) (by omega)
            have HE : Hid (Cd.uintR s.data.toList i = .ok (nn + c * 128 ^ 1, j + 1)) := by show _ = _; rw [← hE.out, HN.out, if_neg (by omega), if_pos (by omega)]
            clear HN hE
            go_wp2_with fail
            refine (hnext.out).mono ?_; rintro e w5 ⟨rfl, hu5, hr5⟩
            go_wp2_with fail
            go_ret
            exact Told.mk_ok HE.out (hu.trans hu5) (ret_eq (by have ho := HO.out; rw [Nat.mod_eq_of_lt (show c < 128 by omega)] at ho; first | exact ho | exact HO2.out h0)) hr5 (by omega)
          · skip
            have e0 : ((c : Int) == 0) = false := by rw [beq_eq_false_iff_ne]; omega
            have e1 : ¬ (c : Int) < 128 := by omega
            have HO : Hid (bits .or .u64 (nn : Int) ((c : Int) % 128 * 128) = ((nn + c % 128 * 128 ^ 1 : Nat) : Int)) := or_int nn c 1 128 128 (by decide) (by decide) hnn.out (by omega) (by omega)
            have HE : Hid (Cd.uintF s.data.toList f 2 (nn + c % 128 * 128 ^ 1) (j + 1) = Cd.uintR s.data.toList i) := by show _ = _; rw [← hE.out, HN.out, if_neg (by omega), if_neg (by omega)]
            clear HN hE
            go_wp2_with fail
            refine (hnext.out).mono ?_; rintro e w5 ⟨rfl, hu5, hr5⟩
            go_wp2_with fail
            go_roundw
            case rel => exact ⟨f - 1, 2, nn + c % 128 * 128 ^ 1, j + 1, rfl, by omega, int_eq (by exact HO.out), by have := hnn.out; show _ < _; omega, hr5, by omega, hu.trans hu5, by have := HE.out; rwa [show f - 1 + 1 = f from by omega]⟩
            case measure => simp [intOf]
      · by_cases h0 : c = 0
        · have e0 : ((c : Int) == 0) = true := by rw [beq_iff_eq]; omega
          have HE : Hid (Cd.uintR s.data.toList i = .error 7) := by show _ = _; rw [← hE.out, HN.out, if_pos (by omega)]
          clear HN hE
          go_wp2_with fail
          refine (hnext.out).mono ?_; rintro e w5 ⟨rfl, hu5, hr5⟩
          go_wp2_with fail
          exact ⟨rfl, Told.mk_err HE.out (hu.trans hu5) rfl hr5 (by omega)⟩
        · skip
          by_cases h1 : c < 128
          · have e0 : ((c : Int) == 0) = false := by rw [beq_eq_false_iff_ne]; omega
            have e1 : (c : Int) < 128 := by omega
            have HO : Hid (bits .or .u64 (nn : Int) ((c : Int) % 128 * 16384) = ((nn + c % 128 * 128 ^ 2 : Nat) : Int)) := or_int nn c 2 16384 16384 (by decide) (by decide) hnn.out (by omega) (by omega)
            have HE : Hid (Cd.uintR s.data.toList i = .ok (nn + c * 128 ^ 2, j + 1)) := by show _ = _; rw [← hE.out, HN.out, if_neg (by omega), if_pos (by omega)]
            clear HN hE
            go_wp2_with fail
            refine (hnext.out).mono ?_; rintro e w5 ⟨rfl, hu5, hr5⟩
            go_wp2_with fail
            go_ret
            exact Told.mk_ok HE.out (hu.trans hu5) (ret_eq (by have ho := HO.out; rw [Nat.mod_eq_of_lt (show c < 128 by omega)] at ho; first | exact ho | exact HO2.out h0)) hr5 (by omega)
          · skip
            have e0 : ((c : Int) == 0) = false := by rw [beq_eq_false_iff_ne]; omega
            have e1 : ¬ (c : Int) < 128 := by omega
            have HO : Hid (bits .or .u64 (nn : Int) ((c : Int) % 128 * 16384) = ((nn + c % 128 * 128 ^ 2 : Nat) : Int)) := or_int nn c 2 16384 16384 (by decide) (by decide) hnn.out (by omega) (by omega)
            have HE : Hid (Cd.uintF s.data.toList f 3 (nn + c % 128 * 128 ^ 2) (j + 1) = Cd.uintR s.data.toList i) := by show _ = _; rw [← hE.out, HN.out, if_neg (by omega), if_neg (by omega)]
            clear HN hE
            go_wp2_with fail
            refine (hnext.out).mono ?_; rintro e w5 ⟨rfl, hu5, hr5⟩
            go_wp2_with fail
            go_roundw
            case rel => exact ⟨f - 1, 3, nn + c % 128 * 128 ^ 2, j + 1, rfl, by omega, int_eq (by exact HO.out), by have := hnn.out; show _ < _; omega, hr5, by omega, hu.trans hu5, by have := HE.out; rwa [show f - 1 + 1 = f from by omega]⟩
            case measure => simp [intOf]
      · by_cases h0 : c = 0
        · have e0 : ((c : Int) == 0) = true := by rw [beq_iff_eq]; omega
          have HE : Hid (Cd.uintR s.data.toList i = .error 7) := by show _ = _; rw [← hE.out, HN.out, if_pos (by omega)]
          clear HN hE
          go_wp2_with fail
          refine (hnext.out).mono ?_; rintro e w5 ⟨rfl, hu5, hr5⟩
          go_wp2_with fail
          exact ⟨rfl, Told.mk_err HE.out (hu.trans hu5) rfl hr5 (by omega)⟩
        · skip
          by_cases h1 : c < 128
          · have e0 : ((c : Int) == 0) = false := by rw [beq_eq_false_iff_ne]; omega
            have e1 : (c : Int) < 128 := by omega
            have HO : Hid (bits .or .u64 (nn : Int) ((c : Int) % 128 * 2097152) = ((nn + c % 128 * 128 ^ 3 : Nat) : Int)) := or_int nn c 3 2097152 2097152 (by decide) (by decide) hnn.out (by omega) (by omega)
            have HE : Hid (Cd.uintR s.data.toList i = .ok (nn + c * 128 ^ 3, j + 1)) := by show _ = _; rw [← hE.out, HN.out, if_neg (by omega), if_pos (by omega)]
            clear HN hE
            go_wp2_with fail
            refine (hnext.out).mono ?_; rintro e w5 ⟨rfl, hu5, hr5⟩
            go_wp2_with fail
            go_ret
            exact Told.mk_ok HE.out (hu.trans hu5) (ret_eq (by have ho := HO.out; rw [Nat.mod_eq_of_lt (show c < 128 by omega)] at ho; first | exact ho | exact HO2.out h0)) hr5 (by omega)
          · skip
            have e0 : ((c : Int) == 0) = false := by rw [beq_eq_false_iff_ne]; omega
            have e1 : ¬ (c : Int) < 128 := by omega
            have HO : Hid (bits .or .u64 (nn : Int) ((c : Int) % 128 * 2097152) = ((nn + c % 128 * 128 ^ 3 : Nat) : Int)) := or_int nn c 3 2097152 2097152 (by decide) (by decide) hnn.out (by omega) (by omega)
            have HE : Hid (Cd.uintF s.data.toList f 4 (nn + c % 128 * 128 ^ 3) (j + 1) = Cd.uintR s.data.toList i) := by show _ = _; rw [← hE.out, HN.out, if_neg (by omega), if_neg (by omega)]
            clear HN hE
            go_wp2_with fail
            refine (hnext.out).mono ?_; rintro e w5 ⟨rfl, hu5, hr5⟩
            go_wp2_with fail
            go_roundw
            case rel => exact ⟨f - 1, 4, nn + c % 128 * 128 ^ 3, j + 1, rfl, by omega, int_eq (by exact HO.out), by have := hnn.out; show _ < _; omega, hr5, by omega, hu.trans hu5, by have := HE.out; rwa [show f - 1 + 1 = f from by omega]⟩
            case measure => simp [intOf]
      · by_cases h0 : c = 0
        · have e0 : ((c : Int) == 0) = true := by rw [beq_iff_eq]; omega
          have HE : Hid (Cd.uintR s.data.toList i = .error 7) := by show _ = _; rw [← hE.out, HN.out, if_pos (by omega)]
          clear HN hE
          go_wp2_with fail
          refine (hnext.out).mono ?_; rintro e w5 ⟨rfl, hu5, hr5⟩
          go_wp2_with fail
          exact ⟨rfl, Told.mk_err HE.out (hu.trans hu5) rfl hr5 (by omega)⟩
        · skip
          by_cases h1 : c < 128
          · have e0 : ((c : Int) == 0) = false := by rw [beq_eq_false_iff_ne]; omega
            have e1 : (c : Int) < 128 := by omega
            have HO : Hid (bits .or .u64 (nn : Int) ((c : Int) % 128 * 268435456) = ((nn + c % 128 * 128 ^ 4 : Nat) : Int)) := or_int nn c 4 268435456 268435456 (by decide) (by decide) hnn.out (by omega) (by omega)
            have HE : Hid (Cd.uintR s.data.toList i = .ok (nn + c * 128 ^ 4, j + 1)) := by show _ = _; rw [← hE.out, HN.out, if_neg (by omega), if_pos (by omega)]
            clear HN hE
            go_wp2_with fail
            refine (hnext.out).mono ?_; rintro e w5 ⟨rfl, hu5, hr5⟩
            go_wp2_with fail
            go_ret
            exact Told.mk_ok HE.out (hu.trans hu5) (ret_eq (by have ho := HO.out; rw [Nat.mod_eq_of_lt (show c < 128 by omega)] at ho; first | exact ho | exact HO2.out h0)) hr5 (by omega)
          · skip
            have e0 : ((c : Int) == 0) = false := by rw [beq_eq_false_iff_ne]; omega
            have e1 : ¬ (c : Int) < 128 := by omega
            have HO : Hid (bits .or .u64 (nn : Int) ((c : Int) % 128 * 268435456) = ((nn + c % 128 * 128 ^ 4 : Nat) : Int)) := or_int nn c 4 268435456 268435456 (by decide) (by decide) hnn.out (by omega) (by omega)
            have HE : Hid (Cd.uintF s.data.toList f 5 (nn + c % 128 * 128 ^ 4) (j + 1) = Cd.uintR s.data.toList i) := by show _ = _; rw [← hE.out, HN.out, if_neg (by omega), if_neg (by omega)]
            clear HN hE
            go_wp2_with fail
            refine (hnext.out).mono ?_; rintro e w5 ⟨rfl, hu5, hr5⟩
            go_wp2_with fail
            go_roundw
            case rel => exact ⟨f - 1, 5, nn + c % 128 * 128 ^ 4, j + 1, rfl, by omega, int_eq (by exact HO.out), by have := hnn.out; show _ < _; omega, hr5, by omega, hu.trans hu5, by have := HE.out; rwa [show f - 1 + 1 = f from by omega]⟩
            case measure => simp [intOf]
      · by_cases h0 : c = 0
        · have e0 : ((c : Int) == 0) = true := by rw [beq_iff_eq]; omega
          have HE : Hid (Cd.uintR s.data.toList i = .error 7) := by show _ = _; rw [← hE.out, HN.out, if_pos (by omega)]
          clear HN hE
          go_wp2_with fail
          refine (hnext.out).mono ?_; rintro e w5 ⟨rfl, hu5, hr5⟩
          go_wp2_with fail
          exact ⟨rfl, Told.mk_err HE.out (hu.trans hu5) rfl hr5 (by omega)⟩
        · skip
          by_cases h1 : c < 128
          · have e0 : ((c : Int) == 0) = false := by rw [beq_eq_false_iff_ne]; omega
            have e1 : (c : Int) < 128 := by omega
            have HO : Hid (bits .or .u64 (nn : Int) ((c : Int) % 128 * 34359738368) = ((nn + c % 128 * 128 ^ 5 : Nat) : Int)) := or_int nn c 5 34359738368 34359738368 (by decide) (by decide) hnn.out (by omega) (by omega)
            have HE : Hid (Cd.uintR s.data.toList i = .ok (nn + c * 128 ^ 5, j + 1)) := by show _ = _; rw [← hE.out, HN.out, if_neg (by omega), if_pos (by omega)]
            clear HN hE
            go_wp2_with fail
            refine (hnext.out).mono ?_; rintro e w5 ⟨rfl, hu5, hr5⟩
            go_wp2_with fail
            go_ret
            exact Told.mk_ok HE.out (hu.trans hu5) (ret_eq (by have ho := HO.out; rw [Nat.mod_eq_of_lt (show c < 128 by omega)] at ho; first | exact ho | exact HO2.out h0)) hr5 (by omega)
          · skip
            have e0 : ((c : Int) == 0) = false := by rw [beq_eq_false_iff_ne]; omega
            have e1 : ¬ (c : Int) < 128 := by omega
            have HO : Hid (bits .or .u64 (nn : Int) ((c : Int) % 128 * 34359738368) = ((nn + c % 128 * 128 ^ 5 : Nat) : Int)) := or_int nn c 5 34359738368 34359738368 (by decide) (by decide) hnn.out (by omega) (by omega)
            have HE : Hid (Cd.uintF s.data.toList f 6 (nn + c % 128 * 128 ^ 5) (j + 1) = Cd.uintR s.data.toList i) := by show _ = _; rw [← hE.out, HN.out, if_neg (by omega), if_neg (by omega)]
            clear HN hE
            go_wp2_with fail
            refine (hnext.out).mono ?_; rintro e w5 ⟨rfl, hu5, hr5⟩
            go_wp2_with fail
            go_roundw
            case rel => exact ⟨f - 1, 6, nn + c % 128 * 128 ^ 5, j + 1, rfl, by omega, int_eq (by exact HO.out), by have := hnn.out; show _ < _; omega, hr5, by omega, hu.trans hu5, by have := HE.out; rwa [show f - 1 + 1 = f from by omega]⟩
            case measure => simp [intOf]
      · by_cases h0 : c = 0
        · have e0 : ((c : Int) == 0) = true := by rw [beq_iff_eq]; omega
          have HE : Hid (Cd.uintR s.data.toList i = .error 7) := by show _ = _; rw [← hE.out, HN.out, if_pos (by omega)]
          clear HN hE
          go_wp2_with fail
          refine (hnext.out).mono ?_; rintro e w5 ⟨rfl, hu5, hr5⟩
          go_wp2_with fail
          exact ⟨rfl, Told.mk_err HE.out (hu.trans hu5) rfl hr5 (by omega)⟩
        · skip
          by_cases h1 : c < 128
          · have e0 : ((c : Int) == 0) = false := by rw [beq_eq_false_iff_ne]; omega
            have e1 : (c : Int) < 128 := by omega
            have HO : Hid (bits .or .u64 (nn : Int) ((c : Int) % 128 * 4398046511104) = ((nn + c % 128 * 128 ^ 6 : Nat) : Int)) := or_int nn c 6 4398046511104 4398046511104 (by decide) (by decide) hnn.out (by omega) (by omega)
            have HE : Hid (Cd.uintR s.data.toList i = .ok (nn + c * 128 ^ 6, j + 1)) := by show _ = _; rw [← hE.out, HN.out, if_neg (by omega), if_pos (by omega)]
            clear HN hE
            go_wp2_with fail
            refine (hnext.out).mono ?_; rintro e w5 ⟨rfl, hu5, hr5⟩
            go_wp2_with fail
            go_ret
            exact Told.mk_ok HE.out (hu.trans hu5) (ret_eq (by have ho := HO.out; rw [Nat.mod_eq_of_lt (show c < 128 by omega)] at ho; first | exact ho | exact HO2.out h0)) hr5 (by omega)
          · skip
            have e0 : ((c : Int) == 0) = false := by rw [beq_eq_false_iff_ne]; omega
            have e1 : ¬ (c : Int) < 128 := by omega
            have HO : Hid (bits .or .u64 (nn : Int) ((c : Int) % 128 * 4398046511104) = ((nn + c % 128 * 128 ^ 6 : Nat) : Int)) := or_int nn c 6 4398046511104 4398046511104 (by decide) (by decide) hnn.out (by omega) (by omega)
            have HE : Hid (Cd.uintF s.data.toList f 7 (nn + c % 128 * 128 ^ 6) (j + 1) = Cd.uintR s.data.toList i) := by show _ = _; rw [← hE.out, HN.out, if_neg (by omega), if_neg (by omega)]
            clear HN hE
            go_wp2_with fail
            refine (hnext.out).mono ?_; rintro e w5 ⟨rfl, hu5, hr5⟩
            go_wp2_with fail
            go_roundw
            case rel => exact ⟨f - 1, 7, nn + c % 128 * 128 ^ 6, j + 1, rfl, by omega, int_eq (by exact HO.out), by have := hnn.out; show _ < _; omega, hr5, by omega, hu.trans hu5, by have := HE.out; rwa [show f - 1 + 1 = f from by omega]⟩
            case measure => simp [intOf]
      · by_cases h0 : c = 0
        · have e0 : ((c : Int) == 0) = true := by rw [beq_iff_eq]; omega
          have HE : Hid (Cd.uintR s.data.toList i = .error 7) := by show _ = _; rw [← hE.out, HN.out, if_pos (by omega)]
          clear HN hE
          go_wp2_with fail
          refine (hnext.out).mono ?_; rintro e w5 ⟨rfl, hu5, hr5⟩
          go_wp2_with fail
          exact ⟨rfl, Told.mk_err HE.out (hu.trans hu5) rfl hr5 (by omega)⟩
        · skip
          by_cases h1 : c < 128
          · have e0 : ((c : Int) == 0) = false := by rw [beq_eq_false_iff_ne]; omega
            have e1 : (c : Int) < 128 := by omega
            have HO : Hid (bits .or .u64 (nn : Int) ((c : Int) % 128 * 562949953421312) = ((nn + c % 128 * 128 ^ 7 : Nat) : Int)) := or_int nn c 7 562949953421312 562949953421312 (by decide) (by decide) hnn.out (by omega) (by omega)
            have HE : Hid (Cd.uintR s.data.toList i = .ok (nn + c * 128 ^ 7, j + 1)) := by show _ = _; rw [← hE.out, HN.out, if_neg (by omega), if_pos (by omega)]
            clear HN hE
            go_wp2_with fail
            refine (hnext.out).mono ?_; rintro e w5 ⟨rfl, hu5, hr5⟩
            go_wp2_with fail
            go_ret
            exact Told.mk_ok HE.out (hu.trans hu5) (ret_eq (by have ho := HO.out; rw [Nat.mod_eq_of_lt (show c < 128 by omega)] at ho; first | exact ho | exact HO2.out h0)) hr5 (by omega)
          · skip
            have e0 : ((c : Int) == 0) = false := by rw [beq_eq_false_iff_ne]; omega
            have e1 : ¬ (c : Int) < 128 := by omega
            have HO : Hid (bits .or .u64 (nn : Int) ((c : Int) % 128 * 562949953421312) = ((nn + c % 128 * 128 ^ 7 : Nat) : Int)) := or_int nn c 7 562949953421312 562949953421312 (by decide) (by decide) hnn.out (by omega) (by omega)
            have HE : Hid (Cd.uintF s.data.toList f 8 (nn + c % 128 * 128 ^ 7) (j + 1) = Cd.uintR s.data.toList i) := by show _ = _; rw [← hE.out, HN.out, if_neg (by omega), if_neg (by omega)]
            clear HN hE
            go_wp2_with fail
            refine (hnext.out).mono ?_; rintro e w5 ⟨rfl, hu5, hr5⟩
            go_wp2_with fail
            go_roundw
            case rel => exact ⟨f - 1, 8, nn + c % 128 * 128 ^ 7, j + 1, rfl, by omega, int_eq (by exact HO.out), by have := hnn.out; show _ < _; omega, hr5, by omega, hu.trans hu5, by have := HE.out; rwa [show f - 1 + 1 = f from by omega]⟩
            case measure => simp [intOf]
      · by_cases h0 : c = 0
        · have e0 : ((c : Int) == 0) = true := by rw [beq_iff_eq]; omega
          have HE : Hid (Cd.uintR s.data.toList i = .error 7) := by show _ = _; rw [← hE.out, HN.out, if_pos (by omega)]
          clear HN hE
          go_wp2_with fail
          refine (hnext.out).mono ?_; rintro e w5 ⟨rfl, hu5, hr5⟩
          go_wp2_with fail
          exact ⟨rfl, Told.mk_err HE.out (hu.trans hu5) rfl hr5 (by omega)⟩
        · skip
          by_cases h1 : c < 128
          · have e0 : ((c : Int) == 0) = false := by rw [beq_eq_false_iff_ne]; omega
            have e1 : (c : Int) < 128 := by omega
            have HO : Hid (bits .or .u64 (nn : Int) ((c : Int) % 128 * 72057594037927936) = ((nn + c % 128 * 128 ^ 8 : Nat) : Int)) := or_int nn c 8 72057594037927936 72057594037927936 (by decide) (by decide) hnn.out (by omega) (by omega)
            have HE : Hid (Cd.uintR s.data.toList i = .ok (nn + c * 128 ^ 8, j + 1)) := by show _ = _; rw [← hE.out, HN.out, if_neg (by omega), if_pos (by omega)]
            clear HN hE
            go_wp2_with fail
            refine (hnext.out).mono ?_; rintro e w5 ⟨rfl, hu5, hr5⟩
            go_wp2_with fail
            go_ret
            exact Told.mk_ok HE.out (hu.trans hu5) (ret_eq (by have ho := HO.out; rw [Nat.mod_eq_of_lt (show c < 128 by omega)] at ho; first | exact ho | exact HO2.out h0)) hr5 (by omega)
          · skip
            have e0 : ((c : Int) == 0) = false := by rw [beq_eq_false_iff_ne]; omega
            have e1 : ¬ (c : Int) < 128 := by omega
            have HO : Hid (bits .or .u64 (nn : Int) ((c : Int) % 128 * 72057594037927936) = ((nn + c % 128 * 128 ^ 8 : Nat) : Int)) := or_int nn c 8 72057594037927936 72057594037927936 (by decide) (by decide) hnn.out (by omega) (by omega)
            have HE : Hid (Cd.uintF s.data.toList f 9 (nn + c % 128 * 128 ^ 8) (j + 1) = Cd.uintR s.data.toList i) := by show _ = _; rw [← hE.out, HN.out, if_neg (by omega), if_neg (by omega)]
            clear HN hE
            go_wp2_with fail
            refine (hnext.out).mono ?_; rintro e w5 ⟨rfl, hu5, hr5⟩
            go_wp2_with fail
            go_roundw
            case rel => exact ⟨f - 1, 9, nn + c % 128 * 128 ^ 8, j + 1, rfl, by omega, int_eq (by exact HO.out), by have := hnn.out; show _ < _; omega, hr5, by omega, hu.trans hu5, by have := HE.out; rwa [show f - 1 + 1 = f from by omega]⟩
            case measure => simp [intOf]
      · by_cases h0 : c = 0
        · have e0 : ((c : Int) == 0) = true := by rw [beq_iff_eq]; omega
          have HE : Hid (Cd.uintR s.data.toList i = .error 7) := by show _ = _; rw [← hE.out, HN.out, if_pos (by omega)]
          clear HN hE
          go_wp2_with fail
          refine (hnext.out).mono ?_; rintro e w5 ⟨rfl, hu5, hr5⟩
          go_wp2_with fail
          exact ⟨rfl, Told.mk_err HE.out (hu.trans hu5) rfl hr5 (by omega)⟩
        · skip
          by_cases h9 : 1 < c
          · have e0 : ((c : Int) == 0) = false := by rw [beq_eq_false_iff_ne]; omega
            have e9 : decide ((1 : Int) < (c : Int)) = true := by simp; omega
            have HE : Hid (Cd.uintR s.data.toList i = .error 7) := by show _ = _; rw [← hE.out, HN.out, if_pos (by omega)]
            clear HN hE
            go_wp2_with fail
            refine (hnext.out).mono ?_; rintro e w5 ⟨rfl, hu5, hr5⟩
            go_wp2_with fail
            exact ⟨rfl, Told.mk_err HE.out (hu.trans hu5) rfl hr5 (by omega)⟩
          · skip
            have e0 : ((c : Int) == 0) = false := by rw [beq_eq_false_iff_ne]; omega
            have e9 : decide ((1 : Int) < (c : Int)) = false := by simp; omega
            have e1 : (c : Int) < 128 := by omega
            have HO : Hid (bits .or .u64 (nn : Int) ((c : Int) % 128 * 9223372036854775808) = ((nn + c % 128 * 128 ^ 9 : Nat) : Int)) := or_int nn c 9 9223372036854775808 9223372036854775808 (by decide) (by decide) hnn.out (by omega) (by omega)
            have HE : Hid (Cd.uintR s.data.toList i = .ok (nn + c * 128 ^ 9, j + 1)) := by show _ = _; rw [← hE.out, HN.out, if_neg (by omega), if_pos (by omega)]
            clear HN hE
            go_wp2_with fail
            refine (hnext.out).mono ?_; rintro e w5 ⟨rfl, hu5, hr5⟩
            go_wp2_with fail
            go_ret
            exact Told.mk_ok HE.out (hu.trans hu5) (ret_eq (by have ho := HO.out; rw [Nat.mod_eq_of_lt (show c < 128 by omega)] at ho; first | exact ho | exact HO2.out h0)) hr5 (by omega)
    · obtain rfl : j = s.size := by omega
      have hnext := hid (next_no g s s.size er w4 hrj (Nat.le_refl _))
      have HE : Hid (Cd.uintR s.data.toList i = .error 8) := by show _ = _; rw [← hE.out, uintF_end _ _ _ _ _ (by rw [HL.out]; omega)]
      have hk9 : (kk : Int) < 10 := by omega
      clear hE
      go_wp2_with fail
      refine (hnext.out).mono ?_; rintro e w5 ⟨rfl, hu5, hr5⟩
      go_wp2_with fail
      exact ⟨rfl, Told.mk_err HE.out (hu.trans hu5) rfl hr5 (Nat.le_refl _)⟩
end Go.Proofs.Ytmcneelapghfcaa

namespace Go.Proofs.Ytmcneelapghfcaa
open Go.RowKit

theorem uintF_lt (l : List UInt8) (f : Nat) : ∀ k n i m j, k + f = 9 → n < 128 ^ k → Cd.uintF l (f + 1) k n i = .ok (m, j) → m < 18446744073709551616 := by
  induction f with
  | zero =>
    intro k n i m j hk hn h
    by_cases hi : i < l.length
    · rw [uintF_next l 0 k n i hi] at h
      generalize l[i].toNat = c at h
      split at h
      · cases h
      · rename_i hb
        rw [if_pos (by omega)] at h
        have e : n + c * 128 ^ k = m := by simpa using congrArg (fun r : Cd.R Nat => match r with | .ok x => x.1 | .error _ => 0) h
        obtain rfl : k = 9 := by omega
        have h9 : (128 : Nat) ^ 9 = 9223372036854775808 := by decide
        rw [h9] at hn e
        have : c ≤ 1 := by omega
        omega
    · rw [uintF_end l 0 k n i (by omega)] at h
      cases h
  | succ f ih =>
    intro k n i m j hk hn h
    by_cases hi : i < l.length
    · rw [uintF_next l (f + 1) k n i hi] at h
      have hc := l[i].toNat_lt
      generalize l[i].toNat = c at h hc
      split at h
      · cases h
      · rename_i hb
        split at h
        · rename_i h1
          have e : n + c * 128 ^ k = m := by simpa using congrArg (fun r : Cd.R Nat => match r with | .ok x => x.1 | .error _ => 0) h
          have hp : 128 ^ (k + 1) ≤ 128 ^ 9 := Nat.pow_le_pow_right (by decide) (by omega)
          have h9 : (128 : Nat) ^ 9 = 9223372036854775808 := by decide
          rw [Nat.pow_succ, h9] at hp
          generalize 128 ^ k = p at hn e hp
          have h2 : c * p ≤ 127 * p := Nat.mul_le_mul_right p (by omega)
          omega
        · refine ih (k + 1) _ _ m j (by omega) ?_ h
          rw [Nat.pow_succ]
          generalize 128 ^ k = p at hn
          have h2 : c % 128 * p ≤ 127 * p := Nat.mul_le_mul_right p (by omega)
          omega
    · rw [uintF_end l (f + 1) k n i (by omega)] at h
      cases h
theorem uintR_lt {l : List UInt8} {i m j : Nat} (h : Cd.uintR l i = .ok (m, j)) : m < 18446744073709551616 := uintF_lt l 9 0 0 i m j rfl (by decide) h

theorem xor_zero_i64 (x : Nat) (hx : x < 9223372036854775808) : bits .xor .i64 (x : Int) 0 = (x : Int) := by
  show IntKind.i64.wrap ((BitVec.ofInt 64 (x : Int) ^^^ BitVec.ofInt 64 0).toNat : Int) = _
  rw [show (BitVec.ofInt 64 0) = 0#64 from rfl, BitVec.xor_zero, BitVec.toNat_ofInt, IntKind.wrap_i64]
  omega
theorem xor_ones_i64 (x : Nat) (hx : x < 9223372036854775808) : bits .xor .i64 (x : Int) (-1) = -(x : Int) - 1 := by
  show IntKind.i64.wrap ((BitVec.ofInt 64 (x : Int) ^^^ BitVec.ofInt 64 (-1)).toNat : Int) = _
  rw [show (BitVec.ofInt 64 (-1)) = BitVec.allOnes 64 from by decide, BitVec.xor_allOnes, BitVec.toNat_not, BitVec.toNat_ofInt, IntKind.wrap_i64]
  omega

set_option maxRecDepth 100000 in
set_option maxHeartbeats 1600000 in
theorem int_rd (g : Nat) (s : ByteArray) (i : Nat) (er : Int) (w : World) (hr : Rdr w g s i er) (hi : i ≤ s.size) (hs : s.size ≤ 1000000000) :
    Calls Try.prog 87 #[.pointer (some ⟨g, 0, none⟩)] w (Told (fun n : Int => .int .i64 n) g s er (Cd.intR s.data.toList i) w) := by
  have h := hid (uint_rd g s i er w hr hi hs)
  have hI : Hid (Cd.intR s.data.toList i = match Cd.uintR s.data.toList i with | .error e => .error e | .ok (n, j) => .ok (Cd.unzig n, j)) := rfl
  cases hres : Cd.uintR s.data.toList i with
  | error x =>
    rw [hres] at h hI
    have hE : Hid (Cd.intR s.data.toList i = .error x) := hI
    clear hI hr
    go_enter Try.func87, Try.ntmps87
    go_wp2_with fail
    refine (h.out).mono ?_; rintro e w1 ⟨hu, rfl, j, hR, hj⟩
    go_wp2_with fail
    exact ⟨rfl, Told.mk_err hE.out hu rfl hR hj⟩
  | ok p =>
    obtain ⟨n, j⟩ := p
    have hlt := uintR_lt hres
    rw [hres] at h hI
    have hE : Hid (Cd.intR s.data.toList i = .ok (Cd.unzig n, j)) := hI
    have hand : bits .and .u64 (n : Int) 1 = ((n % 2 : Nat) : Int) := by
      have := and_one_u64 (n : Int) (by omega) (by omega)
      rw [this]; rfl
    have hz : n % 2 = 0 ∨ n % 2 = 1 := by omega
    have hn2 : (n : Int) ≤ 18446744073709551615 := by omega
    have hn0 : (0 : Int) ≤ (n : Int) := by omega
    clear hI hr
    rcases hz with hz | hz
    · rw [hz] at hand
      have hx := xor_zero_i64 (n / 2) (by omega)
      have hf : Hid (Cd.unzig n = ((n / 2 : Nat) : Int)) := by show _ = _; unfold Cd.unzig; rw [if_pos hz]
      clear hz hlt
      go_enter Try.func87, Try.ntmps87
      go_wp2_with fail
      refine (h.out).mono ?_; rintro e w1 ⟨hu, rfl, hR, hj⟩
      go_wp2_with fail
      go_ret
      refine Told.mk_ok hE.out hu (ret_eq ?_) hR hj
      rw [hf.out]
      exact hx
    · rw [hz] at hand
      have hx := xor_ones_i64 (n / 2) (by omega)
      have hf : Hid (Cd.unzig n = -((n / 2 : Nat) : Int) - 1) := by show _ = _; unfold Cd.unzig; rw [if_neg (by omega)]
      clear hz hlt
      go_enter Try.func87, Try.ntmps87
      go_wp2_with fail
      refine (h.out).mono ?_; rintro e w1 ⟨hu, rfl, hR, hj⟩
      go_wp2_with fail
      go_ret
      refine Told.mk_ok hE.out hu (ret_eq ?_) hR hj
      rw [hf.out]
      exact hx

set_option maxRecDepth 100000 in
set_option maxHeartbeats 1600000 in
theorem text_rd (most : Nat) (hm : most ≤ 1000000) (g : Nat) (s : ByteArray) (i : Nat) (er : Int) (w : World) (hr : Rdr w g s i er) (hi : i ≤ s.size) (hs : s.size ≤ 1000000000) :
    Calls Try.prog 83 #[.pointer (some ⟨g, 0, none⟩), .int .u64 (most : Int)] w (Told (fun t : ByteArray => .string t) g s er (Cd.textR s most i) w) := by
  have h := hid (uint_rd g s i er w hr hi hs)
  have hI : Hid (Cd.textR s most i = match Cd.uintR s.data.toList i with | .error e => .error e | .ok (n, j) => if most < n then .error 19 else if s.size < j + n then .error 8 else .ok (s.extract j (j + n), j + n)) := rfl
  cases hres : Cd.uintR s.data.toList i with
  | error x =>
    rw [hres] at h hI
    have hE : Hid (Cd.textR s most i = .error x) := hI
    clear hI hr
    go_enter Try.func83, Try.ntmps83
    go_wp2_with fail
    refine (h.out).mono ?_; rintro e w1 ⟨hu, rfl, j, hR, hj⟩
    go_wp2_with fail
    exact ⟨rfl, Told.mk_err hE.out hu rfl hR hj⟩
  | ok p =>
    obtain ⟨n, j⟩ := p
    have hlt := uintR_lt hres
    rw [hres] at h hI
    have hI2 : Hid (Cd.textR s most i = if most < n then .error 19 else if s.size < j + n then .error 8 else .ok (s.extract j (j + n), j + n)) := hI
    clear hI hr
    by_cases h1 : most < n
    · have hE : Hid (Cd.textR s most i = .error 19) := by show _ = _; rw [hI2.out, if_pos h1]
      have h1' : (most : Int) < (n : Int) := by omega
      go_enter Try.func83, Try.ntmps83
      go_wp2_with fail
      refine (h.out).mono ?_; rintro e w1 ⟨hu, rfl, hR, hj⟩
      go_wp2_with fail
      exact ⟨rfl, Told.mk_err hE.out hu rfl hR hj⟩
    · have h1' : ¬ (most : Int) < (n : Int) := by omega
      have hE0 := hid (show Cd.textR s most i = if s.size < j + n then .error 8 else .ok (s.extract j (j + n), j + n) by rw [hI2.out, if_neg h1])
      clear hI2
      go_enter Try.func83, Try.ntmps83
      go_wp2_with fail
      refine (h.out).mono ?_; rintro e w1 ⟨hu, rfl, hR, hj⟩
      obtain ⟨d, hd⟩ : ∃ d : Nat, s.size - j = d := ⟨_, rfl⟩
      obtain ⟨c0, c1, c2, f1, f2, hg⟩ := hR.cells
      have hw1 : IntKind.i64.wrap ((s.size : Int) - (j : Int)) = (d : Int) := by rw [IntKind.wrap_i64]; omega
      have hw2 : IntKind.u64.wrap (d : Int) = (d : Int) := by rw [IntKind.wrap_u64]; omega
      have HU := hid hu
      have HR := hid hR
      clear hu hR h
      by_cases h2 : s.size < j + n
      · have hE : Hid (Cd.textR s most i = .error 8) := by show _ = _; rw [hE0.out, if_pos h2]
        have h2' : decide ((d : Int) < (n : Int)) = true := by simp; omega
        go_wp2_with fail
        go_quiet (fail)
        go_wp2_with fail
        exact ⟨rfl, Told.mk_err hE.out (HU.out.trans (Upd.of (hdrewN (Below.refl _ _) nq))) rfl HR.out hj⟩
      · have hE : Hid (Cd.textR s most i = .ok (s.extract j (j + n), j + n)) := by show _ = _; rw [hE0.out, if_neg h2]
        have h2' : decide ((d : Int) < (n : Int)) = false := by simp; omega
        go_wp2_with fail
        go_quiet (fail)
        go_wp2_with fail
        have hr3 : Rdr ((w1.drewN nq).setCell ⟨g, 1, none⟩ (.int .i64 ((j : Int) + (n : Int)))) g s (j + n) er := Rdr.setAt (w := w1.drewN nq) HR.out _
        have hu3 : Upd g w ((w1.drewN nq).setCell ⟨g, 1, none⟩ (.int .i64 ((j : Int) + (n : Int)))) := HU.out.trans ((Upd.of (hdrewN (Below.refl _ _) nq)).trans (Upd.set g 1 _ _))
        generalize (w1.drewN nq).setCell ⟨g, 1, none⟩ (.int .i64 ((j : Int) + (n : Int))) = w3 at *
        clear c0 c1 c2 f1 f2 hw1 hw2 h2'
        have c0 := hr3.cells.1
        have c1 : w3.cell? ⟨g, 1, none⟩ = some (.int .i64 ((j : Int) + (n : Int))) := hr3.cells.2.1
        have hw3 : IntKind.i64.wrap (n : Int) = (n : Int) := IntWalk.i64_in _ (by omega)
        have hw4 : (j : Int) + (n : Int) - (n : Int) = (j : Int) := by omega
        have hw5 : IntKind.i64.wrap (j : Int) = (j : Int) := IntWalk.i64_in _ (by omega)
        have hw6 : IntKind.i64.wrap ((j : Int) + (n : Int) - (n : Int)) = (j : Int) := by rw [hw4]; exact hw5
        have hw7 : ((j : Int) + (n : Int)).toNat = j + n := by omega
        have hi0 : (0 : Int) ≤ (j : Int) := by omega
        have hi1 : (j : Int) ≤ (j : Int) + (n : Int) := by omega
        have hi2 : (j : Int) + (n : Int) ≤ (s.size : Int) := by omega
        have hR3 := hid hr3
        have hU3 := hid hu3
        clear hr3 hu3 HR HU
        go_quiet (fail)
        go_wp2_with fail
        go_ret
        exact Told.mk_ok hE.out (hU3.out.trans (Upd.of (hdrewN (Below.refl _ _) _))) rfl hR3.out (by omega)
end Go.Proofs.Ytmcneelapghfcaa

namespace Go.Proofs.Ytmcneelapghfcaa
open Go.RowKit

theorem BV.upd {w w' : World} {g r : Nat} {k n : Int} {b : Nat} {s : ByteArray} (h : BV w g k n b s) (hb : Upd r w w') (hne : g ≠ r) : BV w' g k n b s := by
  show w'.heap[g]? = _
  rw [hb.block g h.cells.2.2.2.2.2.2.2.2 (by simpa using hne)]; exact h
theorem BV.setN {w : World} {g : Nat} {k n : Int} {b : Nat} {s : ByteArray} (h : BV w g k n b s) (m : Int) : BV (w.setCell ⟨g, 1, none⟩ (.int .i64 m)) g k m b s := heap_setCell_same w g 1 _ _ (.int .i64 m) h
theorem BV.setB {w : World} {g : Nat} {k n : Int} {b : Nat} {s : ByteArray} (h : BV w g k n b s) (m : Nat) : BV (w.setCell ⟨g, 2, none⟩ (.int .u64 (m : Int))) g k n m s := heap_setCell_same w g 2 _ _ (.int .u64 (m : Int)) h
theorem BV.setS {w : World} {g : Nat} {k n : Int} {b : Nat} {s : ByteArray} (h : BV w g k n b s) (t : ByteArray) : BV (w.setCell ⟨g, 3, none⟩ (.string t)) g k n b t := heap_setCell_same w g 3 _ _ (.string t) h
theorem BV.setO {w : World} {g r o : Nat} {k n : Int} {b : Nat} {s : ByteArray} (h : BV w g k n b s) (v : Value) (hne : r ≠ g) : BV (w.setCell ⟨r, o, none⟩ v) g k n b s :=
  (heap_setCell_other w ⟨r, o, none⟩ g v (by simpa [eq_comm] using hne)).trans h
theorem Rdr.setO {w : World} {g r o : Nat} {s : ByteArray} {i : Nat} {er : Int} (h : Rdr w g s i er) (v : Value) (hne : r ≠ g) : Rdr (w.setCell ⟨r, o, none⟩ v) g s i er :=
  (heap_setCell_other w ⟨r, o, none⟩ g v (by simpa [eq_comm] using hne)).trans h
/-- a store into a block that is newer than the call -/
theorem Upd.setNew {g r o : Nat} {w w' : World} (h : Upd g w w') (v : Value) (hr : w.heap.size ≤ r) : Upd g w (w'.setCell ⟨r, o, none⟩ v) := by
  have hb : Below w'.heap.size w' w' := Below.refl _ _
  have hb2 : Below r w' (w'.setCell ⟨r, o, none⟩ v) := (Below.refl r w').setCell (p := ⟨r, o, none⟩) (Nat.le_refl _) v
  exact ⟨hb2.os.trans h.os, hb2.tape.trans h.tape, hb2.output.trans h.output, Nat.le_trans h.size hb2.size, fun i hi hn => by
    rw [heap_setCell_other w' ⟨r, o, none⟩ i v (by simp; omega)]; exact h.block i hi hn⟩
def vvV (v : Cd.V) : Value := vv v.k v.n v.b v.s

theorem nextR_ok (s : ByteArray) (i : Nat) (hi : i < s.size) (c : Nat) (hc : s[i].toNat = c) : Cd.nextR s.data.toList i = .ok (c, i + 1) := by
  have hl : i < s.data.toList.length := by simpa using hi
  unfold Cd.nextR
  rw [List.getElem?_eq_getElem hl]
  show Except.ok (s.data.toList[i].toNat, i + 1) = _
  rw [show s.data.toList[i] = s[i] from rfl, hc]
theorem nextR_no (s : ByteArray) (i : Nat) (hi : s.size ≤ i) : Cd.nextR s.data.toList i = .error 8 := by
  have hl : s.data.toList.length ≤ i := by simpa using hi
  unfold Cd.nextR
  rw [List.getElem?_eq_none hl]

theorem textR_size {s : ByteArray} {most i j : Nat} {t : ByteArray} (h : Cd.textR s most i = .ok (t, j)) : t.size ≤ s.size := by
  unfold Cd.textR at h
  split at h
  · cases h
  · split at h
    · cases h
    · split at h
      · cases h
      · have e : s.extract _ _ = t := congrArg (fun r : Cd.R ByteArray => match r with | .ok x => x.1 | .error _ => t) h
        rw [← e]; simp; omega
theorem bitsF_next (s : ByteArray) (f b j : Nat) (hj : j < s.size) (d : Nat) (hd : s[j].toNat = d) : Cd.bitsF s.data.toList (f + 1) b j = Cd.bitsF s.data.toList f (256 * b + d) (j + 1) := by
  have hl : j < s.data.toList.length := by simpa using hj
  show (match s.data.toList[j]? with | none => _ | some c => _) = _
  rw [List.getElem?_eq_getElem hl]
  show Cd.bitsF _ f (256 * b + s.data.toList[j].toNat) (j + 1) = _
  rw [show s.data.toList[j] = s[j] from rfl, hd]
theorem bitsF_no (s : ByteArray) (f b j : Nat) (hj : s.size ≤ j) : Cd.bitsF s.data.toList (f + 1) b j = .error 8 := by
  have hl : s.data.toList.length ≤ j := by simpa using hj
  show (match s.data.toList[j]? with | none => _ | some c => _) = _
  rw [List.getElem?_eq_none hl]
theorem or_byte (b d : Nat) (hb : b < 72057594037927936) (hd : d < 256) : bits .or .u64 ((256 * b : Nat) : Int) (d : Int) = ((256 * b + d : Nat) : Int) := by
  have h := bits_or_u64_nat (256 * b) d (by omega) (by omega)
  rw [h, show 256 * b = b <<< 8 by rw [Nat.shiftLeft_eq]; omega, Nat.shiftLeft_add_eq_or_of_lt (by omega)]

set_option maxRecDepth 100000 in
set_option maxHeartbeats 12800000 in
theorem value_rd (g : Nat) (s : ByteArray) (i : Nat) (er : Int) (w : World) (hr : Rdr w g s i er) (hi : i ≤ s.size) (hs : s.size ≤ 1000000000) :
    Calls Try.prog 108 #[.pointer (some ⟨g, 0, none⟩)] w (Told vvV g s er (Cd.valueR s i) w) := by
  by_cases hi1 : i < s.size
  · obtain ⟨c, hc⟩ : ∃ c : Nat, s[i].toNat = c := ⟨_, rfl⟩
    have hnx : Hid (Cd.nextR s.data.toList i = .ok (c, i + 1)) := nextR_ok s i hi1 c hc
    by_cases hk : c = 1
    · obtain rfl : 1 = c := hk.symm
      have hraw : Hid (Cd.rawR s i = match Cd.nextR s.data.toList (i + 1) with | .error e => .error e | .ok (n, m) => .ok (⟨1, n, 0, ⟨#[]⟩⟩, m)) := by show _ = _; unfold Cd.rawR; rw [hnx.out]; rfl
      have hn1 : Hid (∀ W, Rdr W g s i er → Calls Try.prog 105 #[.pointer (some ⟨g, 0, none⟩)] W fun e w' => e = .returned (.int .u8 1) ∧ Upd g W w' ∧ Rdr w' g s (i + 1) er) := fun W h => by have := next_ok g s i er W h hi1 (by omega); rwa [show (s[i].toNat : Int) = 1 by rw [hc]; rfl] at this
      by_cases hi2 : i + 1 < s.size
      · obtain ⟨d, hd⟩ : ∃ d : Nat, s[i + 1].toNat = d := ⟨_, rfl⟩
        have HE : Hid (Cd.rawR s i = .ok (⟨1, d, 0, ⟨#[]⟩⟩, i + 1 + 1)) := by show _ = _; rw [hraw.out, nextR_ok s (i + 1) hi2 d hd]
        have hn2 : Hid (∀ W, Rdr W g s (i + 1) er → Calls Try.prog 105 #[.pointer (some ⟨g, 0, none⟩)] W fun e w' => Upd g W w' ∧ e = .returned (.int .u8 (d : Int)) ∧ Rdr w' g s (i + 1 + 1) er ∧ i + 1 + 1 ≤ s.size) := fun W h => (next_ok g s (i + 1) er W h hi2 (by omega)).mono fun _ _ ⟨h1, h2, h3⟩ => ⟨h2, by rw [h1, hd], h3, by omega⟩
        have hdl : d < 256 := by rw [← hd]; exact s[i + 1].toNat_lt
        clear hraw hnx hc hd
        obtain ⟨j, hj0⟩ : ∃ j, i + 1 + 1 = j := ⟨_, rfl⟩
        rw [hj0] at HE hn2
        clear hj0
        go_enter Try.func108, Try.ntmps108
        go_wp2_with fail
        have hb0 := hba w (.cells #[.int .i64 0, .int .i64 0, .int .u64 0, .string ⟨#[]⟩] 36)
        have hr0 := hr.keep hb0
        have bz0 : BV (w.alloc (.cells #[.int .i64 0, .int .i64 0, .int .u64 0, .string ⟨#[]⟩] 36)) w.heap.size 0 0 0 ⟨#[]⟩ := BV.new w 0 0 0 ⟨#[]⟩
        have hg0 : w.heap.size ≠ g := by have := hr.cells.2.2.2.2.2; omega
        have hu0 : Upd g w _ := Upd.of hb0
        refine (hn1.out _ hr0).mono ?_; rintro e w1 ⟨rfl, hu1, hr1⟩
        have bz1 := bz0.upd hu1 hg0
        replace hu1 := hu0.trans hu1
        clear hb0 hr0 bz0 hu0
        go_wp2_with fail
        have bt1 : BV (w1.alloc (.cells #[.int .i64 1, .int .i64 0, .int .u64 0, .string ⟨#[]⟩] 36)) w1.heap.size 1 0 0 ⟨#[]⟩ := BV.new w1 1 0 0 ⟨#[]⟩
        have hba1 := hba w1 (.cells #[.int .i64 1, .int .i64 0, .int .u64 0, .string ⟨#[]⟩] 36)
        have bz2 := bz1.keep hba1
        have hr2 := hr1.keep hba1
        have hu2 := hu1.trans (Upd.of hba1)
        have hg1 : w1.heap.size ≠ g := by have := hr1.cells.2.2.2.2.2; omega
        have hg2 : w1.heap.size ≠ w.heap.size := by have := bz1.cells.2.2.2.2.2.2.2.2; omega
        have hg3 : w.heap.size ≤ w1.heap.size := hu1.size
        generalize hz1 : w1.heap.size = b3 at *
        generalize w1.alloc (.cells #[.int .i64 1, .int .i64 0, .int .u64 0, .string ⟨#[]⟩] 36) = w2 at *
        clear hba1 hr1 hu1 bz1 hz1 w1
        refine (hn2.out _ hr2).mono ?_; rintro e w3 ⟨hu3, rfl, hr3, hj⟩
        have bz3 := bz2.upd hu3 hg0
        have bt3 := bt1.upd hu3 hg1
        replace hu3 := hu2.trans hu3
        clear hu2 hr2 bz2 bt1
        obtain ⟨t0, t1, t2, t3, tf0, tf1, tf2, tf3, tl⟩ := bt3.cells
        go_wp2_with fail
        clear t0 t1 t2 t3 tf0 tf1 tf2 tf3 tl
        have hrW := hr3.setO (o := 1) (.int .i64 (d : Int)) hg1
        have btW := bt3.setN (d : Int)
        have bzW := bz3.setO (o := 1) (.int .i64 (d : Int)) hg2
        have huW := hu3.setNew (o := 1) (.int .i64 (d : Int)) hg3
        generalize w3.setCell ⟨b3, 1, none⟩ (.int .i64 (d : Int)) = w4 at *
        clear hr3 bt3 bz3 hu3 w3
        have hRt := fun W => right_any 1 (d : Int) 0 ⟨#[]⟩ (by show ByteArray.size _ ≤ _; decide) W
        have HV : Hid (Cd.valueR s i = if Va.right 1 (d : Int) 0 ⟨#[]⟩ then .ok (⟨1, (d : Int), 0, ⟨#[]⟩⟩, j) else .error 7) := by show _ = _; unfold Cd.valueR; rw [HE.out]; rfl
        unfold vv at hRt
        cases hrt : Va.right 1 (d : Int) 0 ⟨#[]⟩
        · rw [hrt] at hRt
          have HRT := hid hRt
          have HW : Hid (Cd.valueR s i = .error 7) := by show _ = _; rw [HV.out, hrt]; rfl
          clear hRt hrt
          refine (HRT.out _).mono ?_; rintro e w5 ⟨rfl, hb5⟩
          go_wp2_with fail
          exact ⟨rfl, Told.mk_err HW.out (huW.trans (Upd.of hb5)) rfl (hrW.keep hb5) hj⟩
        · rw [hrt] at hRt
          have HRT := hid hRt
          have HW : Hid (Cd.valueR s i = .ok (⟨1, (d : Int), 0, ⟨#[]⟩⟩, j)) := by show _ = _; rw [HV.out, hrt]; rfl
          clear hRt hrt
          refine (HRT.out _).mono ?_; rintro e w5 ⟨rfl, hb5⟩
          have bt5 := btW.keep hb5
          have bz5 := bzW.keep hb5
          have hr5 := hrW.keep hb5
          have hu5 := huW.trans (Upd.of hb5)
          clear hb5 huW hrW bzW btW
          obtain ⟨t0, t1, t2, t3, _, _, _, _, tl⟩ := bt5.cells
          obtain ⟨z0, z1, z2, z3, zf0, zf1, zf2, zf3, _⟩ := bz5.cells
          go_wp2_with fail
          have hrF := (((hr5.setO (o := 0) (.int .i64 1) hg0).setO (o := 1) (.int .i64 (d : Int)) hg0).setO (o := 2) (.int .u64 0) hg0).setO (o := 3) (.string ⟨#[]⟩) hg0
          have huF := (((hu5.setNew (o := 0) (.int .i64 1) (Nat.le_refl _)).setNew (o := 1) (.int .i64 (d : Int)) (Nat.le_refl _)).setNew (o := 2) (.int .u64 0) (Nat.le_refl _)).setNew (o := 3) (.string ⟨#[]⟩) (Nat.le_refl _)
          exact bodyPost_ret (v := .agg #[.int .i64 1, .int .i64 (d : Int), .int .u64 0, .string ⟨#[]⟩]) (by simp [results, Try.results108, go_sem, z0, z1, z2, z3]) rfl (Told.mk_ok HW.out huF rfl hrF hj)
      · have HE : Hid (Cd.valueR s i = .error 8) := by show _ = _; unfold Cd.valueR; rw [hraw.out, nextR_no s (i + 1) (by omega)]
        have hn2 : Hid (∀ W, Rdr W g s (i + 1) er → Calls Try.prog 105 #[.pointer (some ⟨g, 0, none⟩)] W fun e w' => Upd g W w' ∧ e = .panicked [{ v := fault 8, recovered := false }] ∧ ∃ j, Rdr w' g s j er ∧ j ≤ s.size) := fun W h => (next_no g s (i + 1) er W h (by omega)).mono fun _ _ ⟨h1, h2, h3⟩ => ⟨h2, h1, _, h3, by omega⟩
        clear hraw hnx hc
        go_enter Try.func108, Try.ntmps108
        go_wp2_with fail
        have hb0 := hba w (.cells #[.int .i64 0, .int .i64 0, .int .u64 0, .string ⟨#[]⟩] 36)
        have hr0 := hr.keep hb0
        have bz0 : BV (w.alloc (.cells #[.int .i64 0, .int .i64 0, .int .u64 0, .string ⟨#[]⟩] 36)) w.heap.size 0 0 0 ⟨#[]⟩ := BV.new w 0 0 0 ⟨#[]⟩
        have hg0 : w.heap.size ≠ g := by have := hr.cells.2.2.2.2.2; omega
        have hu0 : Upd g w _ := Upd.of hb0
        refine (hn1.out _ hr0).mono ?_; rintro e w1 ⟨rfl, hu1, hr1⟩
        have bz1 := bz0.upd hu1 hg0
        replace hu1 := hu0.trans hu1
        clear hb0 hr0 bz0 hu0
        go_wp2_with fail
        have bt1 : BV (w1.alloc (.cells #[.int .i64 1, .int .i64 0, .int .u64 0, .string ⟨#[]⟩] 36)) w1.heap.size 1 0 0 ⟨#[]⟩ := BV.new w1 1 0 0 ⟨#[]⟩
        have hba1 := hba w1 (.cells #[.int .i64 1, .int .i64 0, .int .u64 0, .string ⟨#[]⟩] 36)
        have bz2 := bz1.keep hba1
        have hr2 := hr1.keep hba1
        have hu2 := hu1.trans (Upd.of hba1)
        have hg1 : w1.heap.size ≠ g := by have := hr1.cells.2.2.2.2.2; omega
        have hg2 : w1.heap.size ≠ w.heap.size := by have := bz1.cells.2.2.2.2.2.2.2.2; omega
        have hg3 : w.heap.size ≤ w1.heap.size := hu1.size
        generalize hz1 : w1.heap.size = b3 at *
        generalize w1.alloc (.cells #[.int .i64 1, .int .i64 0, .int .u64 0, .string ⟨#[]⟩] 36) = w2 at *
        clear hba1 hr1 hu1 bz1 hz1 w1
        refine (hn2.out _ hr2).mono ?_; rintro e w3 ⟨hu3, rfl, j, hr3, hj⟩
        go_wp2_with fail
        exact ⟨rfl, Told.mk_err HE.out (hu2.trans hu3) rfl hr3 hj⟩
    by_cases hk2 : c = 2
    · obtain rfl : 2 = c := hk2.symm
      have hraw : Hid (Cd.rawR s i = match Cd.intR s.data.toList (i + 1) with | .error e => .error e | .ok (x, m) => .ok (⟨2, x, 0, ⟨#[]⟩⟩, m)) := by show _ = _; unfold Cd.rawR; rw [hnx.out]; rfl
      have hn1 : Hid (∀ W, Rdr W g s i er → Calls Try.prog 105 #[.pointer (some ⟨g, 0, none⟩)] W fun e w' => e = .returned (.int .u8 2) ∧ Upd g W w' ∧ Rdr w' g s (i + 1) er) := fun W h => by have := next_ok g s i er W h hi1 (by omega); rwa [show (s[i].toNat : Int) = 2 by rw [hc]; rfl] at this
      cases hres : Cd.intR s.data.toList (i + 1) with
      | error x =>
        have HE : Hid (Cd.valueR s i = .error x) := by show _ = _; unfold Cd.valueR; rw [hraw.out, hres]
        have hn2 : Hid (∀ W, Rdr W g s (i + 1) er → Calls Try.prog 87 #[.pointer (some ⟨g, 0, none⟩)] W fun e w' => Upd g W w' ∧ e = .panicked [{ v := fault x, recovered := false }] ∧ ∃ j, Rdr w' g s j er ∧ j ≤ s.size) := fun W h => by have hh := int_rd g s (i + 1) er W h (by omega) hs; rw [hres] at hh; exact hh
        clear hraw hnx hc hres
        go_enter Try.func108, Try.ntmps108
        go_wp2_with fail
        have hb0 := hba w (.cells #[.int .i64 0, .int .i64 0, .int .u64 0, .string ⟨#[]⟩] 36)
        have hr0 := hr.keep hb0
        have bz0 : BV (w.alloc (.cells #[.int .i64 0, .int .i64 0, .int .u64 0, .string ⟨#[]⟩] 36)) w.heap.size 0 0 0 ⟨#[]⟩ := BV.new w 0 0 0 ⟨#[]⟩
        have hg0 : w.heap.size ≠ g := by have := hr.cells.2.2.2.2.2; omega
        have hu0 : Upd g w _ := Upd.of hb0
        refine (hn1.out _ hr0).mono ?_; rintro e w1 ⟨rfl, hu1, hr1⟩
        have bz1 := bz0.upd hu1 hg0
        replace hu1 := hu0.trans hu1
        clear hb0 hr0 bz0 hu0
        go_wp2_with fail
        have bt1 : BV (w1.alloc (.cells #[.int .i64 2, .int .i64 0, .int .u64 0, .string ⟨#[]⟩] 36)) w1.heap.size 2 0 0 ⟨#[]⟩ := BV.new w1 2 0 0 ⟨#[]⟩
        have hba1 := hba w1 (.cells #[.int .i64 2, .int .i64 0, .int .u64 0, .string ⟨#[]⟩] 36)
        have bz2 := bz1.keep hba1
        have hr2 := hr1.keep hba1
        have hu2 := hu1.trans (Upd.of hba1)
        have hg1 : w1.heap.size ≠ g := by have := hr1.cells.2.2.2.2.2; omega
        have hg2 : w1.heap.size ≠ w.heap.size := by have := bz1.cells.2.2.2.2.2.2.2.2; omega
        have hg3 : w.heap.size ≤ w1.heap.size := hu1.size
        generalize hz1 : w1.heap.size = b3 at *
        generalize w1.alloc (.cells #[.int .i64 2, .int .i64 0, .int .u64 0, .string ⟨#[]⟩] 36) = w2 at *
        clear hba1 hr1 hu1 bz1 hz1 w1
        refine (hn2.out _ hr2).mono ?_; rintro e w3 ⟨hu3, rfl, j, hr3, hj⟩
        go_wp2_with fail
        exact ⟨rfl, Told.mk_err HE.out (hu2.trans hu3) rfl hr3 hj⟩
      | ok p =>
        obtain ⟨n, j⟩ := p
        have HE : Hid (Cd.rawR s i = .ok (⟨2, n, 0, ⟨#[]⟩⟩, j)) := by show _ = _; rw [hraw.out, hres]
        have hn2 : Hid (∀ W, Rdr W g s (i + 1) er → Calls Try.prog 87 #[.pointer (some ⟨g, 0, none⟩)] W fun e w' => Upd g W w' ∧ e = .returned (.int .i64 n) ∧ Rdr w' g s j er ∧ j ≤ s.size) := fun W h => by have hh := int_rd g s (i + 1) er W h (by omega) hs; rw [hres] at hh; exact hh
        skip
        clear hraw hnx hc hres
        go_enter Try.func108, Try.ntmps108
        go_wp2_with fail
        have hb0 := hba w (.cells #[.int .i64 0, .int .i64 0, .int .u64 0, .string ⟨#[]⟩] 36)
        have hr0 := hr.keep hb0
        have bz0 : BV (w.alloc (.cells #[.int .i64 0, .int .i64 0, .int .u64 0, .string ⟨#[]⟩] 36)) w.heap.size 0 0 0 ⟨#[]⟩ := BV.new w 0 0 0 ⟨#[]⟩
        have hg0 : w.heap.size ≠ g := by have := hr.cells.2.2.2.2.2; omega
        have hu0 : Upd g w _ := Upd.of hb0
        refine (hn1.out _ hr0).mono ?_; rintro e w1 ⟨rfl, hu1, hr1⟩
        have bz1 := bz0.upd hu1 hg0
        replace hu1 := hu0.trans hu1
        clear hb0 hr0 bz0 hu0
        go_wp2_with fail
        have bt1 : BV (w1.alloc (.cells #[.int .i64 2, .int .i64 0, .int .u64 0, .string ⟨#[]⟩] 36)) w1.heap.size 2 0 0 ⟨#[]⟩ := BV.new w1 2 0 0 ⟨#[]⟩
        have hba1 := hba w1 (.cells #[.int .i64 2, .int .i64 0, .int .u64 0, .string ⟨#[]⟩] 36)
        have bz2 := bz1.keep hba1
        have hr2 := hr1.keep hba1
        have hu2 := hu1.trans (Upd.of hba1)
        have hg1 : w1.heap.size ≠ g := by have := hr1.cells.2.2.2.2.2; omega
        have hg2 : w1.heap.size ≠ w.heap.size := by have := bz1.cells.2.2.2.2.2.2.2.2; omega
        have hg3 : w.heap.size ≤ w1.heap.size := hu1.size
        generalize hz1 : w1.heap.size = b3 at *
        generalize w1.alloc (.cells #[.int .i64 2, .int .i64 0, .int .u64 0, .string ⟨#[]⟩] 36) = w2 at *
        clear hba1 hr1 hu1 bz1 hz1 w1
        refine (hn2.out _ hr2).mono ?_; rintro e w3 ⟨hu3, rfl, hr3, hj⟩
        have bz3 := bz2.upd hu3 hg0
        have bt3 := bt1.upd hu3 hg1
        replace hu3 := hu2.trans hu3
        clear hu2 hr2 bz2 bt1
        obtain ⟨t0, t1, t2, t3, tf0, tf1, tf2, tf3, tl⟩ := bt3.cells
        go_wp2_with fail
        clear t0 t1 t2 t3 tf0 tf1 tf2 tf3 tl
        have hrW := hr3.setO (o := 1) (.int .i64 n) hg1
        have btW := bt3.setN n
        have bzW := bz3.setO (o := 1) (.int .i64 n) hg2
        have huW := hu3.setNew (o := 1) (.int .i64 n) hg3
        generalize w3.setCell ⟨b3, 1, none⟩ (.int .i64 n) = w4 at *
        clear hr3 bt3 bz3 hu3 w3
        have hRt := fun W => right_any 2 n 0 ⟨#[]⟩ (by show ByteArray.size _ ≤ _; decide) W
        have HV : Hid (Cd.valueR s i = if Va.right 2 n 0 ⟨#[]⟩ then .ok (⟨2, n, 0, ⟨#[]⟩⟩, j) else .error 7) := by show _ = _; unfold Cd.valueR; rw [HE.out]; rfl
        unfold vv at hRt
        cases hrt : Va.right 2 n 0 ⟨#[]⟩
        · rw [hrt] at hRt
          have HRT := hid hRt
          have HW : Hid (Cd.valueR s i = .error 7) := by show _ = _; rw [HV.out, hrt]; rfl
          clear hRt hrt
          refine (HRT.out _).mono ?_; rintro e w5 ⟨rfl, hb5⟩
          go_wp2_with fail
          exact ⟨rfl, Told.mk_err HW.out (huW.trans (Upd.of hb5)) rfl (hrW.keep hb5) hj⟩
        · rw [hrt] at hRt
          have HRT := hid hRt
          have HW : Hid (Cd.valueR s i = .ok (⟨2, n, 0, ⟨#[]⟩⟩, j)) := by show _ = _; rw [HV.out, hrt]; rfl
          clear hRt hrt
          refine (HRT.out _).mono ?_; rintro e w5 ⟨rfl, hb5⟩
          have bt5 := btW.keep hb5
          have bz5 := bzW.keep hb5
          have hr5 := hrW.keep hb5
          have hu5 := huW.trans (Upd.of hb5)
          clear hb5 huW hrW bzW btW
          obtain ⟨t0, t1, t2, t3, _, _, _, _, tl⟩ := bt5.cells
          obtain ⟨z0, z1, z2, z3, zf0, zf1, zf2, zf3, _⟩ := bz5.cells
          go_wp2_with fail
          have hrF := (((hr5.setO (o := 0) (.int .i64 2) hg0).setO (o := 1) (.int .i64 n) hg0).setO (o := 2) (.int .u64 0) hg0).setO (o := 3) (.string ⟨#[]⟩) hg0
          have huF := (((hu5.setNew (o := 0) (.int .i64 2) (Nat.le_refl _)).setNew (o := 1) (.int .i64 n) (Nat.le_refl _)).setNew (o := 2) (.int .u64 0) (Nat.le_refl _)).setNew (o := 3) (.string ⟨#[]⟩) (Nat.le_refl _)
          exact bodyPost_ret (v := .agg #[.int .i64 2, .int .i64 n, .int .u64 0, .string ⟨#[]⟩]) (by simp [results, Try.results108, go_sem, z0, z1, z2, z3]) rfl (Told.mk_ok HW.out huF rfl hrF hj)
    by_cases hk4 : c = 4
    · obtain rfl : 4 = c := hk4.symm
      have hraw : Hid (Cd.rawR s i = match Cd.textR s 4096 (i + 1) with | .error e => .error e | .ok (x, m) => .ok (⟨4, 0, 0, x⟩, m)) := by show _ = _; unfold Cd.rawR; rw [hnx.out]; rfl
      have hn1 : Hid (∀ W, Rdr W g s i er → Calls Try.prog 105 #[.pointer (some ⟨g, 0, none⟩)] W fun e w' => e = .returned (.int .u8 4) ∧ Upd g W w' ∧ Rdr w' g s (i + 1) er) := fun W h => by have := next_ok g s i er W h hi1 (by omega); rwa [show (s[i].toNat : Int) = 4 by rw [hc]; rfl] at this
      cases hres : Cd.textR s 4096 (i + 1) with
      | error x =>
        have HE : Hid (Cd.valueR s i = .error x) := by show _ = _; unfold Cd.valueR; rw [hraw.out, hres]
        have hn2 : Hid (∀ W, Rdr W g s (i + 1) er → Calls Try.prog 83 #[.pointer (some ⟨g, 0, none⟩), .int .u64 4096] W fun e w' => Upd g W w' ∧ e = .panicked [{ v := fault x, recovered := false }] ∧ ∃ j, Rdr w' g s j er ∧ j ≤ s.size) := fun W h => by have hh := text_rd 4096 (by omega) g s (i + 1) er W h (by omega) hs; rw [hres] at hh; exact hh
        clear hraw hnx hc hres
        go_enter Try.func108, Try.ntmps108
        go_wp2_with fail
        have hb0 := hba w (.cells #[.int .i64 0, .int .i64 0, .int .u64 0, .string ⟨#[]⟩] 36)
        have hr0 := hr.keep hb0
        have bz0 : BV (w.alloc (.cells #[.int .i64 0, .int .i64 0, .int .u64 0, .string ⟨#[]⟩] 36)) w.heap.size 0 0 0 ⟨#[]⟩ := BV.new w 0 0 0 ⟨#[]⟩
        have hg0 : w.heap.size ≠ g := by have := hr.cells.2.2.2.2.2; omega
        have hu0 : Upd g w _ := Upd.of hb0
        refine (hn1.out _ hr0).mono ?_; rintro e w1 ⟨rfl, hu1, hr1⟩
        have bz1 := bz0.upd hu1 hg0
        replace hu1 := hu0.trans hu1
        clear hb0 hr0 bz0 hu0
        go_wp2_with fail
        have bt1 : BV (w1.alloc (.cells #[.int .i64 4, .int .i64 0, .int .u64 0, .string ⟨#[]⟩] 36)) w1.heap.size 4 0 0 ⟨#[]⟩ := BV.new w1 4 0 0 ⟨#[]⟩
        have hba1 := hba w1 (.cells #[.int .i64 4, .int .i64 0, .int .u64 0, .string ⟨#[]⟩] 36)
        have bz2 := bz1.keep hba1
        have hr2 := hr1.keep hba1
        have hu2 := hu1.trans (Upd.of hba1)
        have hg1 : w1.heap.size ≠ g := by have := hr1.cells.2.2.2.2.2; omega
        have hg2 : w1.heap.size ≠ w.heap.size := by have := bz1.cells.2.2.2.2.2.2.2.2; omega
        have hg3 : w.heap.size ≤ w1.heap.size := hu1.size
        generalize hz1 : w1.heap.size = b3 at *
        generalize w1.alloc (.cells #[.int .i64 4, .int .i64 0, .int .u64 0, .string ⟨#[]⟩] 36) = w2 at *
        clear hba1 hr1 hu1 bz1 hz1 w1
        refine (hn2.out _ hr2).mono ?_; rintro e w3 ⟨hu3, rfl, j, hr3, hj⟩
        go_wp2_with fail
        exact ⟨rfl, Told.mk_err HE.out (hu2.trans hu3) rfl hr3 hj⟩
      | ok p =>
        obtain ⟨t, j⟩ := p
        have HE : Hid (Cd.rawR s i = .ok (⟨4, 0, 0, t⟩, j)) := by show _ = _; rw [hraw.out, hres]
        have hn2 : Hid (∀ W, Rdr W g s (i + 1) er → Calls Try.prog 83 #[.pointer (some ⟨g, 0, none⟩), .int .u64 4096] W fun e w' => Upd g W w' ∧ e = .returned (.string t) ∧ Rdr w' g s j er ∧ j ≤ s.size) := fun W h => by have hh := text_rd 4096 (by omega) g s (i + 1) er W h (by omega) hs; rw [hres] at hh; exact hh
        have hts : t.size ≤ maxLen := by have := textR_size hres; unfold maxLen; omega
        clear hraw hnx hc hres
        go_enter Try.func108, Try.ntmps108
        go_wp2_with fail
        have hb0 := hba w (.cells #[.int .i64 0, .int .i64 0, .int .u64 0, .string ⟨#[]⟩] 36)
        have hr0 := hr.keep hb0
        have bz0 : BV (w.alloc (.cells #[.int .i64 0, .int .i64 0, .int .u64 0, .string ⟨#[]⟩] 36)) w.heap.size 0 0 0 ⟨#[]⟩ := BV.new w 0 0 0 ⟨#[]⟩
        have hg0 : w.heap.size ≠ g := by have := hr.cells.2.2.2.2.2; omega
        have hu0 : Upd g w _ := Upd.of hb0
        refine (hn1.out _ hr0).mono ?_; rintro e w1 ⟨rfl, hu1, hr1⟩
        have bz1 := bz0.upd hu1 hg0
        replace hu1 := hu0.trans hu1
        clear hb0 hr0 bz0 hu0
        go_wp2_with fail
        have bt1 : BV (w1.alloc (.cells #[.int .i64 4, .int .i64 0, .int .u64 0, .string ⟨#[]⟩] 36)) w1.heap.size 4 0 0 ⟨#[]⟩ := BV.new w1 4 0 0 ⟨#[]⟩
        have hba1 := hba w1 (.cells #[.int .i64 4, .int .i64 0, .int .u64 0, .string ⟨#[]⟩] 36)
        have bz2 := bz1.keep hba1
        have hr2 := hr1.keep hba1
        have hu2 := hu1.trans (Upd.of hba1)
        have hg1 : w1.heap.size ≠ g := by have := hr1.cells.2.2.2.2.2; omega
        have hg2 : w1.heap.size ≠ w.heap.size := by have := bz1.cells.2.2.2.2.2.2.2.2; omega
        have hg3 : w.heap.size ≤ w1.heap.size := hu1.size
        generalize hz1 : w1.heap.size = b3 at *
        generalize w1.alloc (.cells #[.int .i64 4, .int .i64 0, .int .u64 0, .string ⟨#[]⟩] 36) = w2 at *
        clear hba1 hr1 hu1 bz1 hz1 w1
        refine (hn2.out _ hr2).mono ?_; rintro e w3 ⟨hu3, rfl, hr3, hj⟩
        have bz3 := bz2.upd hu3 hg0
        have bt3 := bt1.upd hu3 hg1
        replace hu3 := hu2.trans hu3
        clear hu2 hr2 bz2 bt1
        obtain ⟨t0, t1, t2, t3, tf0, tf1, tf2, tf3, tl⟩ := bt3.cells
        go_wp2_with fail
        clear t0 t1 t2 t3 tf0 tf1 tf2 tf3 tl
        have hrW := hr3.setO (o := 3) (.string t) hg1
        have btW := bt3.setS t
        have bzW := bz3.setO (o := 3) (.string t) hg2
        have huW := hu3.setNew (o := 3) (.string t) hg3
        generalize w3.setCell ⟨b3, 3, none⟩ (.string t) = w4 at *
        clear hr3 bt3 bz3 hu3 w3
        have hRt := fun W => right_any 4 0 0 t hts W
        have HV : Hid (Cd.valueR s i = if Va.right 4 0 0 t then .ok (⟨4, 0, 0, t⟩, j) else .error 7) := by show _ = _; unfold Cd.valueR; rw [HE.out]; rfl
        unfold vv at hRt
        cases hrt : Va.right 4 0 0 t
        · rw [hrt] at hRt
          have HRT := hid hRt
          have HW : Hid (Cd.valueR s i = .error 7) := by show _ = _; rw [HV.out, hrt]; rfl
          clear hRt hrt
          refine (HRT.out _).mono ?_; rintro e w5 ⟨rfl, hb5⟩
          go_wp2_with fail
          exact ⟨rfl, Told.mk_err HW.out (huW.trans (Upd.of hb5)) rfl (hrW.keep hb5) hj⟩
        · rw [hrt] at hRt
          have HRT := hid hRt
          have HW : Hid (Cd.valueR s i = .ok (⟨4, 0, 0, t⟩, j)) := by show _ = _; rw [HV.out, hrt]; rfl
          clear hRt hrt
          refine (HRT.out _).mono ?_; rintro e w5 ⟨rfl, hb5⟩
          have bt5 := btW.keep hb5
          have bz5 := bzW.keep hb5
          have hr5 := hrW.keep hb5
          have hu5 := huW.trans (Upd.of hb5)
          clear hb5 huW hrW bzW btW
          obtain ⟨t0, t1, t2, t3, _, _, _, _, tl⟩ := bt5.cells
          obtain ⟨z0, z1, z2, z3, zf0, zf1, zf2, zf3, _⟩ := bz5.cells
          go_wp2_with fail
          have hrF := (((hr5.setO (o := 0) (.int .i64 4) hg0).setO (o := 1) (.int .i64 0) hg0).setO (o := 2) (.int .u64 0) hg0).setO (o := 3) (.string t) hg0
          have huF := (((hu5.setNew (o := 0) (.int .i64 4) (Nat.le_refl _)).setNew (o := 1) (.int .i64 0) (Nat.le_refl _)).setNew (o := 2) (.int .u64 0) (Nat.le_refl _)).setNew (o := 3) (.string t) (Nat.le_refl _)
          exact bodyPost_ret (v := .agg #[.int .i64 4, .int .i64 0, .int .u64 0, .string t]) (by simp [results, Try.results108, go_sem, z0, z1, z2, z3]) rfl (Told.mk_ok HW.out huF rfl hrF hj)
    by_cases hk5 : c = 5
    · obtain rfl : 5 = c := hk5.symm
      have hraw : Hid (Cd.rawR s i = match Cd.textR s 4096 (i + 1) with | .error e => .error e | .ok (x, m) => .ok (⟨5, 0, 0, x⟩, m)) := by show _ = _; unfold Cd.rawR; rw [hnx.out]; rfl
      have hn1 : Hid (∀ W, Rdr W g s i er → Calls Try.prog 105 #[.pointer (some ⟨g, 0, none⟩)] W fun e w' => e = .returned (.int .u8 5) ∧ Upd g W w' ∧ Rdr w' g s (i + 1) er) := fun W h => by have := next_ok g s i er W h hi1 (by omega); rwa [show (s[i].toNat : Int) = 5 by rw [hc]; rfl] at this
      cases hres : Cd.textR s 4096 (i + 1) with
      | error x =>
        have HE : Hid (Cd.valueR s i = .error x) := by show _ = _; unfold Cd.valueR; rw [hraw.out, hres]
        have hn2 : Hid (∀ W, Rdr W g s (i + 1) er → Calls Try.prog 83 #[.pointer (some ⟨g, 0, none⟩), .int .u64 4096] W fun e w' => Upd g W w' ∧ e = .panicked [{ v := fault x, recovered := false }] ∧ ∃ j, Rdr w' g s j er ∧ j ≤ s.size) := fun W h => by have hh := text_rd 4096 (by omega) g s (i + 1) er W h (by omega) hs; rw [hres] at hh; exact hh
        clear hraw hnx hc hres
        go_enter Try.func108, Try.ntmps108
        go_wp2_with fail
        have hb0 := hba w (.cells #[.int .i64 0, .int .i64 0, .int .u64 0, .string ⟨#[]⟩] 36)
        have hr0 := hr.keep hb0
        have bz0 : BV (w.alloc (.cells #[.int .i64 0, .int .i64 0, .int .u64 0, .string ⟨#[]⟩] 36)) w.heap.size 0 0 0 ⟨#[]⟩ := BV.new w 0 0 0 ⟨#[]⟩
        have hg0 : w.heap.size ≠ g := by have := hr.cells.2.2.2.2.2; omega
        have hu0 : Upd g w _ := Upd.of hb0
        refine (hn1.out _ hr0).mono ?_; rintro e w1 ⟨rfl, hu1, hr1⟩
        have bz1 := bz0.upd hu1 hg0
        replace hu1 := hu0.trans hu1
        clear hb0 hr0 bz0 hu0
        go_wp2_with fail
        have bt1 : BV (w1.alloc (.cells #[.int .i64 5, .int .i64 0, .int .u64 0, .string ⟨#[]⟩] 36)) w1.heap.size 5 0 0 ⟨#[]⟩ := BV.new w1 5 0 0 ⟨#[]⟩
        have hba1 := hba w1 (.cells #[.int .i64 5, .int .i64 0, .int .u64 0, .string ⟨#[]⟩] 36)
        have bz2 := bz1.keep hba1
        have hr2 := hr1.keep hba1
        have hu2 := hu1.trans (Upd.of hba1)
        have hg1 : w1.heap.size ≠ g := by have := hr1.cells.2.2.2.2.2; omega
        have hg2 : w1.heap.size ≠ w.heap.size := by have := bz1.cells.2.2.2.2.2.2.2.2; omega
        have hg3 : w.heap.size ≤ w1.heap.size := hu1.size
        generalize hz1 : w1.heap.size = b3 at *
        generalize w1.alloc (.cells #[.int .i64 5, .int .i64 0, .int .u64 0, .string ⟨#[]⟩] 36) = w2 at *
        clear hba1 hr1 hu1 bz1 hz1 w1
        refine (hn2.out _ hr2).mono ?_; rintro e w3 ⟨hu3, rfl, j, hr3, hj⟩
        go_wp2_with fail
        exact ⟨rfl, Told.mk_err HE.out (hu2.trans hu3) rfl hr3 hj⟩
      | ok p =>
        obtain ⟨t, j⟩ := p
        have HE : Hid (Cd.rawR s i = .ok (⟨5, 0, 0, t⟩, j)) := by show _ = _; rw [hraw.out, hres]
        have hn2 : Hid (∀ W, Rdr W g s (i + 1) er → Calls Try.prog 83 #[.pointer (some ⟨g, 0, none⟩), .int .u64 4096] W fun e w' => Upd g W w' ∧ e = .returned (.string t) ∧ Rdr w' g s j er ∧ j ≤ s.size) := fun W h => by have hh := text_rd 4096 (by omega) g s (i + 1) er W h (by omega) hs; rw [hres] at hh; exact hh
        have hts : t.size ≤ maxLen := by have := textR_size hres; unfold maxLen; omega
        clear hraw hnx hc hres
        go_enter Try.func108, Try.ntmps108
        go_wp2_with fail
        have hb0 := hba w (.cells #[.int .i64 0, .int .i64 0, .int .u64 0, .string ⟨#[]⟩] 36)
        have hr0 := hr.keep hb0
        have bz0 : BV (w.alloc (.cells #[.int .i64 0, .int .i64 0, .int .u64 0, .string ⟨#[]⟩] 36)) w.heap.size 0 0 0 ⟨#[]⟩ := BV.new w 0 0 0 ⟨#[]⟩
        have hg0 : w.heap.size ≠ g := by have := hr.cells.2.2.2.2.2; omega
        have hu0 : Upd g w _ := Upd.of hb0
        refine (hn1.out _ hr0).mono ?_; rintro e w1 ⟨rfl, hu1, hr1⟩
        have bz1 := bz0.upd hu1 hg0
        replace hu1 := hu0.trans hu1
        clear hb0 hr0 bz0 hu0
        go_wp2_with fail
        have bt1 : BV (w1.alloc (.cells #[.int .i64 5, .int .i64 0, .int .u64 0, .string ⟨#[]⟩] 36)) w1.heap.size 5 0 0 ⟨#[]⟩ := BV.new w1 5 0 0 ⟨#[]⟩
        have hba1 := hba w1 (.cells #[.int .i64 5, .int .i64 0, .int .u64 0, .string ⟨#[]⟩] 36)
        have bz2 := bz1.keep hba1
        have hr2 := hr1.keep hba1
        have hu2 := hu1.trans (Upd.of hba1)
        have hg1 : w1.heap.size ≠ g := by have := hr1.cells.2.2.2.2.2; omega
        have hg2 : w1.heap.size ≠ w.heap.size := by have := bz1.cells.2.2.2.2.2.2.2.2; omega
        have hg3 : w.heap.size ≤ w1.heap.size := hu1.size
        generalize hz1 : w1.heap.size = b3 at *
        generalize w1.alloc (.cells #[.int .i64 5, .int .i64 0, .int .u64 0, .string ⟨#[]⟩] 36) = w2 at *
        clear hba1 hr1 hu1 bz1 hz1 w1
        refine (hn2.out _ hr2).mono ?_; rintro e w3 ⟨hu3, rfl, hr3, hj⟩
        have bz3 := bz2.upd hu3 hg0
        have bt3 := bt1.upd hu3 hg1
        replace hu3 := hu2.trans hu3
        clear hu2 hr2 bz2 bt1
        obtain ⟨t0, t1, t2, t3, tf0, tf1, tf2, tf3, tl⟩ := bt3.cells
        go_wp2_with fail
        clear t0 t1 t2 t3 tf0 tf1 tf2 tf3 tl
        have hrW := hr3.setO (o := 3) (.string t) hg1
        have btW := bt3.setS t
        have bzW := bz3.setO (o := 3) (.string t) hg2
        have huW := hu3.setNew (o := 3) (.string t) hg3
        generalize w3.setCell ⟨b3, 3, none⟩ (.string t) = w4 at *
        clear hr3 bt3 bz3 hu3 w3
        have hRt := fun W => right_any 5 0 0 t hts W
        have HV : Hid (Cd.valueR s i = if Va.right 5 0 0 t then .ok (⟨5, 0, 0, t⟩, j) else .error 7) := by show _ = _; unfold Cd.valueR; rw [HE.out]; rfl
        unfold vv at hRt
        cases hrt : Va.right 5 0 0 t
        · rw [hrt] at hRt
          have HRT := hid hRt
          have HW : Hid (Cd.valueR s i = .error 7) := by show _ = _; rw [HV.out, hrt]; rfl
          clear hRt hrt
          refine (HRT.out _).mono ?_; rintro e w5 ⟨rfl, hb5⟩
          go_wp2_with fail
          exact ⟨rfl, Told.mk_err HW.out (huW.trans (Upd.of hb5)) rfl (hrW.keep hb5) hj⟩
        · rw [hrt] at hRt
          have HRT := hid hRt
          have HW : Hid (Cd.valueR s i = .ok (⟨5, 0, 0, t⟩, j)) := by show _ = _; rw [HV.out, hrt]; rfl
          clear hRt hrt
          refine (HRT.out _).mono ?_; rintro e w5 ⟨rfl, hb5⟩
          have bt5 := btW.keep hb5
          have bz5 := bzW.keep hb5
          have hr5 := hrW.keep hb5
          have hu5 := huW.trans (Upd.of hb5)
          clear hb5 huW hrW bzW btW
          obtain ⟨t0, t1, t2, t3, _, _, _, _, tl⟩ := bt5.cells
          obtain ⟨z0, z1, z2, z3, zf0, zf1, zf2, zf3, _⟩ := bz5.cells
          go_wp2_with fail
          have hrF := (((hr5.setO (o := 0) (.int .i64 5) hg0).setO (o := 1) (.int .i64 0) hg0).setO (o := 2) (.int .u64 0) hg0).setO (o := 3) (.string t) hg0
          have huF := (((hu5.setNew (o := 0) (.int .i64 5) (Nat.le_refl _)).setNew (o := 1) (.int .i64 0) (Nat.le_refl _)).setNew (o := 2) (.int .u64 0) (Nat.le_refl _)).setNew (o := 3) (.string t) (Nat.le_refl _)
          exact bodyPost_ret (v := .agg #[.int .i64 5, .int .i64 0, .int .u64 0, .string t]) (by simp [results, Try.results108, go_sem, z0, z1, z2, z3]) rfl (Told.mk_ok HW.out huF rfl hrF hj)
    by_cases hk3 : c = 3
    · obtain rfl : 3 = c := hk3.symm
      have hraw : Hid (Cd.rawR s i = match Cd.bitsF s.data.toList 8 0 (i + 1) with | .error e => .error e | .ok (b, m) => .ok (⟨3, 0, b, ⟨#[]⟩⟩, m)) := by show _ = _; unfold Cd.rawR; rw [hnx.out]; rfl
      have hn1 : Hid (∀ W, Rdr W g s i er → Calls Try.prog 105 #[.pointer (some ⟨g, 0, none⟩)] W fun e w' => e = .returned (.int .u8 3) ∧ Upd g W w' ∧ Rdr w' g s (i + 1) er) := fun W h => by have := next_ok g s i er W h hi1 (by omega); rwa [show (s[i].toNat : Int) = 3 by rw [hc]; rfl] at this
      clear hnx hc
      go_enter Try.func108, Try.ntmps108
      go_wp2_with fail
      have hb0 := hba w (.cells #[.int .i64 0, .int .i64 0, .int .u64 0, .string ⟨#[]⟩] 36)
      have hr0 := hr.keep hb0
      have bz0 : BV (w.alloc (.cells #[.int .i64 0, .int .i64 0, .int .u64 0, .string ⟨#[]⟩] 36)) w.heap.size 0 0 0 ⟨#[]⟩ := BV.new w 0 0 0 ⟨#[]⟩
      have hg0 : w.heap.size ≠ g := by have := hr.cells.2.2.2.2.2; omega
      have hu0 : Upd g w _ := Upd.of hb0
      refine (hn1.out _ hr0).mono ?_; rintro e w1 ⟨rfl, hu1, hr1⟩
      have bz1 := bz0.upd hu1 hg0
      replace hu1 := hu0.trans hu1
      clear hb0 hr0 bz0 hu0
      go_wp2_with fail
      have bt1 : BV (w1.alloc (.cells #[.int .i64 3, .int .i64 0, .int .u64 0, .string ⟨#[]⟩] 36)) w1.heap.size 3 0 0 ⟨#[]⟩ := BV.new w1 3 0 0 ⟨#[]⟩
      have hba1 := hba w1 (.cells #[.int .i64 3, .int .i64 0, .int .u64 0, .string ⟨#[]⟩] 36)
      have bz2 := bz1.keep hba1
      have hr2 := hr1.keep hba1
      have hu2 := hu1.trans (Upd.of hba1)
      have hg1 : w1.heap.size ≠ g := by have := hr1.cells.2.2.2.2.2; omega
      have hg2 : w1.heap.size ≠ w.heap.size := by have := bz1.cells.2.2.2.2.2.2.2.2; omega
      have hg3 : w.heap.size ≤ w1.heap.size := hu1.size
      generalize hz1 : w1.heap.size = b3 at *
      generalize w1.alloc (.cells #[.int .i64 3, .int .i64 0, .int .u64 0, .string ⟨#[]⟩] 36) = w2 at *
      clear hba1 hr1 hu1 bz1 hz1 w1
      go_loopw [23] (fun q wr => ∃ (f kk b j : Nat), q = .int .i64 (kk : Int) ∧ kk + f = 8 ∧ Hid (b < 256 ^ kk) ∧ BV wr b3 3 0 b ⟨#[]⟩ ∧ BV wr w.heap.size 0 0 0 ⟨#[]⟩ ∧ Rdr wr g s j er ∧ j ≤ s.size ∧ Upd g w wr ∧ Hid (Cd.bitsF s.data.toList f b j = Cd.bitsF s.data.toList 8 0 (i + 1))) (fun q _ => 8 - (intOf q).toNat)
      case atStart => exact ⟨8, 0, 0, i + 1, rfl, rfl, by show _ < _; decide, bt1, bz2, hr2, by omega, hu2, rfl⟩
      case round =>
        obtain ⟨f, kk, b, j, rfl, hkf, hb, bt3, bz3, hr3, hj, hu3, hE⟩ := hrel
        clear hr2 hu2 bz2 bt1
        obtain ⟨w4, rfl⟩ : ∃ w4 : World, w4 = wr := ⟨_, rfl⟩
        have hk0 : (0 : Int) ≤ (kk : Int) := by omega
        cases f with
        | zero =>
          obtain rfl : kk = 8 := by omega
          have HEb := hid (show Cd.bitsF s.data.toList 8 0 (i + 1) = .ok (b, j) from hE.out.symm)
          have hb64 : b < 18446744073709551616 := Nat.lt_of_lt_of_le hb.out (by decide)
          have HE : Hid (Cd.rawR s i = .ok (⟨3, 0, b, ⟨#[]⟩⟩, j)) := by show _ = _; rw [hraw.out, HEb.out]
          clear hE hraw HEb
          obtain ⟨t0, t1, t2, t3, tf0, tf1, tf2, tf3, tl⟩ := bt3.cells
          go_wp2_with fail
          have hrW := hr3
          have btW := bt3
          have bzW := bz3
          have huW := hu3
          clear t0 t1 t2 t3 tf0 tf1 tf2 tf3 tl hr3 bt3 bz3 hu3
          have hRt := fun W => right_any 3 0 b ⟨#[]⟩ (by show ByteArray.size _ ≤ _; decide) W
          have HV : Hid (Cd.valueR s i = if Va.right 3 0 b ⟨#[]⟩ then .ok (⟨3, 0, b, ⟨#[]⟩⟩, j) else .error 7) := by show _ = _; unfold Cd.valueR; rw [HE.out]; rfl
          unfold vv at hRt
          cases hrt : Va.right 3 0 b ⟨#[]⟩
          · rw [hrt] at hRt
            have HRT := hid hRt
            have HW : Hid (Cd.valueR s i = .error 7) := by show _ = _; rw [HV.out, hrt]; rfl
            clear hRt hrt
            refine (HRT.out _).mono ?_; rintro e w5 ⟨rfl, hb5⟩
            go_wp2_with fail
            exact ⟨rfl, Told.mk_err HW.out (huW.trans (Upd.of hb5)) rfl (hrW.keep hb5) hj⟩
          · rw [hrt] at hRt
            have HRT := hid hRt
            have HW : Hid (Cd.valueR s i = .ok (⟨3, 0, b, ⟨#[]⟩⟩, j)) := by show _ = _; rw [HV.out, hrt]; rfl
            clear hRt hrt
            refine (HRT.out _).mono ?_; rintro e w5 ⟨rfl, hb5⟩
            have bt5 := btW.keep hb5
            have bz5 := bzW.keep hb5
            have hr5 := hrW.keep hb5
            have hu5 := huW.trans (Upd.of hb5)
            clear hb5 huW hrW bzW btW
            obtain ⟨t0, t1, t2, t3, _, _, _, _, tl⟩ := bt5.cells
            obtain ⟨z0, z1, z2, z3, zf0, zf1, zf2, zf3, _⟩ := bz5.cells
            go_wp2_with fail
            have hrF := (((hr5.setO (o := 0) (.int .i64 3) hg0).setO (o := 1) (.int .i64 0) hg0).setO (o := 2) (.int .u64 (b : Int)) hg0).setO (o := 3) (.string ⟨#[]⟩) hg0
            have huF := (((hu5.setNew (o := 0) (.int .i64 3) (Nat.le_refl _)).setNew (o := 1) (.int .i64 0) (Nat.le_refl _)).setNew (o := 2) (.int .u64 (b : Int)) (Nat.le_refl _)).setNew (o := 3) (.string ⟨#[]⟩) (Nat.le_refl _)
            exact bodyPost_ret (v := .agg #[.int .i64 3, .int .i64 0, .int .u64 (b : Int), .string ⟨#[]⟩]) (by simp [results, Try.results108, go_sem, z0, z1, z2, z3]) rfl (Told.mk_ok HW.out huF rfl hrF hj)
        | succ f =>
          have hk8 : (kk : Int) < 8 := by omega
          have hb7 : b < 72057594037927936 := Nat.lt_of_lt_of_le hb.out (Nat.le_trans (Nat.pow_le_pow_right (by decide) (show kk ≤ 7 by omega)) (by decide))
          have hsh : IntKind.u64.wrap ((b : Int) * 256) = ((256 * b : Nat) : Int) := by rw [IntKind.wrap_u64]; omega
          by_cases hjs : j < s.size
          · obtain ⟨d, hd⟩ : ∃ d : Nat, s[j].toNat = d := ⟨_, rfl⟩
            have hdl : d < 256 := by rw [← hd]; exact s[j].toNat_lt
            have hn2 : Hid (∀ W, Rdr W g s j er → Calls Try.prog 105 #[.pointer (some ⟨g, 0, none⟩)] W fun e w' => e = .returned (.int .u8 (d : Int)) ∧ Upd g W w' ∧ Rdr w' g s (j + 1) er) := fun W h => by have := next_ok g s j er W h hjs (by omega); rwa [hd] at this
            have HE2 : Hid (Cd.bitsF s.data.toList f (256 * b + d) (j + 1) = Cd.bitsF s.data.toList 8 0 (i + 1)) := by show _ = _; rw [← hE.out, bitsF_next s f b j hjs d hd]
            have HB2 : Hid (256 * b + d < 256 ^ (kk + 1)) := by have := hb.out; show _ < _; rw [Nat.pow_succ]; omega
            have hcv : IntKind.u64.wrap (d : Int) = (d : Int) := by rw [IntKind.wrap_u64]; omega
            have hor : bits .or .u64 ((256 * b : Nat) : Int) (d : Int) = ((256 * b + d : Nat) : Int) := or_byte b d (by omega) hdl
            obtain ⟨y, hy⟩ : ∃ y, 256 * b + d = y := ⟨_, rfl⟩
            rw [hy] at hor HE2 HB2
            have HY := hid hy
            clear hy
            generalize hX : (256 * b : Nat) = x at hsh hor
            have HX := hid hX
            clear hd hE hX
            obtain ⟨t0, t1, t2, t3, tf0, tf1, tf2, tf3, tl⟩ := bt3.cells
            go_wp2_with fail
            refine wp_region_held_drew (S := (fun _ => True)) (by kernel_rfl) trivial (fun hH => ?_)
            clear t0 t1 t2 t3 tf0 tf1 tf2 tf3 tl
            replace bt3 : BV w4.drew b3 3 0 b ⟨#[]⟩ := bt3
            replace bz3 : BV w4.drew w.heap.size 0 0 0 ⟨#[]⟩ := bz3
            replace hr3 : Rdr w4.drew g s j er := hr3
            replace hu3 := hu3.trans (Upd.of (Below.refl w4.heap.size w4).drew)
            generalize w4.drew = w4 at *
            obtain ⟨t0, t1, t2, t3, tf0, tf1, tf2, tf3, tl⟩ := bt3.cells
            refine wT 0 hH ?_
            refine wT 3 hH ?_
            refine wpAnyH_ready (rs := [1, 4]) (by kernel_rfl) (by simp) ?_
            refine wC (fun K hK => ?_) (wC (fun K hK => ?_) AllReadyH.nil)
            · go_simp
              refine hK.out _ _ trivial (fun hH => ?_)
              clear hK K
              (try simp only [Act.put, List.setIfInBounds_toArray, List.set_cons_zero, List.set_cons_succ])
              refine wT 2 hH ?_
              refine wpAnyH_ready (rs := [4]) (by kernel_rfl) (by simp) ?_
              refine wC (fun K hK => ?_) AllReadyH.nil
              go_simp
              refine (hn2.out _ hr3).mono ?_; rintro e w5 ⟨rfl, hu5, hr5⟩
              replace bt3 := bt3.upd hu5 hg1
              replace bz3 := bz3.upd hu5 hg0
              replace hu3 := hu3.trans hu5
              clear t0 t1 t2 t3 tf0 tf1 tf2 tf3 tl
              obtain ⟨t0, t1, t2, t3, tf0, tf1, tf2, tf3, tl⟩ := bt3.cells
              go_wp2_with fail
              refine hK.out _ _ trivial (fun hH => ?_)
              clear hK K hu5
              (try simp only [Act.put, List.setIfInBounds_toArray, List.set_cons_zero, List.set_cons_succ])
              refine wT 5 hH ?_
              refine wT 6 hH ?_
              refine wT 7 hH ?_
              refine wpAnyH_ready (rs := [8]) (by kernel_rfl) (by simp) ?_
              refine wC (fun K hK => ?_) AllReadyH.nil
              go_simp
              refine hK.out _ _ trivial (fun hH => ?_)
              clear hK K
              (try simp only [Act.put, List.setIfInBounds_toArray, List.set_cons_zero, List.set_cons_succ])
              refine wpAnyH_done (by kernel_rfl) ?_ _
              have bt4 := bt3.setB y
              have hr6 := hr5.setO (o := 2) (.int .u64 (y : Int)) hg1
              have bz4 := bz3.setO (o := 2) (.int .u64 (y : Int)) hg2
              have hu6 := hu3.setNew (o := 2) (.int .u64 (y : Int)) hg3
              go_wp2_with fail
              go_roundw
              case rel => exact ⟨f, kk + 1, y, j + 1, by go_num, by omega, HB2, bt4, bz4, hr6, by omega, hu6, HE2⟩
              case measure => simp [intOf]; omega
            · go_simp
              refine (hn2.out _ hr3).mono ?_; rintro e w5 ⟨rfl, hu5, hr5⟩
              replace bt3 := bt3.upd hu5 hg1
              replace bz3 := bz3.upd hu5 hg0
              replace hu3 := hu3.trans hu5
              clear t0 t1 t2 t3 tf0 tf1 tf2 tf3 tl
              obtain ⟨t0, t1, t2, t3, tf0, tf1, tf2, tf3, tl⟩ := bt3.cells
              go_wp2_with fail
              refine hK.out _ _ trivial (fun hH => ?_)
              clear hK K hu5
              (try simp only [Act.put, List.setIfInBounds_toArray, List.set_cons_zero, List.set_cons_succ])
              refine wT 5 hH ?_
              refine wpAnyH_ready (rs := [1]) (by kernel_rfl) (by simp) ?_
              refine wC (fun K hK => ?_) AllReadyH.nil
              go_simp
              refine hK.out _ _ trivial (fun hH => ?_)
              clear hK K
              (try simp only [Act.put, List.setIfInBounds_toArray, List.set_cons_zero, List.set_cons_succ])
              refine wT 2 hH ?_
              refine wT 6 hH ?_
              refine wT 7 hH ?_
              refine wpAnyH_ready (rs := [8]) (by kernel_rfl) (by simp) ?_
              refine wC (fun K hK => ?_) AllReadyH.nil
              go_simp
              refine hK.out _ _ trivial (fun hH => ?_)
              clear hK K
              (try simp only [Act.put, List.setIfInBounds_toArray, List.set_cons_zero, List.set_cons_succ])
              refine wpAnyH_done (by kernel_rfl) ?_ _
              have bt4 := bt3.setB y
              have hr6 := hr5.setO (o := 2) (.int .u64 (y : Int)) hg1
              have bz4 := bz3.setO (o := 2) (.int .u64 (y : Int)) hg2
              have hu6 := hu3.setNew (o := 2) (.int .u64 (y : Int)) hg3
              go_wp2_with fail
              go_roundw
              case rel => exact ⟨f, kk + 1, y, j + 1, by go_num, by omega, HB2, bt4, bz4, hr6, by omega, hu6, HE2⟩
              case measure => simp [intOf]; omega
          · have HE : Hid (Cd.valueR s i = .error 8) := by show _ = _; unfold Cd.valueR; rw [hraw.out, ← hE.out, bitsF_no s f b j (by omega)]
            have hn2 : Hid (∀ W, Rdr W g s j er → Calls Try.prog 105 #[.pointer (some ⟨g, 0, none⟩)] W fun e w' => e = .panicked [{ v := fault 8, recovered := false }] ∧ Upd g W w' ∧ Rdr w' g s j er) := fun W h => next_no g s j er W h (by omega)
            clear hE hraw
            obtain ⟨t0, t1, t2, t3, tf0, tf1, tf2, tf3, tl⟩ := bt3.cells
            go_wp2_with fail
            refine wp_region_held_drew (S := (fun _ => True)) (by kernel_rfl) trivial (fun hH => ?_)
            clear t0 t1 t2 t3 tf0 tf1 tf2 tf3 tl
            replace bt3 : BV w4.drew b3 3 0 b ⟨#[]⟩ := bt3
            replace bz3 : BV w4.drew w.heap.size 0 0 0 ⟨#[]⟩ := bz3
            replace hr3 : Rdr w4.drew g s j er := hr3
            replace hu3 := hu3.trans (Upd.of (Below.refl w4.heap.size w4).drew)
            generalize w4.drew = w4 at *
            obtain ⟨t0, t1, t2, t3, tf0, tf1, tf2, tf3, tl⟩ := bt3.cells
            refine wT 0 hH ?_
            refine wT 3 hH ?_
            refine wpAnyH_ready (rs := [1, 4]) (by kernel_rfl) (by simp) ?_
            refine wC (fun K hK => ?_) (wC (fun K hK => ?_) AllReadyH.nil)
            · go_simp
              refine hK.out _ _ trivial (fun hH => ?_)
              clear hK K
              (try simp only [Act.put, List.setIfInBounds_toArray, List.set_cons_zero, List.set_cons_succ])
              refine wT 2 hH ?_
              refine wpAnyH_ready (rs := [4]) (by kernel_rfl) (by simp) ?_
              refine wC (fun K hK => ?_) AllReadyH.nil
              go_simp
              refine (hn2.out _ hr3).mono ?_; rintro e w5 ⟨rfl, hu5, hr5⟩
              go_wp2_with fail
              exact ⟨rfl, Told.mk_err HE.out (hu3.trans hu5) rfl hr5 (by omega)⟩
            · go_simp
              refine (hn2.out _ hr3).mono ?_; rintro e w5 ⟨rfl, hu5, hr5⟩
              go_wp2_with fail
              exact ⟨rfl, Told.mk_err HE.out (hu3.trans hu5) rfl hr5 (by omega)⟩
    have HE : Hid (Cd.rawR s i = .ok (⟨c, 0, 0, ⟨#[]⟩⟩, i + 1)) := by show _ = _; unfold Cd.rawR; rw [hnx.out]; dsimp only; rw [if_neg hk, if_neg hk2, if_neg hk3, if_neg (by omega)]
    have e1 : ((c : Int) == 1) = false := by rw [beq_eq_false_iff_ne]; omega
    have e2 : ((c : Int) == 2) = false := by rw [beq_eq_false_iff_ne]; omega
    have e3 : ((c : Int) == 3) = false := by rw [beq_eq_false_iff_ne]; omega
    have e4 : ((c : Int) == 4) = false := by rw [beq_eq_false_iff_ne]; omega
    have e5 : ((c : Int) == 5) = false := by rw [beq_eq_false_iff_ne]; omega
    have hcl : c < 256 := by rw [← hc]; exact s[i].toNat_lt
    have hn1 : Hid (∀ W, Rdr W g s i er → Calls Try.prog 105 #[.pointer (some ⟨g, 0, none⟩)] W fun e w' => e = .returned (.int .u8 (c : Int)) ∧ Upd g W w' ∧ Rdr w' g s (i + 1) er) := fun W h => by have := next_ok g s i er W h hi1 (by omega); rwa [hc] at this
    clear hnx hc
    obtain ⟨j, hj0⟩ : ∃ j, i + 1 = j := ⟨_, rfl⟩
    have hj : j ≤ s.size := by omega
    rw [hj0] at HE hn1
    clear hj0
    go_enter Try.func108, Try.ntmps108
    go_wp2_with fail
    have hb0 := hba w (.cells #[.int .i64 0, .int .i64 0, .int .u64 0, .string ⟨#[]⟩] 36)
    have hr0 := hr.keep hb0
    have bz0 : BV (w.alloc (.cells #[.int .i64 0, .int .i64 0, .int .u64 0, .string ⟨#[]⟩] 36)) w.heap.size 0 0 0 ⟨#[]⟩ := BV.new w 0 0 0 ⟨#[]⟩
    have hg0 : w.heap.size ≠ g := by have := hr.cells.2.2.2.2.2; omega
    have hu0 : Upd g w _ := Upd.of hb0
    refine (hn1.out _ hr0).mono ?_; rintro e w1 ⟨rfl, hu1, hr1⟩
    have bz1 := bz0.upd hu1 hg0
    replace hu1 := hu0.trans hu1
    clear hb0 hr0 bz0 hu0
    go_wp2_with fail
    have bt1 : BV (w1.alloc (.cells #[.int .i64 (c : Int), .int .i64 0, .int .u64 0, .string ⟨#[]⟩] 36)) w1.heap.size (c : Int) 0 0 ⟨#[]⟩ := BV.new w1 (c : Int) 0 0 ⟨#[]⟩
    have hba1 := hba w1 (.cells #[.int .i64 (c : Int), .int .i64 0, .int .u64 0, .string ⟨#[]⟩] 36)
    have bz2 := bz1.keep hba1
    have hr2 := hr1.keep hba1
    have hu2 := hu1.trans (Upd.of hba1)
    have hg1 : w1.heap.size ≠ g := by have := hr1.cells.2.2.2.2.2; omega
    have hg2 : w1.heap.size ≠ w.heap.size := by have := bz1.cells.2.2.2.2.2.2.2.2; omega
    have hg3 : w.heap.size ≤ w1.heap.size := hu1.size
    generalize hz1 : w1.heap.size = b3 at *
    generalize w1.alloc (.cells #[.int .i64 (c : Int), .int .i64 0, .int .u64 0, .string ⟨#[]⟩] 36) = w2 at *
    clear hba1 hr1 hu1 bz1 hz1 w1
    have hrW := hr2
    have btW := bt1
    have bzW := bz2
    have huW := hu2
    clear hr2 bt1 bz2 hu2
    have hRt := fun W => right_any (c : Int) 0 0 ⟨#[]⟩ (by show ByteArray.size _ ≤ _; decide) W
    have HV : Hid (Cd.valueR s i = if Va.right (c : Int) 0 0 ⟨#[]⟩ then .ok (⟨(c : Int), 0, 0, ⟨#[]⟩⟩, j) else .error 7) := by show _ = _; unfold Cd.valueR; rw [HE.out]; rfl
    unfold vv at hRt
    cases hrt : Va.right (c : Int) 0 0 ⟨#[]⟩
    · rw [hrt] at hRt
      have HRT := hid hRt
      have HW : Hid (Cd.valueR s i = .error 7) := by show _ = _; rw [HV.out, hrt]; rfl
      clear hRt hrt
      refine (HRT.out _).mono ?_; rintro e w5 ⟨rfl, hb5⟩
      go_wp2_with fail
      exact ⟨rfl, Told.mk_err HW.out (huW.trans (Upd.of hb5)) rfl (hrW.keep hb5) hj⟩
    · rw [hrt] at hRt
      have HRT := hid hRt
      have HW : Hid (Cd.valueR s i = .ok (⟨(c : Int), 0, 0, ⟨#[]⟩⟩, j)) := by show _ = _; rw [HV.out, hrt]; rfl
      clear hRt hrt
      refine (HRT.out _).mono ?_; rintro e w5 ⟨rfl, hb5⟩
      have bt5 := btW.keep hb5
      have bz5 := bzW.keep hb5
      have hr5 := hrW.keep hb5
      have hu5 := huW.trans (Upd.of hb5)
      clear hb5 huW hrW bzW btW
      obtain ⟨t0, t1, t2, t3, _, _, _, _, tl⟩ := bt5.cells
      obtain ⟨z0, z1, z2, z3, zf0, zf1, zf2, zf3, _⟩ := bz5.cells
      go_wp2_with fail
      have hrF := (((hr5.setO (o := 0) (.int .i64 (c : Int)) hg0).setO (o := 1) (.int .i64 0) hg0).setO (o := 2) (.int .u64 0) hg0).setO (o := 3) (.string ⟨#[]⟩) hg0
      have huF := (((hu5.setNew (o := 0) (.int .i64 (c : Int)) (Nat.le_refl _)).setNew (o := 1) (.int .i64 0) (Nat.le_refl _)).setNew (o := 2) (.int .u64 0) (Nat.le_refl _)).setNew (o := 3) (.string ⟨#[]⟩) (Nat.le_refl _)
      exact bodyPost_ret (v := .agg #[.int .i64 (c : Int), .int .i64 0, .int .u64 0, .string ⟨#[]⟩]) (by simp [results, Try.results108, go_sem, z0, z1, z2, z3]) rfl (Told.mk_ok HW.out huF rfl hrF hj)
  · have HE : Hid (Cd.valueR s i = .error 8) := by show _ = _; unfold Cd.valueR Cd.rawR; rw [nextR_no s i (by omega)]
    have hn1 : Hid (∀ W, Rdr W g s i er → Calls Try.prog 105 #[.pointer (some ⟨g, 0, none⟩)] W fun e w' => e = .panicked [{ v := fault 8, recovered := false }] ∧ Upd g W w' ∧ Rdr w' g s i er) := fun W h => next_no g s i er W h (by omega)
    go_enter Try.func108, Try.ntmps108
    go_wp2_with fail
    have hb0 := hba w (.cells #[.int .i64 0, .int .i64 0, .int .u64 0, .string ⟨#[]⟩] 36)
    have hr0 := hr.keep hb0
    have bz0 : BV (w.alloc (.cells #[.int .i64 0, .int .i64 0, .int .u64 0, .string ⟨#[]⟩] 36)) w.heap.size 0 0 0 ⟨#[]⟩ := BV.new w 0 0 0 ⟨#[]⟩
    have hg0 : w.heap.size ≠ g := by have := hr.cells.2.2.2.2.2; omega
    have hu0 : Upd g w _ := Upd.of hb0
    refine (hn1.out _ hr0).mono ?_; rintro e w1 ⟨rfl, hu1, hr1⟩
    go_wp2_with fail
    exact ⟨rfl, Told.mk_err HE.out (hu0.trans hu1) rfl hr1 hi⟩
end Go.Proofs.Ytmcneelapghfcaa

namespace Go.Proofs.Ytmcneelapghfcaa
open Go.RowKit

/-- what a read of a row leaves -/
def ToldRow (g : Nat) (s : ByteArray) (er : Int) (r : Cd.R (List Cd.V)) (w : World) (e : Ending) (w' : World) : Prop :=
  Upd g w w' ∧ match r with
    | .ok (l, j) => (∃ v', e = .returned v' ∧ w'.ownsRow w.heap.size 36 4 v' l.length (vcells l)) ∧ Rdr w' g s j er ∧ j ≤ s.size
    | .error x => e = .panicked [{ v := fault x, recovered := false }] ∧ ∃ j, Rdr w' g s j er ∧ j ≤ s.size
theorem ToldRow.mk_ok {g : Nat} {s : ByteArray} {er : Int} {r : Cd.R (List Cd.V)} {w w' : World} {e : Ending} {l : List Cd.V} {v' : Value} {j : Nat} (hr : r = .ok (l, j)) (hu : Upd g w w') (he : e = .returned v') (ho : w'.ownsRow w.heap.size 36 4 v' l.length (vcells l)) (hR : Rdr w' g s j er) (hj : j ≤ s.size) : ToldRow g s er r w e w' := by
  subst hr; exact ⟨hu, ⟨v', he, ho⟩, hR, hj⟩
theorem ToldRow.mk_err {g : Nat} {s : ByteArray} {er : Int} {r : Cd.R (List Cd.V)} {w w' : World} {e : Ending} {x : Int} {j : Nat} (hr : r = .error x) (hu : Upd g w w') (he : e = .panicked [{ v := fault x, recovered := false }]) (hR : Rdr w' g s j er) (hj : j ≤ s.size) : ToldRow g s er r w e w' := by
  subst hr; exact ⟨hu, he, j, hR, hj⟩
/-- behind some values: what the rest comes to -/
def joinRow (l : List Cd.V) : Cd.R (List Cd.V) → Cd.R (List Cd.V)
  | .error e => .error e
  | .ok (r, j) => .ok (l ++ r, j)
theorem join_next (s : ByteArray) (l : List Cd.V) (f j : Nat) : joinRow l (Cd.rowF s (f + 1) j) = match Cd.valueR s j with
    | .error e => .error e
    | .ok (v, m) => joinRow (l ++ [v]) (Cd.rowF s f m) := by
  show joinRow l (match Cd.valueR s j with | .error e => .error e | .ok (v, m) => match Cd.rowF s f m with | .error e => .error e | .ok (r, q) => .ok (v :: r, q)) = _
  cases Cd.valueR s j with
  | error e => rfl
  | ok p =>
    obtain ⟨v, m⟩ := p
    simp only
    cases Cd.rowF s f m with
    | error e => rfl
    | ok q => obtain ⟨r, q⟩ := q; simp [joinRow]
theorem join_end (s : ByteArray) (l : List Cd.V) (j : Nat) : joinRow l (Cd.rowF s 0 j) = .ok (l, j) := by simp [joinRow, Cd.rowF]

set_option maxRecDepth 100000 in
set_option maxHeartbeats 3200000 in
theorem row_rd (g : Nat) (s : ByteArray) (i : Nat) (er : Int) (w : World) (hr : Rdr w g s i er) (hi : i ≤ s.size) (hs : s.size ≤ 1000000000) :
    Calls Try.prog 85 #[.pointer (some ⟨g, 0, none⟩)] w (ToldRow g s er (Cd.rowR s i) w) := by
  have h := hid (uint_rd g s i er w hr hi hs)
  have hI : Hid (Cd.rowR s i = match Cd.uintR s.data.toList i with | .error e => .error e | .ok (n, j) => if 1000 < n then .error 19 else Cd.rowF s n j) := rfl
  have hgw : g < w.heap.size := hr.cells.2.2.2.2.2
  cases hres : Cd.uintR s.data.toList i with
  | error x =>
    rw [hres] at h hI
    have hE : Hid (Cd.rowR s i = .error x) := hI
    clear hI hr
    go_enter Try.func85, Try.ntmps85
    go_wp2_with fail
    refine (h.out).mono ?_; rintro e w1 ⟨hu, rfl, j, hR, hj⟩
    go_wp2_with fail
    exact ⟨rfl, ToldRow.mk_err hE.out hu rfl hR hj⟩
  | ok p =>
    obtain ⟨n, j0⟩ := p
    rw [hres] at h hI
    have hI2 : Hid (Cd.rowR s i = if 1000 < n then .error 19 else Cd.rowF s n j0) := hI
    clear hI hr
    by_cases h1 : 1000 < n
    · have hE : Hid (Cd.rowR s i = .error 19) := by show _ = _; rw [hI2.out, if_pos h1]
      have h1' : (1000 : Int) < (n : Int) := by omega
      go_enter Try.func85, Try.ntmps85
      go_wp2_with fail
      refine (h.out).mono ?_; rintro e w1 ⟨hu, rfl, hR, hj⟩
      go_wp2_with fail
      exact ⟨rfl, ToldRow.mk_err hE.out hu rfl hR hj⟩
    · have h1' : ¬ (1000 : Int) < (n : Int) := by omega
      have hE0 := hid (show Cd.rowR s i = joinRow [] (Cd.rowF s n j0) by rw [hI2.out, if_neg h1]; cases Cd.rowF s n j0 with | error e => rfl | ok q => rfl)
      clear hI2
      go_enter Try.func85, Try.ntmps85
      go_wp2_with fail
      refine (h.out).mono ?_; rintro e w1 ⟨hu, rfl, hR, hj⟩
      clear h
      go_wp2_with fail
      go_loopw [4, 12] (fun o q wr => ∃ (kk f j : Nat) (l : List Cd.V), q = .int .u64 (kk : Int) ∧ kk + f = n ∧ l.length = kk ∧ wr.ownsRow w.heap.size 36 4 o l.length (vcells l) ∧ Rdr wr g s j er ∧ j ≤ s.size ∧ Upd g w wr ∧ Hid (Cd.rowR s i = joinRow l (Cd.rowF s f j))) (fun _ q _ => n - (intOf q).toNat)
      case atStart => exact ⟨0, n, j0, [], rfl, by omega, rfl, World.ownsRow_nil _ _ _ _, hR, hj, hu, hE0⟩
      case round =>
        obtain ⟨kk, f, j, l, rfl, hkf, hll, hown, hrj, hj2, hu2, hE⟩ := hrel
        clear hu hR
        obtain ⟨w4, rfl⟩ : ∃ w4 : World, w4 = wr := ⟨_, rfl⟩
        cases f with
        | zero =>
          obtain rfl : kk = n := by omega
          have HE := hid (hE.out.trans (join_end s l j))
          have hO := hid hown
          clear hE hown
          go_wp2_with fail
          go_ret
          exact ToldRow.mk_ok HE.out hu2 rfl hO.out hrj hj2
        | succ f =>
          have hk' : (kk : Int) < (n : Int) := by omega
          have hl6 : l.length ≤ 1000000 := by omega
          have hv := hid (value_rd g s j er w4 hrj hj2 hs)
          have hJ := hid (hE.out.trans (join_next s l f j))
          have hO := hid hown
          have hLL := hid hll
          clear hE hown hll
          cases hres2 : Cd.valueR s j with
          | error x =>
            rw [hres2] at hv hJ
            have HE : Hid (Cd.rowR s i = .error x) := hJ
            clear hJ
            go_wp2_with fail
            refine (hv.out).mono ?_; rintro e w5 ⟨hu5, rfl, m, hr5, hm⟩
            go_wp2_with fail
            exact ⟨rfl, ToldRow.mk_err HE.out (hu2.trans hu5) rfl hr5 hm⟩
          | ok p =>
            obtain ⟨x, m⟩ := p
            rw [hres2] at hv hJ
            have HE : Hid (Cd.rowR s i = joinRow (l ++ [x]) (Cd.rowF s f m)) := hJ
            clear hJ
            go_wp2_with fail
            refine (hv.out).mono ?_; rintro e w5 ⟨hu5, rfl, hr5, hm⟩
            have hO5 := hid (hO.out.kept hu5 (Or.inr (fun e => by have := (hO.out.lt g e).1; omega)))
            have hu25 := hu2.trans hu5
            have hB5 := hu25.size
            clear hu5 hO hv
            unfold vvV vv
            go_wp2_with (at_builtin; refine append_value _ rfl _ _ rfl w.heap.size _ l rfl hO5.out x _ (by first | rfl | (simp; done)) rfl hl6 hB5 ?_; intro v6 w6 hown6 hgrow6; have hO6 := hid hown6; have hr6 : Rdr w6 g s m er := (hgrow6.block g hr5.cells.2.2.2.2.2 (fun e => by have := (hO5.out.lt g e.symm).1; omega)).trans hr5; have hu6 : Upd g w w6 := ⟨hgrow6.os.trans hu25.os, hgrow6.tape.trans hu25.tape, hgrow6.output.trans hu25.output, Nat.le_trans hu25.size hgrow6.size, fun k hk hn => (hgrow6.block k (Nat.lt_of_lt_of_le hk hu25.size) (fun e => by have := (hO5.out.lt k e.symm).1; omega)).trans (hu25.block k hk hn)⟩; clear hown6 hgrow6)
            go_roundw
            case rel => exact ⟨kk + 1, f, m, l ++ [x], by go_num, by omega, by rw [List.length_append, hLL.out]; rfl, hO6.out, hr6, hm, hu6, HE⟩
            case measure => simp [intOf]; omega
end Go.Proofs.Ytmcneelapghfcaa

namespace Go.Proofs.Ytmcneelapghfcaa
open Go.RowKit

theorem wp_named {P : Program} {c : Code} {Q : Exit → Act → World → Prop} {a : Act} {w : World} (h : ∀ Q', Hid (Q' = Q) → c.wp P Q' a w) : c.wp P Q a w := h Q rfl
theorem frame23 (a b c v : Value) : #[a, b, c] ++ (Array.replicate 20 undef).setIfInBounds 4 v = #[a, b, c, undef, undef, undef, undef, v, undef, undef, undef, undef, undef, undef, undef, undef, undef, undef, undef, undef, undef, undef, undef] := by
  apply Array.ext'
  simp [List.replicate]
theorem UB.upd {B g : Nat} {a b : World} (h : Upd g a b) (hB : B ≤ a.heap.size) : UB B g a b := ⟨h.os, h.tape, h.output, h.size, fun i hi hn => h.block i (Nat.lt_of_lt_of_le hi hB) (by simpa using hn)⟩
theorem UB.set {B g r o : Nat} (w : World) (v : Value) (hr : B ≤ r ∨ r = g) : UB B g w (w.setCell ⟨r, o, none⟩ v) := by
  have hb : Below r w (w.setCell ⟨r, o, none⟩ v) := (Below.refl r w).setCell (p := ⟨r, o, none⟩) (Nat.le_refl _) v
  exact ⟨hb.os, hb.tape, hb.output, hb.size, fun i hi hn => heap_setCell_other w ⟨r, o, none⟩ i v (by simp; omega)⟩
theorem UB.toUpd {g : Nat} {w w' : World} (h : UB w.heap.size g w w') : Upd g w w' := ⟨h.os, h.tape, h.output, h.size, fun i hi hn => h.block i hi (by simpa using hn)⟩
theorem cset {W : World} {q : Addr} {v u : Value} {b o : Nat} (h : W.cell? q = some v) (hne : q.block ≠ b) : (W.setCell ⟨b, o, none⟩ u).cell? q = some v :=
  (World.cell?_of_block (heap_setCell_other W ⟨b, o, none⟩ q.block u (by simpa using hne))).trans h
theorem Rdr.setE {w : World} {g : Nat} {s : ByteArray} {i : Nat} {er : Int} (h : Rdr w g s i er) (e : Int) : Rdr (w.setCell ⟨g, 2, none⟩ (.int .i64 e)) g s i e := heap_setCell_same w g 2 _ _ (.int .i64 e) h
theorem Rdr.setI {w : World} {g : Nat} {s : ByteArray} {i : Nat} {er : Int} (h : Rdr w g s i er) (j : Nat) : Rdr (w.setCell ⟨g, 1, none⟩ (.int .i64 (j : Int))) g s j er := heap_setCell_same w g 1 _ _ (.int .i64 (j : Int)) h
theorem Var.setO {w : World} {b r o : Nat} {cs : Array Value} {t : TypeId} (h : Var w b cs t) (v : Value) (hne : r ≠ b) : Var (w.setCell ⟨r, o, none⟩ v) b cs t :=
  (heap_setCell_other w ⟨r, o, none⟩ b v (by simpa [eq_comm] using hne)).trans h
theorem Var.upd {w w' : World} {b g : Nat} {cs : Array Value} {t : TypeId} (h : Var w b cs t) (hb : Upd g w w') (hne : b ≠ g) : Var w' b cs t :=
  (hb.block b (Array.getElem?_eq_some_iff.1 h).1 (by simpa using hne)).trans h
theorem Var.free {w : World} {b : Nat} {cs : Array Value} {t : TypeId} (h : Var w b cs t) (o : Nat) : w.frozen? ⟨b, o, none⟩ = false := frozen_of_row w b o _ _ h
theorem Var.set {w : World} {b : Nat} {cs : Array Value} {t : TypeId} (h : Var w b cs t) (o : Nat) (v : Value) : Var (w.setCell ⟨b, o, none⟩ v) b (cs.setIfInBounds o v) t := heap_setCell_same w b o _ _ v h

theorem idle_uint64 (p x r : Addr) (w : World) :
    CallsD Try.prog 104 #[.pointer (some p), .pointer (some x), .pointer (some r)] .returning w fun e u' w' => e = .returned (.tuple #[]) ∧ u' = .returning ∧ w' = w := by
  refine callsD_of_wpS Try.func104 rfl fun c₀ cs hu => ?_
  apply wpS_seq
  apply wpS_region
  simp [wpOpsS, go_sem, recoverD, hu, Try.ntmps104, Exit.thenS]
  rw [frame23]
  refine wpS_of_wp (wp_named fun Q' hQ => ?_)
  have HU := hid hu
  clear hu
  go_wp2
  rw [hQ.out]
  have hu := HU.out
  clear HU hQ
  cases c₀
  simp_all [bodyPostS, results, Try.results104]

set_option maxRecDepth 100000 in
set_option maxHeartbeats 1600000 in
theorem catch_uint64 (e : Int) (bp bx br g B : Nat) (s : ByteArray) (i j : Nat) (er : Int) (w : World) (hp : Var w bp #[.int .i64 (i : Int)] 3) (hx : Var w bx #[.int .u64 0] 34) (hr : Var w br #[.pointer (some ⟨g, 0, none⟩)] 84) (hR : Rdr w g s j er)
    (hpx : bp ≠ bx) (hrx : br ≠ bx) (hpg : bp ≠ g) (hxg : bx ≠ g) (hrg : br ≠ g) (hBx : B ≤ bx) (hBw : B ≤ w.heap.size) :
    CallsD Try.prog 104 #[.pointer (some ⟨bp, 0, none⟩), .pointer (some ⟨bx, 0, none⟩), .pointer (some ⟨br, 0, none⟩)] (.panicking ({ v := fault e, recovered := false } :: [])) w fun e' u' w' =>
      e' = .returned (.tuple #[]) ∧ u' = .panicking ({ v := fault e, recovered := true } :: []) ∧ UB B g w w' ∧ Var w' bx #[.int .u64 0] 34 ∧ Rdr w' g s i e := by
  refine callsD_of_wpS Try.func104 rfl fun c₀ cs hu => ?_
  apply wpS_seq
  apply wpS_region
  unfold fault at hu ⊢
  simp [wpOpsS, go_sem, recoverD, hu, Try.ntmps104, Exit.thenS]
  rw [frame23]
  refine wpS_of_wp (wp_named fun Q' hQ => ?_)
  have HU := hid hu
  clear hu
  have hta : ∀ W : World, (Instr.typeAssert (.iface 135 (.agg #[.int .i64 e])) 20 135 true).run Try.prog W = .ok (.tuple #[.agg #[.int .i64 e], .bool true]) W := fun _ => by kernel_rfl
  go_wp2
  clear hta
  have hw0 := hba w (.cells #[.int .i64 e] 135)
  have hw1 := hw0
  have hn1 : (w.alloc (.cells #[.int .i64 e] 135)).cell? ⟨w.heap.size, 0, none⟩ = some (.int .i64 e) := by simp
  have hwg : w.heap.size ≠ g := by have := hR.cells.2.2.2.2.2; omega
  have hwx : w.heap.size ≠ bx := by have := hx.lt; omega
  have hX1 := hx.keep hw1
  have hP1 := (hp.keep hw1).cell 0
  have hRR1 := (hr.keep hw1).cell 0
  have hR1 := hR.keep hw1
  have hU1 : UB B g w (w.alloc (.cells #[.int .i64 e] 135)) := UB.of (hw1.mono hBw)
  refine wp_region_noPanic ?_
  refine wp_region_held_drew (S := (fun W => W.cell? ⟨br, 0, none⟩ = some (.pointer (some ⟨g, 0, none⟩)) ∧ W.cell? ⟨bp, 0, none⟩ = some (.int .i64 (i : Int)) ∧ W.cell? ⟨w.heap.size, 0, none⟩ = some (.int .i64 e))) (by kernel_rfl) ⟨hRR1, hP1, hn1⟩ (fun hS1 => ?_)
  replace hU1 := hU1.trans (UB.of (Below.refl B (w.alloc (.cells #[.int .i64 e] 135))).drew)
  replace hX1 : Var (w.alloc (.cells #[.int .i64 e] 135)).drew bx #[.int .u64 0] 34 := hX1
  replace hR1 : Rdr (w.alloc (.cells #[.int .i64 e] 135)).drew g s j er := hR1
  clear hw1 hw0 hn1 hP1 hRR1 hx hp hr hR
  generalize (w.alloc (.cells #[.int .i64 e] 135)).drew = w1 at *
  refine wT 0 hS1 ?_
  refine wT 1 hS1 ?_
  refine wT 2 hS1 ?_
  refine wT 3 hS1 ?_
  refine wT 4 hS1 ?_
  refine wT 5 hS1 ?_
  refine wpAnyH_ready (rs := [6]) (by kernel_rfl) (by simp) ?_
  refine wC (fun K hK => ?_) AllReadyH.nil
  obtain ⟨r0, r1, r2, r3, r4, _⟩ := hR1.cells
  have x0 : w1.cell? ⟨bx, 0, none⟩ = some (.int .u64 0) := hX1.cell 0
  have y0 := hX1.free 0
  go_simp
  have hR2 := (hR1.setO (o := 0) (.int .u64 0) hxg)
  have hX2 : Var (w1.setCell ⟨bx, 0, none⟩ (.int .u64 0)) bx #[.int .u64 0] 34 := (hX1.set 0 (.int .u64 0))
  have hU2 := (hU1.trans (UB.set (o := 0) _ (.int .u64 0) (.inl hBx)))
  refine hK.out _ _ ⟨(cset (o := 0) (u := (.int .u64 0)) hS1.1 hrx), (cset (o := 0) (u := (.int .u64 0)) hS1.2.1 hpx), (cset (o := 0) (u := (.int .u64 0)) hS1.2.2 hwx)⟩ (fun hS2 => ?_)
  clear hK K
  (try simp only [Act.put, List.setIfInBounds_toArray, List.set_cons_zero, List.set_cons_succ])
  clear r0 r1 r2 r3 r4 x0 y0 hR1 hX1 hU1 hS1
  generalize (w1.setCell ⟨bx, 0, none⟩ (.int .u64 0)) = w2 at *
  refine wT 7 hS2 ?_
  refine wT 8 hS2 ?_
  refine wpAnyH_ready (rs := [9]) (by kernel_rfl) (by simp) ?_
  refine wC (fun K hK => ?_) AllReadyH.nil
  obtain ⟨r0, r1, r2, r3, r4, _⟩ := hR2.cells
  have x0 : w2.cell? ⟨bx, 0, none⟩ = some (.int .u64 0) := hX2.cell 0
  have y0 := hX2.free 0
  go_simp
  have hR3 := (hR2.setI i)
  have hX3 : Var (w2.setCell ⟨g, 1, none⟩ (.int .i64 (i : Int))) bx #[.int .u64 0] 34 := (hX2.setO (o := 1) (.int .i64 (i : Int)) (Ne.symm hxg))
  have hU3 := (hU2.trans (UB.set (o := 1) _ (.int .i64 (i : Int)) (.inr rfl)))
  refine hK.out _ _ ⟨(cset (o := 1) (u := .int .i64 (i : Int)) hS2.1 hrg), (cset (o := 1) (u := .int .i64 (i : Int)) hS2.2.1 hpg), (cset (o := 1) (u := .int .i64 (i : Int)) hS2.2.2 hwg)⟩ (fun hS3 => ?_)
  clear hK K
  (try simp only [Act.put, List.setIfInBounds_toArray, List.set_cons_zero, List.set_cons_succ])
  clear r0 r1 r2 r3 r4 x0 y0 hR2 hX2 hU2 hS2
  generalize (w2.setCell ⟨g, 1, none⟩ (.int .i64 (i : Int))) = w3 at *
  refine wT 10 hS3 ?_
  refine wT 11 hS3 ?_
  refine wpAnyH_ready (rs := [12]) (by kernel_rfl) (by simp) ?_
  refine wC (fun K hK => ?_) AllReadyH.nil
  obtain ⟨r0, r1, r2, r3, r4, _⟩ := hR3.cells
  have x0 : w3.cell? ⟨bx, 0, none⟩ = some (.int .u64 0) := hX3.cell 0
  have y0 := hX3.free 0
  go_simp
  have hR4 := (hR3.setE e)
  have hX4 : Var (w3.setCell ⟨g, 2, none⟩ (.int .i64 e)) bx #[.int .u64 0] 34 := (hX3.setO (o := 2) (.int .i64 e) (Ne.symm hxg))
  have hU4 := (hU3.trans (UB.set (o := 2) _ (.int .i64 e) (.inr rfl)))
  refine hK.out _ _ ⟨(cset (o := 2) (u := .int .i64 e) hS3.1 hrg), (cset (o := 2) (u := .int .i64 e) hS3.2.1 hpg), (cset (o := 2) (u := .int .i64 e) hS3.2.2 hwg)⟩ (fun hS4 => ?_)
  clear hK K
  (try simp only [Act.put, List.setIfInBounds_toArray, List.set_cons_zero, List.set_cons_succ])
  clear r0 r1 r2 r3 r4 x0 y0 hR3 hX3 hU3 hS3
  generalize (w3.setCell ⟨g, 2, none⟩ (.int .i64 e)) = w4 at *
  refine wpAnyH_done (by kernel_rfl) ?_ _
  refine NoPanic.normal ?_
  rw [show Exit.inBlock 0 Q' Exit.normal = Q' Exit.normal from rfl]
  rw [hQ.out]
  have hu := HU.out
  have hfin := And.intro hU4 (And.intro hX4 hR4)
  clear HU hQ
  cases c₀
  simp_all [bodyPostS, results, Try.results104]

theorem idle_int (p x r : Addr) (w : World) :
    CallsD Try.prog 109 #[.pointer (some p), .pointer (some x), .pointer (some r)] .returning w fun e u' w' => e = .returned (.tuple #[]) ∧ u' = .returning ∧ w' = w := by
  refine callsD_of_wpS Try.func109 rfl fun c₀ cs hu => ?_
  apply wpS_seq
  apply wpS_region
  simp [wpOpsS, go_sem, recoverD, hu, Try.ntmps109, Exit.thenS]
  rw [frame23]
  refine wpS_of_wp (wp_named fun Q' hQ => ?_)
  have HU := hid hu
  clear hu
  go_wp2
  rw [hQ.out]
  have hu := HU.out
  clear HU hQ
  cases c₀
  simp_all [bodyPostS, results, Try.results109]

set_option maxRecDepth 100000 in
set_option maxHeartbeats 1600000 in
theorem catch_int (e : Int) (bp bx br g B : Nat) (s : ByteArray) (i j : Nat) (er : Int) (w : World) (hp : Var w bp #[.int .i64 (i : Int)] 3) (hx : Var w bx #[.int .i64 0] 3) (hr : Var w br #[.pointer (some ⟨g, 0, none⟩)] 84) (hR : Rdr w g s j er)
    (hpx : bp ≠ bx) (hrx : br ≠ bx) (hpg : bp ≠ g) (hxg : bx ≠ g) (hrg : br ≠ g) (hBx : B ≤ bx) (hBw : B ≤ w.heap.size) :
    CallsD Try.prog 109 #[.pointer (some ⟨bp, 0, none⟩), .pointer (some ⟨bx, 0, none⟩), .pointer (some ⟨br, 0, none⟩)] (.panicking ({ v := fault e, recovered := false } :: [])) w fun e' u' w' =>
      e' = .returned (.tuple #[]) ∧ u' = .panicking ({ v := fault e, recovered := true } :: []) ∧ UB B g w w' ∧ Var w' bx #[.int .i64 0] 3 ∧ Rdr w' g s i e := by
  refine callsD_of_wpS Try.func109 rfl fun c₀ cs hu => ?_
  apply wpS_seq
  apply wpS_region
  unfold fault at hu ⊢
  simp [wpOpsS, go_sem, recoverD, hu, Try.ntmps109, Exit.thenS]
  rw [frame23]
  refine wpS_of_wp (wp_named fun Q' hQ => ?_)
  have HU := hid hu
  clear hu
  have hta : ∀ W : World, (Instr.typeAssert (.iface 135 (.agg #[.int .i64 e])) 20 135 true).run Try.prog W = .ok (.tuple #[.agg #[.int .i64 e], .bool true]) W := fun _ => by kernel_rfl
  go_wp2
  clear hta
  have hw0 := hba w (.cells #[.int .i64 e] 135)
  have hw1 := hw0
  have hn1 : (w.alloc (.cells #[.int .i64 e] 135)).cell? ⟨w.heap.size, 0, none⟩ = some (.int .i64 e) := by simp
  have hwg : w.heap.size ≠ g := by have := hR.cells.2.2.2.2.2; omega
  have hwx : w.heap.size ≠ bx := by have := hx.lt; omega
  have hX1 := hx.keep hw1
  have hP1 := (hp.keep hw1).cell 0
  have hRR1 := (hr.keep hw1).cell 0
  have hR1 := hR.keep hw1
  have hU1 : UB B g w (w.alloc (.cells #[.int .i64 e] 135)) := UB.of (hw1.mono hBw)
  refine wp_region_noPanic ?_
  refine wp_region_held_drew (S := (fun W => W.cell? ⟨br, 0, none⟩ = some (.pointer (some ⟨g, 0, none⟩)) ∧ W.cell? ⟨bp, 0, none⟩ = some (.int .i64 (i : Int)) ∧ W.cell? ⟨w.heap.size, 0, none⟩ = some (.int .i64 e))) (by kernel_rfl) ⟨hRR1, hP1, hn1⟩ (fun hS1 => ?_)
  replace hU1 := hU1.trans (UB.of (Below.refl B (w.alloc (.cells #[.int .i64 e] 135))).drew)
  replace hX1 : Var (w.alloc (.cells #[.int .i64 e] 135)).drew bx #[.int .i64 0] 3 := hX1
  replace hR1 : Rdr (w.alloc (.cells #[.int .i64 e] 135)).drew g s j er := hR1
  clear hw1 hw0 hn1 hP1 hRR1 hx hp hr hR
  generalize (w.alloc (.cells #[.int .i64 e] 135)).drew = w1 at *
  refine wT 0 hS1 ?_
  refine wT 1 hS1 ?_
  refine wT 2 hS1 ?_
  refine wT 3 hS1 ?_
  refine wT 4 hS1 ?_
  refine wT 5 hS1 ?_
  refine wpAnyH_ready (rs := [6]) (by kernel_rfl) (by simp) ?_
  refine wC (fun K hK => ?_) AllReadyH.nil
  obtain ⟨r0, r1, r2, r3, r4, _⟩ := hR1.cells
  have x0 : w1.cell? ⟨bx, 0, none⟩ = some (.int .i64 0) := hX1.cell 0
  have y0 := hX1.free 0
  go_simp
  have hR2 := (hR1.setO (o := 0) (.int .i64 0) hxg)
  have hX2 : Var (w1.setCell ⟨bx, 0, none⟩ (.int .i64 0)) bx #[.int .i64 0] 3 := (hX1.set 0 (.int .i64 0))
  have hU2 := (hU1.trans (UB.set (o := 0) _ (.int .i64 0) (.inl hBx)))
  refine hK.out _ _ ⟨(cset (o := 0) (u := (.int .i64 0)) hS1.1 hrx), (cset (o := 0) (u := (.int .i64 0)) hS1.2.1 hpx), (cset (o := 0) (u := (.int .i64 0)) hS1.2.2 hwx)⟩ (fun hS2 => ?_)
  clear hK K
  (try simp only [Act.put, List.setIfInBounds_toArray, List.set_cons_zero, List.set_cons_succ])
  clear r0 r1 r2 r3 r4 x0 y0 hR1 hX1 hU1 hS1
  generalize (w1.setCell ⟨bx, 0, none⟩ (.int .i64 0)) = w2 at *
  refine wT 7 hS2 ?_
  refine wT 8 hS2 ?_
  refine wpAnyH_ready (rs := [9]) (by kernel_rfl) (by simp) ?_
  refine wC (fun K hK => ?_) AllReadyH.nil
  obtain ⟨r0, r1, r2, r3, r4, _⟩ := hR2.cells
  have x0 : w2.cell? ⟨bx, 0, none⟩ = some (.int .i64 0) := hX2.cell 0
  have y0 := hX2.free 0
  go_simp
  have hR3 := (hR2.setI i)
  have hX3 : Var (w2.setCell ⟨g, 1, none⟩ (.int .i64 (i : Int))) bx #[.int .i64 0] 3 := (hX2.setO (o := 1) (.int .i64 (i : Int)) (Ne.symm hxg))
  have hU3 := (hU2.trans (UB.set (o := 1) _ (.int .i64 (i : Int)) (.inr rfl)))
  refine hK.out _ _ ⟨(cset (o := 1) (u := .int .i64 (i : Int)) hS2.1 hrg), (cset (o := 1) (u := .int .i64 (i : Int)) hS2.2.1 hpg), (cset (o := 1) (u := .int .i64 (i : Int)) hS2.2.2 hwg)⟩ (fun hS3 => ?_)
  clear hK K
  (try simp only [Act.put, List.setIfInBounds_toArray, List.set_cons_zero, List.set_cons_succ])
  clear r0 r1 r2 r3 r4 x0 y0 hR2 hX2 hU2 hS2
  generalize (w2.setCell ⟨g, 1, none⟩ (.int .i64 (i : Int))) = w3 at *
  refine wT 10 hS3 ?_
  refine wT 11 hS3 ?_
  refine wpAnyH_ready (rs := [12]) (by kernel_rfl) (by simp) ?_
  refine wC (fun K hK => ?_) AllReadyH.nil
  obtain ⟨r0, r1, r2, r3, r4, _⟩ := hR3.cells
  have x0 : w3.cell? ⟨bx, 0, none⟩ = some (.int .i64 0) := hX3.cell 0
  have y0 := hX3.free 0
  go_simp
  have hR4 := (hR3.setE e)
  have hX4 : Var (w3.setCell ⟨g, 2, none⟩ (.int .i64 e)) bx #[.int .i64 0] 3 := (hX3.setO (o := 2) (.int .i64 e) (Ne.symm hxg))
  have hU4 := (hU3.trans (UB.set (o := 2) _ (.int .i64 e) (.inr rfl)))
  refine hK.out _ _ ⟨(cset (o := 2) (u := .int .i64 e) hS3.1 hrg), (cset (o := 2) (u := .int .i64 e) hS3.2.1 hpg), (cset (o := 2) (u := .int .i64 e) hS3.2.2 hwg)⟩ (fun hS4 => ?_)
  clear hK K
  (try simp only [Act.put, List.setIfInBounds_toArray, List.set_cons_zero, List.set_cons_succ])
  clear r0 r1 r2 r3 r4 x0 y0 hR3 hX3 hU3 hS3
  generalize (w3.setCell ⟨g, 2, none⟩ (.int .i64 e)) = w4 at *
  refine wpAnyH_done (by kernel_rfl) ?_ _
  refine NoPanic.normal ?_
  rw [show Exit.inBlock 0 Q' Exit.normal = Q' Exit.normal from rfl]
  rw [hQ.out]
  have hu := HU.out
  have hfin := And.intro hU4 (And.intro hX4 hR4)
  clear HU hQ
  cases c₀
  simp_all [bodyPostS, results, Try.results109]

theorem idle_string (p x r : Addr) (w : World) :
    CallsD Try.prog 106 #[.pointer (some p), .pointer (some x), .pointer (some r)] .returning w fun e u' w' => e = .returned (.tuple #[]) ∧ u' = .returning ∧ w' = w := by
  refine callsD_of_wpS Try.func106 rfl fun c₀ cs hu => ?_
  apply wpS_seq
  apply wpS_region
  simp [wpOpsS, go_sem, recoverD, hu, Try.ntmps106, Exit.thenS]
  rw [frame23]
  refine wpS_of_wp (wp_named fun Q' hQ => ?_)
  have HU := hid hu
  clear hu
  go_wp2
  rw [hQ.out]
  have hu := HU.out
  clear HU hQ
  cases c₀
  simp_all [bodyPostS, results, Try.results106]

set_option maxRecDepth 100000 in
set_option maxHeartbeats 1600000 in
theorem catch_string (e : Int) (bp bx br g B : Nat) (s : ByteArray) (i j : Nat) (er : Int) (w : World) (hp : Var w bp #[.int .i64 (i : Int)] 3) (hx : Var w bx #[.string ⟨#[]⟩] 9) (hr : Var w br #[.pointer (some ⟨g, 0, none⟩)] 84) (hR : Rdr w g s j er)
    (hpx : bp ≠ bx) (hrx : br ≠ bx) (hpg : bp ≠ g) (hxg : bx ≠ g) (hrg : br ≠ g) (hBx : B ≤ bx) (hBw : B ≤ w.heap.size) :
    CallsD Try.prog 106 #[.pointer (some ⟨bp, 0, none⟩), .pointer (some ⟨bx, 0, none⟩), .pointer (some ⟨br, 0, none⟩)] (.panicking ({ v := fault e, recovered := false } :: [])) w fun e' u' w' =>
      e' = .returned (.tuple #[]) ∧ u' = .panicking ({ v := fault e, recovered := true } :: []) ∧ UB B g w w' ∧ Var w' bx #[.string ⟨#[]⟩] 9 ∧ Rdr w' g s i e := by
  refine callsD_of_wpS Try.func106 rfl fun c₀ cs hu => ?_
  apply wpS_seq
  apply wpS_region
  unfold fault at hu ⊢
  simp [wpOpsS, go_sem, recoverD, hu, Try.ntmps106, Exit.thenS]
  rw [frame23]
  refine wpS_of_wp (wp_named fun Q' hQ => ?_)
  have HU := hid hu
  clear hu
  have hta : ∀ W : World, (Instr.typeAssert (.iface 135 (.agg #[.int .i64 e])) 20 135 true).run Try.prog W = .ok (.tuple #[.agg #[.int .i64 e], .bool true]) W := fun _ => by kernel_rfl
  go_wp2
  clear hta
  have hw0 := hba w (.cells #[.int .i64 e] 135)
  have hw1 := hw0
  have hn1 : (w.alloc (.cells #[.int .i64 e] 135)).cell? ⟨w.heap.size, 0, none⟩ = some (.int .i64 e) := by simp
  have hwg : w.heap.size ≠ g := by have := hR.cells.2.2.2.2.2; omega
  have hwx : w.heap.size ≠ bx := by have := hx.lt; omega
  have hX1 := hx.keep hw1
  have hP1 := (hp.keep hw1).cell 0
  have hRR1 := (hr.keep hw1).cell 0
  have hR1 := hR.keep hw1
  have hU1 : UB B g w (w.alloc (.cells #[.int .i64 e] 135)) := UB.of (hw1.mono hBw)
  refine wp_region_noPanic ?_
  refine wp_region_held_drew (S := (fun W => W.cell? ⟨br, 0, none⟩ = some (.pointer (some ⟨g, 0, none⟩)) ∧ W.cell? ⟨bp, 0, none⟩ = some (.int .i64 (i : Int)) ∧ W.cell? ⟨w.heap.size, 0, none⟩ = some (.int .i64 e))) (by kernel_rfl) ⟨hRR1, hP1, hn1⟩ (fun hS1 => ?_)
  replace hU1 := hU1.trans (UB.of (Below.refl B (w.alloc (.cells #[.int .i64 e] 135))).drew)
  replace hX1 : Var (w.alloc (.cells #[.int .i64 e] 135)).drew bx #[.string ⟨#[]⟩] 9 := hX1
  replace hR1 : Rdr (w.alloc (.cells #[.int .i64 e] 135)).drew g s j er := hR1
  clear hw1 hw0 hn1 hP1 hRR1 hx hp hr hR
  generalize (w.alloc (.cells #[.int .i64 e] 135)).drew = w1 at *
  refine wT 0 hS1 ?_
  refine wT 1 hS1 ?_
  refine wT 2 hS1 ?_
  refine wT 3 hS1 ?_
  refine wT 4 hS1 ?_
  refine wT 5 hS1 ?_
  refine wpAnyH_ready (rs := [6]) (by kernel_rfl) (by simp) ?_
  refine wC (fun K hK => ?_) AllReadyH.nil
  obtain ⟨r0, r1, r2, r3, r4, _⟩ := hR1.cells
  have x0 : w1.cell? ⟨bx, 0, none⟩ = some (.string ⟨#[]⟩) := hX1.cell 0
  have y0 := hX1.free 0
  go_simp
  have hR2 := (hR1.setO (o := 0) (.string ⟨#[]⟩) hxg)
  have hX2 : Var (w1.setCell ⟨bx, 0, none⟩ (.string ⟨#[]⟩)) bx #[.string ⟨#[]⟩] 9 := (hX1.set 0 (.string ⟨#[]⟩))
  have hU2 := (hU1.trans (UB.set (o := 0) _ (.string ⟨#[]⟩) (.inl hBx)))
  refine hK.out _ _ ⟨(cset (o := 0) (u := (.string ⟨#[]⟩)) hS1.1 hrx), (cset (o := 0) (u := (.string ⟨#[]⟩)) hS1.2.1 hpx), (cset (o := 0) (u := (.string ⟨#[]⟩)) hS1.2.2 hwx)⟩ (fun hS2 => ?_)
  clear hK K
  (try simp only [Act.put, List.setIfInBounds_toArray, List.set_cons_zero, List.set_cons_succ])
  clear r0 r1 r2 r3 r4 x0 y0 hR1 hX1 hU1 hS1
  generalize (w1.setCell ⟨bx, 0, none⟩ (.string ⟨#[]⟩)) = w2 at *
  refine wT 7 hS2 ?_
  refine wT 8 hS2 ?_
  refine wpAnyH_ready (rs := [9]) (by kernel_rfl) (by simp) ?_
  refine wC (fun K hK => ?_) AllReadyH.nil
  obtain ⟨r0, r1, r2, r3, r4, _⟩ := hR2.cells
  have x0 : w2.cell? ⟨bx, 0, none⟩ = some (.string ⟨#[]⟩) := hX2.cell 0
  have y0 := hX2.free 0
  go_simp
  have hR3 := (hR2.setI i)
  have hX3 : Var (w2.setCell ⟨g, 1, none⟩ (.int .i64 (i : Int))) bx #[.string ⟨#[]⟩] 9 := (hX2.setO (o := 1) (.int .i64 (i : Int)) (Ne.symm hxg))
  have hU3 := (hU2.trans (UB.set (o := 1) _ (.int .i64 (i : Int)) (.inr rfl)))
  refine hK.out _ _ ⟨(cset (o := 1) (u := .int .i64 (i : Int)) hS2.1 hrg), (cset (o := 1) (u := .int .i64 (i : Int)) hS2.2.1 hpg), (cset (o := 1) (u := .int .i64 (i : Int)) hS2.2.2 hwg)⟩ (fun hS3 => ?_)
  clear hK K
  (try simp only [Act.put, List.setIfInBounds_toArray, List.set_cons_zero, List.set_cons_succ])
  clear r0 r1 r2 r3 r4 x0 y0 hR2 hX2 hU2 hS2
  generalize (w2.setCell ⟨g, 1, none⟩ (.int .i64 (i : Int))) = w3 at *
  refine wT 10 hS3 ?_
  refine wT 11 hS3 ?_
  refine wpAnyH_ready (rs := [12]) (by kernel_rfl) (by simp) ?_
  refine wC (fun K hK => ?_) AllReadyH.nil
  obtain ⟨r0, r1, r2, r3, r4, _⟩ := hR3.cells
  have x0 : w3.cell? ⟨bx, 0, none⟩ = some (.string ⟨#[]⟩) := hX3.cell 0
  have y0 := hX3.free 0
  go_simp
  have hR4 := (hR3.setE e)
  have hX4 : Var (w3.setCell ⟨g, 2, none⟩ (.int .i64 e)) bx #[.string ⟨#[]⟩] 9 := (hX3.setO (o := 2) (.int .i64 e) (Ne.symm hxg))
  have hU4 := (hU3.trans (UB.set (o := 2) _ (.int .i64 e) (.inr rfl)))
  refine hK.out _ _ ⟨(cset (o := 2) (u := .int .i64 e) hS3.1 hrg), (cset (o := 2) (u := .int .i64 e) hS3.2.1 hpg), (cset (o := 2) (u := .int .i64 e) hS3.2.2 hwg)⟩ (fun hS4 => ?_)
  clear hK K
  (try simp only [Act.put, List.setIfInBounds_toArray, List.set_cons_zero, List.set_cons_succ])
  clear r0 r1 r2 r3 r4 x0 y0 hR3 hX3 hU3 hS3
  generalize (w3.setCell ⟨g, 2, none⟩ (.int .i64 e)) = w4 at *
  refine wpAnyH_done (by kernel_rfl) ?_ _
  refine NoPanic.normal ?_
  rw [show Exit.inBlock 0 Q' Exit.normal = Q' Exit.normal from rfl]
  rw [hQ.out]
  have hu := HU.out
  have hfin := And.intro hU4 (And.intro hX4 hR4)
  clear HU hQ
  cases c₀
  simp_all [bodyPostS, results, Try.results106]

theorem idle_row (p x r : Addr) (w : World) :
    CallsD Try.prog 107 #[.pointer (some p), .pointer (some x), .pointer (some r)] .returning w fun e u' w' => e = .returned (.tuple #[]) ∧ u' = .returning ∧ w' = w := by
  refine callsD_of_wpS Try.func107 rfl fun c₀ cs hu => ?_
  apply wpS_seq
  apply wpS_region
  simp [wpOpsS, go_sem, recoverD, hu, Try.ntmps107, Exit.thenS]
  rw [frame23]
  refine wpS_of_wp (wp_named fun Q' hQ => ?_)
  have HU := hid hu
  clear hu
  go_wp2
  rw [hQ.out]
  have hu := HU.out
  clear HU hQ
  cases c₀
  simp_all [bodyPostS, results, Try.results107]

set_option maxRecDepth 100000 in
set_option maxHeartbeats 1600000 in
theorem catch_row (e : Int) (bp bx br g B : Nat) (s : ByteArray) (i j : Nat) (er : Int) (w : World) (hp : Var w bp #[.int .i64 (i : Int)] 3) (hx : Var w bx #[.slice none 0 0] 22) (hr : Var w br #[.pointer (some ⟨g, 0, none⟩)] 84) (hR : Rdr w g s j er)
    (hpx : bp ≠ bx) (hrx : br ≠ bx) (hpg : bp ≠ g) (hxg : bx ≠ g) (hrg : br ≠ g) (hBx : B ≤ bx) (hBw : B ≤ w.heap.size) :
    CallsD Try.prog 107 #[.pointer (some ⟨bp, 0, none⟩), .pointer (some ⟨bx, 0, none⟩), .pointer (some ⟨br, 0, none⟩)] (.panicking ({ v := fault e, recovered := false } :: [])) w fun e' u' w' =>
      e' = .returned (.tuple #[]) ∧ u' = .panicking ({ v := fault e, recovered := true } :: []) ∧ UB B g w w' ∧ Var w' bx #[.slice none 0 0] 22 ∧ Rdr w' g s i e := by
  refine callsD_of_wpS Try.func107 rfl fun c₀ cs hu => ?_
  apply wpS_seq
  apply wpS_region
  unfold fault at hu ⊢
  simp [wpOpsS, go_sem, recoverD, hu, Try.ntmps107, Exit.thenS]
  rw [frame23]
  refine wpS_of_wp (wp_named fun Q' hQ => ?_)
  have HU := hid hu
  clear hu
  have hta : ∀ W : World, (Instr.typeAssert (.iface 135 (.agg #[.int .i64 e])) 20 135 true).run Try.prog W = .ok (.tuple #[.agg #[.int .i64 e], .bool true]) W := fun _ => by kernel_rfl
  go_wp2
  clear hta
  have hw0 := hba w (.cells #[.int .i64 e] 135)
  have hw1 := hw0
  have hn1 : (w.alloc (.cells #[.int .i64 e] 135)).cell? ⟨w.heap.size, 0, none⟩ = some (.int .i64 e) := by simp
  have hwg : w.heap.size ≠ g := by have := hR.cells.2.2.2.2.2; omega
  have hwx : w.heap.size ≠ bx := by have := hx.lt; omega
  have hX1 := hx.keep hw1
  have hP1 := (hp.keep hw1).cell 0
  have hRR1 := (hr.keep hw1).cell 0
  have hR1 := hR.keep hw1
  have hU1 : UB B g w (w.alloc (.cells #[.int .i64 e] 135)) := UB.of (hw1.mono hBw)
  refine wp_region_noPanic ?_
  refine wp_region_held_drew (S := (fun W => W.cell? ⟨br, 0, none⟩ = some (.pointer (some ⟨g, 0, none⟩)) ∧ W.cell? ⟨bp, 0, none⟩ = some (.int .i64 (i : Int)) ∧ W.cell? ⟨w.heap.size, 0, none⟩ = some (.int .i64 e))) (by kernel_rfl) ⟨hRR1, hP1, hn1⟩ (fun hS1 => ?_)
  replace hU1 := hU1.trans (UB.of (Below.refl B (w.alloc (.cells #[.int .i64 e] 135))).drew)
  replace hX1 : Var (w.alloc (.cells #[.int .i64 e] 135)).drew bx #[.slice none 0 0] 22 := hX1
  replace hR1 : Rdr (w.alloc (.cells #[.int .i64 e] 135)).drew g s j er := hR1
  clear hw1 hw0 hn1 hP1 hRR1 hx hp hr hR
  generalize (w.alloc (.cells #[.int .i64 e] 135)).drew = w1 at *
  refine wT 0 hS1 ?_
  refine wT 1 hS1 ?_
  refine wT 2 hS1 ?_
  refine wT 3 hS1 ?_
  refine wT 4 hS1 ?_
  refine wT 5 hS1 ?_
  refine wpAnyH_ready (rs := [6]) (by kernel_rfl) (by simp) ?_
  refine wC (fun K hK => ?_) AllReadyH.nil
  obtain ⟨r0, r1, r2, r3, r4, _⟩ := hR1.cells
  have x0 : w1.cell? ⟨bx, 0, none⟩ = some (.slice none 0 0) := hX1.cell 0
  have y0 := hX1.free 0
  go_simp
  have hR2 := (hR1.setO (o := 0) (.slice none 0 0) hxg)
  have hX2 : Var (w1.setCell ⟨bx, 0, none⟩ (.slice none 0 0)) bx #[.slice none 0 0] 22 := (hX1.set 0 (.slice none 0 0))
  have hU2 := (hU1.trans (UB.set (o := 0) _ (.slice none 0 0) (.inl hBx)))
  refine hK.out _ _ ⟨(cset (o := 0) (u := (.slice none 0 0)) hS1.1 hrx), (cset (o := 0) (u := (.slice none 0 0)) hS1.2.1 hpx), (cset (o := 0) (u := (.slice none 0 0)) hS1.2.2 hwx)⟩ (fun hS2 => ?_)
  clear hK K
  (try simp only [Act.put, List.setIfInBounds_toArray, List.set_cons_zero, List.set_cons_succ])
  clear r0 r1 r2 r3 r4 x0 y0 hR1 hX1 hU1 hS1
  generalize (w1.setCell ⟨bx, 0, none⟩ (.slice none 0 0)) = w2 at *
  refine wT 7 hS2 ?_
  refine wT 8 hS2 ?_
  refine wpAnyH_ready (rs := [9]) (by kernel_rfl) (by simp) ?_
  refine wC (fun K hK => ?_) AllReadyH.nil
  obtain ⟨r0, r1, r2, r3, r4, _⟩ := hR2.cells
  have x0 : w2.cell? ⟨bx, 0, none⟩ = some (.slice none 0 0) := hX2.cell 0
  have y0 := hX2.free 0
  go_simp
  have hR3 := (hR2.setI i)
  have hX3 : Var (w2.setCell ⟨g, 1, none⟩ (.int .i64 (i : Int))) bx #[.slice none 0 0] 22 := (hX2.setO (o := 1) (.int .i64 (i : Int)) (Ne.symm hxg))
  have hU3 := (hU2.trans (UB.set (o := 1) _ (.int .i64 (i : Int)) (.inr rfl)))
  refine hK.out _ _ ⟨(cset (o := 1) (u := .int .i64 (i : Int)) hS2.1 hrg), (cset (o := 1) (u := .int .i64 (i : Int)) hS2.2.1 hpg), (cset (o := 1) (u := .int .i64 (i : Int)) hS2.2.2 hwg)⟩ (fun hS3 => ?_)
  clear hK K
  (try simp only [Act.put, List.setIfInBounds_toArray, List.set_cons_zero, List.set_cons_succ])
  clear r0 r1 r2 r3 r4 x0 y0 hR2 hX2 hU2 hS2
  generalize (w2.setCell ⟨g, 1, none⟩ (.int .i64 (i : Int))) = w3 at *
  refine wT 10 hS3 ?_
  refine wT 11 hS3 ?_
  refine wpAnyH_ready (rs := [12]) (by kernel_rfl) (by simp) ?_
  refine wC (fun K hK => ?_) AllReadyH.nil
  obtain ⟨r0, r1, r2, r3, r4, _⟩ := hR3.cells
  have x0 : w3.cell? ⟨bx, 0, none⟩ = some (.slice none 0 0) := hX3.cell 0
  have y0 := hX3.free 0
  go_simp
  have hR4 := (hR3.setE e)
  have hX4 : Var (w3.setCell ⟨g, 2, none⟩ (.int .i64 e)) bx #[.slice none 0 0] 22 := (hX3.setO (o := 2) (.int .i64 e) (Ne.symm hxg))
  have hU4 := (hU3.trans (UB.set (o := 2) _ (.int .i64 e) (.inr rfl)))
  refine hK.out _ _ ⟨(cset (o := 2) (u := .int .i64 e) hS3.1 hrg), (cset (o := 2) (u := .int .i64 e) hS3.2.1 hpg), (cset (o := 2) (u := .int .i64 e) hS3.2.2 hwg)⟩ (fun hS4 => ?_)
  clear hK K
  (try simp only [Act.put, List.setIfInBounds_toArray, List.set_cons_zero, List.set_cons_succ])
  clear r0 r1 r2 r3 r4 x0 y0 hR3 hX3 hU3 hS3
  generalize (w3.setCell ⟨g, 2, none⟩ (.int .i64 e)) = w4 at *
  refine wpAnyH_done (by kernel_rfl) ?_ _
  refine NoPanic.normal ?_
  rw [show Exit.inBlock 0 Q' Exit.normal = Q' Exit.normal from rfl]
  rw [hQ.out]
  have hu := HU.out
  have hfin := And.intro hU4 (And.intro hX4 hR4)
  clear HU hQ
  cases c₀
  simp_all [bodyPostS, results, Try.results107]
end Go.Proofs.Ytmcneelapghfcaa

namespace Go.Proofs.Ytmcneelapghfcaa
open Go.RowKit

/-- what a read of a reader leaves, whatever was wrong before -/
def Top {α : Type} (P : α → Value) (g : Nat) (s : ByteArray) (r : α × Nat × Int) (w : World) (e : Ending) (w' : World) : Prop :=
  e = .returned (P r.1) ∧ Upd g w w' ∧ Rdr w' g s r.2.1 r.2.2 ∧ r.2.1 ≤ s.size
def TopRow (g : Nat) (s : ByteArray) (r : List Cd.V × Nat × Int) (w : World) (e : Ending) (w' : World) : Prop :=
  (∃ v', e = .returned v' ∧ w'.ownsRow w.heap.size 36 4 v' r.1.length (vcells r.1)) ∧ Upd g w w' ∧ Rdr w' g s r.2.1 r.2.2 ∧ r.2.1 ≤ s.size
theorem top_was {α : Type} (z : α) (f : Nat → Cd.R α) (i : Nat) {er : Int} (h : er ≠ 0) : Cd.top z f i er = (z, i, er) := by unfold Cd.top; rw [if_pos h]
theorem top_ok {α : Type} {z : α} {f : Nat → Cd.R α} {i : Nat} {v : α} {j : Nat} (h : f i = .ok (v, j)) : Cd.top z f i 0 = (v, j, 0) := by unfold Cd.top; rw [if_neg (by omega), h]
theorem top_err {α : Type} {z : α} {f : Nat → Cd.R α} {i : Nat} {x : Int} (h : f i = .error x) : Cd.top z f i 0 = (z, i, x) := by unfold Cd.top; rw [if_neg (by omega), h]
theorem Var.new (w : World) (cs : Array Value) (t : TypeId) {b : Nat} (hb : b = w.heap.size) : Var (w.alloc (.cells cs t)) b cs t := by subst hb; exact heap_alloc_new w _
theorem own_setO {w : World} {B e size : Nat} {v u : Value} {n r o : Nat} {xs : List Value} (h : w.ownsRow B e size v n xs) (hr : r < B) : (w.setCell ⟨r, o, none⟩ u).ownsRow B e size v n xs :=
  h.kept (row := some r) (UB.set (B := w.heap.size) (g := r) (o := o) w u (.inr rfl)).toUpd (Or.inr (fun e => by have := (h.lt r e).1; omega))
theorem own_mono4 {w : World} {B B' e size : Nat} {v : Value} {n : Nat} {xs : List Value} (h : w.ownsRow B e size v n xs) (hB : B' ≤ B) : w.ownsRow B' e size v n xs := by
  refine ⟨h.1, ?_⟩
  rcases h.2 with h1 | ⟨g, cap, cur, q1, q2, q3⟩
  · exact .inl h1
  · exact .inr ⟨g, cap, cur, q1, Nat.le_trans hB q2, q3⟩
theorem own_slice {w : World} {B e size : Nat} {v : Value} {n : Nat} {xs : List Value} (h : w.ownsRow B e size v n xs) : ∃ ao ln cp, v = .slice ao ln cp := by
  rcases h.2 with ⟨h1, _⟩ | ⟨g, cap, cur, q1, _⟩
  · exact ⟨_, _, _, h1⟩
  · exact ⟨_, _, _, q1⟩
theorem run_makeFunc (fn : Fn) (first cap : Array Value) (w : World) : (Instr.makeFunc fn first cap).run Try.prog w = .ok (.func fn first cap) w := rfl

set_option maxRecDepth 100000 in
theorem text1_rd (g b : Nat) (s : ByteArray) (i : Nat) (er : Int) (w : World) (hv : Var w b #[.pointer (some ⟨g, 0, none⟩)] 84) (hr : Rdr w g s i er) (hi : i ≤ s.size) (hs : s.size ≤ 1000000000) :
    Calls Try.prog 82 #[.pointer (some ⟨b, 0, none⟩)] w (Told (fun t : ByteArray => .string t) g s er (Cd.textR s 1000000 i) w) := by
  have h := hid (text_rd 1000000 (by omega) g s i er w hr hi hs)
  have c0 := hv.cell 0
  cases hres : Cd.textR s 1000000 i with
  | error x =>
    rw [hres] at h
    go_enter Try.func82, Try.ntmps82
    go_wp2_with fail
    refine (h.out).mono ?_; rintro e w1 ⟨hu, rfl, j, hR, hj⟩
    go_wp2_with fail
    exact ⟨rfl, Told.mk_err rfl hu rfl hR hj⟩
  | ok p =>
    obtain ⟨t, j⟩ := p
    rw [hres] at h
    go_enter Try.func82, Try.ntmps82
    go_wp2_with fail
    refine (h.out).mono ?_; rintro e w1 ⟨hu, rfl, hR, hj⟩
    go_wp2_with fail
    go_ret
    exact Told.mk_ok rfl hu rfl hR hj

set_option maxRecDepth 100000 in
set_option maxHeartbeats 1600000 in
theorem try_uint64 (g : Nat) (s : ByteArray) (i : Nat) (er : Int) (w : World) (hr : Rdr w g s i er) (hi : i ≤ s.size) (hs : s.size ≤ 1000000000) :
    Calls Try.prog 79 #[.pointer (some ⟨g, 0, none⟩), .func (.func 80) #[.pointer (some ⟨g, 0, none⟩)] #[]] w (Top (fun n : Nat => .int .u64 (n : Int)) g s (Cd.top 0 (Cd.uintR s.data.toList) i er) w) := by
  obtain ⟨c0, c1, c2, f1, f2, hg⟩ := hr.cells
  have hgn : g ≠ w.heap.size := Nat.ne_of_lt hg
  have hgn2 : g ≠ w.heap.size + 1 := by omega
  have hmf := run_makeFunc
  by_cases her : er = 0
  · subst her
    have hread : Hid (∀ W, Rdr W g s i 0 → Calls Try.prog 80 #[.pointer (some ⟨g, 0, none⟩)] W (Told (fun n : Nat => .int .u64 (n : Int)) g s 0 (Cd.uintR s.data.toList i) W)) := fun W h => uint_rd g s i 0 W h hi hs
    have hB1 := hba w (.cells #[.pointer (some ⟨g, 0, none⟩)] 84)
    have hB2 := hnext hB1 (hba (w.alloc (.cells #[.pointer (some ⟨g, 0, none⟩)] 84)) (.cells #[.int .u64 0] 34))
    have hB3 := hnext hB2 (hba ((w.alloc (.cells #[.pointer (some ⟨g, 0, none⟩)] 84)).alloc (.cells #[.int .u64 0] 34)) (.cells #[.int .i64 (i : Int)] 3))
    have hR3 := hid (hr.keep hB3)
    have hr3 : Hid (Var (((w.alloc (.cells #[.pointer (some ⟨g, 0, none⟩)] 84)).alloc (.cells #[.int .u64 0] 34)).alloc (.cells #[.int .i64 (i : Int)] 3)) w.heap.size #[.pointer (some ⟨g, 0, none⟩)] 84) := Var.keep (Var.keep (heap_alloc_new w _ : Var (w.alloc (.cells #[.pointer (some ⟨g, 0, none⟩)] 84)) w.heap.size #[.pointer (some ⟨g, 0, none⟩)] 84) (hba _ _)) (hba _ _)
    have hx3 : Hid (Var (((w.alloc (.cells #[.pointer (some ⟨g, 0, none⟩)] 84)).alloc (.cells #[.int .u64 0] 34)).alloc (.cells #[.int .i64 (i : Int)] 3)) (w.heap.size + 1) #[.int .u64 0] 34) := Var.keep (Var.new (w.alloc (.cells #[.pointer (some ⟨g, 0, none⟩)] 84)) #[.int .u64 0] 34 (by simp)) (hba _ _)
    have hp3 : Hid (Var (((w.alloc (.cells #[.pointer (some ⟨g, 0, none⟩)] 84)).alloc (.cells #[.int .u64 0] 34)).alloc (.cells #[.int .i64 (i : Int)] 3)) (w.heap.size + 1 + 1) #[.int .i64 (i : Int)] 3) := Var.new ((w.alloc (.cells #[.pointer (some ⟨g, 0, none⟩)] 84)).alloc (.cells #[.int .u64 0] 34)) #[.int .i64 (i : Int)] 3 (by simp)
    have hU3 := hid (UB.of (g := g) hB3)
    have hrg : w.heap.size ≠ g := by omega
    have hxg : w.heap.size + 1 ≠ g := by omega
    have hpg : w.heap.size + 1 + 1 ≠ g := by omega
    cases hres : Cd.uintR s.data.toList i with
    | error x =>
      rw [hres] at hread
      have hT := hid (top_err (z := 0) (f := Cd.uintR s.data.toList) hres)
      clear hr hB1 hB2 hB3 hres
      go_enter_defers Try.func79, Try.ntmps79
      go_wp2_with fail
      refine (hread.out _ hR3.out).mono ?_; rintro e w1 ⟨hu, rfl, j, hR1, hj⟩
      have hX1 := hx3.out.upd hu hxg
      have hP1 := hp3.out.upd hu hpg
      have hr1 := hr3.out.upd hu hrg
      have hU1 := hU3.out.trans (UB.upd hu (by simp; omega))
      have hsz := hU1.size
      clear hu hx3 hR3 hU3 hr3 hp3
      go_wp2_with fail
      refine leaves_cons (f := 104) (args := #[.pointer (some ⟨w.heap.size + 1 + 1, 0, none⟩), .pointer (some ⟨w.heap.size + 1, 0, none⟩), .pointer (some ⟨w.heap.size, 0, none⟩)]) (by simp) (by simp [go_sem]) ?_
      refine (catch_uint64 x (w.heap.size + 1 + 1) (w.heap.size + 1) w.heap.size g w.heap.size s i j 0 _ hP1 hX1 hr1 hR1 (by omega) (by omega) hpg hxg hrg (by omega) hsz).mono ?_
      rintro e u' w'' ⟨rfl, rfl, hU2, hX2, hR2⟩
      have z0 := hX2.cell 0
      simp [Leaves, settle, results, Try.results79, go_sem, z0]
      rw [hT.out]
      exact ⟨rfl, (hU1.trans hU2).toUpd, hR2, hi⟩
    | ok p =>
      obtain ⟨n, j⟩ := p
      rw [hres] at hread
      have hT := hid (top_ok (z := 0) (f := Cd.uintR s.data.toList) hres)
      clear hr hB1 hB2 hB3 hres hr3 hp3
      go_enter_defers Try.func79, Try.ntmps79
      go_wp2_with fail
      refine (hread.out _ hR3.out).mono ?_; rintro e w1 ⟨hu, rfl, hR, hj⟩
      have hX1 := hx3.out.upd hu hxg
      have hR1 := hR
      have hU1 := hU3.out.trans (UB.upd hu (by simp; omega))
      clear hu hR3 hU3 hR hx3
      have x0 := hX1.cell 0
      have y0 := hX1.free 0
      go_wp2_with fail
      have hX2 := (hX1.set 0 (.int .u64 (n : Int)))
      have hR2 := (hR1.setO (o := 0) (.int .u64 (n : Int)) hxg)
      have hU2 := (hU1.trans (UB.set (o := 0) _ (.int .u64 (n : Int)) (.inl (Nat.le_succ _))))
      refine leaves_cons (f := 104) (args := #[.pointer (some ⟨w.heap.size + 1 + 1, 0, none⟩), .pointer (some ⟨w.heap.size + 1, 0, none⟩), .pointer (some ⟨w.heap.size, 0, none⟩)]) (by simp) (by simp [go_sem]) ?_
      refine (idle_uint64 _ _ _ _).mono ?_
      rintro e u' w'' ⟨rfl, rfl, rfl⟩
      have z0 := hX2.cell 0
      simp [Leaves, settle, results, Try.results79, go_sem, z0]
      rw [hT.out]
      exact ⟨rfl, hU2.toUpd, hR2, hj⟩
  · have h1 : (er == 0) = false := by rw [beq_eq_false_iff_ne]; exact her
    have h2 : (er != 0) = true := by rw [bne_iff_ne]; exact her
    have hT := hid (top_was 0 (Cd.uintR s.data.toList) i her)
    have hB1 := hba w (.cells #[.pointer (some ⟨g, 0, none⟩)] 84)
    have hB2 := hnext hB1 (hba (w.alloc (.cells #[.pointer (some ⟨g, 0, none⟩)] 84)) (.cells #[.int .u64 0] 34))
    have hR := hid hr
    clear her hr
    go_enter_defers Try.func79, Try.ntmps79
    go_wp2
    simp [bodyPostD, Leaves, results, Try.results79, go_sem]
    rw [hT.out]
    exact ⟨rfl, Upd.of hB2, hR.out.keep hB2, hi⟩

set_option maxRecDepth 100000 in
set_option maxHeartbeats 1600000 in
theorem try_int (g : Nat) (s : ByteArray) (i : Nat) (er : Int) (w : World) (hr : Rdr w g s i er) (hi : i ≤ s.size) (hs : s.size ≤ 1000000000) :
    Calls Try.prog 86 #[.pointer (some ⟨g, 0, none⟩), .func (.func 87) #[.pointer (some ⟨g, 0, none⟩)] #[]] w (Top (fun n : Int => .int .i64 n) g s (Cd.top 0 (Cd.intR s.data.toList) i er) w) := by
  obtain ⟨c0, c1, c2, f1, f2, hg⟩ := hr.cells
  have hgn : g ≠ w.heap.size := Nat.ne_of_lt hg
  have hgn2 : g ≠ w.heap.size + 1 := by omega
  have hmf := run_makeFunc
  by_cases her : er = 0
  · subst her
    have hread : Hid (∀ W, Rdr W g s i 0 → Calls Try.prog 87 #[.pointer (some ⟨g, 0, none⟩)] W (Told (fun n : Int => .int .i64 n) g s 0 (Cd.intR s.data.toList i) W)) := fun W h => int_rd g s i 0 W h hi hs
    have hB1 := hba w (.cells #[.pointer (some ⟨g, 0, none⟩)] 84)
    have hB2 := hnext hB1 (hba (w.alloc (.cells #[.pointer (some ⟨g, 0, none⟩)] 84)) (.cells #[.int .i64 0] 3))
    have hB3 := hnext hB2 (hba ((w.alloc (.cells #[.pointer (some ⟨g, 0, none⟩)] 84)).alloc (.cells #[.int .i64 0] 3)) (.cells #[.int .i64 (i : Int)] 3))
    have hR3 := hid (hr.keep hB3)
    have hr3 : Hid (Var (((w.alloc (.cells #[.pointer (some ⟨g, 0, none⟩)] 84)).alloc (.cells #[.int .i64 0] 3)).alloc (.cells #[.int .i64 (i : Int)] 3)) w.heap.size #[.pointer (some ⟨g, 0, none⟩)] 84) := Var.keep (Var.keep (heap_alloc_new w _ : Var (w.alloc (.cells #[.pointer (some ⟨g, 0, none⟩)] 84)) w.heap.size #[.pointer (some ⟨g, 0, none⟩)] 84) (hba _ _)) (hba _ _)
    have hx3 : Hid (Var (((w.alloc (.cells #[.pointer (some ⟨g, 0, none⟩)] 84)).alloc (.cells #[.int .i64 0] 3)).alloc (.cells #[.int .i64 (i : Int)] 3)) (w.heap.size + 1) #[.int .i64 0] 3) := Var.keep (Var.new (w.alloc (.cells #[.pointer (some ⟨g, 0, none⟩)] 84)) #[.int .i64 0] 3 (by simp)) (hba _ _)
    have hp3 : Hid (Var (((w.alloc (.cells #[.pointer (some ⟨g, 0, none⟩)] 84)).alloc (.cells #[.int .i64 0] 3)).alloc (.cells #[.int .i64 (i : Int)] 3)) (w.heap.size + 1 + 1) #[.int .i64 (i : Int)] 3) := Var.new ((w.alloc (.cells #[.pointer (some ⟨g, 0, none⟩)] 84)).alloc (.cells #[.int .i64 0] 3)) #[.int .i64 (i : Int)] 3 (by simp)
    have hU3 := hid (UB.of (g := g) hB3)
    have hrg : w.heap.size ≠ g := by omega
    have hxg : w.heap.size + 1 ≠ g := by omega
    have hpg : w.heap.size + 1 + 1 ≠ g := by omega
    cases hres : Cd.intR s.data.toList i with
    | error x =>
      rw [hres] at hread
      have hT := hid (top_err (z := 0) (f := Cd.intR s.data.toList) hres)
      clear hr hB1 hB2 hB3 hres
      go_enter_defers Try.func86, Try.ntmps86
      go_wp2_with fail
      refine (hread.out _ hR3.out).mono ?_; rintro e w1 ⟨hu, rfl, j, hR1, hj⟩
      have hX1 := hx3.out.upd hu hxg
      have hP1 := hp3.out.upd hu hpg
      have hr1 := hr3.out.upd hu hrg
      have hU1 := hU3.out.trans (UB.upd hu (by simp; omega))
      have hsz := hU1.size
      clear hu hx3 hR3 hU3 hr3 hp3
      go_wp2_with fail
      refine leaves_cons (f := 109) (args := #[.pointer (some ⟨w.heap.size + 1 + 1, 0, none⟩), .pointer (some ⟨w.heap.size + 1, 0, none⟩), .pointer (some ⟨w.heap.size, 0, none⟩)]) (by simp) (by simp [go_sem]) ?_
      refine (catch_int x (w.heap.size + 1 + 1) (w.heap.size + 1) w.heap.size g w.heap.size s i j 0 _ hP1 hX1 hr1 hR1 (by omega) (by omega) hpg hxg hrg (by omega) hsz).mono ?_
      rintro e u' w'' ⟨rfl, rfl, hU2, hX2, hR2⟩
      have z0 := hX2.cell 0
      simp [Leaves, settle, results, Try.results86, go_sem, z0]
      rw [hT.out]
      exact ⟨rfl, (hU1.trans hU2).toUpd, hR2, hi⟩
    | ok p =>
      obtain ⟨n, j⟩ := p
      rw [hres] at hread
      have hT := hid (top_ok (z := 0) (f := Cd.intR s.data.toList) hres)
      clear hr hB1 hB2 hB3 hres hr3 hp3
      go_enter_defers Try.func86, Try.ntmps86
      go_wp2_with fail
      refine (hread.out _ hR3.out).mono ?_; rintro e w1 ⟨hu, rfl, hR, hj⟩
      have hX1 := hx3.out.upd hu hxg
      have hR1 := hR
      have hU1 := hU3.out.trans (UB.upd hu (by simp; omega))
      clear hu hR3 hU3 hR hx3
      have x0 := hX1.cell 0
      have y0 := hX1.free 0
      go_wp2_with fail
      have hX2 := (hX1.set 0 (.int .i64 n))
      have hR2 := (hR1.setO (o := 0) (.int .i64 n) hxg)
      have hU2 := (hU1.trans (UB.set (o := 0) _ (.int .i64 n) (.inl (Nat.le_succ _))))
      refine leaves_cons (f := 109) (args := #[.pointer (some ⟨w.heap.size + 1 + 1, 0, none⟩), .pointer (some ⟨w.heap.size + 1, 0, none⟩), .pointer (some ⟨w.heap.size, 0, none⟩)]) (by simp) (by simp [go_sem]) ?_
      refine (idle_int _ _ _ _).mono ?_
      rintro e u' w'' ⟨rfl, rfl, rfl⟩
      have z0 := hX2.cell 0
      simp [Leaves, settle, results, Try.results86, go_sem, z0]
      rw [hT.out]
      exact ⟨rfl, hU2.toUpd, hR2, hj⟩
  · have h1 : (er == 0) = false := by rw [beq_eq_false_iff_ne]; exact her
    have h2 : (er != 0) = true := by rw [bne_iff_ne]; exact her
    have hT := hid (top_was 0 (Cd.intR s.data.toList) i her)
    have hB1 := hba w (.cells #[.pointer (some ⟨g, 0, none⟩)] 84)
    have hB2 := hnext hB1 (hba (w.alloc (.cells #[.pointer (some ⟨g, 0, none⟩)] 84)) (.cells #[.int .i64 0] 3))
    have hR := hid hr
    clear her hr
    go_enter_defers Try.func86, Try.ntmps86
    go_wp2
    simp [bodyPostD, Leaves, results, Try.results86, go_sem]
    rw [hT.out]
    exact ⟨rfl, Upd.of hB2, hR.out.keep hB2, hi⟩

set_option maxRecDepth 100000 in
set_option maxHeartbeats 1600000 in
theorem try_string (g : Nat) (b : Nat) (s : ByteArray) (i : Nat) (er : Int) (w : World) (hr : Rdr w g s i er) (hb0 : Var w b #[.pointer (some ⟨g, 0, none⟩)] 84) (hi : i ≤ s.size) (hs : s.size ≤ 1000000000) :
    Calls Try.prog 81 #[.pointer (some ⟨g, 0, none⟩), .func (.func 82) #[] #[.pointer (some ⟨b, 0, none⟩)]] w (Top (fun t : ByteArray => .string t) g s (Cd.top ⟨#[]⟩ (Cd.textR s 1000000) i er) w) := by
  obtain ⟨c0, c1, c2, f1, f2, hg⟩ := hr.cells
  have hgn : g ≠ w.heap.size := Nat.ne_of_lt hg
  have hgn2 : g ≠ w.heap.size + 1 := by omega
  have hmf := run_makeFunc
  by_cases her : er = 0
  · subst her
    have hread : Hid (∀ W, Var W b #[.pointer (some ⟨g, 0, none⟩)] 84 → Rdr W g s i 0 → Calls Try.prog 82 #[.pointer (some ⟨b, 0, none⟩)] W (Told (fun t : ByteArray => .string t) g s 0 (Cd.textR s 1000000 i) W)) := fun W hb h => text1_rd g b s i 0 W hb h hi hs
    have hB1 := hba w (.cells #[.pointer (some ⟨g, 0, none⟩)] 84)
    have hB2 := hnext hB1 (hba (w.alloc (.cells #[.pointer (some ⟨g, 0, none⟩)] 84)) (.cells #[.string ⟨#[]⟩] 9))
    have hB3 := hnext hB2 (hba ((w.alloc (.cells #[.pointer (some ⟨g, 0, none⟩)] 84)).alloc (.cells #[.string ⟨#[]⟩] 9)) (.cells #[.int .i64 (i : Int)] 3))
    have hR3 := hid (hr.keep hB3)
    have hr3 : Hid (Var (((w.alloc (.cells #[.pointer (some ⟨g, 0, none⟩)] 84)).alloc (.cells #[.string ⟨#[]⟩] 9)).alloc (.cells #[.int .i64 (i : Int)] 3)) w.heap.size #[.pointer (some ⟨g, 0, none⟩)] 84) := Var.keep (Var.keep (heap_alloc_new w _ : Var (w.alloc (.cells #[.pointer (some ⟨g, 0, none⟩)] 84)) w.heap.size #[.pointer (some ⟨g, 0, none⟩)] 84) (hba _ _)) (hba _ _)
    have hx3 : Hid (Var (((w.alloc (.cells #[.pointer (some ⟨g, 0, none⟩)] 84)).alloc (.cells #[.string ⟨#[]⟩] 9)).alloc (.cells #[.int .i64 (i : Int)] 3)) (w.heap.size + 1) #[.string ⟨#[]⟩] 9) := Var.keep (Var.new (w.alloc (.cells #[.pointer (some ⟨g, 0, none⟩)] 84)) #[.string ⟨#[]⟩] 9 (by simp)) (hba _ _)
    have hp3 : Hid (Var (((w.alloc (.cells #[.pointer (some ⟨g, 0, none⟩)] 84)).alloc (.cells #[.string ⟨#[]⟩] 9)).alloc (.cells #[.int .i64 (i : Int)] 3)) (w.heap.size + 1 + 1) #[.int .i64 (i : Int)] 3) := Var.new ((w.alloc (.cells #[.pointer (some ⟨g, 0, none⟩)] 84)).alloc (.cells #[.string ⟨#[]⟩] 9)) #[.int .i64 (i : Int)] 3 (by simp)
    have hU3 := hid (UB.of (g := g) hB3)
    have hrg : w.heap.size ≠ g := by omega
    have hxg : w.heap.size + 1 ≠ g := by omega
    have hpg : w.heap.size + 1 + 1 ≠ g := by omega
    cases hres : Cd.textR s 1000000 i with
    | error x =>
      rw [hres] at hread
      have hT := hid (top_err (z := ⟨#[]⟩) (f := Cd.textR s 1000000) hres)
      have hb1 := hid (hb0.keep hB3)
      clear hr hB1 hB2 hB3 hres
      go_enter_defers Try.func81, Try.ntmps81
      go_wp2_with fail
      refine (hread.out _ hb1.out hR3.out).mono ?_; rintro e w1 ⟨hu, rfl, j, hR1, hj⟩
      have hX1 := hx3.out.upd hu hxg
      have hP1 := hp3.out.upd hu hpg
      have hr1 := hr3.out.upd hu hrg
      have hU1 := hU3.out.trans (UB.upd hu (by simp; omega))
      have hsz := hU1.size
      clear hu hx3 hR3 hU3 hr3 hp3
      go_wp2_with fail
      refine leaves_cons (f := 106) (args := #[.pointer (some ⟨w.heap.size + 1 + 1, 0, none⟩), .pointer (some ⟨w.heap.size + 1, 0, none⟩), .pointer (some ⟨w.heap.size, 0, none⟩)]) (by simp) (by simp [go_sem]) ?_
      refine (catch_string x (w.heap.size + 1 + 1) (w.heap.size + 1) w.heap.size g w.heap.size s i j 0 _ hP1 hX1 hr1 hR1 (by omega) (by omega) hpg hxg hrg (by omega) hsz).mono ?_
      rintro e u' w'' ⟨rfl, rfl, hU2, hX2, hR2⟩
      have z0 := hX2.cell 0
      simp [Leaves, settle, results, Try.results81, go_sem, z0]
      rw [hT.out]
      exact ⟨rfl, (hU1.trans hU2).toUpd, hR2, hi⟩
    | ok p =>
      obtain ⟨n, j⟩ := p
      rw [hres] at hread
      have hT := hid (top_ok (z := ⟨#[]⟩) (f := Cd.textR s 1000000) hres)
      have hb1 := hid (hb0.keep hB3)
      clear hr hB1 hB2 hB3 hres hr3 hp3
      go_enter_defers Try.func81, Try.ntmps81
      go_wp2_with fail
      refine (hread.out _ hb1.out hR3.out).mono ?_; rintro e w1 ⟨hu, rfl, hR, hj⟩
      have hX1 := hx3.out.upd hu hxg
      have hR1 := hR
      have hU1 := hU3.out.trans (UB.upd hu (by simp; omega))
      clear hu hR3 hU3 hR hx3
      have x0 := hX1.cell 0
      have y0 := hX1.free 0
      go_wp2_with fail
      have hX2 := (hX1.set 0 (.string n))
      have hR2 := (hR1.setO (o := 0) (.string n) hxg)
      have hU2 := (hU1.trans (UB.set (o := 0) _ (.string n) (.inl (Nat.le_succ _))))
      refine leaves_cons (f := 106) (args := #[.pointer (some ⟨w.heap.size + 1 + 1, 0, none⟩), .pointer (some ⟨w.heap.size + 1, 0, none⟩), .pointer (some ⟨w.heap.size, 0, none⟩)]) (by simp) (by simp [go_sem]) ?_
      refine (idle_string _ _ _ _).mono ?_
      rintro e u' w'' ⟨rfl, rfl, rfl⟩
      have z0 := hX2.cell 0
      simp [Leaves, settle, results, Try.results81, go_sem, z0]
      rw [hT.out]
      exact ⟨rfl, hU2.toUpd, hR2, hj⟩
  · have h1 : (er == 0) = false := by rw [beq_eq_false_iff_ne]; exact her
    have h2 : (er != 0) = true := by rw [bne_iff_ne]; exact her
    have hT := hid (top_was ⟨#[]⟩ (Cd.textR s 1000000) i her)
    have hB1 := hba w (.cells #[.pointer (some ⟨g, 0, none⟩)] 84)
    have hB2 := hnext hB1 (hba (w.alloc (.cells #[.pointer (some ⟨g, 0, none⟩)] 84)) (.cells #[.string ⟨#[]⟩] 9))
    have hR := hid hr
    clear her hr
    go_enter_defers Try.func81, Try.ntmps81
    go_wp2
    simp [bodyPostD, Leaves, results, Try.results81, go_sem]
    rw [hT.out]
    exact ⟨rfl, Upd.of hB2, hR.out.keep hB2, hi⟩

set_option maxRecDepth 100000 in
set_option maxHeartbeats 1600000 in
theorem try_row (g : Nat) (s : ByteArray) (i : Nat) (er : Int) (w : World) (hr : Rdr w g s i er) (hi : i ≤ s.size) (hs : s.size ≤ 1000000000) :
    Calls Try.prog 84 #[.pointer (some ⟨g, 0, none⟩), .func (.func 85) #[.pointer (some ⟨g, 0, none⟩)] #[]] w (TopRow g s (Cd.top [] (Cd.rowR s) i er) w) := by
  obtain ⟨c0, c1, c2, f1, f2, hg⟩ := hr.cells
  have hgn : g ≠ w.heap.size := Nat.ne_of_lt hg
  have hgn2 : g ≠ w.heap.size + 1 := by omega
  have hmf := run_makeFunc
  by_cases her : er = 0
  · subst her
    have hread : Hid (∀ W, Rdr W g s i 0 → Calls Try.prog 85 #[.pointer (some ⟨g, 0, none⟩)] W (ToldRow g s 0 (Cd.rowR s i) W)) := fun W h => row_rd g s i 0 W h hi hs
    have hB1 := hba w (.cells #[.pointer (some ⟨g, 0, none⟩)] 84)
    have hB2 := hnext hB1 (hba (w.alloc (.cells #[.pointer (some ⟨g, 0, none⟩)] 84)) (.cells #[.slice none 0 0] 22))
    have hB3 := hnext hB2 (hba ((w.alloc (.cells #[.pointer (some ⟨g, 0, none⟩)] 84)).alloc (.cells #[.slice none 0 0] 22)) (.cells #[.int .i64 (i : Int)] 3))
    have hR3 := hid (hr.keep hB3)
    have hr3 : Hid (Var (((w.alloc (.cells #[.pointer (some ⟨g, 0, none⟩)] 84)).alloc (.cells #[.slice none 0 0] 22)).alloc (.cells #[.int .i64 (i : Int)] 3)) w.heap.size #[.pointer (some ⟨g, 0, none⟩)] 84) := Var.keep (Var.keep (heap_alloc_new w _ : Var (w.alloc (.cells #[.pointer (some ⟨g, 0, none⟩)] 84)) w.heap.size #[.pointer (some ⟨g, 0, none⟩)] 84) (hba _ _)) (hba _ _)
    have hx3 : Hid (Var (((w.alloc (.cells #[.pointer (some ⟨g, 0, none⟩)] 84)).alloc (.cells #[.slice none 0 0] 22)).alloc (.cells #[.int .i64 (i : Int)] 3)) (w.heap.size + 1) #[.slice none 0 0] 22) := Var.keep (Var.new (w.alloc (.cells #[.pointer (some ⟨g, 0, none⟩)] 84)) #[.slice none 0 0] 22 (by simp)) (hba _ _)
    have hp3 : Hid (Var (((w.alloc (.cells #[.pointer (some ⟨g, 0, none⟩)] 84)).alloc (.cells #[.slice none 0 0] 22)).alloc (.cells #[.int .i64 (i : Int)] 3)) (w.heap.size + 1 + 1) #[.int .i64 (i : Int)] 3) := Var.new ((w.alloc (.cells #[.pointer (some ⟨g, 0, none⟩)] 84)).alloc (.cells #[.slice none 0 0] 22)) #[.int .i64 (i : Int)] 3 (by simp)
    have hU3 := hid (UB.of (g := g) hB3)
    have hrg : w.heap.size ≠ g := by omega
    have hxg : w.heap.size + 1 ≠ g := by omega
    have hpg : w.heap.size + 1 + 1 ≠ g := by omega
    cases hres : Cd.rowR s i with
    | error x =>
      rw [hres] at hread
      have hT := hid (top_err (z := []) (f := Cd.rowR s) hres)
      clear hr hB1 hB2 hB3 hres
      go_enter_defers Try.func84, Try.ntmps84
      go_wp2_with fail
      refine (hread.out _ hR3.out).mono ?_; rintro e w1 ⟨hu, rfl, j, hR1, hj⟩
      have hX1 := hx3.out.upd hu hxg
      have hP1 := hp3.out.upd hu hpg
      have hr1 := hr3.out.upd hu hrg
      have hU1 := hU3.out.trans (UB.upd hu (by simp; omega))
      have hsz := hU1.size
      clear hu hx3 hR3 hU3 hr3 hp3
      go_wp2_with fail
      refine leaves_cons (f := 107) (args := #[.pointer (some ⟨w.heap.size + 1 + 1, 0, none⟩), .pointer (some ⟨w.heap.size + 1, 0, none⟩), .pointer (some ⟨w.heap.size, 0, none⟩)]) (by simp) (by simp [go_sem]) ?_
      refine (catch_row x (w.heap.size + 1 + 1) (w.heap.size + 1) w.heap.size g w.heap.size s i j 0 _ hP1 hX1 hr1 hR1 (by omega) (by omega) hpg hxg hrg (by omega) hsz).mono ?_
      rintro e u' w'' ⟨rfl, rfl, hU2, hX2, hR2⟩
      have z0 := hX2.cell 0
      simp [Leaves, settle, results, Try.results84, go_sem, z0]
      rw [hT.out]
      exact ⟨⟨_, rfl, World.ownsRow_nil _ _ _ _⟩, (hU1.trans hU2).toUpd, hR2, hi⟩
    | ok p =>
      obtain ⟨n, j⟩ := p
      rw [hres] at hread
      have hT := hid (top_ok (z := []) (f := Cd.rowR s) hres)
      clear hr hB1 hB2 hB3 hres hr3 hp3
      go_enter_defers Try.func84, Try.ntmps84
      go_wp2_with fail
      refine (hread.out _ hR3.out).mono ?_; rintro e w1 ⟨hu, ⟨v', rfl, hown⟩, hR, hj⟩
      have hX1 := hx3.out.upd hu hxg
      have hR1 := hR
      have hU1 := hU3.out.trans (UB.upd hu (by simp; omega))
      clear hu hR3 hU3 hR hx3
      have x0 := hX1.cell 0
      have y0 := hX1.free 0
      obtain ⟨ao, ln, cp, rfl⟩ := own_slice hown
      have hO := hid hown
      clear hown
      go_wp2_with fail
      have hX2 := (hX1.set 0 (.slice ao ln cp))
      have hR2 := (hR1.setO (o := 0) (.slice ao ln cp) hxg)
      have hU2 := (hU1.trans (UB.set (o := 0) _ (.slice ao ln cp) (.inl (Nat.le_succ _))))
      refine leaves_cons (f := 107) (args := #[.pointer (some ⟨w.heap.size + 1 + 1, 0, none⟩), .pointer (some ⟨w.heap.size + 1, 0, none⟩), .pointer (some ⟨w.heap.size, 0, none⟩)]) (by simp) (by simp [go_sem]) ?_
      refine (idle_row _ _ _ _).mono ?_
      rintro e u' w'' ⟨rfl, rfl, rfl⟩
      have z0 := hX2.cell 0
      simp [Leaves, settle, results, Try.results84, go_sem, z0]
      rw [hT.out]
      exact ⟨⟨_, rfl, own_mono4 (own_setO hO.out (by first | (simp; done) | (simp; omega))) (by first | (simp; done) | (simp; omega))⟩, hU2.toUpd, hR2, hj⟩
  · have h1 : (er == 0) = false := by rw [beq_eq_false_iff_ne]; exact her
    have h2 : (er != 0) = true := by rw [bne_iff_ne]; exact her
    have hT := hid (top_was [] (Cd.rowR s) i her)
    have hB1 := hba w (.cells #[.pointer (some ⟨g, 0, none⟩)] 84)
    have hB2 := hnext hB1 (hba (w.alloc (.cells #[.pointer (some ⟨g, 0, none⟩)] 84)) (.cells #[.slice none 0 0] 22))
    have hR := hid hr
    clear her hr
    go_enter_defers Try.func84, Try.ntmps84
    go_wp2
    simp [bodyPostD, Leaves, results, Try.results84, go_sem]
    rw [hT.out]
    exact ⟨⟨_, rfl, World.ownsRow_nil _ _ _ _⟩, Upd.of hB2, hR.out.keep hB2, hi⟩
end Go.Proofs.Ytmcneelapghfcaa

namespace Go.Proofs.Ytmcneelapghfcaa
open Go.RowKit

theorem new_any (s : ByteArray) (w : World) : Calls Try.prog 44 #[.string s] w fun e w' => e = .returned (.pointer (some ⟨w.heap.size, 0, none⟩)) ∧ w' = w.alloc (.cells #[.string s, .int .i64 0, .int .i64 0] 117) := by
  go_enter Try.func44, Try.ntmps44
  go_wp2
  go_ret
  exact ⟨rfl, rfl⟩
theorem new_rdr (s : ByteArray) (w : World) : Rdr (w.alloc (.cells #[.string s, .int .i64 0, .int .i64 0] 117)) w.heap.size s 0 0 := heap_alloc_new w _

theorem err_any (g : Nat) (s : ByteArray) (i : Nat) (er : Int) (w : World) (hr : Rdr w g s i er) :
    Calls Try.prog 50 #[.pointer (some ⟨g, 0, none⟩)] w fun e w' => e = .returned (.int .i64 er) ∧ w = w' := by
  obtain ⟨c0, c1, c2, f1, f2, hg⟩ := hr.cells
  go_enter Try.func50, Try.ntmps50
  go_wp2
  go_ret
  exact ⟨rfl, rfl⟩

theorem mUint (g : Nat) (s : ByteArray) (i : Nat) (er : Int) (w : World) (hr : Rdr w g s i er) (hi : i ≤ s.size) (hs : s.size ≤ 1000000000) :
    Calls Try.prog 45 #[.pointer (some ⟨g, 0, none⟩)] w (Top (fun n : Nat => .int .u64 (n : Int)) g s (Cd.top 0 (Cd.uintR s.data.toList) i er) w) := by
  have hmf := run_makeFunc
  have h := hid (try_uint64 g s i er w hr hi hs)
  go_enter Try.func45, Try.ntmps45
  go_wp2_with fail
  refine (h.out).mono ?_; rintro e w1 ⟨rfl, hu, hR, hj⟩
  go_wp2_with fail
  go_ret
  exact ⟨rfl, hu, hR, hj⟩
theorem mInt (g : Nat) (s : ByteArray) (i : Nat) (er : Int) (w : World) (hr : Rdr w g s i er) (hi : i ≤ s.size) (hs : s.size ≤ 1000000000) :
    Calls Try.prog 48 #[.pointer (some ⟨g, 0, none⟩)] w (Top (fun n : Int => .int .i64 n) g s (Cd.top 0 (Cd.intR s.data.toList) i er) w) := by
  have hmf := run_makeFunc
  have h := hid (try_int g s i er w hr hi hs)
  go_enter Try.func48, Try.ntmps48
  go_wp2_with fail
  refine (h.out).mono ?_; rintro e w1 ⟨rfl, hu, hR, hj⟩
  go_wp2_with fail
  go_ret
  exact ⟨rfl, hu, hR, hj⟩
theorem mText (g : Nat) (s : ByteArray) (i : Nat) (er : Int) (w : World) (hr : Rdr w g s i er) (hi : i ≤ s.size) (hs : s.size ≤ 1000000000) :
    Calls Try.prog 46 #[.pointer (some ⟨g, 0, none⟩)] w (Top (fun t : ByteArray => .string t) g s (Cd.top ⟨#[]⟩ (Cd.textR s 1000000) i er) w) := by
  have hmf := run_makeFunc
  have hb := hba w (.cells #[.pointer (some ⟨g, 0, none⟩)] 84)
  have h := hid (try_string g w.heap.size s i er (w.alloc (.cells #[.pointer (some ⟨g, 0, none⟩)] 84)) (hr.keep hb) (Var.new w _ _ rfl) hi hs)
  have hB := hid hb
  clear hb
  go_enter Try.func46, Try.ntmps46
  go_wp2_with fail
  refine (h.out).mono ?_; rintro e w1 ⟨rfl, hu, hR, hj⟩
  go_wp2_with fail
  go_ret
  exact ⟨rfl, (Upd.of hB.out).trans hu, hR, hj⟩
theorem mRow (g : Nat) (s : ByteArray) (i : Nat) (er : Int) (w : World) (hr : Rdr w g s i er) (hi : i ≤ s.size) (hs : s.size ≤ 1000000000) :
    Calls Try.prog 47 #[.pointer (some ⟨g, 0, none⟩)] w (TopRow g s (Cd.top [] (Cd.rowR s) i er) w) := by
  have hmf := run_makeFunc
  have h := hid (try_row g s i er w hr hi hs)
  go_enter Try.func47, Try.ntmps47
  go_wp2_with fail
  refine (h.out).mono ?_; rintro e w1 ⟨⟨v', rfl, hown⟩, hu, hR, hj⟩
  have hO := hid hown
  clear hown
  go_wp2_with fail
  go_ret
  exact ⟨⟨_, rfl, hO.out⟩, hu, hR, hj⟩
end Go.Proofs.Ytmcneelapghfcaa

namespace Go.Proofs.Ytmcneelapghfcaa
open Go.RowKit

theorem take_eq_next {l r : List Cd.V} (h : l.length = r.length) (k : Nat) (hk : k < l.length) (h0 : l.take k = r.take k) : l.take (k + 1) = r.take (k + 1) ↔ l[k] = r[k]'(by omega) := by
  have e := take_next r k (by omega)
  rw [take_next l k hk, e, h0, List.append_cancel_left_eq]
  simp
theorem take_neC {l r : List Cd.V} (h : l.length = r.length) (k : Nat) (hk : k < l.length) (h0 : l[k] ≠ r[k]'(by omega)) : l ≠ r := by
  rintro rfl; exact h0 rfl

set_option maxRecDepth 100000 in
set_option maxHeartbeats 1600000 in
theorem rows_any (v1 v2 : Value) (l r : List Cd.V) (w : World) (h1 : VsAt w v1 l) (h2 : VsAt w v2 r) (hl : l.length ≤ 1000000) (hr : r.length ≤ 1000000) :
    Calls Try.prog 16 #[v1, v2] w fun e w' => e = .returned (.bool (decide (l = r))) ∧ Below w.heap.size w w' := by
  obtain ⟨adr, cap, rfl, hc⟩ := h1
  obtain ⟨adr2, cap2, rfl, hc2⟩ := h2
  have HC := hid hc
  have HC2 := hid hc2
  clear hc hc2
  by_cases hlen : l.length = r.length
  · have e1 : (((l.length : Int)) != (r.length : Int)) = false := by rw [bne_eq_false_iff_eq]; omega
    have HLEN := hid hlen
    have hlr : (r.length : Int) = (l.length : Int) := by omega
    have e2 : (((l.length : Int)) != (l.length : Int)) = false := by rw [bne_eq_false_iff_eq]
    rw [← hlen]
    clear hlr e1 hlen
    go_enter Try.func16, Try.ntmps16
    go_wp2_with fail
    go_loopw [5] (fun i wr => ∃ k : Nat, k ≤ l.length ∧ i = .int .i64 (k : Int) ∧ Hid (l.take k = r.take k) ∧ Below w.heap.size w wr) (fun i _ => l.length - (intOf i).toNat)
    case atStart => exact ⟨0, by omega, rfl, rfl, Below.refl _ _⟩
    case round =>
      obtain ⟨k, hk, rfl, htk, hbel⟩ := hrel
      obtain ⟨w4, rfl⟩ : ∃ w4 : World, w4 = wr := ⟨_, rfl⟩
      by_cases hlk : k < l.length
      · obtain ⟨g, off, rfl, q0, q1, q2, q3⟩ := HC.out k hlk
        obtain ⟨g2, off2, rfl, p0, p1, p2, p3⟩ := HC2.out k (by have := HLEN.out; omega)
        have HN := hid (take_eq_next HLEN.out k hlk htk.out)
        have HX := hid (take_neC HLEN.out k hlk)
        have hq := va_neq l[k].k l[k].n l[k].b l[k].s (r[k]'(by have := HLEN.out; omega)).k (r[k]'(by have := HLEN.out; omega)).n (r[k]'(by have := HLEN.out; omega)).b (r[k]'(by have := HLEN.out; omega)).s _ (v_beq _ _)
        generalize l[k] = x at q0 q1 q2 q3 HN HX hq
        generalize r[k]'(by have := HLEN.out; omega) = y at p0 p1 p2 p3 HN HX hq
        replace q0 := hkeep q0 hbel
        replace q1 := hkeep q1 hbel
        replace q2 := hkeep q2 hbel
        replace q3 := hkeep q3 hbel
        replace p0 := hkeep p0 hbel
        replace p1 := hkeep p1 hbel
        replace p2 := hkeep p2 hbel
        replace p3 := hkeep p3 hbel
        have hlk' : (k : Int) < l.length := by omega
        have hk0 : (0 : Int) ≤ (k : Int) := by omega
        unfold vv at hq
        by_cases hxy : x = y
        · have HT := hid (HN.out.2 hxy)
          rw [decide_eq_true hxy] at hq
          clear hxy
          go_wp2_with fail
          go_quiet (fail)
          go_wp2_with fail
          go_roundw
          case rel => exact ⟨k + 1, by omega, by go_num, HT, hdrewN hbel _⟩
          case measure => simp [intOf]; omega
        · have HNE := hid (HX.out hxy)
          rw [decide_eq_false hxy] at hq
          clear hxy
          go_wp2_with fail
          go_quiet (fail)
          go_wp2_with fail
          go_ret
          rw [decide_eq_false HNE.out]
          exact ⟨rfl, hdrewN hbel _⟩
      · obtain rfl : k = l.length := by omega
        have HE := hid (show l = r by have h := htk.out; rw [List.take_length, HLEN.out, List.take_length] at h; exact h)
        go_wp2_with fail
        go_ret
        rw [decide_eq_true HE.out]
        exact ⟨rfl, hbel⟩
  · have e1 : (((l.length : Int)) != (r.length : Int)) = true := by rw [bne_iff_ne]; omega
    have HE := hid (show l ≠ r by rintro rfl; exact hlen rfl)
    clear hlen
    go_enter Try.func16, Try.ntmps16
    go_wp2
    go_ret
    rw [decide_eq_false HE.out]
    exact ⟨rfl, Below.refl _ _⟩

end Go.Proofs.Ytmcneelapghfcaa

namespace Go.Proofs.Ytmcneelapghfcaa
open Go.RowKit

def K1 : ByteArray := ⟨#[172, 2]⟩
def K2 : ByteArray := ⟨#[1]⟩
def K3 : ByteArray := ⟨#[2, 97, 98]⟩
def K4 : ByteArray := ⟨#[1, 1]⟩
def K5 : ByteArray := ⟨#[2, 0, 2, 10]⟩
def KS : ByteArray := ⟨#[172, 2, 1, 2, 97, 98, 1, 1, 2, 0, 2, 10]⟩
def KL : List Cd.V := [⟨0, 0, 0, ⟨#[]⟩⟩, ⟨2, 5, 0, ⟨#[]⟩⟩]
theorem K_e1 : bstr (Cd.enc 300) = K1 := by decide +kernel
theorem K_e2 : bstr (Cd.enc (Cd.zig (-1))) = K2 := by decide +kernel
theorem K_e3 : bstr (Cd.text ⟨#[97, 98]⟩) = K3 := by decide +kernel
theorem K_e4 : bstr (Cd.value 1 1 0 ⟨#[]⟩) = K4 := by decide +kernel
theorem K_e5 : bstr (Cd.row KL) = K5 := by decide +kernel
theorem K_t1 : Cd.top 0 (Cd.uintR KS.data.toList) 0 0 = (300, 2, 0) := by decide +kernel
theorem K_t2 : Cd.top 0 (Cd.intR KS.data.toList) 2 0 = (-1, 3, 0) := by decide +kernel
theorem K_t3 : Cd.top ⟨#[]⟩ (Cd.textR KS 1000000) 3 0 = (⟨#[97, 98]⟩, 6, 0) := by decide +kernel
theorem KL_ok : ∀ x ∈ KL, Vok x := by
  intro x hx
  simp [KL] at hx
  rcases hx with rfl | rfl <;> exact ⟨by decide, by decide, by decide⟩
theorem k1 (w : World) : Calls Try.prog 36 #[.int .u64 300] w fun e w' => e = .returned (.string K1) ∧ Below w.heap.size w w' := (uint_any 300 (by decide) w).mono fun e w' ⟨h1, h2⟩ => ⟨by rw [h1, K_e1], h2⟩
theorem k2 (w : World) : Calls Try.prog 38 #[.int .i64 (-1)] w fun e w' => e = .returned (.string K2) ∧ Below w.heap.size w w' := (int_any (-1) (by decide) (by decide) w).mono fun e w' ⟨h1, h2⟩ => ⟨by rw [h1, K_e2], h2⟩
theorem k3 (w : World) : Calls Try.prog 37 #[.string ⟨#[97, 98]⟩] w fun e w' => e = .returned (.string K3) ∧ Below w.heap.size w w' := (text_any _ (by decide) w).mono fun e w' ⟨h1, h2⟩ => ⟨by rw [h1, K_e3], h2⟩
theorem k4 (w : World) : Calls Try.prog 73 #[.agg #[.int .i64 1, .int .i64 1, .int .u64 0, .string ⟨#[]⟩]] w fun e w' => e = .returned (.string K4) ∧ Below w.heap.size w w' := (value_any 1 1 0 ⟨#[]⟩ (by decide) (by decide) (by decide) (by decide) w).mono fun e w' ⟨h1, h2⟩ => ⟨by rw [h1, K_e4], h2⟩
theorem k5 (w : World) (v : Value) (h : VsAt w v KL) : Calls Try.prog 35 #[v] w fun e w' => e = .returned (.string K5) ∧ Below w.heap.size w w' := (row_any v KL w h KL_ok (by decide)).mono fun e w' ⟨h1, h2⟩ => ⟨by rw [h1, K_e5], h2⟩
theorem r1 (g : Nat) (w : World) (hr : Rdr w g KS 0 0) : Calls Try.prog 45 #[.pointer (some ⟨g, 0, none⟩)] w fun e w' => e = .returned (.int .u64 300) ∧ Upd g w w' ∧ Rdr w' g KS 2 0 := by
  have h := mUint g KS 0 0 w hr (by decide) (by decide); rw [K_t1] at h; exact h.mono fun e w' ⟨a, b, c, d⟩ => ⟨a, b, c⟩
theorem r2 (g : Nat) (w : World) (hr : Rdr w g KS 2 0) : Calls Try.prog 48 #[.pointer (some ⟨g, 0, none⟩)] w fun e w' => e = .returned (.int .i64 (-1)) ∧ Upd g w w' ∧ Rdr w' g KS 3 0 := by
  have h := mInt g KS 2 0 w hr (by decide) (by decide); rw [K_t2] at h; exact h.mono fun e w' ⟨a, b, c, d⟩ => ⟨a, b, c⟩
theorem r3 (g : Nat) (w : World) (hr : Rdr w g KS 3 0) : Calls Try.prog 46 #[.pointer (some ⟨g, 0, none⟩)] w fun e w' => e = .returned (.string ⟨#[97, 98]⟩) ∧ Upd g w w' ∧ Rdr w' g KS 6 0 := by
  have h := mText g KS 3 0 w hr (by decide) (by decide); rw [K_t3] at h; exact h.mono fun e w' ⟨a, b, c, d⟩ => ⟨a, b, c⟩
theorem own_upd {w w' : World} {g B e size : Nat} {v : Value} {n : Nat} {xs : List Value} (h : w.ownsRow B e size v n xs) (hu : Upd g w w') (hg : g < B) : w'.ownsRow B e size v n xs :=
  h.kept (row := some g) hu (Or.inr (fun e => by have := (h.lt g e).1; omega))
end Go.Proofs.Ytmcneelapghfcaa

namespace Go.Proofs.Ytmcneelapghfcaa
open Go.RowKit

theorem i64_of {n : Int} (h : (Lit.int .i64 n).wf = true) : -9223372036854775808 ≤ n ∧ n ≤ 9223372036854775807 := by
  simpa [Lit.wf, IntKind.min, IntKind.max, IntKind.signed, IntKind.bits] using h
end Go.Proofs.Ytmcneelapghfcaa

namespace Go.Proofs.Ytmcneelapghfcaa
open Go.ChangeShapes Go.WideShapes Go.Joins Go.Deep

instance : Inhabited Cd.V := ⟨⟨0, 0, 0, ⟨#[]⟩⟩⟩
end Go.Proofs.Ytmcneelapghfcaa

namespace Go.Proofs.Ytmcneelapghfcaa
open Go.RowKit

theorem row_length (l : List Cd.V) : (Cd.row l).length ≤ 10 + l.length * 5000 := by
  unfold Cd.row
  split
  · have := (Cd.enc_length l.length).2
    have := flat_length l
    rw [List.length_append]; omega
  · simp
end Go.Proofs.Ytmcneelapghfcaa

namespace Go.Proofs.Ytmcneelapghfcaa
namespace Cd

theorem drop_cons {l : List UInt8} {i : Nat} {c : UInt8} (h : l[i]? = some c) : l.drop i = c :: l.drop (i + 1) := by
  obtain ⟨hi, rfl⟩ := List.getElem?_eq_some_iff.1 h
  exact List.drop_eq_getElem_cons hi
theorem get_lt {l : List UInt8} {i : Nat} {c : UInt8} (h : l[i]? = some c) : i < l.length := (List.getElem?_eq_some_iff.1 h).1
theorem ofNat_self (c : UInt8) {n : Nat} (h : n = c.toNat) : UInt8.ofNat n = c := by
  subst h; simp
theorem uintF_inv (l : List UInt8) (f : Nat) : ∀ k acc i n j, f + k = 9 → uintF l (f + 1) k acc i = .ok (n, j) → ∃ m, n = acc + m * 128 ^ k ∧ m < 2 * 128 ^ f ∧ (k = 0 ∨ 0 < m) ∧ l.drop i = encF f m ++ l.drop j ∧ i < j ∧ j ≤ l.length := by
  induction f with
  | zero =>
    intro k acc i n j hk h
    unfold uintF at h
    cases hc : l[i]? with
    | none => rw [hc] at h; cases h
    | some c =>
      rw [hc] at h
      simp only at h
      have hb := c.toNat_lt
      by_cases h1 : (c.toNat = 0 ∧ 0 < k) ∨ (k = 9 ∧ 1 < c.toNat)
      · rw [if_pos h1] at h; cases h
      · rw [if_neg h1, if_pos (by omega)] at h
        injection h with h
        injection h with e1 e2
        subst e1 e2
        refine ⟨c.toNat, rfl, by omega, by omega, ?_, by omega, get_lt hc⟩
        rw [drop_cons hc]
        show _ = [UInt8.ofNat c.toNat] ++ _
        rw [ofNat_self c rfl]; rfl
  | succ f ih =>
    intro k acc i n j hk h
    unfold uintF at h
    cases hc : l[i]? with
    | none => rw [hc] at h; cases h
    | some c =>
      rw [hc] at h
      simp only at h
      have hb := c.toNat_lt
      have hp : 0 < 128 ^ f := Nat.pow_pos (by decide)
      by_cases h1 : (c.toNat = 0 ∧ 0 < k) ∨ (k = 9 ∧ 1 < c.toNat)
      · rw [if_pos h1] at h; cases h
      · rw [if_neg h1] at h
        by_cases h2 : c.toNat < 128
        · rw [if_pos h2] at h
          injection h with h
          injection h with e1 e2
          subst e1 e2
          refine ⟨c.toNat, rfl, by rw [Nat.pow_succ]; omega, by omega, ?_, by omega, get_lt hc⟩
          rw [drop_cons hc, encF_small _ h2, ofNat_self c rfl]; rfl
        · rw [if_neg h2] at h
          obtain ⟨m, e1, e2, e3, e4, e5, e6⟩ := ih (k + 1) _ (i + 1) n j (by omega) h
          have hm : 0 < m := by omega
          refine ⟨m * 128 + c.toNat % 128, ?_, by rw [Nat.pow_succ]; omega, by omega, ?_, by omega, e6⟩
          · rw [e1, Nat.pow_succ, Nat.add_mul, Nat.mul_comm (128 ^ k) 128, ← Nat.mul_assoc]; omega
          · rw [drop_cons hc, e4]
            rw [show encF (f + 1) (m * 128 + c.toNat % 128) = if m * 128 + c.toNat % 128 < 128 then _ else UInt8.ofNat ((m * 128 + c.toNat % 128) % 128 + 128) :: encF f ((m * 128 + c.toNat % 128) / 128) from rfl, if_neg (by omega), show (m * 128 + c.toNat % 128) % 128 + 128 = c.toNat by omega, show (m * 128 + c.toNat % 128) / 128 = m by omega, ofNat_self c rfl]
            rfl
theorem uint_inv {l : List UInt8} {i n j : Nat} (h : uintR l i = .ok (n, j)) : n < 18446744073709551616 ∧ l.drop i = enc n ++ l.drop j ∧ i < j ∧ j ≤ l.length := by
  obtain ⟨m, e1, e2, _, e4, e5, e6⟩ := uintF_inv l 9 0 0 i n j rfl h
  obtain rfl : n = m := by simpa using e1
  exact ⟨Nat.lt_of_lt_of_le e2 (by decide), e4, e5, e6⟩
theorem int_inv {l : List UInt8} {i j : Nat} {n : Int} (h : intR l i = .ok (n, j)) : (-9223372036854775808 ≤ n ∧ n ≤ 9223372036854775807) ∧ l.drop i = enc (zig n) ++ l.drop j ∧ i < j ∧ j ≤ l.length := by
  unfold intR at h
  cases hu : uintR l i with
  | error e => rw [hu] at h; cases h
  | ok p =>
    obtain ⟨u, j'⟩ := p
    rw [hu] at h
    injection h with h
    injection h with e1 e2
    subst e1 e2
    obtain ⟨a, b, c, d⟩ := uint_inv hu
    refine ⟨?_, by rw [unzig_zig]; exact b, c, d⟩
    unfold unzig
    split <;> omega
theorem text_inv {s t : ByteArray} {most i j : Nat} (h : textR s most i = .ok (t, j)) : t.size ≤ most ∧ s.data.toList.drop i = text t ++ s.data.toList.drop j ∧ i < j ∧ j ≤ s.size := by
  unfold textR at h
  cases hu : uintR s.data.toList i with
  | error e => rw [hu] at h; cases h
  | ok p =>
    obtain ⟨n, j0⟩ := p
    rw [hu] at h
    simp only at h
    by_cases h1 : most < n
    · rw [if_pos h1] at h; cases h
    rw [if_neg h1] at h
    by_cases h2 : s.size < j0 + n
    · rw [if_pos h2] at h; cases h
    rw [if_neg h2] at h
    injection h with h
    injection h with e1 e2
    subst e1 e2
    obtain ⟨a, b, c, d⟩ := uint_inv hu
    have hd : (s.extract j0 (j0 + n)).data.toList = (s.data.toList.drop j0).take n := by
      rw [ByteArray.data_extract, Array.toList_extract]
      show List.take _ (List.drop _ _) = _
      rw [Nat.add_sub_cancel_left]
    have hsz : (s.extract j0 (j0 + n)).size = n := by rw [ByteArray.size_extract]; omega
    refine ⟨by omega, ?_, by omega, by omega⟩
    unfold text
    rw [b, hsz, hd, List.append_assoc]
    congr 1
    rw [← List.drop_drop, List.take_append_drop]
theorem low_mod (f : Nat) : ∀ x y, low f (x + y * 256 ^ f) = low f x := by
  induction f with
  | zero => intro x y; rfl
  | succ f ih =>
    intro x y
    have e : x + y * 256 ^ (f + 1) = x + (y * 256) * 256 ^ f := by rw [Nat.pow_succ, Nat.mul_comm (256 ^ f) 256, Nat.mul_assoc]
    unfold low
    rw [e, ih, Nat.add_mul_div_right _ _ (Nat.pow_pos (by decide))]
    congr 1
    apply UInt8.toNat_inj.1
    rw [UInt8.toNat_ofNat', UInt8.toNat_ofNat']
    omega
theorem bits_inv (l : List UInt8) (f : Nat) : ∀ acc i b j, bitsF l f acc i = .ok (b, j) → j = i + f ∧ (0 < f → j ≤ l.length) ∧ ∃ x, x < 256 ^ f ∧ b = acc * 256 ^ f + x ∧ l.drop i = low f x ++ l.drop j := by
  induction f with
  | zero =>
    intro acc i b j h
    unfold bitsF at h
    injection h with h
    injection h with e1 e2
    subst e1 e2
    exact ⟨rfl, fun h => absurd h (by omega), 0, by simp, by simp, rfl⟩
  | succ f ih =>
    intro acc i b j h
    unfold bitsF at h
    cases hc : l[i]? with
    | none => rw [hc] at h; cases h
    | some c =>
      rw [hc] at h
      obtain ⟨e1, e2, x, e3, e4, e5⟩ := ih _ _ _ _ h
      have hb := c.toNat_lt
      have hi := get_lt hc
      have hp : 0 < 256 ^ f := Nat.pow_pos (by decide)
      refine ⟨by omega, fun _ => ?_, c.toNat * 256 ^ f + x, ?_, ?_, ?_⟩
      · by_cases hf : 0 < f
        · exact e2 hf
        · omega
      · rw [Nat.pow_succ, Nat.mul_comm (256 ^ f) 256]
        have : c.toNat * 256 ^ f ≤ 255 * 256 ^ f := Nat.mul_le_mul_right _ (by omega)
        omega
      · rw [e4, Nat.pow_succ, Nat.add_mul, Nat.mul_comm 256 acc, Nat.mul_assoc, Nat.mul_comm 256 (256 ^ f)]; omega
      · rw [drop_cons hc, e5]
        show _ = UInt8.ofNat ((c.toNat * 256 ^ f + x) / 256 ^ f) :: low f (c.toNat * 256 ^ f + x) ++ _
        rw [Nat.add_comm (c.toNat * 256 ^ f) x, low_mod, Nat.add_mul_div_right _ _ hp, Nat.div_eq_of_lt e3, Nat.zero_add, ofNat_self c rfl]
        rfl
theorem nil_size : (⟨#[]⟩ : ByteArray).size ≤ maxLen := by decide
theorem right_of {v : V} (h : v.right = true) : Va.right v.k v.n v.b v.s = true := h
theorem value_inv {s : ByteArray} {v : V} {i j : Nat} (h : valueR s i = .ok (v, j)) : v.right = true ∧ Vok v ∧ s.data.toList.drop i = v.bytes ++ s.data.toList.drop j ∧ i < j ∧ j ≤ s.size := by
  have hlen : s.data.toList.length = s.size := by simp
  unfold valueR at h
  cases hraw : rawR s i with
  | error e => rw [hraw] at h; cases h
  | ok p =>
    obtain ⟨v', j'⟩ := p
    rw [hraw] at h
    simp only at h
    cases hr : v'.right with
    | false => rw [hr] at h; cases h
    | true =>
      rw [hr] at h
      injection h with h
      injection h with e1 e2
      subst e1 e2
      refine ⟨hr, ?_⟩
      have hr2 := right_of hr
      unfold V.bytes
      rw [value_of hr2]
      unfold rawR nextR at hraw
      cases hc : s.data.toList[i]? with
      | none => rw [hc] at hraw; cases hraw
      | some c =>
        rw [hc] at hraw
        simp only at hraw
        have hi := get_lt hc
        rw [drop_cons hc]
        by_cases h1 : c.toNat = 1
        · rw [if_pos h1] at hraw
          cases hc2 : s.data.toList[i + 1]? with
          | none => rw [hc2] at hraw; cases hraw
          | some d =>
            rw [hc2] at hraw
            injection hraw with hraw
            injection hraw with e1 e2
            subst e1 e2
            have hd := d.toNat_lt
            have hi2 := get_lt hc2
            refine ⟨⟨by simp only; omega, by simp, nil_size⟩, ?_, by omega, by omega⟩
            rw [drop_cons hc2]
            show c :: d :: _ = UInt8.ofNat 1 :: ([UInt8.ofNat d.toNat] ++ _)
            rw [ofNat_self c h1.symm, ofNat_self d rfl]; rfl
        rw [if_neg h1] at hraw
        by_cases h2 : c.toNat = 2
        · rw [if_pos h2] at hraw
          cases hx : intR s.data.toList (i + 1) with
          | error e => rw [hx] at hraw; cases hraw
          | ok p =>
            obtain ⟨n, m⟩ := p
            rw [hx] at hraw
            injection hraw with hraw
            injection hraw with e1 e2
            subst e1 e2
            obtain ⟨a1, a2, a3, a4⟩ := int_inv hx
            refine ⟨⟨a1, by simp, nil_size⟩, ?_, by omega, by omega⟩
            rw [a2]
            show _ = UInt8.ofNat 2 :: (enc (zig n) ++ _)
            rw [ofNat_self c h2.symm]
        rw [if_neg h2] at hraw
        by_cases h3 : c.toNat = 3
        · rw [if_pos h3] at hraw
          cases hx : bitsF s.data.toList 8 0 (i + 1) with
          | error e => rw [hx] at hraw; cases hraw
          | ok p =>
            obtain ⟨n, m⟩ := p
            rw [hx] at hraw
            injection hraw with hraw
            injection hraw with e1 e2
            subst e1 e2
            obtain ⟨a1, a2, x, a3, a4, a5⟩ := bits_inv _ _ _ _ _ _ hx
            have ha := a2 (by omega)
            obtain rfl : n = x := by omega
            refine ⟨⟨by simp, a3, nil_size⟩, ?_, by omega, by omega⟩
            rw [a5]
            show _ = UInt8.ofNat 3 :: (low 8 n ++ _)
            rw [ofNat_self c h3.symm]
        rw [if_neg h3] at hraw
        by_cases h4 : c.toNat = 4 ∨ c.toNat = 5
        · rw [if_pos h4] at hraw
          cases hx : textR s 4096 (i + 1) with
          | error e => rw [hx] at hraw; cases hraw
          | ok p =>
            obtain ⟨n, m⟩ := p
            rw [hx] at hraw
            injection hraw with hraw
            injection hraw with e1 e2
            subst e1 e2
            obtain ⟨a1, a2, a3, a4⟩ := text_inv hx
            refine ⟨⟨by simp, by simp, by simp only [maxLen]; omega⟩, ?_, by omega, a4⟩
            rw [a2]
            rcases h4 with h4 | h4
            · rw [h4]
              show _ = UInt8.ofNat 4 :: (text n ++ _)
              rw [ofNat_self c h4.symm]
            · rw [h4]
              show _ = UInt8.ofNat 5 :: (text n ++ _)
              rw [ofNat_self c h4.symm]
        rw [if_neg h4] at hraw
        injection hraw with hraw
        injection hraw with e1 e2
        subst e1 e2
        have h0 : c.toNat = 0 := by
          rcases right_full hr2 with ⟨q, _⟩ | ⟨q, _⟩ | ⟨q, _⟩ | ⟨q, _⟩ | ⟨q, _⟩ <;> simp only at q <;> omega
        refine ⟨⟨by simp, by simp, nil_size⟩, ?_, by omega, by omega⟩
        rw [h0]
        show _ = UInt8.ofNat 0 :: ([] ++ _)
        rw [ofNat_self c h0.symm]; rfl
theorem rowF_inv (s : ByteArray) (f : Nat) : ∀ i l j, rowF s f i = .ok (l, j) → l.all V.right = true ∧ (∀ x ∈ l, Vok x) ∧ l.length = f ∧ s.data.toList.drop i = l.flatMap V.bytes ++ s.data.toList.drop j ∧ i ≤ j ∧ (i ≤ s.size → j ≤ s.size) := by
  induction f with
  | zero =>
    intro i l j h
    unfold rowF at h
    injection h with h
    injection h with e1 e2
    subst e1 e2
    exact ⟨rfl, fun x hx => absurd hx List.not_mem_nil, rfl, rfl, Nat.le_refl _, id⟩
  | succ f ih =>
    intro i l j h
    unfold rowF at h
    cases hv : valueR s i with
    | error e => rw [hv] at h; cases h
    | ok p =>
      obtain ⟨v, j1⟩ := p
      rw [hv] at h
      simp only at h
      cases hr : rowF s f j1 with
      | error e => rw [hr] at h; cases h
      | ok q =>
        obtain ⟨l', j2⟩ := q
        rw [hr] at h
        injection h with h
        injection h with e1 e2
        subst e1 e2
        obtain ⟨a1, a2, a3, a4, a5⟩ := value_inv hv
        obtain ⟨b1, b2, b3, b4, b5, b6⟩ := ih _ _ _ hr
        refine ⟨by rw [List.all_cons, a1, b1]; rfl, ?_, by rw [List.length_cons, b3], by rw [a3, b4, List.flatMap_cons, List.append_assoc], by omega, fun _ => b6 a5⟩
        intro x hx
        rcases List.mem_cons.1 hx with rfl | hx
        · exact a2
        · exact b2 x hx
theorem row_inv {s : ByteArray} {l : List V} {i j : Nat} (h : rowR s i = .ok (l, j)) : l.all V.right = true ∧ (∀ x ∈ l, Vok x) ∧ l.length ≤ 1000 ∧ s.data.toList.drop i = row l ++ s.data.toList.drop j ∧ i < j ∧ j ≤ s.size := by
  have hlen : s.data.toList.length = s.size := by simp
  unfold rowR at h
  cases hu : uintR s.data.toList i with
  | error e => rw [hu] at h; cases h
  | ok p =>
    obtain ⟨n, j0⟩ := p
    rw [hu] at h
    simp only at h
    by_cases h1 : 1000 < n
    · rw [if_pos h1] at h; cases h
    rw [if_neg h1] at h
    obtain ⟨a1, a2, a3, a4⟩ := uint_inv hu
    obtain ⟨b1, b2, b3, b4, b5, b6⟩ := rowF_inv _ _ _ _ _ h
    refine ⟨b1, b2, by omega, ?_, by omega, b6 (by omega)⟩
    rw [row_yes l b1, a2, b4, b3, List.append_assoc]
end Cd
end Go.Proofs.Ytmcneelapghfcaa

namespace Go.Proofs.Ytmcneelapghfcaa
open Go.RowKit

theorem Rdr.upd {w w' : World} {g g2 : Nat} {s : ByteArray} {i : Nat} {er : Int} (h : Rdr w g2 s i er) (hu : Upd g w w') (hne : g2 ≠ g) : Rdr w' g2 s i er := Var.upd (w := w) (b := g2) (cs := #[.string s, .int .i64 (i : Int), .int .i64 er]) h hu hne
theorem Cd.textR_of {s : ByteArray} {most n j i : Nat} (h : Cd.uintR s.data.toList i = .ok (n, j)) : Cd.textR s most i = if most < n then .error 19 else if s.size < j + n then .error 8 else .ok (s.extract j (j + n), j + n) := by
  unfold Cd.textR; rw [h]

end Go.Proofs.Ytmcneelapghfcaa

namespace Go.Proofs.Ytmcneelapghfcaa
namespace Cd

/-- one read behind the other -/
theorem Cuts.seq {α β : Type} {F : ByteArray → Nat → R β} {f : ByteArray → Nat → R α} {g : α → ByteArray → Nat → R β} (hf : Cuts f) (hg : ∀ a, Cuts (g a))
    (he : ∀ s i e, f s i = .error e → F s i = .error e) (ho : ∀ s i a j, f s i = .ok (a, j) → F s i = g a s j) : Cuts F := by
  intro s i v j h
  cases hu : f s i with
  | error e => rw [he s i e hu] at h; cases h
  | ok p =>
    obtain ⟨a, j0⟩ := p
    rw [ho s i a j0 hu] at h
    obtain ⟨a1, a2⟩ := hf s i a j0 hu
    obtain ⟨b1, b2⟩ := hg a s j0 v j h
    refine ⟨by omega, fun c hc => ⟨fun h3 => ?_, fun h3 => ?_⟩⟩
    · by_cases h4 : c < j0
      · exact he _ _ _ ((a2 c hc).1 h4)
      · rw [ho _ _ _ _ ((a2 c hc).2 (by omega))]
        exact (b2 c (by omega)).1 h3
    · rw [ho _ _ _ _ ((a2 c hc).2 (by omega))]
      exact (b2 c (by omega)).2 h3
theorem Cuts.pure {α : Type} (a : α) : Cuts (fun _ i => .ok (a, i)) := by
  intro s i v j h
  have h := show (Except.ok (a, i) : R α) = .ok (v, j) from h
  injection h with h
  injection h with e1 e2
  subst e1 e2
  exact ⟨Nat.le_refl _, fun c hc => ⟨fun h => by omega, fun _ => rfl⟩⟩
theorem Cuts.ite {α : Type} {p : Prop} [Decidable p] {f g : ByteArray → Nat → R α} (hf : Cuts f) (hg : Cuts g) : Cuts (fun s i => if p then f s i else g s i) := by
  by_cases hp : p
  · simp only [hp, if_true]; exact hf
  · simp only [hp, if_false]; exact hg
theorem Errs.seq {α β : Type} {F : ByteArray → Nat → R β} {f : ByteArray → Nat → R α} {g : α → ByteArray → Nat → R β} (hf : Errs f) (hg : ∀ a, Errs (g a))
    (he : ∀ s i e, f s i = .error e → F s i = .error e) (ho : ∀ s i a j, f s i = .ok (a, j) → F s i = g a s j) : Errs F := by
  intro s i x h
  cases hu : f s i with
  | error e =>
    rw [he s i e hu] at h
    injection h with h
    subst h
    exact hf s i e hu
  | ok p =>
    obtain ⟨a, j0⟩ := p
    rw [ho s i a j0 hu] at h
    exact hg a s j0 x h
theorem Errs.pure {α : Type} (a : α) : Errs (fun _ i => .ok (a, i)) := by
  intro s i x h; cases h
theorem Errs.ite {α : Type} {p : Prop} [Decidable p] {f g : ByteArray → Nat → R α} (hf : Errs f) (hg : Errs g) : Errs (fun s i => if p then f s i else g s i) := by
  by_cases hp : p
  · simp only [hp, if_true]; exact hf
  · simp only [hp, if_false]; exact hg
theorem uintF_errs (l : List UInt8) (f : Nat) : ∀ k acc i x, uintF l f k acc i = .error x → x = 7 ∨ x = 8 ∨ x = 19 := by
  induction f with
  | zero => intro k acc i x h; cases h
  | succ f ih =>
    intro k acc i x h
    unfold uintF at h
    cases hb : l[i]? with
    | none => rw [hb] at h; injection h with h; omega
    | some b =>
      rw [hb] at h
      simp only at h
      split at h
      · injection h with h; omega
      · split at h
        · cases h
        · exact ih _ _ _ _ h
theorem bitsF_errs (l : List UInt8) (f : Nat) : ∀ acc i x, bitsF l f acc i = .error x → x = 7 ∨ x = 8 ∨ x = 19 := by
  induction f with
  | zero => intro acc i x h; cases h
  | succ f ih =>
    intro acc i x h
    unfold bitsF at h
    cases hb : l[i]? with
    | none => rw [hb] at h; injection h with h; omega
    | some b => rw [hb] at h; exact ih _ _ _ h
theorem uint_errs : Errs (fun s i => uintR s.data.toList i) := fun _ i x h => uintF_errs _ 10 0 0 i x h
theorem bits_errs : Errs (fun s i => bitsF s.data.toList 8 0 i) := fun _ i x h => bitsF_errs _ 8 0 i x h
theorem int_errs : Errs (fun s i => intR s.data.toList i) :=
  Errs.seq (f := fun s i => uintR s.data.toList i) (g := fun n _ j => (.ok (unzig n, j) : R Int)) uint_errs (fun n => Errs.pure _) (fun s i e h => by unfold intR; rw [h] <;> rfl) (fun s i a j h => by unfold intR; rw [h] <;> rfl)
theorem next_errs : Errs (fun s i => nextR s.data.toList i) := by
  intro s i x h
  have h := show nextR s.data.toList i = .error x from h
  unfold nextR at h
  cases hb : s.data.toList[i]? with
  | none => rw [hb] at h; injection h with h; omega
  | some b => rw [hb] at h; cases h
theorem text_errs (most : Nat) : Errs (fun s i => textR s most i) := by
  intro s i x h
  have h := show textR s most i = .error x from h
  unfold textR at h
  cases hu : uintR s.data.toList i with
  | error e =>
    rw [hu] at h
    injection h with h
    subst h
    exact uint_errs s i e hu
  | ok p =>
    rw [hu] at h
    simp only at h
    split at h
    · injection h with h; omega
    · split at h
      · injection h with h; omega
      · cases h
theorem raw_errs : Errs rawR := by
  refine Errs.seq (f := fun s i => nextR s.data.toList i) (g := fun (k : Nat) (s : ByteArray) (j : Nat) =>
      if k = 1 then match nextR s.data.toList j with
        | .error e => .error e
        | .ok (n, m) => (.ok ((⟨1, (n : Int), 0, ⟨#[]⟩⟩ : V), m) : R V)
      else if k = 2 then match intR s.data.toList j with
        | .error e => .error e
        | .ok (n, m) => .ok (⟨2, n, 0, ⟨#[]⟩⟩, m)
      else if k = 3 then match bitsF s.data.toList 8 0 j with
        | .error e => .error e
        | .ok (b, m) => .ok (⟨3, 0, b, ⟨#[]⟩⟩, m)
      else if k = 4 ∨ k = 5 then match textR s 4096 j with
        | .error e => .error e
        | .ok (t, m) => .ok (⟨k, 0, 0, t⟩, m)
      else .ok (⟨k, 0, 0, ⟨#[]⟩⟩, j)) next_errs (fun k => ?_) (fun s i e h => by unfold rawR; rw [h] <;> rfl) (fun s i a j h => by unfold rawR; rw [h] <;> rfl)
  refine Errs.ite (p := k = 1) (Errs.seq (f := fun s i => nextR s.data.toList i) (g := fun (n : Nat) _ m => .ok ((⟨1, (n : Int), 0, ⟨#[]⟩⟩ : V), m)) next_errs (fun n => Errs.pure _) (fun s i e h => by rw [h] <;> rfl) (fun s i a j h => by rw [h] <;> rfl)) ?_
  refine Errs.ite (p := k = 2) (Errs.seq (f := fun s i => intR s.data.toList i) (g := fun (n : Int) _ m => .ok ((⟨2, n, 0, ⟨#[]⟩⟩ : V), m)) int_errs (fun n => Errs.pure _) (fun s i e h => by rw [h] <;> rfl) (fun s i a j h => by rw [h] <;> rfl)) ?_
  refine Errs.ite (p := k = 3) (Errs.seq (f := fun s i => bitsF s.data.toList 8 0 i) (g := fun (b : Nat) _ m => .ok ((⟨3, 0, b, ⟨#[]⟩⟩ : V), m)) bits_errs (fun n => Errs.pure _) (fun s i e h => by rw [h] <;> rfl) (fun s i a j h => by rw [h] <;> rfl)) ?_
  exact Errs.ite (p := k = 4 ∨ k = 5) (Errs.seq (f := fun s i => textR s 4096 i) (g := fun (t : ByteArray) _ m => .ok ((⟨k, 0, 0, t⟩ : V), m)) (text_errs 4096) (fun n => Errs.pure _) (fun s i e h => by rw [h] <;> rfl) (fun s i a j h => by rw [h] <;> rfl)) (Errs.pure _)
theorem value_errs : Errs valueR :=
  Errs.seq (f := rawR) (g := fun (v : V) (_ : ByteArray) (j : Nat) => if v.right then (.ok (v, j) : R V) else .error 7) raw_errs (fun v => Errs.ite (p := v.right = true) (Errs.pure _) (Errs.fail _ (by omega))) (fun s i e h => by unfold valueR; rw [h] <;> rfl) (fun s i a j h => by unfold valueR; rw [h] <;> rfl)
end Cd
end Go.Proofs.Ytmcneelapghfcaa
