/-
  A reader in memory; code's next, uint, int, text: their contracts. Condition: the text has at most 1000000000 bytes.
-/
import Derived.Test.YtmgafcblbbbanaaCdR
import Derived.Test.YtmgafcblbbbanaaRdP
import Derived.WalkSmall
namespace Go.Proofs.Ytmgafcblbbbanaa
open Go.RowKit

/-- all but the block g is as it was -/
abbrev Upd (g : Nat) (w w' : World) : Prop := w.grownBy w' (some g)
theorem Upd.refl (g : Nat) (w : World) : Upd g w w := ⟨rfl, rfl, rfl, Nat.le_refl _, fun _ _ _ => rfl⟩
theorem Upd.trans {g : Nat} {a b c : World} (h : Upd g a b) (k : Upd g b c) : Upd g a c :=
  ⟨k.os.trans h.os, k.tape.trans h.tape, k.output.trans h.output, Nat.le_trans h.size k.size, fun i hi hn => (k.block i (Nat.lt_of_lt_of_le hi h.size) hn).trans (h.block i hi hn)⟩
theorem Upd.of {g : Nat} {a b : World} (h : Below a.heap.size a b) : Upd g a b := ⟨h.os, h.tape, h.output, h.size, fun i hi _ => h.block i hi⟩
theorem Upd.cell {g : Nat} {w w' : World} {p : Addr} {v : Value} (h : w.cell? p = some v) (hb : Upd g w w') (hne : p.block ≠ g) : w'.cell? p = some v :=
  (World.cell?_of_block (hb.block p.block (World.block_lt_of_cell? w p h) (by simpa using hne))).trans h
theorem Upd.below {B g : Nat} {a w w' : World} (h : Below B a w) (k : Upd g w w') (hg : B ≤ g) (hB : B ≤ w.heap.size) : Below B a w' :=
  h.grown k hB (fun q hq => by cases hq; exact hg)
/-- a reader: its text, its place, what is wrong -/
def Rdr (w : World) (g : Nat) (s : ByteArray) (i : Nat) (er : Int) : Prop := w.heap[g]? = some (.cells #[.string s, .int .i64 (i : Int), .int .i64 er] 68 (0, 0))
theorem Rdr.cells {w : World} {g : Nat} {s : ByteArray} {i : Nat} {er : Int} (h : Rdr w g s i er) : w.cell? ⟨g, 0, none⟩ = some (.string s) ∧ w.cell? ⟨g, 1, none⟩ = some (.int .i64 (i : Int)) ∧ w.cell? ⟨g, 2, none⟩ = some (.int .i64 er) ∧
    w.frozen? ⟨g, 1, none⟩ = false ∧ w.frozen? ⟨g, 2, none⟩ = false ∧ g < w.heap.size :=
  ⟨cell_of_row w g 0 _ _ _ h, cell_of_row w g 1 _ _ _ h, cell_of_row w g 2 _ _ _ h, frozen_of_row w g 1 _ _ h, frozen_of_row w g 2 _ _ h, (Array.getElem?_eq_some_iff.1 h).1⟩
theorem Rdr.keep {w w' : World} {g : Nat} {s : ByteArray} {i : Nat} {er : Int} (h : Rdr w g s i er) (hb : Below w.heap.size w w') : Rdr w' g s i er := keepBlock h hb
theorem Rdr.setAt {w : World} {g : Nat} {s : ByteArray} {i : Nat} {er : Int} (h : Rdr w g s i er) (j : Int) : (w.setCell ⟨g, 1, none⟩ (.int .i64 j)).heap[g]? = some (.cells #[.string s, .int .i64 j, .int .i64 er] 68 (0, 0)) :=
  heap_setCell_same w g 1 _ _ (.int .i64 j) h
theorem Upd.set (g o : Nat) (w : World) (v : Value) : Upd g w (w.setCell ⟨g, o, none⟩ v) := by
  have hb : Below g w (w.setCell ⟨g, o, none⟩ v) := (Below.refl g w).setCell (p := ⟨g, o, none⟩) (Nat.le_refl _) v
  exact ⟨hb.os, hb.tape, hb.output, hb.size, fun i _ hn => heap_setCell_other w ⟨g, o, none⟩ i v (by simpa [eq_comm] using hn)⟩
/-- what a read panics with -/
def fault (e : Int) : Value := .iface 78 (.agg #[.int .i64 e])

/-- what a read leaves: of what it tells, P is the value -/
def Told {α : Type} (P : α → Value) (g : Nat) (s : ByteArray) (er : Int) (r : Cd.R α) (w : World) (e : Ending) (w' : World) : Prop :=
  Upd g w w' ∧ match r with
    | .ok (x, j) => e = .returned (P x) ∧ Rdr w' g s j er ∧ j ≤ s.size
    | .error x => e = .panicked [{ v := fault x, recovered := false }] ∧ ∃ j, Rdr w' g s j er ∧ j ≤ s.size

set_option maxRecDepth 100000 in
theorem next_no (g : Nat) (s : ByteArray) (i : Nat) (er : Int) (w : World) (hr : Rdr w g s i er) (hi : s.size ≤ i) :
    Calls Try.prog 58 #[.pointer (some ⟨g, 0, none⟩)] w fun e w' => e = .panicked [{ v := fault 8, recovered := false }] ∧ Upd g w w' ∧ Rdr w' g s i er := by
  obtain ⟨c0, c1, c2, f1, f2, hg⟩ := hr.cells
  have hd : decide ((s.size : Int) ≤ (i : Int)) = true := by simp; omega
  go_enter Try.func58, Try.ntmps58
  go_wp2_with fail
  go_quiet (fail)
  go_wp2
  exact ⟨rfl, rfl, Upd.of (hdrewN (Below.refl _ _) nq), hr⟩

set_option maxRecDepth 100000 in
theorem next_ok (g : Nat) (s : ByteArray) (i : Nat) (er : Int) (w : World) (hr : Rdr w g s i er) (hi : i < s.size) (hs : i ≤ 1000000000) :
    Calls Try.prog 58 #[.pointer (some ⟨g, 0, none⟩)] w fun e w' => e = .returned (.int .u8 (s[i].toNat : Int)) ∧ Upd g w w' ∧ Rdr w' g s (i + 1) er := by
  obtain ⟨c0, c1, c2, f1, f2, hg⟩ := hr.cells
  have hd : decide ((s.size : Int) ≤ (i : Int)) = false := by simp; omega
  have hi' : (i : Int) < s.size := by omega
  go_enter Try.func58, Try.ntmps58
  go_wp2_with fail
  go_quiet (fail)
  go_wp2_with fail
  have hr3 : Rdr ((w.drewN nq).setCell ⟨g, 1, none⟩ (.int .i64 ((i : Int) + 1))) g s (i + 1) er := Rdr.setAt (w := w.drewN nq) hr _
  have hu3 : Upd g w ((w.drewN nq).setCell ⟨g, 1, none⟩ (.int .i64 ((i : Int) + 1))) := (Upd.of (hdrewN (Below.refl _ _) nq)).trans (Upd.set g 1 _ _)
  generalize (w.drewN nq).setCell ⟨g, 1, none⟩ (.int .i64 ((i : Int) + 1)) = w3 at *
  clear c0 c1 c2 f1 f2 hd
  have c0 := hr3.cells.1
  have c1 : w3.cell? ⟨g, 1, none⟩ = some (.int .i64 ((i : Int) + 1)) := hr3.cells.2.1
  have hw1 : (i : Int) + 1 - 1 = (i : Int) := by omega
  have hw2 : IntKind.i64.wrap (i : Int) = (i : Int) := IntWalk.i64_in _ (by omega)
  have hw3 : IntKind.i64.wrap ((i : Int) + 1 - 1) = (i : Int) := by rw [hw1]; exact hw2
  have hi0 : (0 : Int) ≤ (i : Int) := by omega
  have hR3 := hid hr3
  have hU3 := hid hu3
  clear hr3 hu3 hr
  go_quiet (fail)
  go_wp2_with fail
  go_ret
  exact ⟨rfl, hU3.out.trans (Upd.of (hdrewN (Below.refl _ _) _)), hR3.out⟩

theorem uintF_next (l : List UInt8) (f k n i : Nat) (hi : i < l.length) : Cd.uintF l (f + 1) k n i = if (l[i].toNat = 0 ∧ 0 < k) ∨ (k = 9 ∧ 1 < l[i].toNat) then .error 7
      else if l[i].toNat < 128 then .ok (n + l[i].toNat * 128 ^ k, i + 1) else Cd.uintF l f (k + 1) (n + l[i].toNat % 128 * 128 ^ k) (i + 1) := by
  show (match l[i]? with | none => _ | some c => _) = _
  rw [List.getElem?_eq_getElem hi]
theorem uintF_end (l : List UInt8) (f k n i : Nat) (hi : l.length ≤ i) : Cd.uintF l (f + 1) k n i = .error 8 := by
  show (match l[i]? with | none => _ | some c => _) = _
  rw [List.getElem?_eq_none hi]

theorem Told.mk_ok {α : Type} {P : α → Value} {g : Nat} {s : ByteArray} {er : Int} {r : Cd.R α} {w w' : World} {e : Ending} {x : α} {j : Nat} (hr : r = .ok (x, j)) (hu : Upd g w w') (he : e = .returned (P x)) (hR : Rdr w' g s j er) (hj : j ≤ s.size) : Told P g s er r w e w' := by
  subst hr; exact ⟨hu, he, hR, hj⟩
theorem Told.mk_err {α : Type} {P : α → Value} {g : Nat} {s : ByteArray} {er : Int} {r : Cd.R α} {w w' : World} {e : Ending} {x : Int} {j : Nat} (hr : r = .error x) (hu : Upd g w w') (he : e = .panicked [{ v := fault x, recovered := false }]) (hR : Rdr w' g s j er) (hj : j ≤ s.size) : Told P g s er r w e w' := by
  subst hr; exact ⟨hu, he, j, hR, hj⟩
theorem or_word (nn x kk P : Nat) (hP : P = 128 ^ kk) (h : nn < 128 ^ kk) (h64 : nn < 18446744073709551616) (hb : x * P < 18446744073709551616) : bits .or .u64 (nn : Int) ((x : Int) * (P : Int)) = ((nn + x * 128 ^ kk : Nat) : Int) := by
  have e : 128 ^ kk = 2 ^ (7 * kk) := by rw [Nat.pow_mul]
  have hx : x = 0 ∨ 1 ≤ x := by omega
  rcases hx with rfl | hx
  · have hh := bits_or_u64_nat nn 0 h64 (by decide)
    rw [Nat.or_zero] at hh
    simpa using hh
  · have hh := bits_or_u64_nat nn (x * P) h64 hb
    rw [Int.natCast_mul] at hh
    rw [hh, Nat.or_comm, hP, e, ← Nat.shiftLeft_eq, ← Nat.shiftLeft_add_eq_or_of_lt (by rw [← e]; exact h)]
    rw [Nat.add_comm]
theorem or_int (nn c kk P : Nat) (Q : Int) (hQ : Q = (P : Int)) (hP : P = 128 ^ kk) (h : nn < 128 ^ kk) (hk : kk ≤ 9) (hb : c % 128 * P < 18446744073709551616) : bits .or .u64 (nn : Int) ((c : Int) % 128 * Q) = ((nn + c % 128 * 128 ^ kk : Nat) : Int) := by
  subst hQ
  have h2 : 128 ^ kk ≤ 128 ^ 9 := Nat.pow_le_pow_right (by decide) hk
  have h64 : nn < 18446744073709551616 := Nat.lt_of_lt_of_le h (Nat.le_trans h2 (by decide))
  have := or_word nn (c % 128) kk P hP h h64 hb
  rwa [Int.natCast_emod] at this

set_option maxRecDepth 100000 in
set_option maxHeartbeats 6400000 in
theorem uint_rd (g : Nat) (s : ByteArray) (i : Nat) (er : Int) (w : World) (hr : Rdr w g s i er) (hi : i ≤ s.size) (hs : s.size ≤ 1000000000) :
    Calls Try.prog 50 #[.pointer (some ⟨g, 0, none⟩)] w (Told (fun n : Nat => .int .u64 (n : Int)) g s er (Cd.uintR s.data.toList i) w) := by
  have hlen : s.data.toList.length = s.size := by simp
  have HL := hid hlen
  clear hlen
  go_enter Try.func50, Try.ntmps50
  go_wp2_with fail
  go_loopw [3, 6] (fun n k wr => ∃ (f kk nn j : Nat), k = .int .i64 (kk : Int) ∧ kk + f = 9 ∧ n = .int .u64 (nn : Int) ∧ Hid (nn < 128 ^ kk) ∧ Rdr wr g s j er ∧ j ≤ s.size ∧ Upd g w wr ∧ Hid (Cd.uintF s.data.toList (f + 1) kk nn j = Cd.uintR s.data.toList i)) (fun _ k _ => 10 - (intOf k).toNat)
  case atStart => exact ⟨9, 0, 0, i, rfl, rfl, rfl, by show _ < _; decide, hr, hi, Upd.refl _ _, rfl⟩
  case round =>
    obtain ⟨f, kk, nn, j, rfl, hkf, rfl, hnn, hrj, hj, hu, hE⟩ := hrel
    clear hr
    obtain ⟨w4, rfl⟩ : ∃ w4 : World, w4 = wr := ⟨_, rfl⟩
    by_cases hjs : j < s.size
    · have HN := hid (uintF_next s.data.toList f kk nn j (by rw [HL.out]; exact hjs))
      have hgc : s.data.toList[j]'(by rw [HL.out]; exact hjs) = s[j] := rfl
      rw [hgc] at HN
      clear hgc
      have hnext := hid (next_ok g s j er w4 hrj hjs (by omega))
      have hcl := s[j].toNat_lt
      generalize s[j].toNat = c at HN hnext hcl
      rcases (show kk = 0 ∨ kk = 1 ∨ kk = 2 ∨ kk = 3 ∨ kk = 4 ∨ kk = 5 ∨ kk = 6 ∨ kk = 7 ∨ kk = 8 ∨ kk = 9 by omega) with rfl | rfl | rfl | rfl | rfl | rfl | rfl | rfl | rfl | rfl
      · by_cases h0 : c = 0
        · have e0 : ((c : Int) == 0) = true := by rw [beq_iff_eq]; omega
          have e1 : (c : Int) < 128 := by omega
          have HO : Hid (bits .or .u64 (nn : Int) ((c : Int) % 128) = ((nn + c % 128 * 128 ^ 0 : Nat) : Int)) := by have := or_int nn c 0 1 1 rfl (by decide) hnn.out (by omega) (by omega); rwa [Int.mul_one] at this
          have HO2 : Hid (c = 0 → bits .or .u64 (nn : Int) 0 = ((nn + c * 128 ^ 0 : Nat) : Int)) := fun h => by have := HO.out; rw [h] at this ⊢; exact this
          have HE : Hid (Cd.uintR s.data.toList i = .ok (nn + c * 128 ^ 0, j + 1)) := by show _ = _; rw [← hE.out, HN.out, if_neg (by omega), if_pos (by omega)]
          clear HN hE
          go_wp2_with fail
          refine (hnext.out).mono ?_; rintro e w5 ⟨rfl, hu5, hr5⟩
          go_wp2_with fail
          go_ret
          exact Told.mk_ok HE.out (hu.trans hu5) (ret_eq (by have ho := HO.out; rw [Nat.mod_eq_of_lt (show c < 128 by omega)] at ho; first | exact ho | exact HO2.out h0)) hr5 (by omega)
        · skip
          by_cases h1 : c < 128
          · have e0 : ((c : Int) == 0) = false := by rw [beq_eq_false_iff_ne]; omega
            have e1 : (c : Int) < 128 := by omega
            have HO : Hid (bits .or .u64 (nn : Int) ((c : Int) % 128) = ((nn + c % 128 * 128 ^ 0 : Nat) : Int)) := by have := or_int nn c 0 1 1 rfl (by decide) hnn.out (by omega) (by omega); rwa [Int.mul_one] at this
            have HO2 : Hid (c = 0 → bits .or .u64 (nn : Int) 0 = ((nn + c * 128 ^ 0 : Nat) : Int)) := fun h => by have := HO.out; rw [h] at this ⊢; exact this
            have HE : Hid (Cd.uintR s.data.toList i = .ok (nn + c * 128 ^ 0, j + 1)) := by show _ = _; rw [← hE.out, HN.out, if_neg (by omega), if_pos (by omega)]
            clear HN hE
            go_wp2_with fail
            refine (hnext.out).mono ?_; rintro e w5 ⟨rfl, hu5, hr5⟩
            go_wp2_with fail
            go_ret
            exact Told.mk_ok HE.out (hu.trans hu5) (ret_eq (by have ho := HO.out; rw [Nat.mod_eq_of_lt (show c < 128 by omega)] at ho; first | exact ho | exact HO2.out h0)) hr5 (by omega)
          · skip
            have e0 : ((c : Int) == 0) = false := by rw [beq_eq_false_iff_ne]; omega
            have e1 : ¬ (c : Int) < 128 := by omega
            have HO : Hid (bits .or .u64 (nn : Int) ((c : Int) % 128) = ((nn + c % 128 * 128 ^ 0 : Nat) : Int)) := by have := or_int nn c 0 1 1 rfl (by decide) hnn.out (by omega) (by omega); rwa [Int.mul_one] at this
            have HO2 : Hid (c = 0 → bits .or .u64 (nn : Int) 0 = ((nn + c * 128 ^ 0 : Nat) : Int)) := fun h => by have := HO.out; rw [h] at this ⊢; exact this
            have HE : Hid (Cd.uintF s.data.toList f 1 (nn + c % 128 * 128 ^ 0) (j + 1) = Cd.uintR s.data.toList i) := by show _ = _; rw [← hE.out, HN.out, if_neg (by omega), if_neg (by omega)]
            clear HN hE
            go_wp2_with fail
            refine (hnext.out).mono ?_; rintro e w5 ⟨rfl, hu5, hr5⟩
            go_wp2_with fail
            go_roundw
            case rel => exact ⟨f - 1, 1, nn + c % 128 * 128 ^ 0, j + 1, rfl, by omega, int_eq (by exact HO.out), by have := hnn.out; show _ < _; omega, hr5, by omega, hu.trans hu5, by have := HE.out; rwa [show f - 1 + 1 = f from by omega]⟩
            case measure => simp [intOf]
      · by_cases h0 : c = 0
        · have e0 : ((c : Int) == 0) = true := by rw [beq_iff_eq]; omega
          have HE : Hid (Cd.uintR s.data.toList i = .error 7) := by show _ = _; rw [← hE.out, HN.out, if_pos (by omega)]
          clear HN hE
          go_wp2_with fail
          refine (hnext.out).mono ?_; rintro e w5 ⟨rfl, hu5, hr5⟩
          go_wp2_with fail
          exact ⟨rfl, Told.mk_err HE.out (hu.trans hu5) rfl hr5 (by omega)⟩
        · skip
          by_cases h1 : c < 128
          · have e0 : ((c : Int) == 0) = false := by rw [beq_eq_false_iff_ne]; omega
            have e1 : (c : Int) < 128 := by omega
            have HO : Hid (bits .or .u64 (nn : Int) ((c : Int) % 128 * 128) = ((nn + c % 128 * 128 ^ 1 : Nat) : Int)) := or_int nn c 1 128 128 (by decide) (by decide) hnn.out (by omega) (by omega)
            have HE : Hid (Cd.uintR s.data.toList i = .ok (nn + c * 128 ^ 1, j + 1)) := by show _ = _; rw [← hE.out, HN.out, if_neg (by omega), if_pos (by omega)]
            clear HN hE
            go_wp2_with fail
            refine (hnext.out).mono ?_; rintro e w5 ⟨rfl, hu5, hr5⟩
            go_wp2_with fail
            go_ret
            exact Told.mk_ok HE.out (hu.trans hu5) (ret_eq (by have ho := HO.out; rw [Nat.mod_eq_of_lt (show c < 128 by omega)] at ho; first | exact ho | exact HO2.out h0)) hr5 (by omega)
          · skip
            have e0 : ((c : Int) == 0) = false := by rw [beq_eq_false_iff_ne]; omega
            have e1 : ¬ (c : Int) < 128 := by omega
            have HO : Hid (bits .or .u64 (nn : Int) ((c : Int) % 128 * 128) = ((nn + c % 128 * 128 ^ 1 : Nat) : Int)) := or_int nn c 1 128 128 (by decide) (by decide) hnn.out (by omega) (by omega)
            have HE : Hid (Cd.uintF s.data.toList f 2 (nn + c % 128 * 128 ^ 1) (j + 1) = Cd.uintR s.data.toList i) := by show _ = _; rw [← hE.out, HN.out, if_neg (by omega), if_neg (by omega)]
            clear HN hE
            go_wp2_with fail
            refine (hnext.out).mono ?_; rintro e w5 ⟨rfl, hu5, hr5⟩
            go_wp2_with fail
            go_roundw
            case rel => exact ⟨f - 1, 2, nn + c % 128 * 128 ^ 1, j + 1, rfl, by omega, int_eq (by exact HO.out), by have := hnn.out; show _ < _; omega, hr5, by omega, hu.trans hu5, by have := HE.out; rwa [show f - 1 + 1 = f from by omega]⟩
            case measure => simp [intOf]
      · by_cases h0 : c = 0
        · have e0 : ((c : Int) == 0) = true := by rw [beq_iff_eq]; omega
          have HE : Hid (Cd.uintR s.data.toList i = .error 7) := by show _ = _; rw [← hE.out, HN.out, if_pos (by omega)]
          clear HN hE
          go_wp2_with fail
          refine (hnext.out).mono ?_; rintro e w5 ⟨rfl, hu5, hr5⟩
          go_wp2_with fail
          exact ⟨rfl, Told.mk_err HE.out (hu.trans hu5) rfl hr5 (by omega)⟩
        · skip
          by_cases h1 : c < 128
          · have e0 : ((c : Int) == 0) = false := by rw [beq_eq_false_iff_ne]; omega
            have e1 : (c : Int) < 128 := by omega
            have HO : Hid (bits .or .u64 (nn : Int) ((c : Int) % 128 * 16384) = ((nn + c % 128 * 128 ^ 2 : Nat) : Int)) := or_int nn c 2 16384 16384 (by decide) (by decide) hnn.out (by omega) (by omega)
            have HE : Hid (Cd.uintR s.data.toList i = .ok (nn + c * 128 ^ 2, j + 1)) := by show _ = _; rw [← hE.out, HN.out, if_neg (by omega), if_pos (by omega)]
            clear HN hE
            go_wp2_with fail
            refine (hnext.out).mono ?_; rintro e w5 ⟨rfl, hu5, hr5⟩
            go_wp2_with fail
            go_ret
            exact Told.mk_ok HE.out (hu.trans hu5) (ret_eq (by have ho := HO.out; rw [Nat.mod_eq_of_lt (show c < 128 by omega)] at ho; first | exact ho | exact HO2.out h0)) hr5 (by omega)
          · skip
            have e0 : ((c : Int) == 0) = false := by rw [beq_eq_false_iff_ne]; omega
            have e1 : ¬ (c : Int) < 128 := by omega
            have HO : Hid (bits .or .u64 (nn : Int) ((c : Int) % 128 * 16384) = ((nn + c % 128 * 128 ^ 2 : Nat) : Int)) := or_int nn c 2 16384 16384 (by decide) (by decide) hnn.out (by omega) (by omega)
            have HE : Hid (Cd.uintF s.data.toList f 3 (nn + c % 128 * 128 ^ 2) (j + 1) = Cd.uintR s.data.toList i) := by show _ = _; rw [← hE.out, HN.out, if_neg (by omega), if_neg (by omega)]
            clear HN hE
            go_wp2_with fail
            refine (hnext.out).mono ?_; rintro e w5 ⟨rfl, hu5, hr5⟩
            go_wp2_with fail
            go_roundw
            case rel => exact ⟨f - 1, 3, nn + c % 128 * 128 ^ 2, j + 1, rfl, by omega, int_eq (by exact HO.out), by have := hnn.out; show _ < _; omega, hr5, by omega, hu.trans hu5, by have := HE.out; rwa [show f - 1 + 1 = f from by omega]⟩
            case measure => simp [intOf]
      · by_cases h0 : c = 0
        · have e0 : ((c : Int) == 0) = true := by rw [beq_iff_eq]; omega
          have HE : Hid (Cd.uintR s.data.toList i = .error 7) := by show _ = _; rw [← hE.out, HN.out, if_pos (by omega)]
          clear HN hE
          go_wp2_with fail
          refine (hnext.out).mono ?_; rintro e w5 ⟨rfl, hu5, hr5⟩
          go_wp2_with fail
          exact ⟨rfl, Told.mk_err HE.out (hu.trans hu5) rfl hr5 (by omega)⟩
        · skip
          by_cases h1 : c < 128
          · have e0 : ((c : Int) == 0) = false := by rw [beq_eq_false_iff_ne]; omega
            have e1 : (c : Int) < 128 := by omega
            have HO : Hid (bits .or .u64 (nn : Int) ((c : Int) % 128 * 2097152) = ((nn + c % 128 * 128 ^ 3 : Nat) : Int)) := or_int nn c 3 2097152 2097152 (by decide) (by decide) hnn.out (by omega) (by omega)
            have HE : Hid (Cd.uintR s.data.toList i = .ok (nn + c * 128 ^ 3, j + 1)) := by show _ = _; rw [← hE.out, HN.out, if_neg (by omega), if_pos (by omega)]
            clear HN hE
            go_wp2_with fail
            refine (hnext.out).mono ?_; rintro e w5 ⟨rfl, hu5, hr5⟩
            go_wp2_with fail
            go_ret
            exact Told.mk_ok HE.out (hu.trans hu5) (ret_eq (by have ho := HO.out; rw [Nat.mod_eq_of_lt (show c < 128 by omega)] at ho; first | exact ho | exact HO2.out h0)) hr5 (by omega)
          · skip
            have e0 : ((c : Int) == 0) = false := by rw [beq_eq_false_iff_ne]; omega
            have e1 : ¬ (c : Int) < 128 := by omega
            have HO : Hid (bits .or .u64 (nn : Int) ((c : Int) % 128 * 2097152) = ((nn + c % 128 * 128 ^ 3 : Nat) : Int)) := or_int nn c 3 2097152 2097152 (by decide) (by decide) hnn.out (by omega) (by omega)
            have HE : Hid (Cd.uintF s.data.toList f 4 (nn + c % 128 * 128 ^ 3) (j + 1) = Cd.uintR s.data.toList i) := by show _ = _; rw [← hE.out, HN.out, if_neg (by omega), if_neg (by omega)]
            clear HN hE
            go_wp2_with fail
            refine (hnext.out).mono ?_; rintro e w5 ⟨rfl, hu5, hr5⟩
            go_wp2_with fail
            go_roundw
            case rel => exact ⟨f - 1, 4, nn + c % 128 * 128 ^ 3, j + 1, rfl, by omega, int_eq (by exact HO.out), by have := hnn.out; show _ < _; omega, hr5, by omega, hu.trans hu5, by have := HE.out; rwa [show f - 1 + 1 = f from by omega]⟩
            case measure => simp [intOf]
      · by_cases h0 : c = 0
        · have e0 : ((c : Int) == 0) = true := by rw [beq_iff_eq]; omega
          have HE : Hid (Cd.uintR s.data.toList i = .error 7) := by show _ = _; rw [← hE.out, HN.out, if_pos (by omega)]
          clear HN hE
          go_wp2_with fail
          refine (hnext.out).mono ?_; rintro e w5 ⟨rfl, hu5, hr5⟩
          go_wp2_with fail
          exact ⟨rfl, Told.mk_err HE.out (hu.trans hu5) rfl hr5 (by omega)⟩
        · skip
          by_cases h1 : c < 128
          · have e0 : ((c : Int) == 0) = false := by rw [beq_eq_false_iff_ne]; omega
            have e1 : (c : Int) < 128 := by omega
            have HO : Hid (bits .or .u64 (nn : Int) ((c : Int) % 128 * 268435456) = ((nn + c % 128 * 128 ^ 4 : Nat) : Int)) := or_int nn c 4 268435456 268435456 (by decide) (by decide) hnn.out (by omega) (by omega)
            have HE : Hid (Cd.uintR s.data.toList i = .ok (nn + c * 128 ^ 4, j + 1)) := by show _ = _; rw [← hE.out, HN.out, if_neg (by omega), if_pos (by omega)]
            clear HN hE
            go_wp2_with fail
            refine (hnext.out).mono ?_; rintro e w5 ⟨rfl, hu5, hr5⟩
            go_wp2_with fail
            go_ret
            exact Told.mk_ok HE.out (hu.trans hu5) (ret_eq (by have ho := HO.out; rw [Nat.mod_eq_of_lt (show c < 128 by omega)] at ho; first | exact ho | exact HO2.out h0)) hr5 (by omega)
          · skip
            have e0 : ((c : Int) == 0) = false := by rw [beq_eq_false_iff_ne]; omega
            have e1 : ¬ (c : Int) < 128 := by omega
            have HO : Hid (bits .or .u64 (nn : Int) ((c : Int) % 128 * 268435456) = ((nn + c % 128 * 128 ^ 4 : Nat) : Int)) := or_int nn c 4 268435456 268435456 (by decide) (by decide) hnn.out (by omega) (by omega)
            have HE : Hid (Cd.uintF s.data.toList f 5 (nn + c % 128 * 128 ^ 4) (j + 1) = Cd.uintR s.data.toList i) := by show _ = _; rw [← hE.out, HN.out, if_neg (by omega), if_neg (by omega)]
            clear HN hE
            go_wp2_with fail
            refine (hnext.out).mono ?_; rintro e w5 ⟨rfl, hu5, hr5⟩
            go_wp2_with fail
            go_roundw
            case rel => exact ⟨f - 1, 5, nn + c % 128 * 128 ^ 4, j + 1, rfl, by omega, int_eq (by exact HO.out), by have := hnn.out; show _ < _; omega, hr5, by omega, hu.trans hu5, by have := HE.out; rwa [show f - 1 + 1 = f from by omega]⟩
            case measure => simp [intOf]
      · by_cases h0 : c = 0
        · have e0 : ((c : Int) == 0) = true := by rw [beq_iff_eq]; omega
          have HE : Hid (Cd.uintR s.data.toList i = .error 7) := by show _ = _; rw [← hE.out, HN.out, if_pos (by omega)]
          clear HN hE
          go_wp2_with fail
          refine (hnext.out).mono ?_; rintro e w5 ⟨rfl, hu5, hr5⟩
          go_wp2_with fail
          exact ⟨rfl, Told.mk_err HE.out (hu.trans hu5) rfl hr5 (by omega)⟩
        · skip
          by_cases h1 : c < 128
          · have e0 : ((c : Int) == 0) = false := by rw [beq_eq_false_iff_ne]; omega
            have e1 : (c : Int) < 128 := by omega
            have HO : Hid (bits .or .u64 (nn : Int) ((c : Int) % 128 * 34359738368) = ((nn + c % 128 * 128 ^ 5 : Nat) : Int)) := or_int nn c 5 34359738368 34359738368 (by decide) (by decide) hnn.out (by omega) (by omega)
            have HE : Hid (Cd.uintR s.data.toList i = .ok (nn + c * 128 ^ 5, j + 1)) := by show _ = _; rw [← hE.out, HN.out, if_neg (by omega), if_pos (by omega)]
            clear HN hE
            go_wp2_with fail
            refine (hnext.out).mono ?_; rintro e w5 ⟨rfl, hu5, hr5⟩
            go_wp2_with fail
            go_ret
            exact Told.mk_ok HE.out (hu.trans hu5) (ret_eq (by have ho := HO.out; rw [Nat.mod_eq_of_lt (show c < 128 by omega)] at ho; first | exact ho | exact HO2.out h0)) hr5 (by omega)
          · skip
            have e0 : ((c : Int) == 0) = false := by rw [beq_eq_false_iff_ne]; omega
            have e1 : ¬ (c : Int) < 128 := by omega
            have HO : Hid (bits .or .u64 (nn : Int) ((c : Int) % 128 * 34359738368) = ((nn + c % 128 * 128 ^ 5 : Nat) : Int)) := or_int nn c 5 34359738368 34359738368 (by decide) (by decide) hnn.out (by omega) (by omega)
            have HE : Hid (Cd.uintF s.data.toList f 6 (nn + c % 128 * 128 ^ 5) (j + 1) = Cd.uintR s.data.toList i) := by show _ = _; rw [← hE.out, HN.out, if_neg (by omega), if_neg (by omega)]
            clear HN hE
            go_wp2_with fail
            refine (hnext.out).mono ?_; rintro e w5 ⟨rfl, hu5, hr5⟩
            go_wp2_with fail
            go_roundw
            case rel => exact ⟨f - 1, 6, nn + c % 128 * 128 ^ 5, j + 1, rfl, by omega, int_eq (by exact HO.out), by have := hnn.out; show _ < _; omega, hr5, by omega, hu.trans hu5, by have := HE.out; rwa [show f - 1 + 1 = f from by omega]⟩
            case measure => simp [intOf]
      · by_cases h0 : c = 0
        · have e0 : ((c : Int) == 0) = true := by rw [beq_iff_eq]; omega
          have HE : Hid (Cd.uintR s.data.toList i = .error 7) := by show _ = _; rw [← hE.out, HN.out, if_pos (by omega)]
          clear HN hE
          go_wp2_with fail
          refine (hnext.out).mono ?_; rintro e w5 ⟨rfl, hu5, hr5⟩
          go_wp2_with fail
          exact ⟨rfl, Told.mk_err HE.out (hu.trans hu5) rfl hr5 (by omega)⟩
        · skip
          by_cases h1 : c < 128
          · have e0 : ((c : Int) == 0) = false := by rw [beq_eq_false_iff_ne]; omega
            have e1 : (c : Int) < 128 := by omega
            have HO : Hid (bits .or .u64 (nn : Int) ((c : Int) % 128 * 4398046511104) = ((nn + c % 128 * 128 ^ 6 : Nat) : Int)) := or_int nn c 6 4398046511104 4398046511104 (by decide) (by decide) hnn.out (by omega) (by omega)
            have HE : Hid (Cd.uintR s.data.toList i = .ok (nn + c * 128 ^ 6, j + 1)) := by show _ = _; rw [← hE.out, HN.out, if_neg (by omega), if_pos (by omega)]
            clear HN hE
            go_wp2_with fail
            refine (hnext.out).mono ?_; rintro e w5 ⟨rfl, hu5, hr5⟩
            go_wp2_with fail
            go_ret
            exact Told.mk_ok HE.out (hu.trans hu5) (ret_eq (by have ho := HO.out; rw [Nat.mod_eq_of_lt (show c < 128 by omega)] at ho; first | exact ho | exact HO2.out h0)) hr5 (by omega)
          · skip
            have e0 : ((c : Int) == 0) = false := by rw [beq_eq_false_iff_ne]; omega
            have e1 : ¬ (c : Int) < 128 := by omega
            have HO : Hid (bits .or .u64 (nn : Int) ((c : Int) % 128 * 4398046511104) = ((nn + c % 128 * 128 ^ 6 : Nat) : Int)) := or_int nn c 6 4398046511104 4398046511104 (by decide) (by decide) hnn.out (by omega) (by omega)
            have HE : Hid (Cd.uintF s.data.toList f 7 (nn + c % 128 * 128 ^ 6) (j + 1) = Cd.uintR s.data.toList i) := by show _ = _; rw [← hE.out, HN.out, if_neg (by omega), if_neg (by omega)]
            clear HN hE
            go_wp2_with fail
            refine (hnext.out).mono ?_; rintro e w5 ⟨rfl, hu5, hr5⟩
            go_wp2_with fail
            go_roundw
            case rel => exact ⟨f - 1, 7, nn + c % 128 * 128 ^ 6, j + 1, rfl, by omega, int_eq (by exact HO.out), by have := hnn.out; show _ < _; omega, hr5, by omega, hu.trans hu5, by have := HE.out; rwa [show f - 1 + 1 = f from by omega]⟩
            case measure => simp [intOf]
      · by_cases h0 : c = 0
        · have e0 : ((c : Int) == 0) = true := by rw [beq_iff_eq]; omega
          have HE : Hid (Cd.uintR s.data.toList i = .error 7) := by show _ = _; rw [← hE.out, HN.out, if_pos (by omega)]
          clear HN hE
          go_wp2_with fail
          refine (hnext.out).mono ?_; rintro e w5 ⟨rfl, hu5, hr5⟩
          go_wp2_with fail
          exact ⟨rfl, Told.mk_err HE.out (hu.trans hu5) rfl hr5 (by omega)⟩
        · skip
          by_cases h1 : c < 128
          · have e0 : ((c : Int) == 0) = false := by rw [beq_eq_false_iff_ne]; omega
            have e1 : (c : Int) < 128 := by omega
            have HO : Hid (bits .or .u64 (nn : Int) ((c : Int) % 128 * 562949953421312) = ((nn + c % 128 * 128 ^ 7 : Nat) : Int)) := or_int nn c 7 562949953421312 562949953421312 (by decide) (by decide) hnn.out (by omega) (by omega)
            have HE : Hid (Cd.uintR s.data.toList i = .ok (nn + c * 128 ^ 7, j + 1)) := by show _ = _; rw [← hE.out, HN.out, if_neg (by omega), if_pos (by omega)]
            clear HN hE
            go_wp2_with fail
            refine (hnext.out).mono ?_; rintro e w5 ⟨rfl, hu5, hr5⟩
            go_wp2_with fail
            go_ret
            exact Told.mk_ok HE.out (hu.trans hu5) (ret_eq (by have ho := HO.out; rw [Nat.mod_eq_of_lt (show c < 128 by omega)] at ho; first | exact ho | exact HO2.out h0)) hr5 (by omega)
          · skip
            have e0 : ((c : Int) == 0) = false := by rw [beq_eq_false_iff_ne]; omega
            have e1 : ¬ (c : Int) < 128 := by omega
            have HO : Hid (bits .or .u64 (nn : Int) ((c : Int) % 128 * 562949953421312) = ((nn + c % 128 * 128 ^ 7 : Nat) : Int)) := or_int nn c 7 562949953421312 562949953421312 (by decide) (by decide) hnn.out (by omega) (by omega)
            have HE : Hid (Cd.uintF s.data.toList f 8 (nn + c % 128 * 128 ^ 7) (j + 1) = Cd.uintR s.data.toList i) := by show _ = _; rw [← hE.out, HN.out, if_neg (by omega), if_neg (by omega)]
            clear HN hE
            go_wp2_with fail
            refine (hnext.out).mono ?_; rintro e w5 ⟨rfl, hu5, hr5⟩
            go_wp2_with fail
            go_roundw
            case rel => exact ⟨f - 1, 8, nn + c % 128 * 128 ^ 7, j + 1, rfl, by omega, int_eq (by exact HO.out), by have := hnn.out; show _ < _; omega, hr5, by omega, hu.trans hu5, by have := HE.out; rwa [show f - 1 + 1 = f from by omega]⟩
            case measure => simp [intOf]
      · by_cases h0 : c = 0
        · have e0 : ((c : Int) == 0) = true := by rw [beq_iff_eq]; omega
          have HE : Hid (Cd.uintR s.data.toList i = .error 7) := by show _ = _; rw [← hE.out, HN.out, if_pos (by omega)]
          clear HN hE
          go_wp2_with fail
          refine (hnext.out).mono ?_; rintro e w5 ⟨rfl, hu5, hr5⟩
          go_wp2_with fail
          exact ⟨rfl, Told.mk_err HE.out (hu.trans hu5) rfl hr5 (by omega)⟩
        · skip
          by_cases h1 : c < 128
          · have e0 : ((c : Int) == 0) = false := by rw [beq_eq_false_iff_ne]; omega
            have e1 : (c : Int) < 128 := by omega
            have HO : Hid (bits .or .u64 (nn : Int) ((c : Int) % 128 * 72057594037927936) = ((nn + c % 128 * 128 ^ 8 : Nat) : Int)) := or_int nn c 8 72057594037927936 72057594037927936 (by decide) (by decide) hnn.out (by omega) (by omega)
            have HE : Hid (Cd.uintR s.data.toList i = .ok (nn + c * 128 ^ 8, j + 1)) := by show _ = _; rw [← hE.out, HN.out, if_neg (by omega), if_pos (by omega)]
            clear HN hE
            go_wp2_with fail
            refine (hnext.out).mono ?_; rintro e w5 ⟨rfl, hu5, hr5⟩
            go_wp2_with fail
            go_ret
            exact Told.mk_ok HE.out (hu.trans hu5) (ret_eq (by have ho := HO.out; rw [Nat.mod_eq_of_lt (show c < 128 by omega)] at ho; first | exact ho | exact HO2.out h0)) hr5 (by omega)
          · skip
            have e0 : ((c : Int) == 0) = false := by rw [beq_eq_false_iff_ne]; omega
            have e1 : ¬ (c : Int) < 128 := by omega
            have HO : Hid (bits .or .u64 (nn : Int) ((c : Int) % 128 * 72057594037927936) = ((nn + c % 128 * 128 ^ 8 : Nat) : Int)) := or_int nn c 8 72057594037927936 72057594037927936 (by decide) (by decide) hnn.out (by omega) (by omega)
            have HE : Hid (Cd.uintF s.data.toList f 9 (nn + c % 128 * 128 ^ 8) (j + 1) = Cd.uintR s.data.toList i) := by show _ = _; rw [← hE.out, HN.out, if_neg (by omega), if_neg (by omega)]
            clear HN hE
            go_wp2_with fail
            refine (hnext.out).mono ?_; rintro e w5 ⟨rfl, hu5, hr5⟩
            go_wp2_with fail
            go_roundw
            case rel => exact ⟨f - 1, 9, nn + c % 128 * 128 ^ 8, j + 1, rfl, by omega, int_eq (by exact HO.out), by have := hnn.out; show _ < _; omega, hr5, by omega, hu.trans hu5, by have := HE.out; rwa [show f - 1 + 1 = f from by omega]⟩
            case measure => simp [intOf]
      · by_cases h0 : c = 0
        · have e0 : ((c : Int) == 0) = true := by rw [beq_iff_eq]; omega
          have HE : Hid (Cd.uintR s.data.toList i = .error 7) := by show _ = _; rw [← hE.out, HN.out, if_pos (by omega)]
          clear HN hE
          go_wp2_with fail
          refine (hnext.out).mono ?_; rintro e w5 ⟨rfl, hu5, hr5⟩
          go_wp2_with fail
          exact ⟨rfl, Told.mk_err HE.out (hu.trans hu5) rfl hr5 (by omega)⟩
        · skip
          by_cases h9 : 1 < c
          · have e0 : ((c : Int) == 0) = false := by rw [beq_eq_false_iff_ne]; omega
            have e9 : decide ((1 : Int) < (c : Int)) = true := by simp; omega
            have HE : Hid (Cd.uintR s.data.toList i = .error 7) := by show _ = _; rw [← hE.out, HN.out, if_pos (by omega)]
            clear HN hE
            go_wp2_with fail
            refine (hnext.out).mono ?_; rintro e w5 ⟨rfl, hu5, hr5⟩
            go_wp2_with fail
            exact ⟨rfl, Told.mk_err HE.out (hu.trans hu5) rfl hr5 (by omega)⟩
          · skip
            have e0 : ((c : Int) == 0) = false := by rw [beq_eq_false_iff_ne]; omega
            have e9 : decide ((1 : Int) < (c : Int)) = false := by simp; omega
            have e1 : (c : Int) < 128 := by omega
            have HO : Hid (bits .or .u64 (nn : Int) ((c : Int) % 128 * 9223372036854775808) = ((nn + c % 128 * 128 ^ 9 : Nat) : Int)) := or_int nn c 9 9223372036854775808 9223372036854775808 (by decide) (by decide) hnn.out (by omega) (by omega)
            have HE : Hid (Cd.uintR s.data.toList i = .ok (nn + c * 128 ^ 9, j + 1)) := by show _ = _; rw [← hE.out, HN.out, if_neg (by omega), if_pos (by omega)]
            clear HN hE
            go_wp2_with fail
            refine (hnext.out).mono ?_; rintro e w5 ⟨rfl, hu5, hr5⟩
            go_wp2_with fail
            go_ret
            exact Told.mk_ok HE.out (hu.trans hu5) (ret_eq (by have ho := HO.out; rw [Nat.mod_eq_of_lt (show c < 128 by omega)] at ho; first | exact ho | exact HO2.out h0)) hr5 (by omega)
    · obtain rfl : j = s.size := by omega
      have hnext := hid (next_no g s s.size er w4 hrj (Nat.le_refl _))
      have HE : Hid (Cd.uintR s.data.toList i = .error 8) := by show _ = _; rw [← hE.out, uintF_end _ _ _ _ _ (by rw [HL.out]; omega)]
      have hk9 : (kk : Int) < 10 := by omega
      clear hE
      go_wp2_with fail
      refine (hnext.out).mono ?_; rintro e w5 ⟨rfl, hu5, hr5⟩
      go_wp2_with fail
      exact ⟨rfl, Told.mk_err HE.out (hu.trans hu5) rfl hr5 (Nat.le_refl _)⟩
end Go.Proofs.Ytmgafcblbbbanaa
