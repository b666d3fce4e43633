/-
  value's pairs, whole: their contracts. Condition: the text has at most 1000000 bytes.
-/
import Derived.Test.YtgdegoacjobpdaaSh
namespace Go.Proofs.Ytgdegoacjobpdaa
open Go.RowKit

namespace Vl
def V0 : Cd.V := ⟨0, 0, 0, ⟨#[]⟩⟩
/-- the bytes of pairs of digits -/
def prF : List UInt8 → List UInt8 → Option (List UInt8)
  | acc, a :: b :: r => match numX [a, b] 0 with
    | none => none
    | some n => prF (acc ++ [UInt8.ofNat n]) r
  | acc, _ => some acc
theorem prF_no {a b : UInt8} (h : numX [a, b] 0 = none) (acc r : List UInt8) : prF acc (a :: b :: r) = none := by
  rw [prF.eq_def]
  show (match numX [a, b] 0 with | none => none | some n => _) = _
  rw [h]
theorem prF_next {a b : UInt8} {n : Nat} (h : numX [a, b] 0 = some n) (acc r : List UInt8) : prF acc (a :: b :: r) = prF (acc ++ [UInt8.ofNat n]) r := by
  rw [prF.eq_def]
  show (match numX [a, b] 0 with | none => none | some n => _) = _
  rw [h]
theorem prF_nil (acc : List UInt8) : prF acc [] = some acc := rfl
theorem prF_one (acc : List UInt8) (a : UInt8) : prF acc [a] = some acc := rfl
def pairs (l : List UInt8) : Cd.V × Bool := match prF [] l with
  | none => (V0, false)
  | some b => (⟨4, 0, 0, bstr b⟩, decide (l.length % 2 = 0))
/-- a whole number, as far as it has digits alone -/
def whF (sign : Int) : List UInt8 → Int → Option Int
  | [], n => some n
  | c :: r, n => if c < 48 ∨ 57 < c then none else whF sign r (IntKind.i64.wrap (IntKind.i64.wrap (10 * n) + sign * ((c.toNat : Int) - 48)))
def whS : List UInt8 → Option Int
  | [] => some 0
  | c :: r => if c = 45 then whF (-1) r 0 else whF 1 (c :: r) 0
def whole (l : List UInt8) : Cd.V × Bool := match whS l with
  | none => (V0, false)
  | some n => (⟨2, n, 0, ⟨#[]⟩⟩, true)
end Vl
def vvV (v : Cd.V) : Value := vv v.k v.n v.b v.s
def okV (p : Cd.V × Bool) : Value := .tuple #[vvV p.1, .bool p.2]
theorem ext_two (l : List UInt8) (k : Nat) (h : k + 1 < l.length) : (bstr l).extract k (k + 2) = bstr [l[k], l[k + 1]] := by
  apply ba_eq
  rw [bstr_toList]
  have : (bstr l).extract k (k + 2) = ((bstr l).extract 0 (k + 2)).extract k (k + 2) := by
    apply ba_eq
    simp
  simp only [ByteArray.data_extract, Array.toList_extract, List.extract_eq_take_drop, bstr_toList]
  rw [List.drop_eq_getElem_cons (by omega), List.drop_eq_getElem_cons h, show k + 2 - k = 2 by omega]
  rfl
theorem Own8.ge {w : World} {B : Nat} {v : Value} {l : List UInt8} (h : Own8 w B v l) : ∀ q, v.ownBlock = some q → B ≤ q := fun q e => (World.ownsRow.lt h q e).1
theorem bv_grow {w w' : World} {g B : Nat} {k n : Int} {b : Nat} {s : ByteArray} (h : BV w g k n b s) {o : Option Nat} (e : w.grownBy w' o) (hg : g < B) (ho : ∀ q, o = some q → B ≤ q) : BV w' g k n b s := by
  show w'.heap[g]? = _
  rw [e.block g h.cells.2.2.2.2.2.2.2.2 (fun x => by have := ho g x.symm; omega)]; exact h
theorem byte_mod (n : Nat) : Value.int .u8 ((n : Int) % 256) = byteV (UInt8.ofNat n) := by
  unfold byteV
  rw [UInt8.toNat_ofNat']
  congr 1
set_option maxRecDepth 100000 in
set_option maxHeartbeats 3200000 in
theorem pairs_any (l : List UInt8) (hl : l.length ≤ 1000000) (w : World) : Calls Try.prog 48 #[.string (bstr l)] w fun e w' => e = .returned (okV (Vl.pairs l)) ∧ Below w.heap.size w w' := by
  have hs : (bstr l).size = l.length := rfl
  have bz := BV.new w 0 0 0 ⟨#[]⟩
  have L0 := hba w (.cells #[.int .i64 0, .int .i64 0, .int .u64 0, .string ⟨#[]⟩] 24)
  go_enter Try.func48, Try.ntmps48
  go_wp2_with fail
  go_loopw [5, 4] (fun i v wr => ∃ (k : Nat) (acc : List UInt8), k ≤ l.length ∧ k % 2 = 0 ∧ i = .int .i64 (k : Int) ∧ Own8 wr (w.heap.size + 1) v acc ∧ Hid (acc.length ≤ k) ∧ Hid (Vl.prF [] l = Vl.prF acc (l.drop k)) ∧ BV wr w.heap.size 0 0 0 ⟨#[]⟩ ∧ Below w.heap.size w wr) (fun i _ _ => l.length - (intOf i).toNat)
  case atStart => exact ⟨0, [], by omega, rfl, rfl, World.ownsRow_nil _ _ _ _, Nat.le_refl _, rfl, bz, L0⟩
  case round =>
    obtain ⟨k, acc, hk, hke, rfl, hown, hL, hE, bz1, hbel⟩ := hrel
    obtain ⟨w4, rfl⟩ : ∃ w4 : World, w4 = wr := ⟨_, rfl⟩
    clear bz L0
    have HO := hid hown
    have HZ := hid bz1
    have HB := hid hbel
    have HSZ : Hid (w.heap.size + 1 ≤ w4.heap.size) := bz1.cells.2.2.2.2.2.2.2.2
    have hk0 : (0 : Int) ≤ (k : Int) := by omega
    by_cases hkl : k + 1 < l.length
    · have hkl' : (k : Int) + 1 < (l.length : Int) := by omega
      have hkl2 : (k : Int) + 2 ≤ (l.length : Int) := by omega
      have w1 : IntKind.i64.wrap ((k : Int) + 1) = (k : Int) + 1 := by rw [IntKind.wrap_i64]; omega
      have w2 : IntKind.i64.wrap ((k : Int) + 2) = ((k + 2 : Nat) : Int) := by rw [IntKind.wrap_i64]; omega
      have hx2 := ext_two l k hkl
      have HD := hid (hE.out.trans (by rw [List.drop_eq_getElem_cons (show k < l.length by omega), List.drop_eq_getElem_cons hkl]))
      generalize l[k]'(by omega) = a at hx2 HD
      generalize l[k + 1]'hkl = b at hx2 HD
      have cn := hid (fun W => number_any [a, b] (by simp) W)
      cases hn : Vl.numX [a, b] 0 with
      | none =>
        have HR : Hid (Vl.pairs l = (Vl.V0, false)) := by
          have := HD.out.trans (Vl.prF_no hn _ _)
          show _ = _
          unfold Vl.pairs; rw [this]
        rw [hn] at cn
        clear hn HD hE hown bz1 hbel
        unfold numV at cn
        go_wp2_with fail
        refine (cn.out _).mono ?_; rintro e w5 ⟨rfl, b5⟩
        have bz5 := HZ.out.keep b5
        have L5 := hid (hnext HB.out b5)
        obtain ⟨z0, z1, z2, z3, zf0, zf1, zf2, zf3, zl⟩ := bz5.cells
        clear b5
        go_wp2_with fail
        refine bodyPost_ret (v := .tuple #[.agg #[.int .i64 0, .int .i64 0, .int .u64 0, .string ⟨#[]⟩], .bool false]) (by simp [results, Try.results48, go_sem, z0, z1, z2, z3]) rfl ?_
        rw [HR.out]
        exact ⟨rfl, (((L5.out.setCell (p := ⟨w.heap.size, 0, none⟩) (Nat.le_refl _) _).setCell (p := ⟨w.heap.size, 1, none⟩) (Nat.le_refl _) _).setCell (p := ⟨w.heap.size, 2, none⟩) (Nat.le_refl _) _).setCell (p := ⟨w.heap.size, 3, none⟩) (Nat.le_refl _) _⟩
      | some n =>
        have HR := hid (HD.out.trans (Vl.prF_next hn _ _))
        rw [hn] at cn
        clear hn HD hE hown bz1 hbel
        unfold numV at cn
        have HY := hid (byte_mod n)
        have HLA : Hid (acc.length + 1 ≤ 140737488355328) := by have := hL.out; show _ ≤ _; omega
        go_wp2_with fail
        refine (cn.out _).mono ?_; rintro e w5 ⟨rfl, b5⟩
        have O5 : Hid (Own8 w5 (w.heap.size + 1) _ acc) := own_below HO.out b5
        have bz5 := hid (HZ.out.keep b5)
        have L5 := hid (hnext HB.out b5)
        have HSZ5 : Hid (w.heap.size + 1 ≤ w5.heap.size) := Nat.le_trans HSZ.out b5.size
        clear b5 HO HZ HB
        go_wp2_with (at_builtin; go_loud (refine append_byte _ rfl _ _ rfl (w.heap.size + 1) _ acc rfl O5.out (UInt8.ofNat n) _ HY.out _ rfl rfl HLA.out HSZ5.out ?_; intro v2 w7 own2 gr2; have O7 := hid own2; have Z7 := hid (bv_grow bz5.out gr2 (Nat.lt_succ_self _) O5.out.ge); have B7 := hid (Below.grown L5.out gr2 L5.out.size (fun q e => by have := O5.out.ge q e; omega)); clear own2 gr2))
        go_roundw
        case rel => exact ⟨k + 2, acc ++ [UInt8.ofNat n], by omega, by omega, by first | rfl | go_num, O7.out, by have := hL.out; show _ ≤ _; rw [List.length_append]; show _ + 1 ≤ _; omega, HR, Z7.out, B7.out⟩
        case measure => simp [intOf]; omega
    · have hkl' : ¬ (k : Int) + 1 < (l.length : Int) := by omega
      have w1 : IntKind.i64.wrap ((k : Int) + 1) = (k : Int) + 1 := by rw [IntKind.wrap_i64]; omega
      have HP : Hid (Vl.prF [] l = some acc) := by
        show _ = _
        rw [hE.out]
        rcases (show l.length = k ∨ l.length = k + 1 by omega) with h | h
        · rw [List.drop_of_length_le (by omega)]; rfl
        · rw [List.drop_eq_getElem_cons (by omega), List.drop_of_length_le (by omega)]; rfl
      have HR : Hid (Vl.pairs l = (⟨4, 0, 0, bstr acc⟩, decide (l.length % 2 = 0))) := by show _ = _; unfold Vl.pairs; rw [HP.out]
      have hm : (l.length : Int).tmod 2 = ((l.length % 2 : Nat) : Int) := by rw [Int.tmod_eq_emod_of_nonneg (by omega)]; omega
      obtain ⟨z0, z1, z2, z3, zf0, zf1, zf2, zf3, zl⟩ := bz1.cells
      have hst := run_string_of_bytes (P := Try.prog) w4 (w.heap.size + 1) 54 9 5 _ _ Try.underlying54 Try.underlying5 Try.underlying9 (BytesAt.own HO.out)
      by_cases hpar : l.length % 2 = 0
      · rw [decide_eq_true hpar] at HR
        have hm2 : (l.length : Int) % 2 = 0 := by omega
        rw [hpar] at hm
        go_wp2_with fail
        refine bodyPost_ret (v := .tuple #[.agg #[.int .i64 4, .int .i64 0, .int .u64 0, .string (bstr acc)], .bool true]) (by simp [results, Try.results48, go_sem, z0, z1, z2, z3]) rfl ?_
        rw [HR.out]
        exact ⟨rfl, (((hbel.setCell (p := ⟨w.heap.size, 0, none⟩) (Nat.le_refl _) _).setCell (p := ⟨w.heap.size, 1, none⟩) (Nat.le_refl _) _).setCell (p := ⟨w.heap.size, 2, none⟩) (Nat.le_refl _) _).setCell (p := ⟨w.heap.size, 3, none⟩) (Nat.le_refl _) _⟩
      · rw [decide_eq_false hpar] at HR
        have hm2 : (l.length : Int) % 2 = 1 := by omega
        have hp1 : l.length % 2 = 1 := by omega
        rw [hp1] at hm
        go_wp2_with fail
        refine bodyPost_ret (v := .tuple #[.agg #[.int .i64 4, .int .i64 0, .int .u64 0, .string (bstr acc)], .bool false]) (by simp [results, Try.results48, go_sem, z0, z1, z2, z3]) rfl ?_
        rw [HR.out]
        exact ⟨rfl, (((hbel.setCell (p := ⟨w.heap.size, 0, none⟩) (Nat.le_refl _) _).setCell (p := ⟨w.heap.size, 1, none⟩) (Nat.le_refl _) _).setCell (p := ⟨w.heap.size, 2, none⟩) (Nat.le_refl _) _).setCell (p := ⟨w.heap.size, 3, none⟩) (Nat.le_refl _) _⟩
theorem whF_no {sign : Int} {c : UInt8} (h : c < 48 ∨ 57 < c) (r : List UInt8) (n : Int) : Vl.whF sign (c :: r) n = none := if_pos h
theorem whF_next {sign : Int} {c : UInt8} (h : ¬ (c < 48 ∨ 57 < c)) (r : List UInt8) (n : Int) : Vl.whF sign (c :: r) n = Vl.whF sign r (IntKind.i64.wrap (IntKind.i64.wrap (10 * n) + sign * ((c.toNat : Int) - 48))) := if_neg h
end Go.Proofs.Ytgdegoacjobpdaa
