/-
  The reference's guess: its contract. Condition: the text has at most 1000000 bytes.
-/
import Derived.Test.YtimcmpcfnddioaaKyPb
namespace Go.Proofs.Ytimcmpcfnddioaa
open Go.RowKit

namespace Ky
/-- what a text may be -/
def gt : List UInt8 → List UInt8
  | [] => []
  | c :: r => if c = 0 then match r with
      | [] => [0]
      | d :: r2 => if d = 1 then [] else 0 :: gt r2
    else c :: gt r
/-- a value that bytes may begin with -/
def guess (k : Int) (t : List UInt8) : Cd.V :=
  if k = 1 then ⟨1, match t with | [] => 0 | d :: _ => (d.toNat : Int), 0, ⟨#[]⟩⟩
  else if k = 2 then ⟨2, unmoved (num (t.take 8)), 0, ⟨#[]⟩⟩
  else if k = 3 then ⟨3, 0, straight (num (t.take 8)), ⟨#[]⟩⟩
  else if k = 4 ∨ k = 5 then ⟨k, 0, 0, bstr (gt t)⟩
  else ⟨k, 0, 0, ⟨#[]⟩⟩
theorem gt_end (r : List UInt8) : gt (0 :: 1 :: r) = [] := rfl
theorem gt_zero (d : UInt8) (r : List UInt8) (h : d ≠ 1) : gt (0 :: d :: r) = 0 :: gt r := by
  rw [gt.eq_def]
  show (if d = 1 then _ else _) = _
  rw [if_neg h]
theorem gt_one : gt [0] = [0] := rfl
theorem gt_byte (c : UInt8) (r : List UInt8) (h : c ≠ 0) : gt (c :: r) = c :: gt r := by
  rw [gt.eq_def]
  show (if c = 0 then _ else _) = _
  rw [if_neg h]
end Ky
theorem num_take (t : List UInt8) : Ky.num (t.take 8) < 18446744073709551616 := by
  by_cases h : 8 ≤ t.length
  · exact Ky.num_lt t 8 h
  · have := Ky.num_lt t t.length (Nat.le_refl _)
    rw [List.take_of_length_le (Nat.le_refl _)] at this
    rw [List.take_of_length_le (by omega)]
    exact Nat.lt_of_lt_of_le this (Nat.le_trans (Nat.pow_le_pow_right (by decide) (show t.length ≤ 8 by omega)) (by decide))
theorem straight_num (m : Nat) : Ky.straight m = if m < 9223372036854775808 then 18446744073709551615 - m else m - 9223372036854775808 := rfl
theorem bv_grow {w w' : World} {g B : Nat} {k n : Int} {b : Nat} {s : ByteArray} (h : BV w g k n b s) {o : Option Nat} (e : w.grownBy w' o) (hg : g < B) (ho : ∀ q, o = some q → B ≤ q) : BV w' g k n b s := by
  show w'.heap[g]? = _
  rw [e.block g h.cells.2.2.2.2.2.2.2.2 (fun x => by have := ho g x.symm; omega)]; exact h
theorem two_new (w : World) (k : Int) : Below w.heap.size w ((w.alloc (.cells #[.int .i64 0, .int .i64 0, .int .u64 0, .string ⟨#[]⟩] 39)).alloc (.cells #[.int .i64 k, .int .i64 0, .int .u64 0, .string ⟨#[]⟩] 39)) ∧ BV ((w.alloc (.cells #[.int .i64 0, .int .i64 0, .int .u64 0, .string ⟨#[]⟩] 39)).alloc (.cells #[.int .i64 k, .int .i64 0, .int .u64 0, .string ⟨#[]⟩] 39)) w.heap.size 0 0 0 ⟨#[]⟩ ∧ BV ((w.alloc (.cells #[.int .i64 0, .int .i64 0, .int .u64 0, .string ⟨#[]⟩] 39)).alloc (.cells #[.int .i64 k, .int .i64 0, .int .u64 0, .string ⟨#[]⟩] 39)) (w.heap.size + 1) k 0 0 ⟨#[]⟩ := by
  refine ⟨hnext (hba w _) (hba _ _), BV.keep (BV.new w 0 0 0 ⟨#[]⟩) (hba _ _), ?_⟩
  have := BV.new (w.alloc (.cells #[.int .i64 0, .int .i64 0, .int .u64 0, .string ⟨#[]⟩] 39)) k 0 0 ⟨#[]⟩
  rwa [show (w.alloc (.cells #[.int .i64 0, .int .i64 0, .int .u64 0, .string ⟨#[]⟩] 39)).heap.size = w.heap.size + 1 by simp] at this
set_option maxRecDepth 100000 in
set_option maxHeartbeats 1600000 in
theorem guess1 (t : List UInt8) (ht : t.length ≤ 1000000) (w : World) :
    Calls Try.prog 33 #[.string (bstr (2 :: t))] w fun e w' => e = .returned (vvV (Ky.guess 1 t)) ∧ Below w.heap.size w w' := by
  cases t with
  | nil =>
    have hs : (bstr [2]).size = 1 := rfl
    have hix : ∀ h : 0 < (bstr [2]).size, (bstr [2])[0]'h = 2 := fun _ => rfl
    have e1 : (bstr [2]).extract 1 1 = bstr [] := rfl
    go_enter Try.func33, Try.ntmps33
    go_wp2_with fail
    refine bodyPost_ret (v := .agg #[.int .i64 1, .int .i64 0, .int .u64 0, .string ⟨#[]⟩]) (by simp [results, Try.results33, go_sem]) rfl ?_
    exact ⟨rfl, hnext (hba _ _) (hba _ _)⟩
  | cons d t =>
    have hs : (bstr (2 :: d :: t)).size = t.length + 1 + 1 := rfl
    have hs2 : (bstr (d :: t)).size = t.length + 1 := rfl
    have hix : ∀ h : 0 < (bstr (2 :: d :: t)).size, (bstr (2 :: d :: t))[0]'h = 2 := fun _ => rfl
    have hix2 : ∀ h : 0 < (bstr (d :: t)).size, (bstr (d :: t))[0]'h = d := fun _ => rfl
    have e1 : (bstr (2 :: d :: t)).extract 1 (t.length + 1 + 1) = bstr (d :: t) := ba_eq (extract_drop (bstr (2 :: d :: t)) 1)
    have e2 : (bstr (d :: t)).toList.isEmpty = false := by rw [ByteArray.toList_eq, bstr_toList]; rfl
    have hdl := d.toNat_lt
    have e4 : IntKind.i64.wrap ((d.toNat : Nat) : Int) = (d.toNat : Int) := by rw [IntKind.wrap_i64]; omega
    generalize hdn : d.toNat = n at *
    go_enter Try.func33, Try.ntmps33
    go_wp2_with fail
    refine bodyPost_ret (v := .agg #[.int .i64 1, .int .i64 (n : Int), .int .u64 0, .string ⟨#[]⟩]) (by simp [results, Try.results33, go_sem]) rfl ?_
    exact ⟨by rw [← hdn]; rfl, hnext (hba _ _) (hba _ _)⟩
set_option maxRecDepth 100000 in
set_option maxHeartbeats 1600000 in
theorem guess2 (t : List UInt8) (ht : t.length ≤ 1000000) (w : World) :
    Calls Try.prog 33 #[.string (bstr (3 :: t))] w fun e w' => e = .returned (vvV (Ky.guess 2 t)) ∧ Below w.heap.size w w' := by
  have hs : (bstr (3 :: t)).size = t.length + 1 := rfl
  have hst : (bstr t).size = t.length := rfl
  have hix : ∀ h : 0 < (bstr (3 :: t)).size, (bstr (3 :: t))[0]'h = 3 := fun _ => rfl
  have e1 : (bstr (3 :: t)).extract 1 (t.length + 1) = bstr t := ba_eq (extract_drop (bstr (3 :: t)) 1)
  have hm : Ky.num (t.take 8) < 18446744073709551616 := num_take t
  have HE : Hid (Ky.guess 2 t = ⟨2, Ky.unmoved (Ky.num (t.take 8)), 0, ⟨#[]⟩⟩) := rfl
  have CE := hid (fun W => eight_any t ht W)
  generalize Ky.num (t.take 8) = m at *
  have e3 : IntKind.i64.wrap (IntKind.u64.wrap ((m : Int) - 9223372036854775808)) = Ky.unmoved m := by
    rw [IntKind.wrap_u64, IntKind.wrap_i64]; unfold Ky.unmoved; omega
  have HEN := hid HE.out
  clear HE
  generalize Ky.unmoved m = q at *
  go_enter Try.func33, Try.ntmps33
  go_wp2_with fail
  obtain ⟨L2, bz, bv⟩ := two_new w 2
  refine (CE.out _).mono ?_; rintro e w1 ⟨rfl, b1⟩
  have bz1 := bz.keep b1
  have bv1 := bv.keep b1
  have L3 := hnext L2 b1
  clear bz bv L2 b1
  obtain ⟨v0, v1, v2, v3, vf0, vf1, vf2, vf3, vl⟩ := bv1.cells
  obtain ⟨z0, z1, z2, z3, zf0, zf1, zf2, zf3, zl⟩ := bz1.cells
  go_wp2_with fail
  refine bodyPost_ret (v := .agg #[.int .i64 2, .int .i64 q, .int .u64 0, .string ⟨#[]⟩]) (by simp [results, Try.results33, go_sem, z0, z1, z2, z3]) rfl ?_
  rw [HEN.out]
  refine ⟨rfl, ?_⟩
  exact (((((L3.setCell (p := ⟨w.heap.size + 1, 1, none⟩) (Nat.le_succ _) _).setCell (p := ⟨w.heap.size, 0, none⟩) (Nat.le_refl _) _).setCell (p := ⟨w.heap.size, 1, none⟩) (Nat.le_refl _) _).setCell (p := ⟨w.heap.size, 2, none⟩) (Nat.le_refl _) _).setCell (p := ⟨w.heap.size, 3, none⟩) (Nat.le_refl _) _)
set_option maxRecDepth 100000 in
set_option maxHeartbeats 1600000 in
theorem guess3a (m : Nat) (hm0 : m < 9223372036854775808) (t : List UInt8) (hmt : Ky.num (t.take 8) = m) (ht : t.length ≤ 1000000) (w : World) :
    Calls Try.prog 33 #[.string (bstr (4 :: t))] w fun e w' => e = .returned (vvV (Ky.guess 3 t)) ∧ Below w.heap.size w w' := by
  have hs : (bstr (4 :: t)).size = t.length + 1 := rfl
  have hst : (bstr t).size = t.length := rfl
  have hix : ∀ h : 0 < (bstr (4 :: t)).size, (bstr (4 :: t))[0]'h = 4 := fun _ => rfl
  have e1 : (bstr (4 :: t)).extract 1 (t.length + 1) = bstr t := ba_eq (extract_drop (bstr (4 :: t)) 1)
  have hm : m < 18446744073709551616 := by rw [← hmt]; exact num_take t
  have HE : Hid (Ky.guess 3 t = ⟨3, 0, Ky.straight (Ky.num (t.take 8)), ⟨#[]⟩⟩) := rfl
  have CE := hid (fun W => eight_any t ht W)
  rw [hmt] at HE CE
  clear hmt
  obtain ⟨q, hq⟩ : ∃ q, Ky.straight m = q := ⟨_, rfl⟩
  have h9 : ¬ ((9223372036854775808 : Int) ≤ (m : Int)) := by omega
  have h9' : ((m : Int) < 9223372036854775808) := by omega
  have e3 : IntKind.u64.wrap (18446744073709551615 - (m : Int)) = (q : Int) := by
    rw [IntKind.wrap_u64, ← hq, straight_num m, if_pos hm0]; omega
  rw [hq] at HE
  have HEN := hid HE.out
  clear HE hq hm0 hm
  go_enter Try.func33, Try.ntmps33
  go_wp2_with fail
  obtain ⟨L2, bz, bv⟩ := two_new w 3
  refine (CE.out _).mono ?_; rintro e w1 ⟨rfl, b1⟩
  have bz1 := bz.keep b1
  have bv1 := bv.keep b1
  have L3 := hnext L2 b1
  clear bz bv L2 b1
  obtain ⟨v0, v1, v2, v3, vf0, vf1, vf2, vf3, vl⟩ := bv1.cells
  obtain ⟨z0, z1, z2, z3, zf0, zf1, zf2, zf3, zl⟩ := bz1.cells
  go_wp2_with fail
  refine bodyPost_ret (v := .agg #[.int .i64 3, .int .i64 0, .int .u64 (q : Int), .string ⟨#[]⟩]) (by simp [results, Try.results33, go_sem, z0, z1, z2, z3]) rfl ?_
  rw [HEN.out]
  refine ⟨rfl, ?_⟩
  exact ((((((L3.setCell (p := ⟨w.heap.size + 1, 2, none⟩) (Nat.le_succ _) _).setCell (p := ⟨w.heap.size + 1, 2, none⟩) (Nat.le_succ _) _).setCell (p := ⟨w.heap.size, 0, none⟩) (Nat.le_refl _) _).setCell (p := ⟨w.heap.size, 1, none⟩) (Nat.le_refl _) _).setCell (p := ⟨w.heap.size, 2, none⟩) (Nat.le_refl _) _).setCell (p := ⟨w.heap.size, 3, none⟩) (Nat.le_refl _) _)
set_option maxRecDepth 100000 in
set_option maxHeartbeats 1600000 in
theorem guess3b (m : Nat) (hm0 : ¬ m < 9223372036854775808) (t : List UInt8) (hmt : Ky.num (t.take 8) = m) (ht : t.length ≤ 1000000) (w : World) :
    Calls Try.prog 33 #[.string (bstr (4 :: t))] w fun e w' => e = .returned (vvV (Ky.guess 3 t)) ∧ Below w.heap.size w w' := by
  have hs : (bstr (4 :: t)).size = t.length + 1 := rfl
  have hst : (bstr t).size = t.length := rfl
  have hix : ∀ h : 0 < (bstr (4 :: t)).size, (bstr (4 :: t))[0]'h = 4 := fun _ => rfl
  have e1 : (bstr (4 :: t)).extract 1 (t.length + 1) = bstr t := ba_eq (extract_drop (bstr (4 :: t)) 1)
  have hm : m < 18446744073709551616 := by rw [← hmt]; exact num_take t
  have HE : Hid (Ky.guess 3 t = ⟨3, 0, Ky.straight (Ky.num (t.take 8)), ⟨#[]⟩⟩) := rfl
  have CE := hid (fun W => eight_any t ht W)
  rw [hmt] at HE CE
  clear hmt
  obtain ⟨q, hq⟩ : ∃ q, Ky.straight m = q := ⟨_, rfl⟩
  have h9' : decide ((m : Int) < 9223372036854775808) = false := decide_eq_false (by omega)
  have e3 : IntKind.u64.wrap ((m : Int) - 9223372036854775808) = (q : Int) := by
    rw [IntKind.wrap_u64, ← hq, straight_num m, if_neg hm0]; omega
  rw [hq] at HE
  have HEN := hid HE.out
  clear HE hq hm0 hm
  go_enter Try.func33, Try.ntmps33
  go_wp2_with fail
  obtain ⟨L2, bz, bv⟩ := two_new w 3
  refine (CE.out _).mono ?_; rintro e w1 ⟨rfl, b1⟩
  have bz1 := bz.keep b1
  have bv1 := bv.keep b1
  have L3 := hnext L2 b1
  clear bz bv L2 b1
  obtain ⟨v0, v1, v2, v3, vf0, vf1, vf2, vf3, vl⟩ := bv1.cells
  obtain ⟨z0, z1, z2, z3, zf0, zf1, zf2, zf3, zl⟩ := bz1.cells
  go_wp2_with fail
  refine bodyPost_ret (v := .agg #[.int .i64 3, .int .i64 0, .int .u64 (q : Int), .string ⟨#[]⟩]) (by simp [results, Try.results33, go_sem, z0, z1, z2, z3]) rfl ?_
  rw [HEN.out]
  refine ⟨rfl, ?_⟩
  exact (((((L3.setCell (p := ⟨w.heap.size + 1, 2, none⟩) (Nat.le_succ _) _).setCell (p := ⟨w.heap.size, 0, none⟩) (Nat.le_refl _) _).setCell (p := ⟨w.heap.size, 1, none⟩) (Nat.le_refl _) _).setCell (p := ⟨w.heap.size, 2, none⟩) (Nat.le_refl _) _).setCell (p := ⟨w.heap.size, 3, none⟩) (Nat.le_refl _) _)
set_option maxRecDepth 100000 in
set_option maxHeartbeats 1600000 in
theorem guessO (c : UInt8) (hc0 : c ≠ 0) (h1 : c ≠ 2) (h2 : c ≠ 3) (h3 : c ≠ 4) (h4 : c ≠ 5) (h5 : c ≠ 6) (t : List UInt8) (ht : t.length ≤ 1000000) (w : World) :
    Calls Try.prog 33 #[.string (bstr (c :: t))] w fun e w' => e = .returned (vvV (Ky.guess ((c.toNat : Int) - 1) t)) ∧ Below w.heap.size w w' := by
  have hn : ∀ d : UInt8, c ≠ d → c.toNat ≠ d.toNat := fun d h e => h (UInt8.toNat_inj.1 e)
  have n0 := hn 0 hc0
  have n1 := hn 2 h1
  have n2 := hn 3 h2
  have n3 := hn 4 h3
  have n4 := hn 5 h4
  have n5 := hn 6 h5
  simp only [show (0 : UInt8).toNat = 0 from rfl, show (2 : UInt8).toNat = 2 from rfl, show (3 : UInt8).toNat = 3 from rfl, show (4 : UInt8).toNat = 4 from rfl, show (5 : UInt8).toNat = 5 from rfl, show (6 : UInt8).toNat = 6 from rfl] at n0 n1 n2 n3 n4 n5
  have hs : (bstr (c :: t)).size = t.length + 1 := rfl
  have hst : (bstr t).size = t.length := rfl
  have hix : ∀ h : 0 < (bstr (c :: t)).size, (bstr (c :: t))[0]'h = c := fun _ => rfl
  have e1 : (bstr (c :: t)).extract 1 (t.length + 1) = bstr t := ba_eq (extract_drop (bstr (c :: t)) 1)
  have hcl := c.toNat_lt
  obtain ⟨k, hk⟩ : ∃ k : Int, (c.toNat : Int) - 1 = k := ⟨_, rfl⟩
  have w1 : IntKind.i64.wrap (c.toNat : Int) = (c.toNat : Int) := by rw [IntKind.wrap_i64]; omega
  have w2 : IntKind.i64.wrap ((c.toNat : Int) - 1) = k := by rw [hk, IntKind.wrap_i64]; omega
  have HE : Hid (Ky.guess k t = ⟨k, 0, 0, ⟨#[]⟩⟩) := by show _ = _; unfold Ky.guess; rw [if_neg (by omega), if_neg (by omega), if_neg (by omega), if_neg (by omega)]
  have k1 : (k == 1) = false := by rw [beq_eq_false_iff_ne]; omega
  have k2 : (k == 2) = false := by rw [beq_eq_false_iff_ne]; omega
  have k3 : (k == 3) = false := by rw [beq_eq_false_iff_ne]; omega
  have k4 : (k == 4) = false := by rw [beq_eq_false_iff_ne]; omega
  have k5 : (k == 5) = false := by rw [beq_eq_false_iff_ne]; omega
  rw [hk]
  generalize hcn : c.toNat = n at *
  clear n0 n1 n2 n3 n4 n5 h1 h2 h3 h4 h5 hn hk hc0
  go_enter Try.func33, Try.ntmps33
  go_wp2_with fail
  refine bodyPost_ret (v := .agg #[.int .i64 k, .int .i64 0, .int .u64 0, .string ⟨#[]⟩]) (by simp [results, Try.results33, go_sem]) rfl ?_
  rw [HE.out]
  exact ⟨rfl, hnext (hba _ _) (hba _ _)⟩
set_option maxRecDepth 100000 in
set_option maxHeartbeats 3200000 in
theorem guess4 (t : List UInt8) (ht : t.length ≤ 1000000) (w : World) :
    Calls Try.prog 33 #[.string (bstr (5 :: t))] w fun e w' => e = .returned (vvV (Ky.guess 4 t)) ∧ Below w.heap.size w w' := by
  have hs : (bstr (5 :: t)).size = t.length + 1 := rfl
  have hst : (bstr t).size = t.length := rfl
  have hix : ∀ h : 0 < (bstr (5 :: t)).size, (bstr (5 :: t))[0]'h = 5 := fun _ => rfl
  have e1 : (bstr (5 :: t)).extract 1 (t.length + 1) = bstr t := ba_eq (extract_drop (bstr (5 :: t)) 1)
  have HE : Hid (Ky.guess 4 t = ⟨4, 0, 0, bstr (Ky.gt t)⟩) := rfl
  go_enter Try.func33, Try.ntmps33
  go_wp2_with fail
  obtain ⟨L2, bz, bv⟩ := two_new w 4
  go_loopw [7, 6] (fun i v wr => ∃ (k : Nat) (acc : List UInt8), k ≤ t.length + 1 ∧ i = .int .i64 (k : Int) ∧ Own8 wr (w.heap.size + 2) v acc ∧ Hid (Ky.gt t = acc ++ Ky.gt (t.drop k)) ∧ Hid (acc.length ≤ k) ∧ Below w.heap.size w wr ∧ BV wr w.heap.size 0 0 0 ⟨#[]⟩ ∧ BV wr (w.heap.size + 1) 4 0 0 ⟨#[]⟩) (fun i _ _ => t.length + 1 - (intOf i).toNat)
  case atStart => exact ⟨0, [], by omega, rfl, World.ownsRow_nil _ _ _ _, rfl, Nat.le_refl _, L2, bz, bv⟩
  case round =>
    clear L2 bz bv
    obtain ⟨k, acc, hk, rfl, hown, hE, hL, hbel, bz1, bv1⟩ := hrel
    obtain ⟨w4, rfl⟩ : ∃ w4 : World, w4 = wr := ⟨_, rfl⟩
    have HO := hid hown
    have HZ := hid bz1
    have HV := hid bv1
    have HB := hid hbel
    have HSZ : Hid (w.heap.size + 2 ≤ w4.heap.size) := by have := bv1.cells.2.2.2.2.2.2.2.2; show _ ≤ _; omega
    clear hown
    have hk0 : (0 : Int) ≤ (k : Int) := by omega
    by_cases hkl : k < t.length
    · clear bz1 bv1 hbel
      have hkl' : (k : Int) < (t.length : Int) := by omega
      have HD := hid (List.drop_eq_getElem_cons hkl)
      have hidx : ∀ h : k < (bstr t).size, (bstr t)[k]'h = t[k]'hkl := fun _ => rfl
      generalize t[k]'hkl = c at HD hidx
      by_cases hc : c = 0
      · subst hc
        by_cases hk2 : k + 1 < t.length
        · have hk2' : (k : Int) + 1 < (t.length : Int) := by omega
          have hk1 : IntKind.i64.wrap ((k : Int) + 1) = ((k + 1 : Nat) : Int) := by rw [IntKind.wrap_i64]; omega
          have HD2 := hid (List.drop_eq_getElem_cons hk2)
          have hidx2 : ∀ h : k + 1 < (bstr t).size, (bstr t)[k + 1]'h = t[k + 1]'hk2 := fun _ => rfl
          generalize t[k + 1]'hk2 = d at HD2 hidx2
          by_cases hd : d = 1
          · subst hd
            have HG : Hid (Ky.gt t = acc ++ []) := by show _ = _; rw [hE.out, HD.out, HD2.out, Ky.gt_end]
            go_wp2_with fail
            go_roundw
            case rel => exact ⟨t.length + 1, acc, by omega, by go_num, HO.out, by have := HG.out; show _ = _; rw [this, List.drop_of_length_le (by omega)]; rfl, by have := hL.out; show _ ≤ _; omega, HB.out, HZ.out, HV.out⟩
            case measure => simp [intOf]; omega
          · have e9 : ((d.toNat : Int) == 1) = false := by
              rw [beq_eq_false_iff_ne]; intro h; exact hd (UInt8.toNat_inj.1 (by show d.toNat = 1; omega))
            have HG : Hid (Ky.gt t = (acc ++ [0]) ++ Ky.gt (t.drop (k + 2))) := by show _ = _; rw [hE.out, HD.out, HD2.out, Ky.gt_zero _ _ hd, List.append_assoc]; rfl
            have HLA : Hid (acc.length + 1 ≤ 140737488355328) := by have := hL.out; show _ ≤ _; omega
            go_wp2_with (at_builtin; go_loud (refine append_byte _ rfl _ _ rfl (w.heap.size + 2) _ acc rfl HO.out 0 _ rfl _ rfl rfl HLA.out HSZ.out ?_; intro v2 w7 own2 gr2; have O7 := hid own2; have Z7 := hid (bv_grow HZ.out gr2 (Nat.lt_succ_of_lt (Nat.lt_succ_self _)) HO.out.ge); have V7 := hid (bv_grow HV.out gr2 (Nat.lt_succ_self _) HO.out.ge); have B7 := hid (Below.grown HB.out gr2 HB.out.size (fun q e => by have := HO.out.ge q e; omega)); clear own2 gr2))
            go_roundw
            case rel => exact ⟨k + 2, acc ++ [0], by omega, by go_num, O7.out, HG.out, by have := hL.out; show _ ≤ _; rw [List.length_append]; show _ + 1 ≤ _; omega, B7.out, Z7.out, V7.out⟩
            case measure => simp [intOf]; omega
        · have hk2' : ¬ (k : Int) + 1 < (t.length : Int) := by omega
          have HG : Hid (Ky.gt t = (acc ++ [0]) ++ Ky.gt (t.drop (k + 2))) := by show _ = _; rw [hE.out, HD.out, List.drop_of_length_le (i := k + 1) (by omega), List.drop_of_length_le (i := k + 2) (by omega), Ky.gt_one, List.append_assoc]; rfl
          have HLA : Hid (acc.length + 1 ≤ 140737488355328) := by have := hL.out; show _ ≤ _; omega
          go_wp2_with (at_builtin; go_loud (refine append_byte _ rfl _ _ rfl (w.heap.size + 2) _ acc rfl HO.out 0 _ rfl _ rfl rfl HLA.out HSZ.out ?_; intro v2 w7 own2 gr2; have O7 := hid own2; have Z7 := hid (bv_grow HZ.out gr2 (Nat.lt_succ_of_lt (Nat.lt_succ_self _)) HO.out.ge); have V7 := hid (bv_grow HV.out gr2 (Nat.lt_succ_self _) HO.out.ge); have B7 := hid (Below.grown HB.out gr2 HB.out.size (fun q e => by have := HO.out.ge q e; omega)); clear own2 gr2))
          go_roundw
          case rel => exact ⟨k + 2, acc ++ [0], by omega, by go_num, O7.out, HG.out, by have := hL.out; show _ ≤ _; rw [List.length_append]; show _ + 1 ≤ _; omega, B7.out, Z7.out, V7.out⟩
          case measure => simp [intOf]; omega
      · have e9 : ((c.toNat : Int) == 0) = false := by
          rw [beq_eq_false_iff_ne]; intro h; exact hc (UInt8.toNat_inj.1 (by show c.toNat = 0; omega))
        have HG : Hid (Ky.gt t = (acc ++ [c]) ++ Ky.gt (t.drop (k + 1))) := by show _ = _; rw [hE.out, HD.out, Ky.gt_byte _ _ hc, List.append_assoc]; rfl
        have HLA : Hid (acc.length + 1 ≤ 140737488355328) := by have := hL.out; show _ ≤ _; omega
        go_wp2_with (at_builtin; go_loud (refine append_byte _ rfl _ _ rfl (w.heap.size + 2) _ acc rfl HO.out c _ rfl _ rfl rfl HLA.out HSZ.out ?_; intro v2 w7 own2 gr2; have O7 := hid own2; have Z7 := hid (bv_grow HZ.out gr2 (Nat.lt_succ_of_lt (Nat.lt_succ_self _)) HO.out.ge); have V7 := hid (bv_grow HV.out gr2 (Nat.lt_succ_self _) HO.out.ge); have B7 := hid (Below.grown HB.out gr2 HB.out.size (fun q e => by have := HO.out.ge q e; omega)); clear own2 gr2))
        go_roundw
        case rel => exact ⟨k + 1, acc ++ [c], by omega, by go_num, O7.out, HG.out, by have := hL.out; show _ ≤ _; rw [List.length_append]; show _ + 1 ≤ _; omega, B7.out, Z7.out, V7.out⟩
        case measure => simp [intOf]; omega
    · have hkl' : ¬ (k : Int) < (t.length : Int) := by omega
      have HG : Hid (Ky.gt t = acc) := by show _ = _; rw [hE.out, List.drop_of_length_le (by omega)]; exact List.append_nil _
      have hst := run_string_of_bytes (P := Try.prog) w4 (w.heap.size + 2) 50 9 5 _ _ Try.underlying50 Try.underlying5 Try.underlying9 (BytesAt.own HO.out)
      obtain ⟨v0, v1, v2, v3, vf0, vf1, vf2, vf3, vl⟩ := bv1.cells
      obtain ⟨z0, z1, z2, z3, zf0, zf1, zf2, zf3, zl⟩ := bz1.cells
      go_wp2_with fail
      refine bodyPost_ret (v := .agg #[.int .i64 4, .int .i64 0, .int .u64 0, .string (bstr acc)]) (by simp [results, Try.results33, go_sem, z0, z1, z2, z3]) rfl ?_
      rw [HE.out, HG.out]
      refine ⟨rfl, ?_⟩
      exact (((((HB.out.setCell (p := ⟨w.heap.size + 1, 3, none⟩) (Nat.le_succ _) _).setCell (p := ⟨w.heap.size, 0, none⟩) (Nat.le_refl _) _).setCell (p := ⟨w.heap.size, 1, none⟩) (Nat.le_refl _) _).setCell (p := ⟨w.heap.size, 2, none⟩) (Nat.le_refl _) _).setCell (p := ⟨w.heap.size, 3, none⟩) (Nat.le_refl _) _)
set_option maxRecDepth 100000 in
set_option maxHeartbeats 3200000 in
theorem guess5 (t : List UInt8) (ht : t.length ≤ 1000000) (w : World) :
    Calls Try.prog 33 #[.string (bstr (6 :: t))] w fun e w' => e = .returned (vvV (Ky.guess 5 t)) ∧ Below w.heap.size w w' := by
  have hs : (bstr (6 :: t)).size = t.length + 1 := rfl
  have hst : (bstr t).size = t.length := rfl
  have hix : ∀ h : 0 < (bstr (6 :: t)).size, (bstr (6 :: t))[0]'h = 6 := fun _ => rfl
  have e1 : (bstr (6 :: t)).extract 1 (t.length + 1) = bstr t := ba_eq (extract_drop (bstr (6 :: t)) 1)
  have HE : Hid (Ky.guess 5 t = ⟨5, 0, 0, bstr (Ky.gt t)⟩) := rfl
  go_enter Try.func33, Try.ntmps33
  go_wp2_with fail
  obtain ⟨L2, bz, bv⟩ := two_new w 5
  go_loopw [7, 6] (fun i v wr => ∃ (k : Nat) (acc : List UInt8), k ≤ t.length + 1 ∧ i = .int .i64 (k : Int) ∧ Own8 wr (w.heap.size + 2) v acc ∧ Hid (Ky.gt t = acc ++ Ky.gt (t.drop k)) ∧ Hid (acc.length ≤ k) ∧ Below w.heap.size w wr ∧ BV wr w.heap.size 0 0 0 ⟨#[]⟩ ∧ BV wr (w.heap.size + 1) 5 0 0 ⟨#[]⟩) (fun i _ _ => t.length + 1 - (intOf i).toNat)
  case atStart => exact ⟨0, [], by omega, rfl, World.ownsRow_nil _ _ _ _, rfl, Nat.le_refl _, L2, bz, bv⟩
  case round =>
    clear L2 bz bv
    obtain ⟨k, acc, hk, rfl, hown, hE, hL, hbel, bz1, bv1⟩ := hrel
    obtain ⟨w4, rfl⟩ : ∃ w4 : World, w4 = wr := ⟨_, rfl⟩
    have HO := hid hown
    have HZ := hid bz1
    have HV := hid bv1
    have HB := hid hbel
    have HSZ : Hid (w.heap.size + 2 ≤ w4.heap.size) := by have := bv1.cells.2.2.2.2.2.2.2.2; show _ ≤ _; omega
    clear hown
    have hk0 : (0 : Int) ≤ (k : Int) := by omega
    by_cases hkl : k < t.length
    · clear bz1 bv1 hbel
      have hkl' : (k : Int) < (t.length : Int) := by omega
      have HD := hid (List.drop_eq_getElem_cons hkl)
      have hidx : ∀ h : k < (bstr t).size, (bstr t)[k]'h = t[k]'hkl := fun _ => rfl
      generalize t[k]'hkl = c at HD hidx
      by_cases hc : c = 0
      · subst hc
        by_cases hk2 : k + 1 < t.length
        · have hk2' : (k : Int) + 1 < (t.length : Int) := by omega
          have hk1 : IntKind.i64.wrap ((k : Int) + 1) = ((k + 1 : Nat) : Int) := by rw [IntKind.wrap_i64]; omega
          have HD2 := hid (List.drop_eq_getElem_cons hk2)
          have hidx2 : ∀ h : k + 1 < (bstr t).size, (bstr t)[k + 1]'h = t[k + 1]'hk2 := fun _ => rfl
          generalize t[k + 1]'hk2 = d at HD2 hidx2
          by_cases hd : d = 1
          · subst hd
            have HG : Hid (Ky.gt t = acc ++ []) := by show _ = _; rw [hE.out, HD.out, HD2.out, Ky.gt_end]
            go_wp2_with fail
            go_roundw
            case rel => exact ⟨t.length + 1, acc, by omega, by go_num, HO.out, by have := HG.out; show _ = _; rw [this, List.drop_of_length_le (by omega)]; rfl, by have := hL.out; show _ ≤ _; omega, HB.out, HZ.out, HV.out⟩
            case measure => simp [intOf]; omega
          · have e9 : ((d.toNat : Int) == 1) = false := by
              rw [beq_eq_false_iff_ne]; intro h; exact hd (UInt8.toNat_inj.1 (by show d.toNat = 1; omega))
            have HG : Hid (Ky.gt t = (acc ++ [0]) ++ Ky.gt (t.drop (k + 2))) := by show _ = _; rw [hE.out, HD.out, HD2.out, Ky.gt_zero _ _ hd, List.append_assoc]; rfl
            have HLA : Hid (acc.length + 1 ≤ 140737488355328) := by have := hL.out; show _ ≤ _; omega
            go_wp2_with (at_builtin; go_loud (refine append_byte _ rfl _ _ rfl (w.heap.size + 2) _ acc rfl HO.out 0 _ rfl _ rfl rfl HLA.out HSZ.out ?_; intro v2 w7 own2 gr2; have O7 := hid own2; have Z7 := hid (bv_grow HZ.out gr2 (Nat.lt_succ_of_lt (Nat.lt_succ_self _)) HO.out.ge); have V7 := hid (bv_grow HV.out gr2 (Nat.lt_succ_self _) HO.out.ge); have B7 := hid (Below.grown HB.out gr2 HB.out.size (fun q e => by have := HO.out.ge q e; omega)); clear own2 gr2))
            go_roundw
            case rel => exact ⟨k + 2, acc ++ [0], by omega, by go_num, O7.out, HG.out, by have := hL.out; show _ ≤ _; rw [List.length_append]; show _ + 1 ≤ _; omega, B7.out, Z7.out, V7.out⟩
            case measure => simp [intOf]; omega
        · have hk2' : ¬ (k : Int) + 1 < (t.length : Int) := by omega
          have HG : Hid (Ky.gt t = (acc ++ [0]) ++ Ky.gt (t.drop (k + 2))) := by show _ = _; rw [hE.out, HD.out, List.drop_of_length_le (i := k + 1) (by omega), List.drop_of_length_le (i := k + 2) (by omega), Ky.gt_one, List.append_assoc]; rfl
          have HLA : Hid (acc.length + 1 ≤ 140737488355328) := by have := hL.out; show _ ≤ _; omega
          go_wp2_with (at_builtin; go_loud (refine append_byte _ rfl _ _ rfl (w.heap.size + 2) _ acc rfl HO.out 0 _ rfl _ rfl rfl HLA.out HSZ.out ?_; intro v2 w7 own2 gr2; have O7 := hid own2; have Z7 := hid (bv_grow HZ.out gr2 (Nat.lt_succ_of_lt (Nat.lt_succ_self _)) HO.out.ge); have V7 := hid (bv_grow HV.out gr2 (Nat.lt_succ_self _) HO.out.ge); have B7 := hid (Below.grown HB.out gr2 HB.out.size (fun q e => by have := HO.out.ge q e; omega)); clear own2 gr2))
          go_roundw
          case rel => exact ⟨k + 2, acc ++ [0], by omega, by go_num, O7.out, HG.out, by have := hL.out; show _ ≤ _; rw [List.length_append]; show _ + 1 ≤ _; omega, B7.out, Z7.out, V7.out⟩
          case measure => simp [intOf]; omega
      · have e9 : ((c.toNat : Int) == 0) = false := by
          rw [beq_eq_false_iff_ne]; intro h; exact hc (UInt8.toNat_inj.1 (by show c.toNat = 0; omega))
        have HG : Hid (Ky.gt t = (acc ++ [c]) ++ Ky.gt (t.drop (k + 1))) := by show _ = _; rw [hE.out, HD.out, Ky.gt_byte _ _ hc, List.append_assoc]; rfl
        have HLA : Hid (acc.length + 1 ≤ 140737488355328) := by have := hL.out; show _ ≤ _; omega
        go_wp2_with (at_builtin; go_loud (refine append_byte _ rfl _ _ rfl (w.heap.size + 2) _ acc rfl HO.out c _ rfl _ rfl rfl HLA.out HSZ.out ?_; intro v2 w7 own2 gr2; have O7 := hid own2; have Z7 := hid (bv_grow HZ.out gr2 (Nat.lt_succ_of_lt (Nat.lt_succ_self _)) HO.out.ge); have V7 := hid (bv_grow HV.out gr2 (Nat.lt_succ_self _) HO.out.ge); have B7 := hid (Below.grown HB.out gr2 HB.out.size (fun q e => by have := HO.out.ge q e; omega)); clear own2 gr2))
        go_roundw
        case rel => exact ⟨k + 1, acc ++ [c], by omega, by go_num, O7.out, HG.out, by have := hL.out; show _ ≤ _; rw [List.length_append]; show _ + 1 ≤ _; omega, B7.out, Z7.out, V7.out⟩
        case measure => simp [intOf]; omega
    · have hkl' : ¬ (k : Int) < (t.length : Int) := by omega
      have HG : Hid (Ky.gt t = acc) := by show _ = _; rw [hE.out, List.drop_of_length_le (by omega)]; exact List.append_nil _
      have hst := run_string_of_bytes (P := Try.prog) w4 (w.heap.size + 2) 50 9 5 _ _ Try.underlying50 Try.underlying5 Try.underlying9 (BytesAt.own HO.out)
      obtain ⟨v0, v1, v2, v3, vf0, vf1, vf2, vf3, vl⟩ := bv1.cells
      obtain ⟨z0, z1, z2, z3, zf0, zf1, zf2, zf3, zl⟩ := bz1.cells
      go_wp2_with fail
      refine bodyPost_ret (v := .agg #[.int .i64 5, .int .i64 0, .int .u64 0, .string (bstr acc)]) (by simp [results, Try.results33, go_sem, z0, z1, z2, z3]) rfl ?_
      rw [HE.out, HG.out]
      refine ⟨rfl, ?_⟩
      exact (((((HB.out.setCell (p := ⟨w.heap.size + 1, 3, none⟩) (Nat.le_succ _) _).setCell (p := ⟨w.heap.size, 0, none⟩) (Nat.le_refl _) _).setCell (p := ⟨w.heap.size, 1, none⟩) (Nat.le_refl _) _).setCell (p := ⟨w.heap.size, 2, none⟩) (Nat.le_refl _) _).setCell (p := ⟨w.heap.size, 3, none⟩) (Nat.le_refl _) _)
end Go.Proofs.Ytimcmpcfnddioaa
