/-
  PredLeaves answers true at any two values. No condition.
-/
import Derived.Test.YtfdehigepgeknaaPk
namespace Go.Proofs.Ytfdehigepgeknaa
open Go.RowKit Pd

theorem row1_new (w : World) (x : Cd.V) : VsAt (w.alloc (.cells #[.int .i64 x.k, .int .i64 x.n, .int .u64 (x.b : Int), .string x.s] 39)) (.slice (some ⟨w.heap.size, 0, none⟩) 1 1) [x] := VsAt.own (BR.own (l := [x]) (B := 0) (heap_alloc_new w _ : BR _ _ [x]) (Nat.zero_le _) (show 1 ≤ maxLen by decide))
theorem node1_new (w : World) (x : N) : NsAt (w.alloc (.cells #[.int .i64 x.op, .int .i64 x.col, .int .i64 x.v.k, .int .i64 x.v.n, .int .u64 (x.v.b : Int), .string x.v.s] 41)) (.slice (some ⟨w.heap.size, 0, none⟩) 1 1) [x] := NsAt.row (l := [x]) (heap_alloc_new w _) rfl
namespace Pd
def Ft (x y : Cd.V) (i : Nat) : Int := leafV ⟨(i : Int), 0, y⟩ x
theorem eval_leaf (x y : Cd.V) (k : Nat) (h0 : 1 ≤ k) (h1 : k ≤ 8) : evalI [⟨(k : Int), 0, y⟩] [x] = Ft x y k := by
  have h := evalI_tree [x] (t := .leaf ⟨(k : Int), 0, y⟩) ⟨by show (1 : Int) ≤ k; omega, by show (k : Int) ≤ 8; omega⟩ (show 1 ≤ 40 by decide) rfl
  exact h
def tA (F : Nat → Int) (k : Nat) : Array Value := ((List.range 9).map fun i => Value.int .i64 (if 1 ≤ i ∧ i < k then F i else 0)).toArray
theorem tA_one (F : Nat → Int) : tA F 1 = #[.int .i64 0, .int .i64 0, .int .i64 0, .int .i64 0, .int .i64 0, .int .i64 0, .int .i64 0, .int .i64 0, .int .i64 0] := by
  unfold tA
  have : ∀ i, (if 1 ≤ i ∧ i < 1 then F i else 0) = (0 : Int) := fun i => if_neg (by omega)
  simp only [this]; rfl
theorem tA_get (F : Nat → Int) (k i : Nat) (h : i < 9) : (tA F k)[i]? = some (.int .i64 (if 1 ≤ i ∧ i < k then F i else 0)) := by
  unfold tA
  simp [h]
theorem tA_set (F : Nat → Int) (k : Nat) (h0 : 1 ≤ k) (h1 : k < 9) : (tA F k).setIfInBounds k (.int .i64 (F k)) = tA F (k + 1) := by
  apply Array.ext_getElem?
  intro i
  by_cases hi : i < 9
  · rw [tA_get F (k + 1) i hi, Array.getElem?_setIfInBounds]
    by_cases e : k = i
    · subst e
      rw [if_pos rfl, if_pos (by simp [tA]; exact hi), if_pos ⟨h0, Nat.lt_succ_self _⟩]
    · rw [if_neg e, tA_get F k i hi]
      by_cases h2 : 1 ≤ i ∧ i < k
      · rw [if_pos h2, if_pos ⟨h2.1, by omega⟩]
      · rw [if_neg h2, if_neg (by omega)]
  · rw [Array.getElem?_setIfInBounds, if_neg (by omega), Array.getElem?_eq_none (by simp [tA]; omega), Array.getElem?_eq_none (by simp [tA]; omega)]
theorem Ft_null {x y : Cd.V} (h : x.k = 0 ∨ y.k = 0) (i : Nat) (h1 : i ≤ 6) : Ft x y i = -1 := by
  unfold Ft leafV
  rw [if_neg (by show ¬ (i : Int) = 7; omega), if_neg (by show ¬ (i : Int) = 8; omega), if_pos h]
theorem Ft_cmp {x y : Cd.V} (h1 : x.k ≠ 0) (h2 : y.k ≠ 0) (i : Nat) (h : i ≤ 6) : Ft x y i = tr (opB i (Ky.cmp x y)) := by
  unfold Ft leafV
  rw [if_neg (by show ¬ (i : Int) = 7; omega), if_neg (by show ¬ (i : Int) = 8; omega), if_neg (by rintro (g | g); exact h1 g; exact h2 g)]
theorem cmp_ways (c : Int) : (c < 0 ∧ tr (opB (1 : Nat) c) = 0 ∧ tr (opB (2 : Nat) c) = 1 ∧ tr (opB (3 : Nat) c) = 1 ∧ tr (opB (4 : Nat) c) = 1 ∧ tr (opB (5 : Nat) c) = 0 ∧ tr (opB (6 : Nat) c) = 0) ∨
    (c = 0 ∧ tr (opB (1 : Nat) c) = 1 ∧ tr (opB (2 : Nat) c) = 0 ∧ tr (opB (3 : Nat) c) = 0 ∧ tr (opB (4 : Nat) c) = 1 ∧ tr (opB (5 : Nat) c) = 0 ∧ tr (opB (6 : Nat) c) = 1) ∨
    (0 < c ∧ tr (opB (1 : Nat) c) = 0 ∧ tr (opB (2 : Nat) c) = 1 ∧ tr (opB (3 : Nat) c) = 0 ∧ tr (opB (4 : Nat) c) = 0 ∧ tr (opB (5 : Nat) c) = 1 ∧ tr (opB (6 : Nat) c) = 1) := by
  rcases Int.lt_trichotomy c 0 with h | rfl | h
  · refine .inl ⟨h, ?_⟩
    simp [opB, tr]; omega
  · exact .inr (.inl ⟨rfl, by decide, by decide, by decide, by decide, by decide, by decide⟩)
  · refine .inr (.inr ⟨h, ?_⟩)
    simp [opB, tr]; omega
end Pd
set_option maxRecDepth 100000 in
set_option maxHeartbeats 6400000 in
theorem predLeaves_walk (vk vn : Int) (vb : Nat) (vs : ByteArray) (uk un : Int) (ub : Nat) (us : ByteArray) (w : World) (hv : (-9223372036854775808 ≤ vn ∧ vn ≤ 9223372036854775807) ∧ vb < 18446744073709551616 ∧ vs.size ≤ maxLen) (hu : (-9223372036854775808 ≤ un ∧ un ≤ 9223372036854775807) ∧ ub < 18446744073709551616 ∧ us.size ≤ maxLen) :
    Calls Try.prog 6 #[(.agg #[.int .i64 vk, .int .i64 vn, .int .u64 (vb : Int), .string vs]), (.agg #[.int .i64 uk, .int .i64 un, .int .u64 (ub : Int), .string us])] w fun e w' => e = .returned (.bool true) ∧ Below w.heap.size w w' := by
  obtain ⟨⟨v0, v1⟩, v2, v3⟩ := hv
  obtain ⟨⟨u0, u1⟩, u2, u3⟩ := hu
  have hvs := hid v3
  have hus := hid u3
  unfold maxLen at v3 u3
  have LZ := hid (hnext (hba w (.cells #[.int .i64 vk, .int .i64 vn, .int .u64 (vb : Int), .string vs] 39)) (hba _ (.cells #[.int .i64 uk, .int .i64 un, .int .u64 (ub : Int), .string us] 39)))
  by_cases yv : 200 < vs.size
  · have yv' : (200 : Int) < (vs.size : Int) := by omega
    go_enter Try.func6, Try.ntmps6
    go_wp2_with fail
    refine (known_any _).mono ?_; rintro e w1 ⟨rfl, b1⟩
    go_wp2
    go_ret
    exact ⟨rfl, hnext LZ.out b1⟩
  have yv' : ¬ (200 : Int) < (vs.size : Int) := by omega
  by_cases yu : 200 < us.size
  · have yu' : (200 : Int) < (us.size : Int) := by omega
    go_enter Try.func6, Try.ntmps6
    go_wp2_with fail
    refine (known_any _).mono ?_; rintro e w1 ⟨rfl, b1⟩
    go_wp2
    go_ret
    exact ⟨rfl, hnext LZ.out b1⟩
  have yu' : ¬ (200 : Int) < (us.size : Int) := by omega
  clear LZ yv yu v0 v1 v2 v3 u0 u1 u2 u3
  go_enter Try.func6, Try.ntmps6
  go_wp2_with fail
  have A := hid (BV.keep (BV.keep (BV.keep (BV.new w vk vn vb vs) (hba _ (.cells #[.int .i64 uk, .int .i64 un, .int .u64 (ub : Int), .string us] 39))) (hba _ (.cells #[.int .i64 vk, .int .i64 vn, .int .u64 (vb : Int), .string vs] 39))) (hba _ (.cells #[.int .i64 0, .int .i64 0, .int .i64 0, .int .i64 0, .int .i64 0, .int .i64 0, .int .i64 0, .int .i64 0, .int .i64 0] 48)))
  have B0 := BV.new (w.alloc (.cells #[.int .i64 vk, .int .i64 vn, .int .u64 (vb : Int), .string vs] 39)) uk un ub us
  rw [show (w.alloc (.cells #[.int .i64 vk, .int .i64 vn, .int .u64 (vb : Int), .string vs] 39)).heap.size = w.heap.size + 1 by simp] at B0
  have B := hid (BV.keep (BV.keep B0 (hba _ (.cells #[.int .i64 vk, .int .i64 vn, .int .u64 (vb : Int), .string vs] 39))) (hba _ (.cells #[.int .i64 0, .int .i64 0, .int .i64 0, .int .i64 0, .int .i64 0, .int .i64 0, .int .i64 0, .int .i64 0, .int .i64 0] 48)))
  have R0 := row1_new ((w.alloc (.cells #[.int .i64 vk, .int .i64 vn, .int .u64 (vb : Int), .string vs] 39)).alloc (.cells #[.int .i64 uk, .int .i64 un, .int .u64 (ub : Int), .string us] 39)) (⟨vk, vn, vb, vs⟩ : Cd.V)
  rw [show ((w.alloc (.cells #[.int .i64 vk, .int .i64 vn, .int .u64 (vb : Int), .string vs] 39)).alloc (.cells #[.int .i64 uk, .int .i64 un, .int .u64 (ub : Int), .string us] 39)).heap.size = w.heap.size + 1 + 1 by simp] at R0
  have R : Hid (VsAt ((((w.alloc (.cells #[.int .i64 vk, .int .i64 vn, .int .u64 (vb : Int), .string vs] 39)).alloc (.cells #[.int .i64 uk, .int .i64 un, .int .u64 (ub : Int), .string us] 39)).alloc (.cells #[.int .i64 vk, .int .i64 vn, .int .u64 (vb : Int), .string vs] 39)).alloc (.cells #[.int .i64 0, .int .i64 0, .int .i64 0, .int .i64 0, .int .i64 0, .int .i64 0, .int .i64 0, .int .i64 0, .int .i64 0] 48)) (.slice (some ⟨w.heap.size + 1 + 1, 0, none⟩) 1 1) [(⟨vk, vn, vb, vs⟩ : Cd.V)]) := R0.below (hba _ (.cells #[.int .i64 0, .int .i64 0, .int .i64 0, .int .i64 0, .int .i64 0, .int .i64 0, .int .i64 0, .int .i64 0, .int .i64 0] 48))
  have T0 := heap_alloc_new (((w.alloc (.cells #[.int .i64 vk, .int .i64 vn, .int .u64 (vb : Int), .string vs] 39)).alloc (.cells #[.int .i64 uk, .int .i64 un, .int .u64 (ub : Int), .string us] 39)).alloc (.cells #[.int .i64 vk, .int .i64 vn, .int .u64 (vb : Int), .string vs] 39)) (.cells #[.int .i64 0, .int .i64 0, .int .i64 0, .int .i64 0, .int .i64 0, .int .i64 0, .int .i64 0, .int .i64 0, .int .i64 0] 48)
  rw [show (((w.alloc (.cells #[.int .i64 vk, .int .i64 vn, .int .u64 (vb : Int), .string vs] 39)).alloc (.cells #[.int .i64 uk, .int .i64 un, .int .u64 (ub : Int), .string us] 39)).alloc (.cells #[.int .i64 vk, .int .i64 vn, .int .u64 (vb : Int), .string vs] 39)).heap.size = w.heap.size + 1 + 1 + 1 by simp] at T0
  have TT : Hid (((((w.alloc (.cells #[.int .i64 vk, .int .i64 vn, .int .u64 (vb : Int), .string vs] 39)).alloc (.cells #[.int .i64 uk, .int .i64 un, .int .u64 (ub : Int), .string us] 39)).alloc (.cells #[.int .i64 vk, .int .i64 vn, .int .u64 (vb : Int), .string vs] 39)).alloc (.cells #[.int .i64 0, .int .i64 0, .int .i64 0, .int .i64 0, .int .i64 0, .int .i64 0, .int .i64 0, .int .i64 0, .int .i64 0] 48)).heap[w.heap.size + 1 + 1 + 1]? = some (.cells (tA (Ft (⟨vk, vn, vb, vs⟩ : Cd.V) ⟨uk, un, ub, us⟩) 1) 48 (0, 0))) := by show _ = _; rw [tA_one]; exact T0
  have L := hid (hnext (hba w (.cells #[.int .i64 vk, .int .i64 vn, .int .u64 (vb : Int), .string vs] 39)) (hnext (hba _ (.cells #[.int .i64 uk, .int .i64 un, .int .u64 (ub : Int), .string us] 39)) (hnext (hba _ (.cells #[.int .i64 vk, .int .i64 vn, .int .u64 (vb : Int), .string vs] 39)) (hba _ (.cells #[.int .i64 0, .int .i64 0, .int .i64 0, .int .i64 0, .int .i64 0, .int .i64 0, .int .i64 0, .int .i64 0, .int .i64 0] 48)))))
  clear B0 R0 T0
  obtain ⟨gT, hgT⟩ : ∃ g, w.heap.size + 1 + 1 + 1 = g := ⟨_, rfl⟩
  obtain ⟨gR, hgR⟩ : ∃ g, w.heap.size + 1 + 1 = g := ⟨_, rfl⟩
  obtain ⟨gB, hgB⟩ : ∃ g, w.heap.size + 1 = g := ⟨_, rfl⟩
  have hge : w.heap.size ≤ gT := by omega
  have nA : w.heap.size ≠ gT := by omega
  have nB : gB ≠ gT := by omega
  have nR : gR ≠ gT := by omega
  obtain ⟨w1, hw1⟩ : ∃ w1, ((((w.alloc (.cells #[.int .i64 vk, .int .i64 vn, .int .u64 (vb : Int), .string vs] 39)).alloc (.cells #[.int .i64 uk, .int .i64 un, .int .u64 (ub : Int), .string us] 39)).alloc (.cells #[.int .i64 vk, .int .i64 vn, .int .u64 (vb : Int), .string vs] 39)).alloc (.cells #[.int .i64 0, .int .i64 0, .int .i64 0, .int .i64 0, .int .i64 0, .int .i64 0, .int .i64 0, .int .i64 0, .int .i64 0] 48)) = w1 := ⟨_, rfl⟩
  rw [hgT] at TT ⊢
  rw [hgR] at R ⊢
  rw [hgB] at B ⊢
  rw [hw1] at A B R TT L ⊢
  clear hw1 hgT hgR hgB
  go_loopw [7] (fun i wr => ∃ k : Nat, 1 ≤ k ∧ k ≤ 9 ∧ i = .int .i64 (k : Int) ∧ wr.heap[gT]? = some (.cells (tA (Ft (⟨vk, vn, vb, vs⟩ : Cd.V) ⟨uk, un, ub, us⟩) k) 48 (0, 0)) ∧ BV wr w.heap.size vk vn vb vs ∧ BV wr gB uk un ub us ∧ VsAt wr (.slice (some ⟨gR, 0, none⟩) 1 1) [(⟨vk, vn, vb, vs⟩ : Cd.V)] ∧ Below w.heap.size w wr) (fun i _ => 9 - (intOf i).toNat)
  case atStart => exact ⟨1, by omega, by omega, rfl, TT.out, A.out, B.out, R.out, L.out⟩
  case round =>
    obtain ⟨k, hk1, hk9, rfl, hT, hA, hB, hR, hbel⟩ := hrel
    obtain ⟨w4, rfl⟩ : ∃ w4 : World, w4 = wr := ⟨_, rfl⟩
    clear A B R TT L
    have hk0 : (0 : Int) ≤ (k : Int) := by omega
    by_cases hk8 : k ≤ 8
    · have hk8' : (k : Int) ≤ 8 := by omega
      have hk9' : (k : Int) < 9 := by omega
      have N1 := hid (node1_new w4 ⟨(k : Int), 0, ⟨uk, un, ub, us⟩⟩)
      have HA := hid (hA.keep (hba w4 (.cells #[.int .i64 (k : Int), .int .i64 0, .int .i64 uk, .int .i64 un, .int .u64 (ub : Int), .string us] 41)))
      have HB := hid (hB.keep (hba w4 (.cells #[.int .i64 (k : Int), .int .i64 0, .int .i64 uk, .int .i64 un, .int .u64 (ub : Int), .string us] 41)))
      have HR := hid (hR.below (hba w4 (.cells #[.int .i64 (k : Int), .int .i64 0, .int .i64 uk, .int .i64 un, .int .u64 (ub : Int), .string us] 41)))
      have HT := hid (keepBlock hT (hba w4 (.cells #[.int .i64 (k : Int), .int .i64 0, .int .i64 uk, .int .i64 un, .int .u64 (ub : Int), .string us] 41)))
      have HL := hid (hnext hbel (hba w4 (.cells #[.int .i64 (k : Int), .int .i64 0, .int .i64 uk, .int .i64 un, .int .u64 (ub : Int), .string us] 41)))
      obtain ⟨b0, b1, b2, b3, bf0, bf1, bf2, bf3, bl⟩ := hB.cells
      have ce := eval_any _ _ [⟨(k : Int), 0, ⟨uk, un, ub, us⟩⟩] [(⟨vk, vn, vb, vs⟩ : Cd.V)] _ N1.out HR.out (show 1 ≤ 1000000 by decide) (fun x hx => by rw [List.mem_singleton.1 hx]; exact hus.out) (fun x hx => by rw [List.mem_singleton.1 hx]; exact hvs.out)
      rw [eval_leaf _ _ k hk1 hk8] at ce
      have CE := hid ce
      have HST := hid (tA_set (Ft (⟨vk, vn, vb, vs⟩ : Cd.V) ⟨uk, un, ub, us⟩) k hk1 (by omega))
      have HGT := hid (tA_get (Ft (⟨vk, vn, vb, vs⟩ : Cd.V) ⟨uk, un, ub, us⟩) k k (by omega))
      generalize Ft (⟨vk, vn, vb, vs⟩ : Cd.V) ⟨uk, un, ub, us⟩ k = z at CE HST
      clear ce hT hA hB hR hbel
      go_wp2_with fail
      refine CE.out.mono ?_; rintro e w5 ⟨rfl, b5⟩
      have HT5 := hid (keepBlock HT.out b5)
      have HA5 := hid (HA.out.keep b5)
      have HB5 := hid (HB.out.keep b5)
      have HR5 := hid (HR.out.below b5)
      have HL5 := hid (hnext HL.out b5)
      have tc := cell_of_row w5 gT k _ _ _ HT5.out
      rw [HGT.out, if_neg (by omega)] at tc
      have tf := frozen_of_row w5 gT k _ _ HT5.out
      clear b5 b0 b1 b2 b3 bf0 bf1 bf2 bf3 bl
      have HT6 := hid (heap_setCell_same w5 gT k _ _ (.int .i64 z) HT5.out)
      have hu6 := upd_set gT k w5 (.int .i64 z)
      have HA6 : Hid (BV (w5.setCell ⟨gT, k, none⟩ (.int .i64 z)) w.heap.size vk vn vb vs) := (heap_setCell_other _ _ _ _ nA).trans HA5.out
      have HB6 : Hid (BV (w5.setCell ⟨gT, k, none⟩ (.int .i64 z)) gB uk un ub us) := (heap_setCell_other _ _ _ _ nB).trans HB5.out
      have HR6 : Hid (VsAt (w5.setCell ⟨gT, k, none⟩ (.int .i64 z)) (.slice (some ⟨gR, 0, none⟩) 1 1) [(⟨vk, vn, vb, vs⟩ : Cd.V)]) := by
        obtain ⟨adr, cap, e, hc⟩ := HR5.out
        refine ⟨adr, cap, e, fun j hj => ?_⟩
        obtain ⟨g, off, rfl, p0, p1, p2, p3⟩ := hc j hj
        cases e
        exact ⟨gR, 0, rfl, hu6.cell p0 nR, hu6.cell p1 nR, hu6.cell p2 nR, hu6.cell p3 nR⟩
      have HL6 := hid (HL5.out.setCell (p := ⟨gT, k, none⟩) hge (.int .i64 z))
      clear hu6
      rw [HST.out] at HT6
      go_wp2_with fail
      go_roundw
      case rel => exact ⟨k + 1, by omega, by omega, by first | rfl | go_num, HT6.out, HA6.out, HB6.out, HR6.out, HL6.out⟩
      case measure => simp [intOf]; omega
    · obtain rfl : k = 9 := by omega
      obtain ⟨a0, a1, a2, a3, af0, af1, af2, af3, al⟩ := hA.cells
      obtain ⟨b0, b1, b2, b3, bf0, bf1, bf2, bf3, bl⟩ := hB.cells
      have HL := hid hbel
      have hC : ∀ i, 1 ≤ i → i ≤ 8 → w4.cell? ⟨gT, i, none⟩ = some (.int .i64 (Ft (⟨vk, vn, vb, vs⟩ : Cd.V) ⟨uk, un, ub, us⟩ i)) := fun i h1 h2 => by
        rw [cell_of_row w4 gT i _ _ _ hT, tA_get _ 9 i (by omega), if_pos ⟨h1, by omega⟩]
      have HC := hid hC
      clear hC hT hA hB hR hbel
      by_cases hvk : vk = 0
      · subst hvk
        have H7 : Ft (⟨0, vn, vb, vs⟩ : Cd.V) ⟨uk, un, ub, us⟩ 7 = 1 := rfl
        have H8 : Ft (⟨0, vn, vb, vs⟩ : Cd.V) ⟨uk, un, ub, us⟩ 8 = 0 := rfl
        have HN := hid (fun i h => Ft_null (x := ⟨0, vn, vb, vs⟩) (y := ⟨uk, un, ub, us⟩) (.inl rfl) i h)
        have t7 := HC.out 7 (by omega) (by omega)
        have t8 := HC.out 8 (by omega) (by omega)
        rw [H7] at t7
        rw [H8] at t8
        go_wp2_with fail
        go_loopw [8] (fun i wr => ∃ k : Nat, 1 ≤ k ∧ k ≤ 7 ∧ i = .int .i64 (k : Int) ∧ wr = w4) (fun i _ => 7 - (intOf i).toNat)
        case atStart => exact ⟨1, by omega, by omega, rfl, rfl⟩
        case round =>
          obtain ⟨k, hk1, hk7, rfl, rfl⟩ := hrel
          have hk0 : (0 : Int) ≤ (k : Int) := by omega
          by_cases hk6 : k ≤ 6
          · have hk6' : (k : Int) ≤ 6 := by omega
            have hk9' : (k : Int) < 9 := by omega
            have tk := HC.out k hk1 (by omega)
            rw [HN.out k hk6] at tk
            go_wp2_with fail
            go_roundw
            case rel => exact ⟨k + 1, by omega, by omega, by first | rfl | go_num, by first | rfl | trivial⟩
            case measure => simp [intOf]; omega
          · obtain rfl : k = 7 := by omega
            go_wp2_with fail
            refine (known_any _).mono ?_; rintro e w9 ⟨rfl, b9⟩
            go_wp2
            go_ret
            exact ⟨rfl, hnext HL.out b9⟩
      · have e0 : (vk == 0) = false := by rw [beq_eq_false_iff_ne]; exact hvk
        have H7 : Ft (⟨vk, vn, vb, vs⟩ : Cd.V) ⟨uk, un, ub, us⟩ 7 = 0 := by show tr (decide (vk = 0)) = 0; rw [decide_eq_false hvk]; rfl
        have H8 : Ft (⟨vk, vn, vb, vs⟩ : Cd.V) ⟨uk, un, ub, us⟩ 8 = 1 := by show tr (!decide (vk = 0)) = 1; rw [decide_eq_false hvk]; rfl
        by_cases huk : uk = 0
        · subst huk
          have HN := hid (fun i h => Ft_null (x := (⟨vk, vn, vb, vs⟩ : Cd.V)) (y := ⟨0, un, ub, us⟩) (.inr rfl) i h)
          clear hvk
          have t7 := HC.out 7 (by omega) (by omega)
          have t8 := HC.out 8 (by omega) (by omega)
          rw [H7] at t7
          rw [H8] at t8
          go_wp2_with fail
          go_loopw [8] (fun i wr => ∃ k : Nat, 1 ≤ k ∧ k ≤ 7 ∧ i = .int .i64 (k : Int) ∧ wr = w4) (fun i _ => 7 - (intOf i).toNat)
          case atStart => exact ⟨1, by omega, by omega, rfl, rfl⟩
          case round =>
            obtain ⟨k, hk1, hk7, rfl, rfl⟩ := hrel
            have hk0 : (0 : Int) ≤ (k : Int) := by omega
            by_cases hk6 : k ≤ 6
            · have hk6' : (k : Int) ≤ 6 := by omega
              have hk9' : (k : Int) < 9 := by omega
              have tk := HC.out k hk1 (by omega)
              rw [HN.out k hk6] at tk
              go_wp2_with fail
              go_roundw
              case rel => exact ⟨k + 1, by omega, by omega, by first | rfl | go_num, by first | rfl | trivial⟩
              case measure => simp [intOf]; omega
            · obtain rfl : k = 7 := by omega
              go_wp2_with fail
              refine (known_any _).mono ?_; rintro e w9 ⟨rfl, b9⟩
              go_wp2
              go_ret
              exact ⟨rfl, hnext HL.out b9⟩
        · have e1 : (uk == 0) = false := by rw [beq_eq_false_iff_ne]; exact huk
          have HF := hid (fun i h => Ft_cmp (x := (⟨vk, vn, vb, vs⟩ : Cd.V)) (y := ⟨uk, un, ub, us⟩) hvk huk i h)
          have hw := cmp_ways (Ky.cmp (⟨vk, vn, vb, vs⟩ : Cd.V) ⟨uk, un, ub, us⟩)
          generalize Ky.cmp (⟨vk, vn, vb, vs⟩ : Cd.V) ⟨uk, un, ub, us⟩ = c at HF hw
          clear hvk huk
          rcases hw with ⟨_, c1, c2, c3, c4, c5, c6⟩ | ⟨_, c1, c2, c3, c4, c5, c6⟩ | ⟨_, c1, c2, c3, c4, c5, c6⟩
          · have t7 := HC.out 7 (by omega) (by omega)
            have t8 := HC.out 8 (by omega) (by omega)
            rw [H7] at t7
            rw [H8] at t8
            have t1 := HC.out 1 (by omega) (by omega)
            rw [(HF.out 1 (by omega)).trans c1] at t1
            have t2 := HC.out 2 (by omega) (by omega)
            rw [(HF.out 2 (by omega)).trans c2] at t2
            have t3 := HC.out 3 (by omega) (by omega)
            rw [(HF.out 3 (by omega)).trans c3] at t3
            have t4 := HC.out 4 (by omega) (by omega)
            rw [(HF.out 4 (by omega)).trans c4] at t4
            have t5 := HC.out 5 (by omega) (by omega)
            rw [(HF.out 5 (by omega)).trans c5] at t5
            have t6 := HC.out 6 (by omega) (by omega)
            rw [(HF.out 6 (by omega)).trans c6] at t6
            clear c1 c2 c3 c4 c5 c6
            go_wp2_with fail
            refine (known_any _).mono ?_; rintro e w9 ⟨rfl, b9⟩
            go_wp2
            go_ret
            exact ⟨rfl, hnext HL.out b9⟩
          · have t7 := HC.out 7 (by omega) (by omega)
            have t8 := HC.out 8 (by omega) (by omega)
            rw [H7] at t7
            rw [H8] at t8
            have t1 := HC.out 1 (by omega) (by omega)
            rw [(HF.out 1 (by omega)).trans c1] at t1
            have t2 := HC.out 2 (by omega) (by omega)
            rw [(HF.out 2 (by omega)).trans c2] at t2
            have t3 := HC.out 3 (by omega) (by omega)
            rw [(HF.out 3 (by omega)).trans c3] at t3
            have t4 := HC.out 4 (by omega) (by omega)
            rw [(HF.out 4 (by omega)).trans c4] at t4
            have t5 := HC.out 5 (by omega) (by omega)
            rw [(HF.out 5 (by omega)).trans c5] at t5
            have t6 := HC.out 6 (by omega) (by omega)
            rw [(HF.out 6 (by omega)).trans c6] at t6
            clear c1 c2 c3 c4 c5 c6
            go_wp2_with fail
            refine (known_any _).mono ?_; rintro e w9 ⟨rfl, b9⟩
            go_wp2
            go_ret
            exact ⟨rfl, hnext HL.out b9⟩
          · have t7 := HC.out 7 (by omega) (by omega)
            have t8 := HC.out 8 (by omega) (by omega)
            rw [H7] at t7
            rw [H8] at t8
            have t1 := HC.out 1 (by omega) (by omega)
            rw [(HF.out 1 (by omega)).trans c1] at t1
            have t2 := HC.out 2 (by omega) (by omega)
            rw [(HF.out 2 (by omega)).trans c2] at t2
            have t3 := HC.out 3 (by omega) (by omega)
            rw [(HF.out 3 (by omega)).trans c3] at t3
            have t4 := HC.out 4 (by omega) (by omega)
            rw [(HF.out 4 (by omega)).trans c4] at t4
            have t5 := HC.out 5 (by omega) (by omega)
            rw [(HF.out 5 (by omega)).trans c5] at t5
            have t6 := HC.out 6 (by omega) (by omega)
            rw [(HF.out 6 (by omega)).trans c6] at t6
            clear c1 c2 c3 c4 c5 c6
            go_wp2_with fail
            refine (known_any _).mono ?_; rintro e w9 ⟨rfl, b9⟩
            go_wp2
            go_ret
            exact ⟨rfl, hnext HL.out b9⟩
end Go.Proofs.Ytfdehigepgeknaa
