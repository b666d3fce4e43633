/-
  value.Show: its contract. Condition: the value can stand in memory.
-/
import Derived.Test.YtfdehigepgeknaaNu
namespace Go.Proofs.Ytfdehigepgeknaa
open Go.RowKit

namespace Vl
/-- a byte's two digits -/
def hx (c : UInt8) : List UInt8 := hexL 2 c.toNat
/-- a value as text -/
def txt (k n : Int) (b : Nat) (s : ByteArray) : List UInt8 :=
  if Va.right k n b s = false then []
  else if k = 0 then [110, 117, 108, 108]
  else if k = 1 then (if n = 0 then [102, 97, 108, 115, 101] else [116, 114, 117, 101])
  else if k = 2 then decI n
  else if k = 3 then 102 :: hexL 16 b
  else if k = 4 then 120 :: s.data.toList.flatMap hx
  else 34 :: s.data.toList.flatMap quo ++ [34]
theorem flat_next (f : UInt8 → List UInt8) (l : List UInt8) (k : Nat) (h : k < l.length) : (l.take (k + 1)).flatMap f = (l.take k).flatMap f ++ f l[k] := by
  rw [take_next l k h, List.flatMap_append]; simp
theorem flat_size (f : UInt8 → List UInt8) (hf : ∀ c, (f c).length ≤ 4) (l : List UInt8) : (l.flatMap f).length ≤ 4 * l.length := by
  induction l with
  | nil => simp
  | cons c l ih => rw [List.flatMap_cons, List.length_append, List.length_cons]; have := hf c; omega
theorem quo_size (c : UInt8) : (quo c).length ≤ 4 := by
  unfold quo
  split
  · simp
  · split
    · simp [hexL_length]
    · simp
theorem hex2_size (c : UInt8) : (hx c).length ≤ 4 := by unfold hx; rw [hexL_length]; decide
end Vl
theorem truth_no (w : World) : (Instr.index 85 (.agg #[.string ⟨#[102, 97, 108, 115, 101]⟩, .string ⟨#[116, 114, 117, 101]⟩]) (.int .i64 0)).run Try.prog w = .ok (.string ⟨#[102, 97, 108, 115, 101]⟩) w := by kernel_rfl
theorem truth_yes (w : World) : (Instr.index 85 (.agg #[.string ⟨#[102, 97, 108, 115, 101]⟩, .string ⟨#[116, 114, 117, 101]⟩]) (.int .i64 1)).run Try.prog w = .ok (.string ⟨#[116, 114, 117, 101]⟩) w := by kernel_rfl
theorem show1h_any (c : UInt8) (w : World) : Calls Try.prog 54 #[.int .u8 (c.toNat : Int)] w fun e w' => e = .returned (.string (bstr (Vl.hx c))) ∧ Below w.heap.size w w' := show1_any c w
set_option maxRecDepth 100000 in
set_option maxHeartbeats 3200000 in
theorem show_any (k n : Int) (b : Nat) (s : ByteArray) (hs : s.size ≤ maxLen) (h0 : -9223372036854775808 ≤ n) (h1 : n ≤ 9223372036854775807) (hb : b < 18446744073709551616) (w : World) : Calls Try.prog 42 #[vv k n b s] w fun e w' => e = .returned (.string (bstr (Vl.txt k n b s))) ∧ Below w.heap.size w w' := by
  have cr0 := fun W => right_any k n b s hs W
  unfold vv at cr0 ⊢
  cases hr : Va.right k n b s with
  | false =>
    have HE : Hid (bstr (Vl.txt k n b s) = ⟨#[]⟩) := by show _ = _; unfold Vl.txt; rw [if_pos hr]; rfl
    rw [hr] at cr0
    have cr := hid cr0
    clear cr0 hr
    have bv := BV.new w (k) (n) b s
    have L0 := hid (hba w (.cells #[.int .i64 (k), .int .i64 (n), .int .u64 ((b : Nat) : Int), .string s] 39))
    go_enter Try.func42, Try.ntmps42
    go_wp2_with fail
    refine (cr.out _).mono ?_; rintro e w1 ⟨rfl, b1⟩
    have bv1 := bv.keep b1
    have L1 := hid (hnext L0.out b1)
    clear b1 bv L0
    obtain ⟨v0, v1, v2, v3, vf0, vf1, vf2, vf3, vl⟩ := bv1.cells
    go_wp2_with fail
    go_ret
    rw [HE.out]
    exact ⟨rfl, L1.out⟩
  | true =>
    rw [hr] at cr0
    have HT : Hid (Vl.txt k n b s = if k = 0 then [110, 117, 108, 108]
      else if k = 1 then (if n = 0 then [102, 97, 108, 115, 101] else [116, 114, 117, 101])
      else if k = 2 then Vl.decI n
      else if k = 3 then 102 :: Vl.hexL 16 b
      else if k = 4 then 120 :: s.data.toList.flatMap Vl.hx
      else 34 :: s.data.toList.flatMap Vl.quo ++ [34]) := by show _ = _; unfold Vl.txt; rw [if_neg (by rw [hr]; decide)]
    have hk := Ky.right_cases hr
    have cr := hid cr0
    clear cr0 hr
    rcases hk with ⟨rfl, rfl, rfl, rfl⟩ | ⟨rfl, hn, rfl, rfl⟩ | ⟨rfl, rfl, rfl⟩ | ⟨rfl, rfl, _, rfl⟩ | ⟨hk, rfl, rfl, hsz⟩
    · have HE : Hid (bstr (Vl.txt 0 0 0 ⟨#[]⟩) = ⟨#[110, 117, 108, 108]⟩) := by show _ = _; rw [HT.out]; rfl
      clear HT
      have bv := BV.new w (0) (0) 0 ⟨#[]⟩
      have L0 := hid (hba w (.cells #[.int .i64 (0), .int .i64 (0), .int .u64 ((0 : Nat) : Int), .string ⟨#[]⟩] 39))
      go_enter Try.func42, Try.ntmps42
      go_wp2_with fail
      refine (cr.out _).mono ?_; rintro e w1 ⟨rfl, b1⟩
      have bv1 := bv.keep b1
      have L1 := hid (hnext L0.out b1)
      clear b1 bv L0
      obtain ⟨v0, v1, v2, v3, vf0, vf1, vf2, vf3, vl⟩ := bv1.cells
      go_wp2_with fail
      go_ret
      rw [HE.out]
      exact ⟨rfl, L1.out⟩
    · rcases hn with rfl | rfl
      · have HE : Hid (bstr (Vl.txt 1 0 0 ⟨#[]⟩) = ⟨#[102, 97, 108, 115, 101]⟩) := by show _ = _; rw [HT.out]; rfl
        have ht := truth_no
        clear HT
        have bv := BV.new w (1) (0) 0 ⟨#[]⟩
        have L0 := hid (hba w (.cells #[.int .i64 (1), .int .i64 (0), .int .u64 ((0 : Nat) : Int), .string ⟨#[]⟩] 39))
        go_enter Try.func42, Try.ntmps42
        go_wp2_with fail
        refine (cr.out _).mono ?_; rintro e w1 ⟨rfl, b1⟩
        have bv1 := bv.keep b1
        have L1 := hid (hnext L0.out b1)
        clear b1 bv L0
        obtain ⟨v0, v1, v2, v3, vf0, vf1, vf2, vf3, vl⟩ := bv1.cells
        go_wp2_with fail
        go_ret
        rw [HE.out]
        exact ⟨rfl, L1.out⟩
      · have HE : Hid (bstr (Vl.txt 1 1 0 ⟨#[]⟩) = ⟨#[116, 114, 117, 101]⟩) := by show _ = _; rw [HT.out]; rfl
        have ht := truth_yes
        clear HT
        have bv := BV.new w (1) (1) 0 ⟨#[]⟩
        have L0 := hid (hba w (.cells #[.int .i64 (1), .int .i64 (1), .int .u64 ((0 : Nat) : Int), .string ⟨#[]⟩] 39))
        go_enter Try.func42, Try.ntmps42
        go_wp2_with fail
        refine (cr.out _).mono ?_; rintro e w1 ⟨rfl, b1⟩
        have bv1 := bv.keep b1
        have L1 := hid (hnext L0.out b1)
        clear b1 bv L0
        obtain ⟨v0, v1, v2, v3, vf0, vf1, vf2, vf3, vl⟩ := bv1.cells
        go_wp2_with fail
        go_ret
        rw [HE.out]
        exact ⟨rfl, L1.out⟩
    · have HE : Hid (Vl.txt 2 n 0 ⟨#[]⟩ = Vl.decI n) := HT.out
      have cd := hid (fun W => decimal_any n h0 h1 W)
      clear HT
      have bv := BV.new w (2) (n) 0 ⟨#[]⟩
      have L0 := hid (hba w (.cells #[.int .i64 (2), .int .i64 (n), .int .u64 ((0 : Nat) : Int), .string ⟨#[]⟩] 39))
      go_enter Try.func42, Try.ntmps42
      go_wp2_with fail
      refine (cr.out _).mono ?_; rintro e w1 ⟨rfl, b1⟩
      have bv1 := bv.keep b1
      have L1 := hid (hnext L0.out b1)
      clear b1 bv L0
      obtain ⟨v0, v1, v2, v3, vf0, vf1, vf2, vf3, vl⟩ := bv1.cells
      go_wp2_with fail
      refine (cd.out _).mono ?_; rintro e w2 ⟨rfl, b2⟩
      have L2 := hid (hnext L1.out b2)
      go_wp2_with fail
      go_ret
      rw [HE.out]
      exact ⟨rfl, L2.out⟩
    · have HE : Hid (Vl.txt 3 0 b ⟨#[]⟩ = 102 :: Vl.hexL 16 b) := HT.out
      have cd := hid (fun W => hex_any b 16 hb (by decide) W)
      have hz : (bstr (Vl.hexL 16 b)).size = 16 := Vl.hexL_length 16 b
      have hj : (⟨#[102]⟩ : ByteArray) ++ bstr (Vl.hexL 16 b) = bstr (102 :: Vl.hexL 16 b) := bstr_append [102] _
      generalize Vl.hexL 16 b = x at *
      clear HT
      have bv := BV.new w (3) (0) b ⟨#[]⟩
      have L0 := hid (hba w (.cells #[.int .i64 (3), .int .i64 (0), .int .u64 ((b : Nat) : Int), .string ⟨#[]⟩] 39))
      go_enter Try.func42, Try.ntmps42
      go_wp2_with fail
      refine (cr.out _).mono ?_; rintro e w1 ⟨rfl, b1⟩
      have bv1 := bv.keep b1
      have L1 := hid (hnext L0.out b1)
      clear b1 bv L0
      obtain ⟨v0, v1, v2, v3, vf0, vf1, vf2, vf3, vl⟩ := bv1.cells
      go_wp2_with fail
      refine (cd.out _).mono ?_; rintro e w2 ⟨rfl, b2⟩
      have L2 := hid (hnext L1.out b2)
      go_wp2_with fail
      go_ret
      rw [HE.out]
      exact ⟨rfl, L2.out⟩
    · rcases hk with rfl | rfl
      · obtain ⟨l, rfl⟩ : ∃ l, s = bstr l := ⟨s.data.toList, (bstr_of s).symm⟩
        have HE : Hid (Vl.txt 4 0 0 (bstr l) = 120 :: (l.flatMap Vl.hx)) := by show _ = _; rw [HT.out, bstr_toList]; rfl
        have hsl : l.length ≤ 4096 := hsz
        have hs9 : (bstr l).size = l.length := rfl
        have cq := hid (fun c W => show1h_any c W)
        have hcz := hid (Vl.hex2_size)
        have hfz := hid (fun l => Vl.flat_size Vl.hx (Vl.hex2_size) l)
        have hnx := hid (fun k h => Vl.flat_next Vl.hx l k h)
        generalize hf : Vl.hx = f at *
        have hconv := fun (w : World) => run_bytes_of_string (P := Try.prog) w 9 88 5 (bstr l) Try.underlying9 Try.underlying88 Try.underlying5
        rw [hs9] at hconv
        clear HT hsz hs
        have bv := BV.new w (4) (0) 0 (bstr l)
        have L0 := hid (hba w (.cells #[.int .i64 (4), .int .i64 (0), .int .u64 ((0 : Nat) : Int), .string (bstr l)] 39))
        go_enter Try.func42, Try.ntmps42
        go_wp2_with fail
        refine (cr.out _).mono ?_; rintro e w1 ⟨rfl, b1⟩
        have bv1 := bv.keep b1
        have L1 := hid (hnext L0.out b1)
        clear b1 bv L0
        obtain ⟨v0, v1, v2, v3, vf0, vf1, vf2, vf3, vl⟩ := bv1.cells
        go_wp2_with fail
        have hcap : l.length ≤ grownCap w1 l.length 0 5 := grownCap_ge _ _ _ _
        have HC := hid (fun j hj => cells_text w1 l _ hcap j hj)
        have hlay : Below w1.heap.size w1 (w1.alloc (.cells (bytesRow (bstr l) (grownCap w1 l.length 0 5)) 5 ((bytesRow (bstr l) (grownCap w1 l.length 0 5)).size, (bytesRow (bstr l) (grownCap w1 l.length 0 5)).size + 1))).drew := (hba _ _).drew
        have L2 := hid (hnext L1.out hlay)
        clear hcap hconv hlay v0 v1 v2 v3 vf0 vf1 vf2 vf3 vl bv1 L1
        generalize (w1.alloc (.cells (bytesRow (bstr l) (grownCap w1 l.length 0 5)) 5 ((bytesRow (bstr l) (grownCap w1 l.length 0 5)).size, (bytesRow (bstr l) (grownCap w1 l.length 0 5)).size + 1))).drew = w2 at *
        generalize grownCap w1 l.length 0 5 = cap
        generalize w1.heap.size = g1 at *
        go_loopw [39, 3] (fun i v wr => ∃ k : Nat, k ≤ l.length ∧ i = .int .i64 (k : Int) ∧ v = .string (bstr (120 :: (l.take k).flatMap f)) ∧ Below w2.heap.size w2 wr) (fun i _ _ => l.length - (intOf i).toNat)
        case atStart => exact ⟨0, by omega, rfl, rfl, Below.refl _ _⟩
        case round =>
          obtain ⟨k, hk, rfl, rfl, hbel⟩ := hrel
          have hk0 : (0 : Int) ≤ (k : Int) := by omega
          by_cases hkl : k < l.length
          · have hkl' : (k : Int) < (l.length : Int) := by omega
            have hc := hkeep (HC.out k hkl) hbel
            have HN := hid (hnx.out k hkl)
            have hz1 : (bstr (120 :: (l.take k).flatMap f)).size ≤ 17000 := by
              have := hfz.out (l.take k)
              rw [List.length_take] at this
              show (120 :: (l.take k).flatMap f).length ≤ _
              rw [List.length_cons]; omega
            have hz2 := hcz.out (l[k]'hkl)
            generalize l[k]'hkl = c at hc HN hz2
            have hz3 : (bstr (f c)).size ≤ 4 := hz2
            have HJ : Hid (bstr (120 :: (l.take k).flatMap f) ++ bstr (f c) = bstr (120 :: (l.take (k + 1)).flatMap f)) := by show _ = _; rw [HN.out, bstr_append]; rfl
            generalize bstr (120 :: (l.take k).flatMap f) = x at hz1 HJ ⊢
            clear hz2 HN
            go_wp2_with fail
            refine (cq.out c _).mono ?_; rintro e w3 ⟨rfl, b3⟩
            go_wp2_with fail
            go_roundw
            case rel => exact ⟨k + 1, by omega, by go_num, by rw [← HJ.out], hnext hbel b3⟩
            case measure => simp [intOf]; omega
          · obtain rfl : k = l.length := by omega
            have hz1 : (bstr (120 :: (l.take l.length).flatMap f)).size ≤ 17000 := by
              have := hfz.out (l.take l.length)
              rw [List.length_take] at this
              show (120 :: (l.take l.length).flatMap f).length ≤ _
              rw [List.length_cons]; omega
            rw [List.take_length] at hz1 ⊢
            have HB := hid (hnext L2.out hbel)
            have HJ : bstr (120 :: l.flatMap f) ++ (⟨#[]⟩ : ByteArray) = bstr (120 :: l.flatMap f) := (bstr_append _ []).trans (by rw [List.append_nil])
            go_wp2_with fail
            go_ret
            rw [HE.out]
            exact ⟨rfl, HB.out⟩
      · obtain ⟨l, rfl⟩ : ∃ l, s = bstr l := ⟨s.data.toList, (bstr_of s).symm⟩
        have HE : Hid (Vl.txt 5 0 0 (bstr l) = 34 :: (l.flatMap Vl.quo ++ [34])) := by show _ = _; rw [HT.out, bstr_toList]; rfl
        have hsl : l.length ≤ 4096 := hsz
        have hs9 : (bstr l).size = l.length := rfl
        have cq := hid (fun c W => quoted_any c W)
        have hcz := hid (Vl.quo_size)
        have hfz := hid (fun l => Vl.flat_size Vl.quo (Vl.quo_size) l)
        have hnx := hid (fun k h => Vl.flat_next Vl.quo l k h)
        generalize hf : Vl.quo = f at *
        have hconv := fun (w : World) => run_bytes_of_string (P := Try.prog) w 9 88 5 (bstr l) Try.underlying9 Try.underlying88 Try.underlying5
        rw [hs9] at hconv
        clear HT hsz hs
        have bv := BV.new w (5) (0) 0 (bstr l)
        have L0 := hid (hba w (.cells #[.int .i64 (5), .int .i64 (0), .int .u64 ((0 : Nat) : Int), .string (bstr l)] 39))
        go_enter Try.func42, Try.ntmps42
        go_wp2_with fail
        refine (cr.out _).mono ?_; rintro e w1 ⟨rfl, b1⟩
        have bv1 := bv.keep b1
        have L1 := hid (hnext L0.out b1)
        clear b1 bv L0
        obtain ⟨v0, v1, v2, v3, vf0, vf1, vf2, vf3, vl⟩ := bv1.cells
        go_wp2_with fail
        have hcap : l.length ≤ grownCap w1 l.length 0 5 := grownCap_ge _ _ _ _
        have HC := hid (fun j hj => cells_text w1 l _ hcap j hj)
        have hlay : Below w1.heap.size w1 (w1.alloc (.cells (bytesRow (bstr l) (grownCap w1 l.length 0 5)) 5 ((bytesRow (bstr l) (grownCap w1 l.length 0 5)).size, (bytesRow (bstr l) (grownCap w1 l.length 0 5)).size + 1))).drew := (hba _ _).drew
        have L2 := hid (hnext L1.out hlay)
        clear hcap hconv hlay v0 v1 v2 v3 vf0 vf1 vf2 vf3 vl bv1 L1
        generalize (w1.alloc (.cells (bytesRow (bstr l) (grownCap w1 l.length 0 5)) 5 ((bytesRow (bstr l) (grownCap w1 l.length 0 5)).size, (bytesRow (bstr l) (grownCap w1 l.length 0 5)).size + 1))).drew = w2 at *
        generalize grownCap w1 l.length 0 5 = cap
        generalize w1.heap.size = g1 at *
        go_loopw [39, 3] (fun i v wr => ∃ k : Nat, k ≤ l.length ∧ i = .int .i64 (k : Int) ∧ v = .string (bstr (34 :: (l.take k).flatMap f)) ∧ Below w2.heap.size w2 wr) (fun i _ _ => l.length - (intOf i).toNat)
        case atStart => exact ⟨0, by omega, rfl, rfl, Below.refl _ _⟩
        case round =>
          obtain ⟨k, hk, rfl, rfl, hbel⟩ := hrel
          have hk0 : (0 : Int) ≤ (k : Int) := by omega
          by_cases hkl : k < l.length
          · have hkl' : (k : Int) < (l.length : Int) := by omega
            have hc := hkeep (HC.out k hkl) hbel
            have HN := hid (hnx.out k hkl)
            have hz1 : (bstr (34 :: (l.take k).flatMap f)).size ≤ 17000 := by
              have := hfz.out (l.take k)
              rw [List.length_take] at this
              show (34 :: (l.take k).flatMap f).length ≤ _
              rw [List.length_cons]; omega
            have hz2 := hcz.out (l[k]'hkl)
            generalize l[k]'hkl = c at hc HN hz2
            have hz3 : (bstr (f c)).size ≤ 4 := hz2
            have HJ : Hid (bstr (34 :: (l.take k).flatMap f) ++ bstr (f c) = bstr (34 :: (l.take (k + 1)).flatMap f)) := by show _ = _; rw [HN.out, bstr_append]; rfl
            generalize bstr (34 :: (l.take k).flatMap f) = x at hz1 HJ ⊢
            clear hz2 HN
            go_wp2_with fail
            refine (cq.out c _).mono ?_; rintro e w3 ⟨rfl, b3⟩
            go_wp2_with fail
            go_roundw
            case rel => exact ⟨k + 1, by omega, by go_num, by rw [← HJ.out], hnext hbel b3⟩
            case measure => simp [intOf]; omega
          · obtain rfl : k = l.length := by omega
            have hz1 : (bstr (34 :: (l.take l.length).flatMap f)).size ≤ 17000 := by
              have := hfz.out (l.take l.length)
              rw [List.length_take] at this
              show (34 :: (l.take l.length).flatMap f).length ≤ _
              rw [List.length_cons]; omega
            rw [List.take_length] at hz1 ⊢
            have HB := hid (hnext L2.out hbel)
            have HJ : bstr (34 :: l.flatMap f) ++ (⟨#[34]⟩ : ByteArray) = bstr (34 :: (l.flatMap f ++ [34])) := bstr_append _ [34]
            go_wp2_with fail
            go_ret
            rw [HE.out]
            exact ⟨rfl, HB.out⟩
end Go.Proofs.Ytfdehigepgeknaa
