/-
  The reference's Show: its contract. Condition: the value can stand in memory.
-/
import Derived.Test.YtgdegoacjobpdaaRs
namespace Go.Proofs.Ytgdegoacjobpdaa
open Go.RowKit

set_option maxRecDepth 100000 in
set_option maxHeartbeats 3200000 in
theorem showR_any (k n : Int) (b : Nat) (s : ByteArray) (hs : s.size ≤ maxLen) (h0 : -9223372036854775808 ≤ n) (h1 : n ≤ 9223372036854775807) (hb : b < 18446744073709551616) (w : World) : Calls Try.prog 17 #[vv k n b s] w fun e w' => e = .returned (.string (bstr (Vl.txt k n b s))) ∧ Below w.heap.size w w' := by
  have cr0 := fun W => rightR_any k n b s hs hb W
  unfold vv at cr0 ⊢
  cases hr : Va.right k n b s with
  | false =>
    have HE : Hid (bstr (Vl.txt k n b s) = ⟨#[]⟩) := by show _ = _; unfold Vl.txt; rw [if_pos hr]; rfl
    rw [hr] at cr0
    have cr := hid cr0
    clear cr0 hr
    have bv := BV.new w (k) (n) b s
    have L0 := hid (hba w (.cells #[.int .i64 (k), .int .i64 (n), .int .u64 ((b : Nat) : Int), .string s] 24))
    go_enter Try.func17, Try.ntmps17
    go_wp2_with fail
    refine (cr.out _).mono ?_; rintro e w1 ⟨rfl, b1⟩
    have bv1 := bv.keep b1
    have L1 := hid (hnext L0.out b1)
    clear b1 bv L0
    obtain ⟨v0, v1, v2, v3, vf0, vf1, vf2, vf3, vl⟩ := bv1.cells
    go_wp2_with fail
    go_ret
    rw [HE.out]
    exact ⟨rfl, L1.out⟩
  | true =>
    rw [hr] at cr0
    have HT : Hid (Vl.txt k n b s = if k = 0 then [110, 117, 108, 108]
      else if k = 1 then (if n = 0 then [102, 97, 108, 115, 101] else [116, 114, 117, 101])
      else if k = 2 then Vl.decI n
      else if k = 3 then 102 :: Vl.hexL 16 b
      else if k = 4 then 120 :: s.data.toList.flatMap Vl.hx
      else 34 :: s.data.toList.flatMap Vl.quo ++ [34]) := by show _ = _; unfold Vl.txt; rw [if_neg (by rw [hr]; decide)]
    have hk := Ky.right_cases hr
    have cr := hid cr0
    clear cr0 hr
    rcases hk with ⟨rfl, rfl, rfl, rfl⟩ | ⟨rfl, hn, rfl, rfl⟩ | ⟨rfl, rfl, rfl⟩ | ⟨rfl, rfl, _, rfl⟩ | ⟨hk, rfl, rfl, hsz⟩
    · have HE : Hid (bstr (Vl.txt 0 0 0 ⟨#[]⟩) = ⟨#[110, 117, 108, 108]⟩) := by show _ = _; rw [HT.out]; rfl
      clear HT
      have bv := BV.new w (0) (0) 0 ⟨#[]⟩
      have L0 := hid (hba w (.cells #[.int .i64 (0), .int .i64 (0), .int .u64 ((0 : Nat) : Int), .string ⟨#[]⟩] 24))
      go_enter Try.func17, Try.ntmps17
      go_wp2_with fail
      refine (cr.out _).mono ?_; rintro e w1 ⟨rfl, b1⟩
      have bv1 := bv.keep b1
      have L1 := hid (hnext L0.out b1)
      clear b1 bv L0
      obtain ⟨v0, v1, v2, v3, vf0, vf1, vf2, vf3, vl⟩ := bv1.cells
      go_wp2_with fail
      go_ret
      rw [HE.out]
      exact ⟨rfl, L1.out⟩
    · rcases hn with rfl | rfl
      · have HE : Hid (bstr (Vl.txt 1 0 0 ⟨#[]⟩) = ⟨#[102, 97, 108, 115, 101]⟩) := by show _ = _; rw [HT.out]; rfl
        clear HT
        have bv := BV.new w (1) (0) 0 ⟨#[]⟩
        have L0 := hid (hba w (.cells #[.int .i64 (1), .int .i64 (0), .int .u64 ((0 : Nat) : Int), .string ⟨#[]⟩] 24))
        go_enter Try.func17, Try.ntmps17
        go_wp2_with fail
        refine (cr.out _).mono ?_; rintro e w1 ⟨rfl, b1⟩
        have bv1 := bv.keep b1
        have L1 := hid (hnext L0.out b1)
        clear b1 bv L0
        obtain ⟨v0, v1, v2, v3, vf0, vf1, vf2, vf3, vl⟩ := bv1.cells
        go_wp2_with fail
        go_ret
        rw [HE.out]
        exact ⟨rfl, hnext L1.out (hba _ _)⟩
      · have HE : Hid (bstr (Vl.txt 1 1 0 ⟨#[]⟩) = ⟨#[116, 114, 117, 101]⟩) := by show _ = _; rw [HT.out]; rfl
        clear HT
        have bv := BV.new w (1) (1) 0 ⟨#[]⟩
        have L0 := hid (hba w (.cells #[.int .i64 (1), .int .i64 (1), .int .u64 ((0 : Nat) : Int), .string ⟨#[]⟩] 24))
        go_enter Try.func17, Try.ntmps17
        go_wp2_with fail
        refine (cr.out _).mono ?_; rintro e w1 ⟨rfl, b1⟩
        have bv1 := bv.keep b1
        have L1 := hid (hnext L0.out b1)
        clear b1 bv L0
        obtain ⟨v0, v1, v2, v3, vf0, vf1, vf2, vf3, vl⟩ := bv1.cells
        go_wp2_with fail
        go_ret
        rw [HE.out]
        exact ⟨rfl, hnext L1.out (hba _ _)⟩
    · have HE : Hid (Vl.txt 2 n 0 ⟨#[]⟩ = Vl.decI n) := HT.out
      have cd := hid (fun W => digitsR_any n.natAbs n rfl h0 h1 W)
      clear HT
      have bv := BV.new w (2) (n) 0 ⟨#[]⟩
      have L0 := hid (hba w (.cells #[.int .i64 (2), .int .i64 (n), .int .u64 ((0 : Nat) : Int), .string ⟨#[]⟩] 24))
      go_enter Try.func17, Try.ntmps17
      go_wp2_with fail
      refine (cr.out _).mono ?_; rintro e w1 ⟨rfl, b1⟩
      have bv1 := bv.keep b1
      have L1 := hid (hnext L0.out b1)
      clear b1 bv L0
      obtain ⟨v0, v1, v2, v3, vf0, vf1, vf2, vf3, vl⟩ := bv1.cells
      go_wp2_with fail
      refine (cd.out _).mono ?_; rintro e w2 ⟨rfl, b2⟩
      have L2 := hid (hnext L1.out b2)
      go_wp2_with fail
      go_ret
      rw [HE.out]
      exact ⟨rfl, L2.out⟩
    · have HE : Hid (Vl.txt 3 0 b ⟨#[]⟩ = 102 :: Vl.hexL 16 b) := HT.out
      have cd := hid (fun W => hexR_any b 16 hb (by decide) W)
      have hz : (bstr (Vl.hexL 16 b)).size = 16 := Vl.hexL_length 16 b
      have hj : (⟨#[102]⟩ : ByteArray) ++ bstr (Vl.hexL 16 b) = bstr (102 :: Vl.hexL 16 b) := bstr_append [102] _
      generalize Vl.hexL 16 b = x at *
      clear HT
      have bv := BV.new w (3) (0) b ⟨#[]⟩
      have L0 := hid (hba w (.cells #[.int .i64 (3), .int .i64 (0), .int .u64 ((b : Nat) : Int), .string ⟨#[]⟩] 24))
      go_enter Try.func17, Try.ntmps17
      go_wp2_with fail
      refine (cr.out _).mono ?_; rintro e w1 ⟨rfl, b1⟩
      have bv1 := bv.keep b1
      have L1 := hid (hnext L0.out b1)
      clear b1 bv L0
      obtain ⟨v0, v1, v2, v3, vf0, vf1, vf2, vf3, vl⟩ := bv1.cells
      go_wp2_with fail
      refine (cd.out _).mono ?_; rintro e w2 ⟨rfl, b2⟩
      have L2 := hid (hnext L1.out b2)
      go_wp2_with fail
      go_ret
      rw [HE.out]
      exact ⟨rfl, L2.out⟩
    · rcases hk with rfl | rfl
      · have HE : Hid (Vl.txt 4 0 0 s = 120 :: (s.data.toList.flatMap Vl.hx)) := by show _ = _; rw [HT.out]; rfl
        have hsl : s.data.toList.length = s.size := by simp
        have hfz := hid (fun l => Vl.flat_size Vl.hx (Vl.hex2_size) l)
        have hnx := hid (fun k h => Vl.flat_next Vl.hx s.data.toList k h)
        clear HT
        have bv := BV.new w (4) (0) 0 s
        have L0 := hid (hba w (.cells #[.int .i64 (4), .int .i64 (0), .int .u64 ((0 : Nat) : Int), .string s] 24))
        go_enter Try.func17, Try.ntmps17
        go_wp2_with fail
        refine (cr.out _).mono ?_; rintro e w1 ⟨rfl, b1⟩
        have bv1 := bv.keep b1
        have L1 := hid (hnext L0.out b1)
        clear b1 bv L0
        obtain ⟨v0, v1, v2, v3, vf0, vf1, vf2, vf3, vl⟩ := bv1.cells
        go_wp2_with fail
        clear v0 v1 v2 v3 vf0 vf1 vf2 vf3 vl
        have bv2 := hid bv1
        clear bv1
        obtain ⟨g, hg⟩ : ∃ g, w.heap.size = g := ⟨_, rfl⟩
        rw [hg] at bv2 ⊢
        go_loopw [3, 4] (fun v i wr => ∃ k : Nat, k ≤ s.size ∧ i = .int .i64 (k : Int) ∧ v = .string (bstr (120 :: (s.data.toList.take k).flatMap Vl.hx)) ∧ Below w1.heap.size w1 wr) (fun _ i _ => s.size - (intOf i).toNat)
        case atStart => exact ⟨0, by omega, rfl, rfl, Below.refl _ _⟩
        case round =>
          obtain ⟨k, hk, rfl, rfl, hbel⟩ := hrel
          have hk0 : (0 : Int) ≤ (k : Int) := by omega
          have bv3 := hid (bv2.out.keep hbel)
          obtain ⟨v0, v1, v2, v3, vf0, vf1, vf2, vf3, vl⟩ := bv3.out.cells
          have hz1 : (bstr (120 :: (s.data.toList.take k).flatMap Vl.hx)).size ≤ 17000 := by
            have := hfz.out (s.data.toList.take k)
            rw [List.length_take] at this
            show (120 :: (s.data.toList.take k).flatMap Vl.hx).length ≤ _
            rw [List.length_cons]; omega
          by_cases hkl : k < s.size
          · have hkl' : (k : Int) < (s.size : Int) := by omega
            have hN := hid (hnx.out k (by rw [hsl]; exact hkl))
            rw [show s.data.toList[k]'(by rw [hsl]; exact hkl) = s[k] from rfl] at hN
            have hxe := ext_one s k hkl
            generalize hc : s[k] = c at hN hxe
            generalize (s.data.toList.take k).flatMap Vl.hx = l at hN hz1 ⊢
            have cc := c.toNat_lt
            have ch := hid (fun W => hexR_any c.toNat 2 (by omega) (by decide) W)
            have e1 : IntKind.u64.wrap (c.toNat : Int) = (c.toNat : Int) := by rw [IntKind.wrap_u64]; omega
            have hz2 : (bstr (Vl.hexL 2 c.toNat)).size = 2 := Vl.hexL_length 2 _
            have hj : bstr (120 :: l) ++ bstr (Vl.hexL 2 c.toNat) = bstr (120 :: (l ++ Vl.hx c)) := bstr_append _ _
            go_wp2_with fail
            refine (ch.out _).mono ?_; rintro e w3 ⟨rfl, b3⟩
            go_wp2_with fail
            go_roundw
            case rel => exact ⟨k + 1, hkl, by go_num, by rw [hN.out], hnext hbel b3⟩
            case measure => simp [intOf]; omega
          · obtain rfl : k = s.size := by omega
            rw [← hsl, List.take_length] at hz1 ⊢
            have HB := hid (hnext L1.out hbel)
            rw [hsl]
            go_wp2_with fail
            go_ret
            rw [HE.out]
            exact ⟨rfl, HB.out⟩
      · have HE : Hid (Vl.txt 5 0 0 s = 34 :: (s.data.toList.flatMap Vl.quo ++ [34])) := by show _ = _; rw [HT.out]; rfl
        have hsl : s.data.toList.length = s.size := by simp
        have hfz := hid (fun l => Vl.flat_size Vl.quo (Vl.quo_size) l)
        have hnx := hid (fun k h => Vl.flat_next Vl.quo s.data.toList k h)
        clear HT
        have bv := BV.new w (5) (0) 0 s
        have L0 := hid (hba w (.cells #[.int .i64 (5), .int .i64 (0), .int .u64 ((0 : Nat) : Int), .string s] 24))
        go_enter Try.func17, Try.ntmps17
        go_wp2_with fail
        refine (cr.out _).mono ?_; rintro e w1 ⟨rfl, b1⟩
        have bv1 := bv.keep b1
        have L1 := hid (hnext L0.out b1)
        clear b1 bv L0
        obtain ⟨v0, v1, v2, v3, vf0, vf1, vf2, vf3, vl⟩ := bv1.cells
        go_wp2_with fail
        clear v0 v1 v2 v3 vf0 vf1 vf2 vf3 vl
        have bv2 := hid bv1
        clear bv1
        obtain ⟨g, hg⟩ : ∃ g, w.heap.size = g := ⟨_, rfl⟩
        rw [hg] at bv2 ⊢
        go_loopw [3, 4] (fun v i wr => ∃ k : Nat, k ≤ s.size ∧ i = .int .i64 (k : Int) ∧ v = .string (bstr (34 :: (s.data.toList.take k).flatMap Vl.quo)) ∧ Below w1.heap.size w1 wr) (fun _ i _ => s.size - (intOf i).toNat)
        case atStart => exact ⟨0, by omega, rfl, rfl, Below.refl _ _⟩
        case round =>
          obtain ⟨k, hk, rfl, rfl, hbel⟩ := hrel
          have hk0 : (0 : Int) ≤ (k : Int) := by omega
          have bv3 := hid (bv2.out.keep hbel)
          obtain ⟨v0, v1, v2, v3, vf0, vf1, vf2, vf3, vl⟩ := bv3.out.cells
          have hz1 : (bstr (34 :: (s.data.toList.take k).flatMap Vl.quo)).size ≤ 17000 := by
            have := hfz.out (s.data.toList.take k)
            rw [List.length_take] at this
            show (34 :: (s.data.toList.take k).flatMap Vl.quo).length ≤ _
            rw [List.length_cons]; omega
          by_cases hkl : k < s.size
          · have hkl' : (k : Int) < (s.size : Int) := by omega
            have hN := hid (hnx.out k (by rw [hsl]; exact hkl))
            rw [show s.data.toList[k]'(by rw [hsl]; exact hkl) = s[k] from rfl] at hN
            have hxe := ext_one s k hkl
            generalize hc : s[k] = c at hN hxe
            generalize (s.data.toList.take k).flatMap Vl.quo = l at hN hz1 ⊢
            have cc := c.toNat_lt
            have hcz : (bstr [c]).size = 1 := rfl
            by_cases h1 : c = 34 ∨ c = 92
            · have e0 : Vl.quo c = [92, c] := if_pos h1
              rw [e0] at hN
              have hj1 : bstr (34 :: l) ++ (⟨#[92]⟩ : ByteArray) = bstr (34 :: l ++ [92]) := bstr_append _ [92]
              have hj2 : bstr (34 :: l ++ [92]) ++ bstr [c] = bstr (34 :: (l ++ [92, c])) := (bstr_append _ _).trans (by simp)
              have hz3 : (bstr (34 :: l ++ [92])).size ≤ 17001 := by
                show (34 :: l ++ [92]).length ≤ _
                have : (34 :: l).length ≤ 17000 := hz1
                rw [List.length_append]; simp at this ⊢; omega
              generalize bstr (34 :: l ++ [92]) = y at *
              have h3 : ((c.toNat : Int) == 34) = true ∨ (((c.toNat : Int) == 34) = false ∧ ((c.toNat : Int) == 92) = true) := by
                rcases h1 with rfl | rfl
                · exact .inl rfl
                · exact .inr ⟨rfl, rfl⟩
              clear h1 e0
              rcases h3 with h3 | ⟨h3, h4⟩
              all_goals
                go_wp2_with fail
                go_roundw
                case rel => exact ⟨k + 1, hkl, by go_num, by rw [hN.out], hbel⟩
                case measure => simp [intOf]; omega
            · have n1 : ((c.toNat : Int) == 34) = false := by
                rw [beq_eq_false_iff_ne]; intro h; exact h1 (.inl (UInt8.toNat_inj.1 (by show c.toNat = 34; omega)))
              have n2 : ((c.toNat : Int) == 92) = false := by
                rw [beq_eq_false_iff_ne]; intro h; exact h1 (.inr (UInt8.toNat_inj.1 (by show c.toNat = 92; omega)))
              by_cases h2 : c < 32 ∨ 126 < c
              · have e0 : Vl.quo c = 92 :: 120 :: Vl.hexL 2 c.toNat := by unfold Vl.quo; rw [if_neg h1, if_pos h2]
                rw [e0] at hN
                have ch := hid (fun W => hexR_any c.toNat 2 (by omega) (by decide) W)
                have hz2 : (bstr (Vl.hexL 2 c.toNat)).size = 2 := Vl.hexL_length 2 _
                generalize Vl.hexL 2 c.toNat = x at *
                have hj1 : bstr (34 :: l) ++ (⟨#[92, 120]⟩ : ByteArray) = bstr (34 :: l ++ [92, 120]) := bstr_append _ [92, 120]
                have hj2 : bstr (34 :: l ++ [92, 120]) ++ bstr x = bstr (34 :: (l ++ 92 :: 120 :: x)) := (bstr_append _ _).trans (by simp)
                have hz3 : (bstr (34 :: l ++ [92, 120])).size ≤ 17002 := by
                  show (34 :: l ++ [92, 120]).length ≤ _
                  have : (34 :: l).length ≤ 17000 := hz1
                  rw [List.length_append]; simp at this ⊢; omega
                generalize bstr (34 :: l ++ [92, 120]) = y at *
                have e1 : IntKind.u64.wrap (c.toNat : Int) = (c.toNat : Int) := by rw [IntKind.wrap_u64]; omega
                have h3 : (c.toNat : Int) < 32 ∨ (¬ (c.toNat : Int) < 32 ∧ (126 : Int) < (c.toNat : Int)) := by
                  rcases h2 with h | h
                  · have := UInt8.lt_iff_toNat_lt.1 h
                    exact .inl (by show (c.toNat : Int) < 32; have : c.toNat < 32 := this; omega)
                  · have : 126 < c.toNat := UInt8.lt_iff_toNat_lt.1 h
                    omega
                clear h1 h2 e0
                rcases h3 with h3 | ⟨h3, h4⟩
                all_goals
                  go_wp2_with fail
                  refine (ch.out _).mono ?_; rintro e w3 ⟨rfl, b3⟩
                  go_wp2_with fail
                  go_roundw
                  case rel => exact ⟨k + 1, hkl, by go_num, by rw [hN.out], hnext hbel b3⟩
                  case measure => simp [intOf]; omega
              · have e0 : Vl.quo c = [c] := by unfold Vl.quo; rw [if_neg h1, if_neg h2]
                rw [e0] at hN
                have h3 : ¬ (c.toNat : Int) < 32 := fun h => h2 (.inl (UInt8.lt_iff_toNat_lt.2 (by show c.toNat < 32; omega)))
                have h4 : ¬ (126 : Int) < (c.toNat : Int) := fun h => h2 (.inr (UInt8.lt_iff_toNat_lt.2 (by show 126 < c.toNat; omega)))
                have hj : bstr (34 :: l) ++ bstr [c] = bstr (34 :: (l ++ [c])) := bstr_append _ _
                clear h1 h2 e0
                go_wp2_with fail
                go_roundw
                case rel => exact ⟨k + 1, hkl, by go_num, by rw [hN.out], hbel⟩
                case measure => simp [intOf]; omega
          · obtain rfl : k = s.size := by omega
            rw [← hsl, List.take_length] at hz1 ⊢
            have HB := hid (hnext L1.out hbel)
            rw [hsl]
            have HJ : bstr (34 :: s.data.toList.flatMap Vl.quo) ++ (⟨#[34]⟩ : ByteArray) = bstr (34 :: (s.data.toList.flatMap Vl.quo ++ [34])) := bstr_append _ [34]
            go_wp2_with fail
            go_ret
            rw [HE.out]
            exact ⟨rfl, HB.out⟩
end Go.Proofs.Ytgdegoacjobpdaa
