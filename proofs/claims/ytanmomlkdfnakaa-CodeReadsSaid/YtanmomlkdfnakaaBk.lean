/-
  CodeBack answers true at any numbers, text and values. No condition.
-/
import Derived.Test.YtanmomlkdfnakaaWr
import Derived.Test.YtanmomlkdfnakaaCdB
namespace Go.Proofs.Ytanmomlkdfnakaa
open Go.RowKit

theorem row_length (l : List Cd.V) : (Cd.row l).length ≤ 10 + l.length * 5000 := by
  unfold Cd.row
  split
  · have := (Cd.enc_length l.length).2
    have := flat_length l
    rw [List.length_append]; omega
  · simp
/-- what is written, one behind the other, is read as it was -/
theorem back_all {T s : ByteArray} {l : List Cd.V} {m : Int} {n : Nat} (hr : l.all Cd.V.right = true) (hv : ∀ x ∈ l, Vok x) (hl : l.length ≤ 60) (hm0 : -9223372036854775808 ≤ m) (hm1 : m ≤ 9223372036854775807) (hn : n < 18446744073709551616) (hs : s.size ≤ 2000)
    (hT : T.data.toList = Cd.row l ++ (Cd.enc (Cd.zig m) ++ (Cd.text s ++ (Cd.enc n ++ (Cd.enc (Cd.zig m) ++ []))))) :
    ∃ p1 p2 p3 p4, p1 ≤ T.size ∧ p2 ≤ T.size ∧ p3 ≤ T.size ∧ p4 ≤ T.size ∧ Cd.rowR T 0 = .ok (l, p1) ∧ Cd.intR T.data.toList p1 = .ok (m, p2) ∧ Cd.textR T 1000000 p2 = .ok (s, p3) ∧ Cd.uintR T.data.toList p3 = .ok (n, p4) ∧ Cd.intR T.data.toList p4 = .ok (m, T.size) := by
  have hT0 : T.data.toList.drop 0 = Cd.row l ++ (Cd.enc (Cd.zig m) ++ (Cd.text s ++ (Cd.enc n ++ (Cd.enc (Cd.zig m) ++ [])))) := by rw [List.drop_zero]; exact hT
  obtain ⟨a1, b1⟩ := Cd.row_back hr hv (by omega) hT0
  obtain ⟨a2, b2⟩ := Cd.int_back hm0 hm1 b1
  obtain ⟨a3, b3⟩ := Cd.text_back (most := 1000000) (by omega) (by decide) b2
  obtain ⟨a4, b4⟩ := Cd.uint_back hn b3
  obtain ⟨a5, b5⟩ := Cd.int_back hm0 hm1 b4
  have hlen := congrArg List.length hT
  have e0 : T.data.toList.length = T.size := by simp
  simp only [List.length_append, List.length_nil, e0] at hlen
  refine ⟨_, _, _, _, by omega, by omega, by omega, by omega, a1, a2, a3, a4, ?_⟩
  rw [a5]
  congr 2
  omega
set_option maxRecDepth 100000 in
set_option maxHeartbeats 3200000 in
theorem codeBack_walk (z0 z1 : Int) (s : ByteArray) (v : Value) (l : List Cd.V) (w : World) (hz : (Lit.int .u64 z0).wf = true ∧ (Lit.int .u64 z1).wf = true) (hs : s.size ≤ maxLen) (hl : l.length ≤ maxLen ∧ VsAt w v l ∧ ∀ x ∈ l, Vok x) :
    Calls Try.prog 5 #[.agg #[.int .u64 z0, .int .u64 z1], .string s, v] w fun e w' => e = .returned (.bool true) ∧ Below w.heap.size w w' := by
  obtain ⟨n, rfl, hn⟩ := u64_of hz.1
  obtain ⟨z, rfl, hz1⟩ := u64_of hz.2
  obtain ⟨m, hm, hm0, hm1⟩ := int_of_u64 z
  obtain ⟨hmax, hv, hok⟩ := hl
  have HV := hid hv
  have HOK := hid hok
  unfold maxLen at hs
  have cB := hba w (.cells #[.int .u64 (n : Int), .int .u64 (z : Int)] 23)
  have CB := hid cB
  obtain ⟨adr, cap, rfl, hc⟩ := hv
  have HC := hid hc
  clear hz hmax hok cB hz1 hc
  by_cases h : s.size ≤ 2000
  · cases hrow : rowOk l with
    | false =>
      have HR := hid (fun W h => lawrow_any (.slice adr l.length cap) l W h)
      rw [hrow] at HR
      clear hrow
      have h2 : ¬ (2000 : Int) < s.size := by omega
      go_enter Try.func5, Try.ntmps5
      go_wp2_with fail
      refine (HR.out _ (HV.out.below CB.out)).mono ?_; rintro e w1 ⟨rfl, rfl⟩
      go_wp2_with fail
      refine (known_any _).mono ?_; rintro e w3 ⟨rfl, b3⟩
      go_wp2
      go_ret
      exact ⟨rfl, hnext CB.out b3⟩
    | true =>
      have HR := hid (fun W h => lawrow_any (.slice adr l.length cap) l W h)
      rw [hrow] at HR
      have hlen60 := rowOk_length hrow
      have hlen : l.length ≤ 1000000 := by omega
      clear hrow
      have h2 : ¬ (2000 : Int) < s.size := by omega
      go_enter Try.func5, Try.ntmps5
      go_wp2_with fail
      refine (HR.out _ (HV.out.below CB.out)).mono ?_; rintro e w1 ⟨rfl, hw1⟩
      have D0 := CB.out
      rw [hw1] at D0
      clear hw1
      go_wp2_with fail
      go_loopw [9] (fun i wr => ∃ k : Nat, k ≤ l.length ∧ i = .int .i64 (k : Int) ∧ Hid ((l.take k).all Cd.V.right = true) ∧ Below w.heap.size w wr) (fun i _ => l.length - (intOf i).toNat)
      case atStart => exact ⟨0, by omega, rfl, rfl, D0⟩
      case round =>
        obtain ⟨k, hk, rfl, hall, hbel⟩ := hrel
        obtain ⟨w4, rfl⟩ : ∃ w4 : World, w4 = wr := ⟨_, rfl⟩
        by_cases hlk : k < l.length
        · obtain ⟨g, off, rfl, q0, q1, q2, q3⟩ := HC.out k hlk
          have HV1 := HOK.out _ (List.getElem_mem hlk)
          have hcall := hid (fun W => rightR_any l[k].k l[k].n l[k].b l[k].s HV1.2.2 HV1.2.1 W)
          have HN := hid (fun h => row_no l k hlk h)
          have HA := hid (all_next l k hlk hall.out)
          cases hrt : Va.right l[k].k l[k].n l[k].b l[k].s with
          | false =>
            rw [hrt] at hcall
            have HE := hid (HN.out hrt)
            have c9 := hid (fun W h => row_any (.slice (some ⟨g, off, none⟩) l.length cap) l W h HOK.out hlen)
            rw [HE.out] at c9
            generalize l[k] = x at *
            replace q0 := hkeep q0 hbel
            replace q1 := hkeep q1 hbel
            replace q2 := hkeep q2 hbel
            replace q3 := hkeep q3 hbel
            have hlk' : (k : Int) < l.length := by omega
            have hk0 : (0 : Int) ≤ (k : Int) := by omega
            have HB := hid hbel
            clear hrt HN HA HV1 hbel D0
            unfold vv at hcall
            go_wp2_with fail
            refine (hcall.out _).mono ?_; rintro e w5 ⟨rfl, b5⟩
            have D5 := hnext HB.out b5
            go_wp2_with fail
            refine (c9.out _ (HV.out.below D5)).mono ?_; rintro e w6 ⟨rfl, b6⟩
            have D6 := hnext D5 b6
            rw [show bstr [] = ⟨#[]⟩ from rfl]
            go_wp2_with fail
            refine (known_any _).mono ?_; rintro e w7 ⟨rfl, b7⟩
            go_wp2
            go_ret
            exact ⟨rfl, hnext D6 b7⟩
          | true =>
            rw [hrt] at hcall
            have HT := hid (HA.out.trans hrt)
            generalize l[k] = x at *
            replace q0 := hkeep q0 hbel
            replace q1 := hkeep q1 hbel
            replace q2 := hkeep q2 hbel
            replace q3 := hkeep q3 hbel
            have hlk' : (k : Int) < l.length := by omega
            have hk0 : (0 : Int) ≤ (k : Int) := by omega
            have HB := hid hbel
            clear hrt HN HA HV1 hbel D0
            unfold vv at hcall
            go_wp2_with fail
            refine (hcall.out _).mono ?_; rintro e w5 ⟨rfl, b5⟩
            go_wp2_with fail
            go_roundw
            case rel => exact ⟨k + 1, by omega, by go_num, HT, hnext HB.out b5⟩
            case measure => simp [intOf]; omega
        · obtain rfl : k = l.length := by omega
          have HRT : Hid (l.all Cd.V.right = true) := by show _ = _; have h := hall.out; rwa [List.take_length] at h
          have HB := hid hbel
          have hT : (bstr (Cd.row l) ++ bstr (Cd.enc (Cd.zig m)) ++ bstr (Cd.text s) ++ bstr (Cd.enc n) ++ bstr (Cd.enc (Cd.zig m))).data.toList = Cd.row l ++ (Cd.enc (Cd.zig m) ++ (Cd.text s ++ (Cd.enc n ++ (Cd.enc (Cd.zig m) ++ [])))) := by
            rw [bstr_append, bstr_append, bstr_append, bstr_append]; simp [bstr]
          obtain ⟨p1, p2, p3, p4, l1, l2, l3, l4, e1, e2, e3, e4, e5⟩ := back_all HRT.out HOK.out hlen60 hm0 hm1 hn h hT
          have hTs : (bstr (Cd.row l) ++ bstr (Cd.enc (Cd.zig m)) ++ bstr (Cd.text s) ++ bstr (Cd.enc n) ++ bstr (Cd.enc (Cd.zig m))).size ≤ 1000000000 := by
            have h1 := row_length l
            have h2 := (Cd.enc_length (Cd.zig m)).2
            have h3 := text_length s
            have h4 := (Cd.enc_length n).2
            simp only [ByteArray.size_append, bstr_size]
            omega
          have s1 : (bstr (Cd.row l)).size ≤ 400000 := by have h1 := row_length l; rw [bstr_size]; omega
          have s2 : (bstr (Cd.enc (Cd.zig m))).size ≤ 10 := (Cd.enc_length _).2
          have s3 : (bstr (Cd.text s)).size ≤ 3000 := by have h3 := text_length s; rw [bstr_size]; omega
          have s4 : (bstr (Cd.enc n)).size ≤ 10 := (Cd.enc_length _).2
          have c1 := hid (fun W h => row_any (.slice adr l.length cap) l W h HOK.out hlen)
          have c2 := hid (fun W => int_any m hm0 hm1 W)
          have c3 := hid (fun W => text_any s (by omega) W)
          have c4 := hid (fun W => uint_any n hn W)
          generalize bstr (Cd.row l) = A1 at *
          generalize bstr (Cd.enc (Cd.zig m)) = A2 at *
          generalize bstr (Cd.text s) = A3 at *
          generalize bstr (Cd.enc n) = A4 at *
          generalize hTT : A1 ++ A2 ++ A3 ++ A4 ++ A2 = T at *
          have HTT := hid hTT
          have t1 := top_ok (z := []) e1
          have t2 := top_ok (z := (0 : Int)) e2
          have t3 := top_ok (z := ⟨#[]⟩) e3
          have t4 := top_ok (z := 0) e4
          have t5 := top_ok (z := (0 : Int)) e5
          have m1 := hid (fun g W h => mRow g T 0 0 W h (by omega) hTs)
          have m2 := hid (fun g W h => mInt g T p1 0 W h l1 hTs)
          have m3 := hid (fun g W h => mText g T p2 0 W h l2 hTs)
          have m4 := hid (fun g W h => mUint g T p3 0 W h l3 hTs)
          have m5 := hid (fun g W h => mInt g T p4 0 W h l4 hTs)
          rw [t1] at m1
          rw [t2] at m2
          rw [t3] at m3
          rw [t4] at m4
          rw [t5] at m5
          have m6 := hid (fun g W h => left_any g T T.size 0 W h (Nat.le_refl _) hTs)
          rw [Nat.sub_self] at m6
          have m7 := hid (fun g W h => err_any g T T.size 0 W h)
          have m8 := hid (fun (W : World) (v1 v2 : Value) h1 h2 => rows_any v1 v2 l l W h1 h2 hlen hlen)
          rw [decide_eq_true rfl] at m8
          clear hall hbel D0 hTT hT hTs e1 e2 e3 e4 e5 t1 t2 t3 t4 t5 HRT HR HC l1 l2 l3 l4 CB HOK
          go_wp2_with fail
          refine (c1.out _ (HV.out.below HB.out)).mono ?_; rintro e w5 ⟨rfl, b5⟩
          have D5 := hnext HB.out b5
          go_wp2_with fail
          refine (c2.out _).mono ?_; rintro e w6 ⟨rfl, b6⟩
          have D6 := hnext D5 b6
          go_wp2_with fail
          refine (c3.out _).mono ?_; rintro e w7 ⟨rfl, b7⟩
          have D7 := hnext D6 b7
          go_wp2_with fail
          refine (c4.out _).mono ?_; rintro e w8 ⟨rfl, b8⟩
          have D8 := hnext D7 b8
          go_wp2_with fail
          refine (c2.out _).mono ?_; rintro e w9 ⟨rfl, b9⟩
          have D9 := hnext D8 b9
          clear b5 b6 b7 b8 b9 D5 D6 D7 D8
          have hcat := HTT.out
          go_wp2_with fail
          refine (new_any T _).mono ?_; rintro e w10 ⟨rfl, hw10⟩
          have R0 := new_rdr T w9
          rw [← hw10] at R0
          have b10 := hba w9 (.cells #[.string T, .int .i64 0, .int .i64 0] 60)
          rw [← hw10] at b10
          have hg0 := D9.size
          clear hw10 hcat
          generalize w9.heap.size = g at *
          have hG := hid hg0
          have B10 := hid (D9.trans (b10.mono hG.out))
          clear D9 b10 hg0
          go_wp2_with fail
          refine (m1.out g _ R0).mono ?_; rintro e w11 ⟨⟨v', rfl, hown⟩, u11, R1, _⟩
          have hgl := R0.cells.2.2.2.2.2
          have HO := hid hown
          have U1 := hid u11
          clear hown u11 R0
          go_wp2_with fail
          refine (m2.out g _ R1).mono ?_; rintro e w12 ⟨rfl, u12, R2, _⟩
          have HO2 := hid (own_upd HO.out u12 hgl)
          have U2 := hid (U1.out.trans u12)
          clear HO U1 u12 R1
          go_wp2_with fail
          refine (m3.out g _ R2).mono ?_; rintro e w13 ⟨rfl, u13, R3, _⟩
          have HO3 := hid (own_upd HO2.out u13 hgl)
          have U3 := hid (U2.out.trans u13)
          clear HO2 U2 u13 R2
          go_wp2_with fail
          refine (m4.out g _ R3).mono ?_; rintro e w14 ⟨rfl, u14, R4, _⟩
          have HO4 := hid (own_upd HO3.out u14 hgl)
          have U4 := hid (U3.out.trans u14)
          clear HO3 U3 u14 R3
          go_wp2_with fail
          refine (m5.out g _ R4).mono ?_; rintro e w15 ⟨rfl, u15, R5, _⟩
          have HO5 := hid (own_upd HO4.out u15 hgl)
          have U5 := hid (U4.out.trans u15)
          clear HO4 U4 u15 R4
          have D15 := hid (B10.out.grown U5.out (Nat.le_trans hG.out (Nat.le_of_lt hgl)) (fun q hq => by cases hq; exact hG.out))
          clear U5 B10
          have HVO := hid (VsAt.own HO5.out)
          clear HO5
          go_wp2_with fail
          refine (m8.out _ _ _ HVO.out (HV.out.below D15.out)).mono ?_; rintro e w16 ⟨rfl, b16⟩
          have R6 := R5.keep b16
          have D16 := hid (hnext D15.out b16)
          clear D15 b16 R5
          go_wp2_with fail
          refine (m6.out g _ R6).mono ?_; rintro e w17 ⟨rfl, b17⟩
          have R7 := R6.keep b17
          have D17 := hid (hnext D16.out b17)
          clear D16 b17 R6
          go_wp2_with fail
          refine (m7.out g _ R7).mono ?_; rintro e w18 ⟨rfl, rfl⟩
          go_wp2_with fail
          refine (known_any _).mono ?_; rintro e w19 ⟨rfl, b19⟩
          go_wp2
          go_ret
          exact ⟨rfl, hnext D17.out b19⟩
  · have h' : (2000 : Int) < s.size := by omega
    go_enter Try.func5, Try.ntmps5
    go_wp2_with fail
    refine (known_any _).mono ?_; rintro e w3 ⟨rfl, b3⟩
    go_wp2
    go_ret
    exact ⟨rfl, hnext CB.out b3⟩
end Go.Proofs.Ytanmomlkdfnakaa
