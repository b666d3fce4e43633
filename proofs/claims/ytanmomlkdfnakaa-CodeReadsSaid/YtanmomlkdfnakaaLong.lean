/-
  CodeLong answers true at any number and text. No condition.
-/
import Derived.Test.YtanmomlkdfnakaaFew
namespace Go.Proofs.Ytanmomlkdfnakaa
open Go.RowKit

theorem Rdr.upd {w w' : World} {g g2 : Nat} {s : ByteArray} {i : Nat} {er : Int} (h : Rdr w g2 s i er) (hu : Upd g w w') (hne : g2 ≠ g) : Rdr w' g2 s i er := Var.upd (w := w) (b := g2) (cs := #[.string s, .int .i64 (i : Int), .int .i64 er]) h hu hne
theorem Cd.top_err0 {α : Type} {z : α} {f : Nat → Cd.R α} {i : Nat} {x : Int} (h : f i = .error x) : Cd.top z f i 0 = (z, i, x) := top_err h
theorem Cd.textR_of {s : ByteArray} {most n j i : Nat} (h : Cd.uintR s.data.toList i = .ok (n, j)) : Cd.textR s most i = if most < n then .error 19 else if s.size < j + n then .error 8 else .ok (s.extract j (j + n), j + n) := by
  unfold Cd.textR; rw [h]
theorem Cd.rowR_of {s : ByteArray} {n j i : Nat} (h : Cd.uintR s.data.toList i = .ok (n, j)) : Cd.rowR s i = if 1000 < n then .error 19 else Cd.rowF s n j := by
  unfold Cd.rowR; rw [h]
theorem Cd.rowF_short (s : ByteArray) (n j : Nat) (hn : 0 < n) (hj : s.size ≤ j) : Cd.rowF s n j = .error 8 := by
  cases n with
  | zero => omega
  | succ n =>
    have h0 : s.data.toList[j]? = none := by
      rw [List.getElem?_eq_none_iff]
      show s.data.size ≤ j
      exact hj
    unfold Cd.rowF Cd.valueR Cd.rawR Cd.nextR
    rw [h0]

set_option maxRecDepth 100000 in
set_option maxHeartbeats 3200000 in
theorem codeLong_walk (n0 : Int) (s : ByteArray) (hn0 : (Lit.int .u64 n0).wf = true) (hs : s.size ≤ maxLen) (w : World) :
    Calls Try.prog 10 #[.int .u64 n0, .string s] w fun e w' => e = .returned (.bool true) ∧ Below w.heap.size w w' := by
  obtain ⟨n, rfl, hn⟩ := u64_of hn0
  unfold maxLen at hs
  by_cases h : s.size ≤ 100
  · have c1 := hid (fun W => uint_any n hn W)
    have hA : (bstr (Cd.enc n) ++ s).data.toList = Cd.enc n ++ s.data.toList := by rw [ByteArray.data_append]; simp [bstr]
    have hl := Cd.enc_length n
    have hAs : (bstr (Cd.enc n)).size = (Cd.enc n).length := bstr_size _
    have hAt : (bstr (Cd.enc n) ++ s).size = (Cd.enc n).length + s.size := by rw [ByteArray.size_append, bstr_size]
    have hT := Cd.textR_of (most := 1000000) (Cd.uintR_small hn hA)
    have hX := Cd.rowR_of (s := bstr (Cd.enc n)) (Cd.uintR_small (t := []) hn (by simp [bstr]))
    generalize (Cd.enc n).length = a at *
    generalize hAA : bstr (Cd.enc n) = A at *
    generalize hBB : A ++ s = T at *
    have HBB := hid hBB
    clear hAA hBB hn0 hA
    have sA : (A.size : Int) ≤ 10 := by omega
    have hq : (((T.size : Nat) : Int) == (A.size : Int) + (s.size : Int)) = true := by rw [beq_iff_eq]; omega
    by_cases h1 : 1000000 < n
    · have hT2 : Cd.top ⟨#[]⟩ (Cd.textR T 1000000) 0 0 = (⟨#[]⟩, 0, 19) := by rw [Cd.top_err0]; rw [hT, if_pos (by omega)]
      have hX2 : Cd.top [] (Cd.rowR A) 0 0 = ([], 0, 19) := by rw [Cd.top_err0]; rw [hX, if_pos (by omega)]
      have hmt := hid (fun g W h => mText g T 0 0 W h (by omega) (by omega))
      have hmr := hid (fun g W h => mRow g A 0 0 W h (by omega) (by omega))
      rw [hT2] at hmt
      rw [hX2] at hmr
      have het := hid (fun g W h => err_any g T (0) (19) W h)
      have her := hid (fun g W h => err_any g A (0) (19) W h)
      have hlf := hid (fun g W h => left_any g T 0 (19) W h (by omega) (by omega))
      rw [Nat.sub_zero] at hlf
      have g1000000 : (1000000 : Int) < n := by omega
      have q1000000 : ¬ (n : Int) ≤ 1000000 := by omega
      have g1000 : (1000 : Int) < n := by omega
      have q1000 : ¬ (n : Int) ≤ 1000 := by omega
      have hz : ((n : Int) == 0) = false := by rw [beq_eq_false_iff_ne]; omega
      have gs : (s.size : Int) < n := by omega
      clear hT hX hT2 hX2 hn
      go_enter Try.func10, Try.ntmps10
      go_wp2_with fail
      refine (c1.out _).mono ?_; rintro e w1 ⟨rfl, b1⟩
      have hcat := HBB.out
      go_wp2_with fail
      refine (new_any T _).mono ?_; rintro e w2 ⟨rfl, hw2⟩
      have R0 := new_rdr T w1
      rw [← hw2] at R0
      have b2 := hba w1 (.cells #[.string T, .int .i64 0, .int .i64 0] 60)
      rw [← hw2] at b2
      have hg0 := b1.size
      clear hw2 hcat
      generalize w1.heap.size = g at *
      have hG := hid hg0
      have hgl := R0.cells.2.2.2.2.2
      have B2 : Below w.heap.size w w2 := b1.trans (b2.mono hG.out)
      clear b1 b2 hg0
      go_wp2_with fail
      refine (c1.out _).mono ?_; rintro e w3 ⟨rfl, b3⟩
      have R1 := R0.keep b3
      have B3 := hnext B2 b3
      have hgl3 : g < w3.heap.size := Nat.lt_of_lt_of_le hgl b3.size
      clear R0 B2 b3
      go_wp2_with fail
      refine (new_any A _).mono ?_; rintro e w4 ⟨rfl, hw4⟩
      have X0 := new_rdr A w3
      rw [← hw4] at X0
      have b4 := hba w3 (.cells #[.string A, .int .i64 0, .int .i64 0] 60)
      rw [← hw4] at b4
      have R2 := R1.keep b4
      have B4 := hnext B3 b4
      have hg3 := B3.size
      clear hw4 R1 B3 b4
      generalize w3.heap.size = g2 at *
      have HB := hid B4
      have HG2 := hid hg3
      have hne : g2 ≠ g := by omega
      have hne' : g ≠ g2 := by omega
      clear B4 hg3 hgl hgl3
      go_wp2_with fail
      refine (hmt.out g _ R2).mono ?_; rintro e w5 ⟨rfl, u5, R5, _⟩
      have X5 := X0.upd u5 hne
      go_wp2_with fail
      refine (hmr.out g2 _ X5).mono ?_; rintro e w6 ⟨⟨v', rfl, hown⟩, u6, X6, _⟩
      have R6 := R5.upd u6 hne'
      obtain ⟨adr, cap, rfl, _⟩ := VsAt.own hown
      have HC : Below w.heap.size w w6 := (HB.out.grown u5 HB.out.size (fun q hq => by cases hq; exact hG.out)).grown u6 (Nat.le_trans HB.out.size u5.size) (fun q hq => by cases hq; exact HG2.out)
      have HC := hid HC
      clear hown u5 u6 R2 X0 X5 R5 HB
      go_wp2_with fail
      refine (het.out g _ R6).mono ?_; rintro e w7 ⟨rfl, rfl⟩
      go_wp2_with fail
      refine (her.out g2 _ X6).mono ?_; rintro e w7 ⟨rfl, rfl⟩
      go_wp2_with fail
      refine (het.out g _ R6).mono ?_; rintro e w7 ⟨rfl, rfl⟩
      go_wp2_with fail
      refine (hlf.out g _ R6).mono ?_; rintro e w8 ⟨rfl, b8⟩
      go_wp2_with fail
      refine (c1.out _).mono ?_; rintro e w9 ⟨rfl, b9⟩
      go_wp2_with fail
      refine (known_any _).mono ?_; rintro e w10 ⟨rfl, b10⟩
      go_wp2
      go_ret
      exact ⟨rfl, hnext (hnext (hnext HC.out b8) b9) b10⟩
    · by_cases h2 : 1000 < n
      · have hT2 : Cd.top ⟨#[]⟩ (Cd.textR T 1000000) 0 0 = (⟨#[]⟩, 0, 8) := by rw [Cd.top_err0]; rw [hT, if_neg (by omega), if_pos (by omega)]
        have hX2 : Cd.top [] (Cd.rowR A) 0 0 = ([], 0, 19) := by rw [Cd.top_err0]; rw [hX, if_pos (by omega)]
        have hmt := hid (fun g W h => mText g T 0 0 W h (by omega) (by omega))
        have hmr := hid (fun g W h => mRow g A 0 0 W h (by omega) (by omega))
        rw [hT2] at hmt
        rw [hX2] at hmr
        have het := hid (fun g W h => err_any g T (0) (8) W h)
        have her := hid (fun g W h => err_any g A (0) (19) W h)
        have hlf := hid (fun g W h => left_any g T 0 (8) W h (by omega) (by omega))
        rw [Nat.sub_zero] at hlf
        have g1000000 : ¬ (1000000 : Int) < n := by omega
        have q1000000 : (n : Int) ≤ 1000000 := by omega
        have g1000 : (1000 : Int) < n := by omega
        have q1000 : ¬ (n : Int) ≤ 1000 := by omega
        have hz : ((n : Int) == 0) = false := by rw [beq_eq_false_iff_ne]; omega
        have gs : (s.size : Int) < n := by omega
        clear hT hX hT2 hX2 hn
        go_enter Try.func10, Try.ntmps10
        go_wp2_with fail
        refine (c1.out _).mono ?_; rintro e w1 ⟨rfl, b1⟩
        have hcat := HBB.out
        go_wp2_with fail
        refine (new_any T _).mono ?_; rintro e w2 ⟨rfl, hw2⟩
        have R0 := new_rdr T w1
        rw [← hw2] at R0
        have b2 := hba w1 (.cells #[.string T, .int .i64 0, .int .i64 0] 60)
        rw [← hw2] at b2
        have hg0 := b1.size
        clear hw2 hcat
        generalize w1.heap.size = g at *
        have hG := hid hg0
        have hgl := R0.cells.2.2.2.2.2
        have B2 : Below w.heap.size w w2 := b1.trans (b2.mono hG.out)
        clear b1 b2 hg0
        go_wp2_with fail
        refine (c1.out _).mono ?_; rintro e w3 ⟨rfl, b3⟩
        have R1 := R0.keep b3
        have B3 := hnext B2 b3
        have hgl3 : g < w3.heap.size := Nat.lt_of_lt_of_le hgl b3.size
        clear R0 B2 b3
        go_wp2_with fail
        refine (new_any A _).mono ?_; rintro e w4 ⟨rfl, hw4⟩
        have X0 := new_rdr A w3
        rw [← hw4] at X0
        have b4 := hba w3 (.cells #[.string A, .int .i64 0, .int .i64 0] 60)
        rw [← hw4] at b4
        have R2 := R1.keep b4
        have B4 := hnext B3 b4
        have hg3 := B3.size
        clear hw4 R1 B3 b4
        generalize w3.heap.size = g2 at *
        have HB := hid B4
        have HG2 := hid hg3
        have hne : g2 ≠ g := by omega
        have hne' : g ≠ g2 := by omega
        clear B4 hg3 hgl hgl3
        go_wp2_with fail
        refine (hmt.out g _ R2).mono ?_; rintro e w5 ⟨rfl, u5, R5, _⟩
        have X5 := X0.upd u5 hne
        go_wp2_with fail
        refine (hmr.out g2 _ X5).mono ?_; rintro e w6 ⟨⟨v', rfl, hown⟩, u6, X6, _⟩
        have R6 := R5.upd u6 hne'
        obtain ⟨adr, cap, rfl, _⟩ := VsAt.own hown
        have HC : Below w.heap.size w w6 := (HB.out.grown u5 HB.out.size (fun q hq => by cases hq; exact hG.out)).grown u6 (Nat.le_trans HB.out.size u5.size) (fun q hq => by cases hq; exact HG2.out)
        have HC := hid HC
        clear hown u5 u6 R2 X0 X5 R5 HB
        go_wp2_with fail
        refine (het.out g _ R6).mono ?_; rintro e w7 ⟨rfl, rfl⟩
        go_wp2_with fail
        refine (her.out g2 _ X6).mono ?_; rintro e w7 ⟨rfl, rfl⟩
        go_wp2_with fail
        refine (het.out g _ R6).mono ?_; rintro e w7 ⟨rfl, rfl⟩
        go_wp2_with fail
        refine (hlf.out g _ R6).mono ?_; rintro e w8 ⟨rfl, b8⟩
        go_wp2_with fail
        refine (c1.out _).mono ?_; rintro e w9 ⟨rfl, b9⟩
        go_wp2_with fail
        refine (known_any _).mono ?_; rintro e w10 ⟨rfl, b10⟩
        go_wp2
        go_ret
        exact ⟨rfl, hnext (hnext (hnext HC.out b8) b9) b10⟩
      · by_cases h3 : s.size < n
        · have hT2 : Cd.top ⟨#[]⟩ (Cd.textR T 1000000) 0 0 = (⟨#[]⟩, 0, 8) := by rw [Cd.top_err0]; rw [hT, if_neg (by omega), if_pos (by omega)]
          have hX2 : Cd.top [] (Cd.rowR A) 0 0 = ([], 0, 8) := by rw [Cd.top_err0]; rw [hX, if_neg (by omega), Cd.rowF_short _ _ _ (by omega) (by omega)]
          have hmt := hid (fun g W h => mText g T 0 0 W h (by omega) (by omega))
          have hmr := hid (fun g W h => mRow g A 0 0 W h (by omega) (by omega))
          rw [hT2] at hmt
          rw [hX2] at hmr
          have het := hid (fun g W h => err_any g T (0) (8) W h)
          have her := hid (fun g W h => err_any g A (0) (8) W h)
          have hlf := hid (fun g W h => left_any g T 0 (8) W h (by omega) (by omega))
          rw [Nat.sub_zero] at hlf
          have g1000000 : ¬ (1000000 : Int) < n := by omega
          have q1000000 : (n : Int) ≤ 1000000 := by omega
          have g1000 : ¬ (1000 : Int) < n := by omega
          have q1000 : (n : Int) ≤ 1000 := by omega
          have hz : ((n : Int) == 0) = false := by rw [beq_eq_false_iff_ne]; omega
          have gs : (s.size : Int) < n := by omega
          clear hT hX hT2 hX2 hn
          go_enter Try.func10, Try.ntmps10
          go_wp2_with fail
          refine (c1.out _).mono ?_; rintro e w1 ⟨rfl, b1⟩
          have hcat := HBB.out
          go_wp2_with fail
          refine (new_any T _).mono ?_; rintro e w2 ⟨rfl, hw2⟩
          have R0 := new_rdr T w1
          rw [← hw2] at R0
          have b2 := hba w1 (.cells #[.string T, .int .i64 0, .int .i64 0] 60)
          rw [← hw2] at b2
          have hg0 := b1.size
          clear hw2 hcat
          generalize w1.heap.size = g at *
          have hG := hid hg0
          have hgl := R0.cells.2.2.2.2.2
          have B2 : Below w.heap.size w w2 := b1.trans (b2.mono hG.out)
          clear b1 b2 hg0
          go_wp2_with fail
          refine (c1.out _).mono ?_; rintro e w3 ⟨rfl, b3⟩
          have R1 := R0.keep b3
          have B3 := hnext B2 b3
          have hgl3 : g < w3.heap.size := Nat.lt_of_lt_of_le hgl b3.size
          clear R0 B2 b3
          go_wp2_with fail
          refine (new_any A _).mono ?_; rintro e w4 ⟨rfl, hw4⟩
          have X0 := new_rdr A w3
          rw [← hw4] at X0
          have b4 := hba w3 (.cells #[.string A, .int .i64 0, .int .i64 0] 60)
          rw [← hw4] at b4
          have R2 := R1.keep b4
          have B4 := hnext B3 b4
          have hg3 := B3.size
          clear hw4 R1 B3 b4
          generalize w3.heap.size = g2 at *
          have HB := hid B4
          have HG2 := hid hg3
          have hne : g2 ≠ g := by omega
          have hne' : g ≠ g2 := by omega
          clear B4 hg3 hgl hgl3
          go_wp2_with fail
          refine (hmt.out g _ R2).mono ?_; rintro e w5 ⟨rfl, u5, R5, _⟩
          have X5 := X0.upd u5 hne
          go_wp2_with fail
          refine (hmr.out g2 _ X5).mono ?_; rintro e w6 ⟨⟨v', rfl, hown⟩, u6, X6, _⟩
          have R6 := R5.upd u6 hne'
          obtain ⟨adr, cap, rfl, _⟩ := VsAt.own hown
          have HC : Below w.heap.size w w6 := (HB.out.grown u5 HB.out.size (fun q hq => by cases hq; exact hG.out)).grown u6 (Nat.le_trans HB.out.size u5.size) (fun q hq => by cases hq; exact HG2.out)
          have HC := hid HC
          clear hown u5 u6 R2 X0 X5 R5 HB
          go_wp2_with fail
          refine (het.out g _ R6).mono ?_; rintro e w7 ⟨rfl, rfl⟩
          go_wp2_with fail
          refine (her.out g2 _ X6).mono ?_; rintro e w7 ⟨rfl, rfl⟩
          go_wp2_with fail
          refine (het.out g _ R6).mono ?_; rintro e w7 ⟨rfl, rfl⟩
          go_wp2_with fail
          refine (hlf.out g _ R6).mono ?_; rintro e w8 ⟨rfl, b8⟩
          go_wp2_with fail
          refine (c1.out _).mono ?_; rintro e w9 ⟨rfl, b9⟩
          go_wp2_with fail
          refine (known_any _).mono ?_; rintro e w10 ⟨rfl, b10⟩
          go_wp2
          go_ret
          exact ⟨rfl, hnext (hnext (hnext HC.out b8) b9) b10⟩
        · by_cases h4 : 0 < n
          · have hT2 : Cd.top ⟨#[]⟩ (Cd.textR T 1000000) 0 0 = (T.extract a (a + n), a + n, 0) := top_ok (by rw [hT, if_neg (by omega), if_neg (by omega)])
            have hX2 : Cd.top [] (Cd.rowR A) 0 0 = ([], 0, 8) := by rw [Cd.top_err0]; rw [hX, if_neg (by omega), Cd.rowF_short _ _ _ (by omega) (by omega)]
            have hmt := hid (fun g W h => mText g T 0 0 W h (by omega) (by omega))
            have hmr := hid (fun g W h => mRow g A 0 0 W h (by omega) (by omega))
            rw [hT2] at hmt
            rw [hX2] at hmr
            have het := hid (fun g W h => err_any g T (a + n) (0) W h)
            have her := hid (fun g W h => err_any g A (0) (8) W h)
            have g1000000 : ¬ (1000000 : Int) < n := by omega
            have q1000000 : (n : Int) ≤ 1000000 := by omega
            have g1000 : ¬ (1000 : Int) < n := by omega
            have q1000 : (n : Int) ≤ 1000 := by omega
            have hz : ((n : Int) == 0) = false := by rw [beq_eq_false_iff_ne]; omega
            have gs : ¬ (s.size : Int) < n := by omega
            generalize T.extract a (a + n) = tt at *
            clear hT hX hT2 hX2 hn
            go_enter Try.func10, Try.ntmps10
            go_wp2_with fail
            refine (c1.out _).mono ?_; rintro e w1 ⟨rfl, b1⟩
            have hcat := HBB.out
            go_wp2_with fail
            refine (new_any T _).mono ?_; rintro e w2 ⟨rfl, hw2⟩
            have R0 := new_rdr T w1
            rw [← hw2] at R0
            have b2 := hba w1 (.cells #[.string T, .int .i64 0, .int .i64 0] 60)
            rw [← hw2] at b2
            have hg0 := b1.size
            clear hw2 hcat
            generalize w1.heap.size = g at *
            have hG := hid hg0
            have hgl := R0.cells.2.2.2.2.2
            have B2 : Below w.heap.size w w2 := b1.trans (b2.mono hG.out)
            clear b1 b2 hg0
            go_wp2_with fail
            refine (c1.out _).mono ?_; rintro e w3 ⟨rfl, b3⟩
            have R1 := R0.keep b3
            have B3 := hnext B2 b3
            have hgl3 : g < w3.heap.size := Nat.lt_of_lt_of_le hgl b3.size
            clear R0 B2 b3
            go_wp2_with fail
            refine (new_any A _).mono ?_; rintro e w4 ⟨rfl, hw4⟩
            have X0 := new_rdr A w3
            rw [← hw4] at X0
            have b4 := hba w3 (.cells #[.string A, .int .i64 0, .int .i64 0] 60)
            rw [← hw4] at b4
            have R2 := R1.keep b4
            have B4 := hnext B3 b4
            have hg3 := B3.size
            clear hw4 R1 B3 b4
            generalize w3.heap.size = g2 at *
            have HB := hid B4
            have HG2 := hid hg3
            have hne : g2 ≠ g := by omega
            have hne' : g ≠ g2 := by omega
            clear B4 hg3 hgl hgl3
            go_wp2_with fail
            refine (hmt.out g _ R2).mono ?_; rintro e w5 ⟨rfl, u5, R5, _⟩
            have X5 := X0.upd u5 hne
            go_wp2_with fail
            refine (hmr.out g2 _ X5).mono ?_; rintro e w6 ⟨⟨v', rfl, hown⟩, u6, X6, _⟩
            have R6 := R5.upd u6 hne'
            obtain ⟨adr, cap, rfl, _⟩ := VsAt.own hown
            have HC : Below w.heap.size w w6 := (HB.out.grown u5 HB.out.size (fun q hq => by cases hq; exact hG.out)).grown u6 (Nat.le_trans HB.out.size u5.size) (fun q hq => by cases hq; exact HG2.out)
            have HC := hid HC
            clear hown u5 u6 R2 X0 X5 R5 HB
            go_wp2_with fail
            refine (her.out g2 _ X6).mono ?_; rintro e w7 ⟨rfl, rfl⟩
            go_wp2_with fail
            refine (het.out g _ R6).mono ?_; rintro e w7 ⟨rfl, rfl⟩
            go_wp2_with fail
            refine (known_any _).mono ?_; rintro e w10 ⟨rfl, b10⟩
            go_wp2
            go_ret
            exact ⟨rfl, hnext HC.out b10⟩
          · obtain rfl : n = 0 := by omega
            have hT2 : Cd.top ⟨#[]⟩ (Cd.textR T 1000000) 0 0 = (T.extract a (a + 0), a + 0, 0) := top_ok (by rw [hT, if_neg (by omega), if_neg (by omega)])
            have hX2 : Cd.top [] (Cd.rowR A) 0 0 = ([], a, 0) := top_ok (by rw [hX, if_neg (by omega)]; rfl)
            have hmt := hid (fun g W h => mText g T 0 0 W h (by omega) (by omega))
            have hmr := hid (fun g W h => mRow g A 0 0 W h (by omega) (by omega))
            rw [hT2] at hmt
            rw [hX2] at hmr
            have het := hid (fun g W h => err_any g T (a + 0) (0) W h)
            have her := hid (fun g W h => err_any g A (a) (0) W h)
            have hz : (((0 : Nat) : Int) == 0) = true := rfl
            generalize T.extract a (a + 0) = tt at *
            clear hT hX hT2 hX2 hn
            go_enter Try.func10, Try.ntmps10
            go_wp2_with fail
            refine (c1.out _).mono ?_; rintro e w1 ⟨rfl, b1⟩
            have hcat := HBB.out
            go_wp2_with fail
            refine (new_any T _).mono ?_; rintro e w2 ⟨rfl, hw2⟩
            have R0 := new_rdr T w1
            rw [← hw2] at R0
            have b2 := hba w1 (.cells #[.string T, .int .i64 0, .int .i64 0] 60)
            rw [← hw2] at b2
            have hg0 := b1.size
            clear hw2 hcat
            generalize w1.heap.size = g at *
            have hG := hid hg0
            have hgl := R0.cells.2.2.2.2.2
            have B2 : Below w.heap.size w w2 := b1.trans (b2.mono hG.out)
            clear b1 b2 hg0
            go_wp2_with fail
            refine (c1.out _).mono ?_; rintro e w3 ⟨rfl, b3⟩
            have R1 := R0.keep b3
            have B3 := hnext B2 b3
            have hgl3 : g < w3.heap.size := Nat.lt_of_lt_of_le hgl b3.size
            clear R0 B2 b3
            go_wp2_with fail
            refine (new_any A _).mono ?_; rintro e w4 ⟨rfl, hw4⟩
            have X0 := new_rdr A w3
            rw [← hw4] at X0
            have b4 := hba w3 (.cells #[.string A, .int .i64 0, .int .i64 0] 60)
            rw [← hw4] at b4
            have R2 := R1.keep b4
            have B4 := hnext B3 b4
            have hg3 := B3.size
            clear hw4 R1 B3 b4
            generalize w3.heap.size = g2 at *
            have HB := hid B4
            have HG2 := hid hg3
            have hne : g2 ≠ g := by omega
            have hne' : g ≠ g2 := by omega
            clear B4 hg3 hgl hgl3
            go_wp2_with fail
            refine (hmt.out g _ R2).mono ?_; rintro e w5 ⟨rfl, u5, R5, _⟩
            have X5 := X0.upd u5 hne
            go_wp2_with fail
            refine (hmr.out g2 _ X5).mono ?_; rintro e w6 ⟨⟨v', rfl, hown⟩, u6, X6, _⟩
            have R6 := R5.upd u6 hne'
            obtain ⟨adr, cap, rfl, _⟩ := VsAt.own hown
            have HC : Below w.heap.size w w6 := (HB.out.grown u5 HB.out.size (fun q hq => by cases hq; exact hG.out)).grown u6 (Nat.le_trans HB.out.size u5.size) (fun q hq => by cases hq; exact HG2.out)
            have HC := hid HC
            clear hown u5 u6 R2 X0 X5 R5 HB
            go_wp2_with fail
            refine (het.out g _ R6).mono ?_; rintro e w7 ⟨rfl, rfl⟩
            go_wp2_with fail
            refine (known_any _).mono ?_; rintro e w10 ⟨rfl, b10⟩
            go_wp2
            go_ret
            exact ⟨rfl, hnext HC.out b10⟩
  · have h' : (100 : Int) < s.size := by omega
    go_enter Try.func10, Try.ntmps10
    go_wp2_with fail
    refine (known_any _).mono ?_; rintro e w3 ⟨rfl, b3⟩
    go_wp2
    go_ret
    exact ⟨rfl, b3⟩
end Go.Proofs.Ytanmomlkdfnakaa
