/-
  code.Value and the reference's Value: their contracts. Condition: the bits are below 2^64, the number is an int, the text is no longer than an int.
-/
import Derived.Test.YtanmomlkdfnakaaCdI
namespace Go.Proofs.Ytanmomlkdfnakaa
open Go.RowKit

/-- a value in a box -/
def VBox (w : World) (g : Nat) (k n : Int) (b : Nat) (s : ByteArray) : Prop :=
  w.cell? ⟨g, 0, none⟩ = some (.int .i64 k) ∧ w.cell? ⟨g, 1, none⟩ = some (.int .i64 n) ∧ w.cell? ⟨g, 2, none⟩ = some (.int .u64 (b : Int)) ∧ w.cell? ⟨g, 3, none⟩ = some (.string s)
theorem VBox.keep {w w' : World} {g : Nat} {k n : Int} {b : Nat} {s : ByteArray} (h : VBox w g k n b s) (hb : Below w.heap.size w w') : VBox w' g k n b s := ⟨hkeep h.1 hb, hkeep h.2.1 hb, hkeep h.2.2.1 hb, hkeep h.2.2.2 hb⟩
theorem VBox.new (w : World) (k n : Int) (b : Nat) (s : ByteArray) : VBox (w.alloc (.cells #[.int .i64 k, .int .i64 n, .int .u64 (b : Int), .string s] 28)) w.heap.size k n b s := ⟨by simp, by simp, by simp, by simp⟩

theorem low_ref (k b : Nat) : Cd.low (k + 1) b = UInt8.ofNat (b / 256 ^ k) :: Cd.low k b := rfl
theorem pow_next (b k : Nat) : b / 256 ^ k / 256 = b / 256 ^ (k + 1) := by rw [Nat.pow_succ, Nat.div_div_eq_div_mul]
theorem ofNat_mod (x : Nat) : UInt8.ofNat (x % 256) = UInt8.ofNat x := by apply UInt8.toNat_inj.1; rw [UInt8.toNat_ofNat', UInt8.toNat_ofNat']; omega
theorem byte_val (x : Nat) : Value.int .u8 ((x : Int) % 256) = byteV (UInt8.ofNat x) := by
  unfold byteV
  refine int_eq ?_
  rw [UInt8.toNat_ofNat']
  omega
theorem one_size (c : UInt8) : (bstr [c]).size = 1 := rfl
theorem low_size (k b : Nat) : (bstr (Cd.low k b)).size = k := by rw [bstr_size, Cd.low_length]

set_option maxRecDepth 100000 in
set_option maxHeartbeats 800000 in
theorem eightR_any (b : Nat) (hb : b < 18446744073709551616) (w : World) : Calls Try.prog 43 #[.int .u64 (b : Int)] w fun e w' => e = .returned (.string (bstr (Cd.eight b))) ∧ Below w.heap.size w w' := by
  have hb' : (b : Int) ≤ 18446744073709551615 := by omega
  clear hb
  go_enter Try.func43, Try.ntmps43
  go_wp2_with fail
  go_loopw [3, 4, 0] (fun s i c wr => ∃ (k x : Nat), k ≤ 8 ∧ i = .int .i64 (k : Int) ∧ c = .int .u64 (x : Int) ∧ Hid (x = b / 256 ^ k) ∧ x ≤ b ∧ s = .string (bstr (Cd.low k b)) ∧ Below w.heap.size w wr) (fun _ i _ _ => 8 - (intOf i).toNat)
  case atStart => exact ⟨0, b, by omega, rfl, rfl, by show _ = _; simp, Nat.le_refl _, rfl, Below.refl _ _⟩
  case round =>
    obtain ⟨k, x, hk, rfl, rfl, hx, hxb, rfl, hbel⟩ := hrel
    have h0 : (0 : Int) ≤ (x : Int) := by omega
    have h1 : (x : Int) ≤ 18446744073709551615 := by omega
    by_cases hlt : k < 8
    · have hst := fun W => run_string_one (P := Try.prog) W 35 9 5 _ _ (byte_val x) Try.underlying35 Try.underlying5 Try.underlying9
      have HL := hid (low_ref k b)
      have HP := hid (pow_next b k)
      have hz1 := one_size (UInt8.ofNat x)
      have hz2 := low_size k b
      have HX := hx
      generalize Cd.low k b = l at hz2 HL ⊢
      clear hx
      go_wp2_with fail
      go_roundw
      case rel => exact ⟨k + 1, x / 256, by omega, by go_num, int_eq (by omega), by show _ = _; rw [HX.out, HP.out], by omega, str_eq (by rw [HL.out, ← HX.out]; first | rfl | rw [bstr_append]; rfl), hbel.alloc hbel.size _⟩
      case measure => simp [intOf]; omega
    · obtain rfl : k = 8 := by omega
      clear hx
      go_wp2_with fail
      go_ret
      exact ⟨rfl, hbel⟩

theorem value_shape (k n : Int) (b : Nat) (s : ByteArray) : (Va.right k n b s = false ∧ Cd.value k n b s = []) ∨ (Va.right k n b s = true ∧
    ((k = 0 ∧ Cd.value k n b s = [0]) ∨ (k = 1 ∧ 0 ≤ n ∧ n ≤ 1 ∧ Cd.value k n b s = [1, UInt8.ofNat n.toNat]) ∨ (k = 2 ∧ Cd.value k n b s = 2 :: Cd.enc (Cd.zig n)) ∨ (k = 3 ∧ Cd.value k n b s = 3 :: Cd.eight b) ∨
     (k = 4 ∧ s.size ≤ 4096 ∧ Cd.value k n b s = 4 :: Cd.text s) ∨ (k = 5 ∧ s.size ≤ 4096 ∧ Cd.value k n b s = 5 :: Cd.text s))) := by
  cases hr : Va.right k n b s
  · exact .inl ⟨rfl, by unfold Cd.value; rw [hr]; rfl⟩
  · refine .inr ⟨rfl, ?_⟩
    unfold Cd.value
    rw [hr]
    unfold Va.right at hr
    by_cases h0 : k = 0
    · subst h0; exact .inl ⟨rfl, rfl⟩
    by_cases h1 : k = 1
    · subst h1
      simp at hr
      exact .inr (.inl ⟨rfl, by omega, by omega, rfl⟩)
    by_cases h2 : k = 2
    · subst h2; exact .inr (.inr (.inl ⟨rfl, rfl⟩))
    by_cases h3 : k = 3
    · subst h3; exact .inr (.inr (.inr (.inl ⟨rfl, rfl⟩)))
    by_cases h4 : k = 4
    · subst h4
      simp at hr
      exact .inr (.inr (.inr (.inr (.inl ⟨rfl, by omega, rfl⟩))))
    by_cases h5 : k = 5
    · subst h5
      simp at hr
      exact .inr (.inr (.inr (.inr (.inr ⟨rfl, by omega, rfl⟩))))
    · simp [h0, h1, h2, h3, h4, h5] at hr
theorem app1 (c : UInt8) (l : List UInt8) : bstr [c] ++ bstr l = bstr (c :: l) := by rw [bstr_append]; rfl

set_option maxRecDepth 100000 in
set_option maxHeartbeats 3200000 in
theorem value_any (k n : Int) (b : Nat) (s : ByteArray) (hs : s.size ≤ maxLen) (h0 : -9223372036854775808 ≤ n) (h1 : n ≤ 9223372036854775807) (hb : b < 18446744073709551616) (w : World) :
    Calls Try.prog 19 #[vv k n b s] w fun e w' => e = .returned (.string (bstr (Cd.value k n b s))) ∧ Below w.heap.size w w' := by
  have hr := fun w => right_any k n b s hs w
  have hz1 := one_size
  rcases value_shape k n b s with ⟨hrr, hv⟩ | ⟨hrr, hc⟩
  · have hR := hid hr
    rw [hrr] at hR
    have HV := hid hv
    clear hr hrr hv
    unfold vv at hR ⊢
    go_enter Try.func19, Try.ntmps19
    go_wp2_with fail
    have vb := VBox.new w k n b s
    have hB := hba w (.cells #[.int .i64 k, .int .i64 n, .int .u64 (b : Int), .string s] 28)
    obtain ⟨c0, c1, c2, c3⟩ := id vb
    go_wp2_with fail
    clear c0 c1 c2 c3
    refine (hR.out _).mono ?_; rintro e w1 ⟨rfl, hb1⟩
    replace vb := vb.keep hb1
    replace hB := hnext hB hb1
    clear hb1
    obtain ⟨c0, c1, c2, c3⟩ := id vb
    go_wp2_with fail
    go_ret
    exact ⟨ret_str (by rw [HV.out]; rfl), hB⟩
  · have hR := hid hr
    rw [hrr] at hR
    clear hr hrr
    unfold vv at hR ⊢
    rcases hc with ⟨rfl, hv⟩ | ⟨rfl, hn0, hn1, hv⟩ | ⟨rfl, hv⟩ | ⟨rfl, hv⟩ | ⟨rfl, hs4, hv⟩ | ⟨rfl, hs4, hv⟩
    · have HV := hid hv
      clear hv
      go_enter Try.func19, Try.ntmps19
      go_wp2_with fail
      have vb := VBox.new w 0 n b s
      have hB := hba w (.cells #[.int .i64 0, .int .i64 n, .int .u64 (b : Int), .string s] 28)
      obtain ⟨c0, c1, c2, c3⟩ := id vb
      go_wp2_with fail
      clear c0 c1 c2 c3
      refine (hR.out _).mono ?_; rintro e w1 ⟨rfl, hb1⟩
      replace vb := vb.keep hb1
      replace hB := hnext hB hb1
      clear hb1
      obtain ⟨c0, c1, c2, c3⟩ := id vb
      go_wp2_with fail
      clear c0 c1 c2 c3
      refine (one_any 0 (by omega) (by omega) _).mono ?_; rintro e w2 ⟨rfl, hb2⟩
      replace vb := vb.keep hb2
      replace hB := hnext hB hb2
      clear hb2
      obtain ⟨c0, c1, c2, c3⟩ := id vb
      go_wp2_with fail
      go_ret
      exact ⟨ret_str (by first | (rw [HV.out]; done) | (rw [HV.out]; first | rfl | rw [bstr_append] | (rw [bstr_append]; rfl))), hB⟩
    · have HV := hid hv
      clear hv
      go_enter Try.func19, Try.ntmps19
      go_wp2_with fail
      have vb := VBox.new w 1 n b s
      have hB := hba w (.cells #[.int .i64 1, .int .i64 n, .int .u64 (b : Int), .string s] 28)
      obtain ⟨c0, c1, c2, c3⟩ := id vb
      go_wp2_with fail
      clear c0 c1 c2 c3
      refine (hR.out _).mono ?_; rintro e w1 ⟨rfl, hb1⟩
      replace vb := vb.keep hb1
      replace hB := hnext hB hb1
      clear hb1
      obtain ⟨c0, c1, c2, c3⟩ := id vb
      go_wp2_with fail
      clear c0 c1 c2 c3
      refine (one_any 1 (by omega) (by omega) _).mono ?_; rintro e w2 ⟨rfl, hb2⟩
      replace vb := vb.keep hb2
      replace hB := hnext hB hb2
      clear hb2
      obtain ⟨c0, c1, c2, c3⟩ := id vb
      go_wp2_with fail
      clear c0 c1 c2 c3
      refine (one_any n (by omega) (by omega) _).mono ?_; rintro e w3 ⟨rfl, hb3⟩
      replace vb := vb.keep hb3
      replace hB := hnext hB hb3
      clear hb3
      obtain ⟨c0, c1, c2, c3⟩ := id vb
      go_wp2_with fail
      go_ret
      exact ⟨ret_str (by first | (rw [HV.out]; done) | (rw [HV.out]; first | rfl | rw [bstr_append] | (rw [bstr_append]; rfl))), hB⟩
    · have HV := hid hv
      clear hv
      have hl : (bstr (Cd.enc (Cd.zig n))).size ≤ 10 := (Cd.enc_length _).2
      go_enter Try.func19, Try.ntmps19
      go_wp2_with fail
      have vb := VBox.new w 2 n b s
      have hB := hba w (.cells #[.int .i64 2, .int .i64 n, .int .u64 (b : Int), .string s] 28)
      obtain ⟨c0, c1, c2, c3⟩ := id vb
      go_wp2_with fail
      clear c0 c1 c2 c3
      refine (hR.out _).mono ?_; rintro e w1 ⟨rfl, hb1⟩
      replace vb := vb.keep hb1
      replace hB := hnext hB hb1
      clear hb1
      obtain ⟨c0, c1, c2, c3⟩ := id vb
      go_wp2_with fail
      clear c0 c1 c2 c3
      refine (one_any 2 (by omega) (by omega) _).mono ?_; rintro e w2 ⟨rfl, hb2⟩
      replace vb := vb.keep hb2
      replace hB := hnext hB hb2
      clear hb2
      obtain ⟨c0, c1, c2, c3⟩ := id vb
      go_wp2_with fail
      clear c0 c1 c2 c3
      refine (int_any n h0 h1 _).mono ?_; rintro e w3 ⟨rfl, hb3⟩
      replace vb := vb.keep hb3
      replace hB := hnext hB hb3
      clear hb3
      obtain ⟨c0, c1, c2, c3⟩ := id vb
      go_wp2_with fail
      go_ret
      exact ⟨ret_str (by first | (rw [HV.out]; done) | (rw [HV.out]; first | rfl | rw [bstr_append] | (rw [bstr_append]; rfl))), hB⟩
    · have HV := hid hv
      clear hv
      go_enter Try.func19, Try.ntmps19
      go_wp2_with fail
      have vb := VBox.new w 3 n b s
      have hB := hba w (.cells #[.int .i64 3, .int .i64 n, .int .u64 (b : Int), .string s] 28)
      obtain ⟨c0, c1, c2, c3⟩ := id vb
      go_wp2_with fail
      clear c0 c1 c2 c3
      refine (hR.out _).mono ?_; rintro e w1 ⟨rfl, hb1⟩
      replace vb := vb.keep hb1
      replace hB := hnext hB hb1
      clear hb1
      obtain ⟨c0, c1, c2, c3⟩ := id vb
      go_wp2_with fail
      clear c0 c1 c2 c3
      refine (one_any 3 (by omega) (by omega) _).mono ?_; rintro e w2 ⟨rfl, hb2⟩
      replace vb := vb.keep hb2
      replace hB := hnext hB hb2
      clear hb2
      obtain ⟨c0, c1, c2, c3⟩ := id vb
      go_wp2_with fail
      clear c0 c1 c2 c3
      go_loopw [3, 4] (fun s i wr => ∃ (j : Nat) (pre : List UInt8), j ≤ 8 ∧ i = .int .i64 ((j : Int) - 1) ∧ s = .string (bstr pre) ∧ pre.length + j = 9 ∧ Hid (pre ++ Cd.low j b = 3 :: Cd.eight b) ∧ Below w2.heap.size w2 wr) (fun _ i _ => (intOf i + 1).toNat)
      case atStart => exact ⟨8, [3], by omega, by go_num, rfl, rfl, rfl, Below.refl _ _⟩
      case round =>
        obtain ⟨j, pre, hj, rfl, rfl, hpl, hpe, hbel⟩ := hrel
        obtain ⟨w4, rfl⟩ : ∃ w4 : World, w4 = wr := ⟨_, rfl⟩
        have hps : (bstr pre).size ≤ 9 := by rw [bstr_size]; omega
        have vb4 := vb.keep hbel
        obtain ⟨c0, c1, c2, c3⟩ := vb4
        have hb0 : (0 : Int) ≤ (b : Int) := by omega
        have hb1 : (b : Int) ≤ 18446744073709551615 := by omega
        rcases (show j = 0 ∨ j = 1 ∨ j = 2 ∨ j = 3 ∨ j = 4 ∨ j = 5 ∨ j = 6 ∨ j = 7 ∨ j = 8 by omega) with rfl | rfl | rfl | rfl | rfl | rfl | rfl | rfl | rfl
        · have hE : Hid (pre = 3 :: Cd.eight b) := by have := hpe.out; rwa [show Cd.low 0 b = [] from rfl, List.append_nil] at this
          clear hpe
          rw [show ((0 : Nat) : Int) - 1 = -1 from rfl]
          go_wp2_with fail
          go_ret
          exact ⟨ret_str (by rw [HV.out, hE.out]), hnext hB hbel⟩
        · rw [show ((1 : Nat) : Int) - 1 = 0 from rfl]
          go_wp2_with fail
          clear c0 c1 c2 c3
          refine (one_any _ (by omega) (by omega) _).mono ?_; rintro e w5 ⟨rfl, hb5⟩
          go_wp2_with fail
          go_roundw
          case rel => exact ⟨0, pre ++ [UInt8.ofNat (b / 256 ^ 0)], by omega, by go_num, str_eq (by first | rfl | (rw [bstr_append]; rfl) | rw [Nat.pow_zero, Nat.div_one, bstr_append]), by simp; omega, by show _ = _; rw [← hpe.out, List.append_assoc]; rfl, hnext hbel hb5⟩
          case measure => simp [intOf]
        · rw [show ((2 : Nat) : Int) - 1 = 1 from rfl]
          go_wp2_with fail
          clear c0 c1 c2 c3
          refine (one_any _ (by omega) (by omega) _).mono ?_; rintro e w5 ⟨rfl, hb5⟩
          go_wp2_with fail
          go_roundw
          case rel => exact ⟨1, pre ++ [UInt8.ofNat (b / 256 ^ 1)], by omega, by go_num, str_eq (by first | rfl | (rw [bstr_append]; rfl) | rw [Nat.pow_zero, Nat.div_one, bstr_append]), by simp; omega, by show _ = _; rw [← hpe.out, List.append_assoc]; rfl, hnext hbel hb5⟩
          case measure => simp [intOf]
        · rw [show ((3 : Nat) : Int) - 1 = 2 from rfl]
          go_wp2_with fail
          clear c0 c1 c2 c3
          refine (one_any _ (by omega) (by omega) _).mono ?_; rintro e w5 ⟨rfl, hb5⟩
          go_wp2_with fail
          go_roundw
          case rel => exact ⟨2, pre ++ [UInt8.ofNat (b / 256 ^ 2)], by omega, by go_num, str_eq (by first | rfl | (rw [bstr_append]; rfl) | rw [Nat.pow_zero, Nat.div_one, bstr_append]), by simp; omega, by show _ = _; rw [← hpe.out, List.append_assoc]; rfl, hnext hbel hb5⟩
          case measure => simp [intOf]
        · rw [show ((4 : Nat) : Int) - 1 = 3 from rfl]
          go_wp2_with fail
          clear c0 c1 c2 c3
          refine (one_any _ (by omega) (by omega) _).mono ?_; rintro e w5 ⟨rfl, hb5⟩
          go_wp2_with fail
          go_roundw
          case rel => exact ⟨3, pre ++ [UInt8.ofNat (b / 256 ^ 3)], by omega, by go_num, str_eq (by first | rfl | (rw [bstr_append]; rfl) | rw [Nat.pow_zero, Nat.div_one, bstr_append]), by simp; omega, by show _ = _; rw [← hpe.out, List.append_assoc]; rfl, hnext hbel hb5⟩
          case measure => simp [intOf]
        · rw [show ((5 : Nat) : Int) - 1 = 4 from rfl]
          go_wp2_with fail
          clear c0 c1 c2 c3
          refine (one_any _ (by omega) (by omega) _).mono ?_; rintro e w5 ⟨rfl, hb5⟩
          go_wp2_with fail
          go_roundw
          case rel => exact ⟨4, pre ++ [UInt8.ofNat (b / 256 ^ 4)], by omega, by go_num, str_eq (by first | rfl | (rw [bstr_append]; rfl) | rw [Nat.pow_zero, Nat.div_one, bstr_append]), by simp; omega, by show _ = _; rw [← hpe.out, List.append_assoc]; rfl, hnext hbel hb5⟩
          case measure => simp [intOf]
        · rw [show ((6 : Nat) : Int) - 1 = 5 from rfl]
          go_wp2_with fail
          clear c0 c1 c2 c3
          refine (one_any _ (by omega) (by omega) _).mono ?_; rintro e w5 ⟨rfl, hb5⟩
          go_wp2_with fail
          go_roundw
          case rel => exact ⟨5, pre ++ [UInt8.ofNat (b / 256 ^ 5)], by omega, by go_num, str_eq (by first | rfl | (rw [bstr_append]; rfl) | rw [Nat.pow_zero, Nat.div_one, bstr_append]), by simp; omega, by show _ = _; rw [← hpe.out, List.append_assoc]; rfl, hnext hbel hb5⟩
          case measure => simp [intOf]
        · rw [show ((7 : Nat) : Int) - 1 = 6 from rfl]
          go_wp2_with fail
          clear c0 c1 c2 c3
          refine (one_any _ (by omega) (by omega) _).mono ?_; rintro e w5 ⟨rfl, hb5⟩
          go_wp2_with fail
          go_roundw
          case rel => exact ⟨6, pre ++ [UInt8.ofNat (b / 256 ^ 6)], by omega, by go_num, str_eq (by first | rfl | (rw [bstr_append]; rfl) | rw [Nat.pow_zero, Nat.div_one, bstr_append]), by simp; omega, by show _ = _; rw [← hpe.out, List.append_assoc]; rfl, hnext hbel hb5⟩
          case measure => simp [intOf]
        · rw [show ((8 : Nat) : Int) - 1 = 7 from rfl]
          go_wp2_with fail
          clear c0 c1 c2 c3
          refine (one_any _ (by omega) (by omega) _).mono ?_; rintro e w5 ⟨rfl, hb5⟩
          go_wp2_with fail
          go_roundw
          case rel => exact ⟨7, pre ++ [UInt8.ofNat (b / 256 ^ 7)], by omega, by go_num, str_eq (by first | rfl | (rw [bstr_append]; rfl) | rw [Nat.pow_zero, Nat.div_one, bstr_append]), by simp; omega, by show _ = _; rw [← hpe.out, List.append_assoc]; rfl, hnext hbel hb5⟩
          case measure => simp [intOf]
    · have HV := hid hv
      clear hv
      have hl : (bstr (Cd.text s)).size ≤ 5000 := by rw [bstr_size]; unfold Cd.text; have := (Cd.enc_length s.size).2; simp; omega
      go_enter Try.func19, Try.ntmps19
      go_wp2_with fail
      have vb := VBox.new w 4 n b s
      have hB := hba w (.cells #[.int .i64 4, .int .i64 n, .int .u64 (b : Int), .string s] 28)
      obtain ⟨c0, c1, c2, c3⟩ := id vb
      go_wp2_with fail
      clear c0 c1 c2 c3
      refine (hR.out _).mono ?_; rintro e w1 ⟨rfl, hb1⟩
      replace vb := vb.keep hb1
      replace hB := hnext hB hb1
      clear hb1
      obtain ⟨c0, c1, c2, c3⟩ := id vb
      go_wp2_with fail
      clear c0 c1 c2 c3
      refine (one_any 4 (by omega) (by omega) _).mono ?_; rintro e w2 ⟨rfl, hb2⟩
      replace vb := vb.keep hb2
      replace hB := hnext hB hb2
      clear hb2
      obtain ⟨c0, c1, c2, c3⟩ := id vb
      go_wp2_with fail
      clear c0 c1 c2 c3
      refine (text_any s (by omega) _).mono ?_; rintro e w3 ⟨rfl, hb3⟩
      replace vb := vb.keep hb3
      replace hB := hnext hB hb3
      clear hb3
      obtain ⟨c0, c1, c2, c3⟩ := id vb
      go_wp2_with fail
      go_ret
      exact ⟨ret_str (by first | (rw [HV.out]; done) | (rw [HV.out]; first | rfl | rw [bstr_append] | (rw [bstr_append]; rfl))), hB⟩
    · have HV := hid hv
      clear hv
      have hl : (bstr (Cd.text s)).size ≤ 5000 := by rw [bstr_size]; unfold Cd.text; have := (Cd.enc_length s.size).2; simp; omega
      go_enter Try.func19, Try.ntmps19
      go_wp2_with fail
      have vb := VBox.new w 5 n b s
      have hB := hba w (.cells #[.int .i64 5, .int .i64 n, .int .u64 (b : Int), .string s] 28)
      obtain ⟨c0, c1, c2, c3⟩ := id vb
      go_wp2_with fail
      clear c0 c1 c2 c3
      refine (hR.out _).mono ?_; rintro e w1 ⟨rfl, hb1⟩
      replace vb := vb.keep hb1
      replace hB := hnext hB hb1
      clear hb1
      obtain ⟨c0, c1, c2, c3⟩ := id vb
      go_wp2_with fail
      clear c0 c1 c2 c3
      refine (one_any 5 (by omega) (by omega) _).mono ?_; rintro e w2 ⟨rfl, hb2⟩
      replace vb := vb.keep hb2
      replace hB := hnext hB hb2
      clear hb2
      obtain ⟨c0, c1, c2, c3⟩ := id vb
      go_wp2_with fail
      clear c0 c1 c2 c3
      refine (text_any s (by omega) _).mono ?_; rintro e w3 ⟨rfl, hb3⟩
      replace vb := vb.keep hb3
      replace hB := hnext hB hb3
      clear hb3
      obtain ⟨c0, c1, c2, c3⟩ := id vb
      go_wp2_with fail
      go_ret
      exact ⟨ret_str (by first | (rw [HV.out]; done) | (rw [HV.out]; first | rfl | rw [bstr_append] | (rw [bstr_append]; rfl))), hB⟩

set_option maxRecDepth 100000 in
set_option maxHeartbeats 3200000 in
theorem valueR_any (k n : Int) (b : Nat) (s : ByteArray) (hs : s.size ≤ maxLen) (h0 : -9223372036854775808 ≤ n) (h1 : n ≤ 9223372036854775807) (hb : b < 18446744073709551616) (w : World) :
    Calls Try.prog 20 #[vv k n b s] w fun e w' => e = .returned (.string (bstr (Cd.value k n b s))) ∧ Below w.heap.size w w' := by
  have hr := fun w => rightR_any k n b s hs hb w
  have hz1 := one_size
  rcases value_shape k n b s with ⟨hrr, hv⟩ | ⟨hrr, hc⟩
  · have hR := hid hr
    rw [hrr] at hR
    have HV := hid hv
    clear hr hrr hv
    unfold vv at hR ⊢
    go_enter Try.func20, Try.ntmps20
    go_wp2_with fail
    have vb := VBox.new w k n b s
    have hB := hba w (.cells #[.int .i64 k, .int .i64 n, .int .u64 (b : Int), .string s] 28)
    obtain ⟨c0, c1, c2, c3⟩ := id vb
    go_wp2_with fail
    clear c0 c1 c2 c3
    refine (hR.out _).mono ?_; rintro e w1 ⟨rfl, hb1⟩
    replace vb := vb.keep hb1
    replace hB := hnext hB hb1
    clear hb1
    obtain ⟨c0, c1, c2, c3⟩ := id vb
    go_wp2_with fail
    go_ret
    exact ⟨ret_str (by rw [HV.out]; rfl), hB⟩
  · have hR := hid hr
    rw [hrr] at hR
    clear hr hrr
    unfold vv at hR ⊢
    rcases hc with ⟨rfl, hv⟩ | ⟨rfl, hn0, hn1, hv⟩ | ⟨rfl, hv⟩ | ⟨rfl, hv⟩ | ⟨rfl, hs4, hv⟩ | ⟨rfl, hs4, hv⟩
    · have HV := hid hv
      clear hv
      go_enter Try.func20, Try.ntmps20
      go_wp2_with fail
      have vb := VBox.new w 0 n b s
      have hB := hba w (.cells #[.int .i64 0, .int .i64 n, .int .u64 (b : Int), .string s] 28)
      obtain ⟨c0, c1, c2, c3⟩ := id vb
      go_wp2_with fail
      clear c0 c1 c2 c3
      refine (hR.out _).mono ?_; rintro e w1 ⟨rfl, hb1⟩
      replace vb := vb.keep hb1
      replace hB := hnext hB hb1
      clear hb1
      have hlt1 : w.heap.size < w1.heap.size := World.block_lt_of_cell? w1 _ vb.1
      have hne1 : w.heap.size ≠ w1.heap.size := Nat.ne_of_lt hlt1
      have hst := fun W => run_string_one (P := Try.prog) W 35 9 5 (.int .u8 0) 0 rfl Try.underlying35 Try.underlying5 Try.underlying9
      obtain ⟨c0, c1, c2, c3⟩ := id vb
      go_wp2_with fail
      go_ret
      exact ⟨ret_str (by first | (rw [HV.out]; done) | (rw [HV.out]; first | rfl | rw [bstr_append] | (rw [bstr_append]; rfl))), by first | exact hB | exact hnext hB (hba _ _) | exact hnext (hnext hB (hba _ _)) (hba _ _)⟩
    · have HV := hid hv
      clear hv
      go_enter Try.func20, Try.ntmps20
      go_wp2_with fail
      have vb := VBox.new w 1 n b s
      have hB := hba w (.cells #[.int .i64 1, .int .i64 n, .int .u64 (b : Int), .string s] 28)
      obtain ⟨c0, c1, c2, c3⟩ := id vb
      go_wp2_with fail
      clear c0 c1 c2 c3
      refine (hR.out _).mono ?_; rintro e w1 ⟨rfl, hb1⟩
      replace vb := vb.keep hb1
      replace hB := hnext hB hb1
      clear hb1
      have hlt1 : w.heap.size < w1.heap.size := World.block_lt_of_cell? w1 _ vb.1
      have hne1 : w.heap.size ≠ w1.heap.size := Nat.ne_of_lt hlt1
      have hst := fun W => run_string_one (P := Try.prog) W 35 9 5 (.int .u8 1) 1 rfl Try.underlying35 Try.underlying5 Try.underlying9
      have hst2 : ∀ (W : World) (g : Nat), W.cell? ⟨g, 0, none⟩ = some (.int .u8 n) → (convert 35 9 (.slice (some ⟨g, 0, none⟩) 1 1)).run Try.prog W = .ok (.string (bstr [UInt8.ofNat n.toNat])) W := fun W g h => run_string_cell (P := Try.prog) 35 9 5 (UInt8.ofNat n.toNat) Try.underlying35 Try.underlying5 Try.underlying9 W g (by rw [h]; exact congrArg some (int_eq (by rw [UInt8.toNat_ofNat']; omega)))
      obtain ⟨c0, c1, c2, c3⟩ := id vb
      go_wp2_with fail
      go_ret
      exact ⟨ret_str (by first | (rw [HV.out]; done) | (rw [HV.out]; first | rfl | rw [bstr_append] | (rw [bstr_append]; rfl))), by first | exact hB | exact hnext hB (hba _ _) | exact hnext (hnext hB (hba _ _)) (hba _ _)⟩
    · have HV := hid hv
      clear hv
      have hl : (bstr (Cd.enc (Cd.zig n))).size ≤ 10 := (Cd.enc_length _).2
      go_enter Try.func20, Try.ntmps20
      go_wp2_with fail
      have vb := VBox.new w 2 n b s
      have hB := hba w (.cells #[.int .i64 2, .int .i64 n, .int .u64 (b : Int), .string s] 28)
      obtain ⟨c0, c1, c2, c3⟩ := id vb
      go_wp2_with fail
      clear c0 c1 c2 c3
      refine (hR.out _).mono ?_; rintro e w1 ⟨rfl, hb1⟩
      replace vb := vb.keep hb1
      replace hB := hnext hB hb1
      clear hb1
      have hlt1 : w.heap.size < w1.heap.size := World.block_lt_of_cell? w1 _ vb.1
      have hne1 : w.heap.size ≠ w1.heap.size := Nat.ne_of_lt hlt1
      have hst := fun W => run_string_one (P := Try.prog) W 35 9 5 (.int .u8 2) 2 rfl Try.underlying35 Try.underlying5 Try.underlying9
      obtain ⟨c0, c1, c2, c3⟩ := id vb
      go_wp2_with fail
      clear c0 c1 c2 c3
      refine (intR_any n h0 h1 _).mono ?_; rintro e w2 ⟨rfl, hb2⟩
      replace hb2 := hnext (hba w1 (.cells #[.int .u8 2] 5)) hb2
      replace vb := vb.keep hb2
      replace hB := hnext hB hb2
      clear hb2
      obtain ⟨c0, c1, c2, c3⟩ := id vb
      go_wp2_with fail
      go_ret
      exact ⟨ret_str (by first | (rw [HV.out]; done) | (rw [HV.out]; first | rfl | rw [bstr_append] | (rw [bstr_append]; rfl))), by first | exact hB | exact hnext hB (hba _ _) | exact hnext (hnext hB (hba _ _)) (hba _ _)⟩
    · have HV := hid hv
      clear hv
      have hl : (bstr (Cd.eight b)).size = 8 := low_size 8 b
      go_enter Try.func20, Try.ntmps20
      go_wp2_with fail
      have vb := VBox.new w 3 n b s
      have hB := hba w (.cells #[.int .i64 3, .int .i64 n, .int .u64 (b : Int), .string s] 28)
      obtain ⟨c0, c1, c2, c3⟩ := id vb
      go_wp2_with fail
      clear c0 c1 c2 c3
      refine (hR.out _).mono ?_; rintro e w1 ⟨rfl, hb1⟩
      replace vb := vb.keep hb1
      replace hB := hnext hB hb1
      clear hb1
      have hlt1 : w.heap.size < w1.heap.size := World.block_lt_of_cell? w1 _ vb.1
      have hne1 : w.heap.size ≠ w1.heap.size := Nat.ne_of_lt hlt1
      have hst := fun W => run_string_one (P := Try.prog) W 35 9 5 (.int .u8 3) 3 rfl Try.underlying35 Try.underlying5 Try.underlying9
      obtain ⟨c0, c1, c2, c3⟩ := id vb
      go_wp2_with fail
      clear c0 c1 c2 c3
      refine (eightR_any b hb _).mono ?_; rintro e w2 ⟨rfl, hb2⟩
      replace hb2 := hnext (hba w1 (.cells #[.int .u8 3] 5)) hb2
      replace vb := vb.keep hb2
      replace hB := hnext hB hb2
      clear hb2
      obtain ⟨c0, c1, c2, c3⟩ := id vb
      go_wp2_with fail
      go_ret
      exact ⟨ret_str (by first | (rw [HV.out]; done) | (rw [HV.out]; first | rfl | rw [bstr_append] | (rw [bstr_append]; rfl))), by first | exact hB | exact hnext hB (hba _ _) | exact hnext (hnext hB (hba _ _)) (hba _ _)⟩
    · have HV := hid hv
      clear hv
      have hl : (bstr (Cd.text s)).size ≤ 5000 := by rw [bstr_size]; unfold Cd.text; have := (Cd.enc_length s.size).2; simp; omega
      go_enter Try.func20, Try.ntmps20
      go_wp2_with fail
      have vb := VBox.new w 4 n b s
      have hB := hba w (.cells #[.int .i64 4, .int .i64 n, .int .u64 (b : Int), .string s] 28)
      obtain ⟨c0, c1, c2, c3⟩ := id vb
      go_wp2_with fail
      clear c0 c1 c2 c3
      refine (hR.out _).mono ?_; rintro e w1 ⟨rfl, hb1⟩
      replace vb := vb.keep hb1
      replace hB := hnext hB hb1
      clear hb1
      have hlt1 : w.heap.size < w1.heap.size := World.block_lt_of_cell? w1 _ vb.1
      have hne1 : w.heap.size ≠ w1.heap.size := Nat.ne_of_lt hlt1
      have hst := fun W => run_string_one (P := Try.prog) W 35 9 5 (.int .u8 4) 4 rfl Try.underlying35 Try.underlying5 Try.underlying9
      obtain ⟨c0, c1, c2, c3⟩ := id vb
      go_wp2_with fail
      clear c0 c1 c2 c3
      refine (textR_any s (by omega) _).mono ?_; rintro e w2 ⟨rfl, hb2⟩
      replace hb2 := hnext (hba w1 (.cells #[.int .u8 4] 5)) hb2
      replace vb := vb.keep hb2
      replace hB := hnext hB hb2
      clear hb2
      obtain ⟨c0, c1, c2, c3⟩ := id vb
      go_wp2_with fail
      go_ret
      exact ⟨ret_str (by first | (rw [HV.out]; done) | (rw [HV.out]; first | rfl | rw [bstr_append] | (rw [bstr_append]; rfl))), by first | exact hB | exact hnext hB (hba _ _) | exact hnext (hnext hB (hba _ _)) (hba _ _)⟩
    · have HV := hid hv
      clear hv
      have hl : (bstr (Cd.text s)).size ≤ 5000 := by rw [bstr_size]; unfold Cd.text; have := (Cd.enc_length s.size).2; simp; omega
      go_enter Try.func20, Try.ntmps20
      go_wp2_with fail
      have vb := VBox.new w 5 n b s
      have hB := hba w (.cells #[.int .i64 5, .int .i64 n, .int .u64 (b : Int), .string s] 28)
      obtain ⟨c0, c1, c2, c3⟩ := id vb
      go_wp2_with fail
      clear c0 c1 c2 c3
      refine (hR.out _).mono ?_; rintro e w1 ⟨rfl, hb1⟩
      replace vb := vb.keep hb1
      replace hB := hnext hB hb1
      clear hb1
      have hlt1 : w.heap.size < w1.heap.size := World.block_lt_of_cell? w1 _ vb.1
      have hne1 : w.heap.size ≠ w1.heap.size := Nat.ne_of_lt hlt1
      have hst := fun W => run_string_one (P := Try.prog) W 35 9 5 (.int .u8 5) 5 rfl Try.underlying35 Try.underlying5 Try.underlying9
      obtain ⟨c0, c1, c2, c3⟩ := id vb
      go_wp2_with fail
      clear c0 c1 c2 c3
      refine (textR_any s (by omega) _).mono ?_; rintro e w2 ⟨rfl, hb2⟩
      replace hb2 := hnext (hba w1 (.cells #[.int .u8 5] 5)) hb2
      replace vb := vb.keep hb2
      replace hB := hnext hB hb2
      clear hb2
      obtain ⟨c0, c1, c2, c3⟩ := id vb
      go_wp2_with fail
      go_ret
      exact ⟨ret_str (by first | (rw [HV.out]; done) | (rw [HV.out]; first | rfl | rw [bstr_append] | (rw [bstr_append]; rfl))), by first | exact hB | exact hnext hB (hba _ _) | exact hnext (hnext hB (hba _ _)) (hba _ _)⟩
end Go.Proofs.Ytanmomlkdfnakaa
