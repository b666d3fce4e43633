/-
  The reference's one (a value's bytes): its contract. Condition: the value is right.
-/
import Derived.Test.YtimcmpcfnddioaaKyO
namespace Go.Proofs.Ytimcmpcfnddioaa
open Go.RowKit

theorem ext_one (s : ByteArray) (k : Nat) (h : k < s.size) : s.extract k (k + 1) = bstr [s[k]] := by
  apply ba_eq
  rw [ByteArray.data_extract, Array.toList_extract]
  simp only [List.extract]
  rw [show k + 1 - k = 1 by omega, List.drop_eq_getElem_cons (by simpa using h)]
  rfl
theorem three (c : UInt8) (l : List UInt8) : bstr (c :: l) ++ bstr [0] ++ ⟨#[255]⟩ = bstr (c :: (l ++ Ky.esc1 0)) := by
  rw [bstr_append, show (⟨#[255]⟩ : ByteArray) = bstr [255] from rfl, bstr_append]
  show bstr _ = bstr _
  congr 1
  simp [Ky.esc1]

set_option maxRecDepth 100000 in
set_option maxHeartbeats 1600000 in
theorem oneR_any (k n : Int) (b : Nat) (s : ByteArray) (hr : Va.right k n b s = true) (h0 : -9223372036854775808 ≤ n) (h1 : n ≤ 9223372036854775807) (hb : b < 18446744073709551616) (w : World) :
    Calls Try.prog 26 #[vv k n b s] w fun e w' => e = .returned (.string (bstr (Ky.one k n b s))) ∧ Below w.heap.size w w' := by
  unfold vv
  obtain ⟨q0, q1, q2, q3⟩ := (VB.new w k n b s).cells
  have L0 := hid (hba w (.cells #[.int .i64 k, .int .i64 n, .int .u64 (b : Int), .string s] 39))
  have hst := fun (y : Value) (c : UInt8) (hy : y = byteV c) => run_string_one (P := Try.prog) (w.alloc (.cells #[.int .i64 k, .int .i64 n, .int .u64 (b : Int), .string s] 39)) 50 9 5 y c hy Try.underlying50 Try.underlying5 Try.underlying9
  have hsz : (w.alloc (.cells #[.int .i64 k, .int .i64 n, .int .u64 (b : Int), .string s] 39)).heap.size = w.heap.size + 1 := by simp
  rw [hsz] at hst
  have hz : ∀ c : UInt8, (bstr [c]).size = 1 := fun c => rfl
  rcases right_kinds hr with rfl | ⟨rfl, hn⟩ | rfl | rfl | ⟨rfl, hs⟩ | ⟨rfl, hs⟩
  · have hst0 := hst (.int .u8 1) 1 rfl
    clear hr hst hz
    go_enter Try.func26, Try.ntmps26
    go_wp2_with fail
    go_ret
    exact ⟨rfl, hnext L0.out (hba _ _)⟩
  · have hst0 := hst (.int .u8 2) 2 rfl
    have hz0 := hz 2
    clear hr hst
    rcases hn with rfl | rfl
    · have hst1 := run_string_one (P := Try.prog) ((w.alloc (.cells #[.int .i64 1, .int .i64 0, .int .u64 (b : Int), .string s] 39)).alloc (.cells #[.int .u8 2] 5)) 50 9 5 (.int .u8 0) 0 rfl Try.underlying50 Try.underlying5 Try.underlying9
      have hsz1 : ((w.alloc (.cells #[.int .i64 1, .int .i64 0, .int .u64 (b : Int), .string s] 39)).alloc (.cells #[.int .u8 2] 5)).heap.size = w.heap.size + 1 + 1 := by simp
      rw [hsz1] at hst1
      have hz1 := hz 0
      have ha : bstr [2] ++ bstr [0] = bstr [2, 0] := bstr_append _ _
      clear hz
      go_enter Try.func26, Try.ntmps26
      go_wp2_with fail
      go_ret
      exact ⟨rfl, hnext (hnext L0.out (hba _ _)) (hba _ _)⟩
    · have hst1 := run_string_one (P := Try.prog) ((w.alloc (.cells #[.int .i64 1, .int .i64 1, .int .u64 (b : Int), .string s] 39)).alloc (.cells #[.int .u8 2] 5)) 50 9 5 (.int .u8 1) 1 rfl Try.underlying50 Try.underlying5 Try.underlying9
      have hsz1 : ((w.alloc (.cells #[.int .i64 1, .int .i64 1, .int .u64 (b : Int), .string s] 39)).alloc (.cells #[.int .u8 2] 5)).heap.size = w.heap.size + 1 + 1 := by simp
      rw [hsz1] at hst1
      have hz1 := hz 1
      have ha : bstr [2] ++ bstr [1] = bstr [2, 1] := bstr_append _ _
      clear hz
      go_enter Try.func26, Try.ntmps26
      go_wp2_with fail
      go_ret
      exact ⟨rfl, hnext (hnext L0.out (hba _ _)) (hba _ _)⟩
  · have hst0 := hst (.int .u8 3) 3 rfl
    have hz0 := hz 3
    clear hr hst hz
    have hx : IntKind.u64.wrap (IntKind.u64.wrap n + 9223372036854775808) = (Ky.moved n : Int) := by
      rw [IntKind.wrap_u64, IntKind.wrap_u64]
      unfold Ky.moved
      omega
    have hm := Ky.moved_lt h1
    have HE : Hid (Ky.one 2 n b s = 3 :: Cd.eight (Ky.moved n)) := rfl
    generalize Ky.moved n = m at hx hm HE
    have ce := hid (fun W => eightR_any m hm W)
    have hz1 : (bstr (Cd.eight m)).size = 8 := by rw [bstr_size]; exact Cd.low_length 8 m
    have ha : bstr [3] ++ bstr (Cd.eight m) = bstr (3 :: Cd.eight m) := bstr_append _ _
    generalize Cd.eight m = l at ce hz1 ha HE
    go_enter Try.func26, Try.ntmps26
    go_wp2_with fail
    refine (ce.out _).mono ?_; rintro e w1 ⟨rfl, b1⟩
    go_wp2_with fail
    go_ret
    rw [HE.out]
    exact ⟨rfl, hnext (hnext L0.out (hba _ _)) b1⟩
  · have hst0 := hst (.int .u8 4) 4 rfl
    have hz0 := hz 4
    clear hr hst hz
    have HE : Hid (Ky.one 3 n b s = 4 :: Cd.eight (Ky.turned b)) := rfl
    have hm := Ky.turned_lt hb
    have ce0 := fun W => eightR_any (Ky.turned b) hm W
    by_cases hl : b < 9223372036854775808
    · have hl' : ¬ (9223372036854775808 : Int) ≤ (b : Int) := by omega
      rw [show ((Ky.turned b : Nat) : Int) = (b : Int) + 9223372036854775808 by unfold Ky.turned; rw [if_pos hl]; omega] at ce0
      have ce := hid ce0
      clear ce0
      generalize Ky.turned b = m at ce HE hm
      have hz1 : (bstr (Cd.eight m)).size = 8 := by rw [bstr_size]; exact Cd.low_length 8 m
      have ha : bstr [4] ++ bstr (Cd.eight m) = bstr (4 :: Cd.eight m) := bstr_append _ _
      generalize Cd.eight m = l at ce hz1 ha HE
      go_enter Try.func26, Try.ntmps26
      go_wp2_with fail
      refine (ce.out _).mono ?_; rintro e w1 ⟨rfl, b1⟩
      go_wp2_with fail
      go_ret
      rw [HE.out]
      exact ⟨rfl, hnext (hnext L0.out (hba _ _)) b1⟩
    · have hl' : (9223372036854775808 : Int) ≤ (b : Int) := by omega
      rw [show ((Ky.turned b : Nat) : Int) = 18446744073709551615 - (b : Int) by unfold Ky.turned; rw [if_neg hl]; omega] at ce0
      have ce := hid ce0
      clear ce0
      generalize Ky.turned b = m at ce HE hm
      have hz1 : (bstr (Cd.eight m)).size = 8 := by rw [bstr_size]; exact Cd.low_length 8 m
      have ha : bstr [4] ++ bstr (Cd.eight m) = bstr (4 :: Cd.eight m) := bstr_append _ _
      generalize Cd.eight m = l at ce hz1 ha HE
      go_enter Try.func26, Try.ntmps26
      go_wp2_with fail
      refine (ce.out _).mono ?_; rintro e w1 ⟨rfl, b1⟩
      go_wp2_with fail
      go_ret
      rw [HE.out]
      exact ⟨rfl, hnext (hnext L0.out (hba _ _)) b1⟩
  · have hst0 := hst (.int .u8 5) 5 rfl
    have hz0 := hz 5
    clear hr hst hz
    have HE : Hid (Ky.one 4 n b s = 5 :: (Ky.esc s.data.toList ++ [0, 1])) := rfl
    have hsl : s.data.toList.length = s.size := by simp
    have LB := hid (hnext L0.out (hba _ (.cells #[.int .u8 5] 5)))
    go_enter Try.func26, Try.ntmps26
    go_wp2_with fail
    go_loopw [3, 4] (fun v i wr => ∃ k : Nat, k ≤ s.size ∧ i = .int .i64 (k : Int) ∧ v = .string (bstr (5 :: Ky.esc (s.data.toList.take k))) ∧ wr = (w.alloc (.cells #[.int .i64 4, .int .i64 n, .int .u64 (b : Int), .string s] 39)).alloc (.cells #[.int .u8 5] 5)) (fun _ i _ => s.size - (intOf i).toNat)
    case atStart => exact ⟨0, by omega, rfl, rfl, rfl⟩
    case round =>
      obtain ⟨k, hk, rfl, rfl, rfl⟩ := hrel
      have q3' := hkeep q3 (hba _ (.cells #[.int .u8 5] 5))
      have hel := Ky.esc_length (s.data.toList.take k)
      rw [List.length_take] at hel
      by_cases hlk : k < s.size
      · have hlk' : (k : Int) < s.size := by omega
        have hk0 : (0 : Int) ≤ (k : Int) := by omega
        have hE := hid (Ky.esc_next s.data.toList k (by rw [hsl]; exact hlk))
        rw [show s.data.toList[k]'(by rw [hsl]; exact hlk) = s[k] from rfl] at hE
        have hxe := ext_one s k hlk
        have hps : (bstr (5 :: Ky.esc (s.data.toList.take k))).size ≤ 9000 := by rw [bstr_size, List.length_cons]; omega
        generalize Ky.esc (s.data.toList.take k) = l at hE hps
        clear hel
        generalize hc : s[k] = c at hE hxe
        have hz1 : (bstr [c]).size = 1 := rfl
        by_cases hz : c = 0
        · subst hz
          have e0 : (((0 : UInt8).toNat : Int) == 0) = true := rfl
          go_wp2_with fail
          go_roundw
          case rel => exact ⟨k + 1, hlk, by go_num, by rw [hE.out]; exact congrArg Value.string (three 5 l), trivial⟩
          case measure => simp [intOf]; omega
        · have e0 : ((c.toNat : Int) == 0) = false := by
            rw [beq_eq_false_iff_ne]
            intro h
            exact hz (UInt8.toNat_inj.1 (by simpa using h))
          have e1 : Ky.esc1 c = [c] := by unfold Ky.esc1; rw [if_neg hz]
          rw [e1] at hE
          clear e1 hz
          go_wp2_with fail
          go_roundw
          case rel => exact ⟨k + 1, hlk, by go_num, by rw [hE.out]; exact congrArg Value.string (bstr_append _ _), trivial⟩
          case measure => simp [intOf]; omega
      · obtain rfl : k = s.size := by omega
        rw [← hsl, List.take_length] at hel
        have hps : (bstr (5 :: Ky.esc (s.data.toList.take s.size))).size ≤ 9000 := by rw [← hsl, List.take_length, bstr_size, List.length_cons]; omega
        have HT : Hid (Ky.esc (s.data.toList.take s.size) = Ky.esc s.data.toList) := by show _ = _; rw [← hsl, List.take_length]
        clear hel
        go_wp2_with fail
        go_ret
        rw [HE.out, ← HT.out]
        refine ⟨?_, LB.out⟩
        exact congrArg (fun x => Ending.returned (.string x)) (bstr_append _ [0, 1])
  · have hst0 := hst (.int .u8 6) 6 rfl
    have hz0 := hz 6
    clear hr hst hz
    have HE : Hid (Ky.one 5 n b s = 6 :: (Ky.esc s.data.toList ++ [0, 1])) := rfl
    have hsl : s.data.toList.length = s.size := by simp
    have LB := hid (hnext L0.out (hba _ (.cells #[.int .u8 6] 5)))
    go_enter Try.func26, Try.ntmps26
    go_wp2_with fail
    go_loopw [3, 4] (fun v i wr => ∃ k : Nat, k ≤ s.size ∧ i = .int .i64 (k : Int) ∧ v = .string (bstr (6 :: Ky.esc (s.data.toList.take k))) ∧ wr = (w.alloc (.cells #[.int .i64 5, .int .i64 n, .int .u64 (b : Int), .string s] 39)).alloc (.cells #[.int .u8 6] 5)) (fun _ i _ => s.size - (intOf i).toNat)
    case atStart => exact ⟨0, by omega, rfl, rfl, rfl⟩
    case round =>
      obtain ⟨k, hk, rfl, rfl, rfl⟩ := hrel
      have q3' := hkeep q3 (hba _ (.cells #[.int .u8 6] 5))
      have hel := Ky.esc_length (s.data.toList.take k)
      rw [List.length_take] at hel
      by_cases hlk : k < s.size
      · have hlk' : (k : Int) < s.size := by omega
        have hk0 : (0 : Int) ≤ (k : Int) := by omega
        have hE := hid (Ky.esc_next s.data.toList k (by rw [hsl]; exact hlk))
        rw [show s.data.toList[k]'(by rw [hsl]; exact hlk) = s[k] from rfl] at hE
        have hxe := ext_one s k hlk
        have hps : (bstr (6 :: Ky.esc (s.data.toList.take k))).size ≤ 9000 := by rw [bstr_size, List.length_cons]; omega
        generalize Ky.esc (s.data.toList.take k) = l at hE hps
        clear hel
        generalize hc : s[k] = c at hE hxe
        have hz1 : (bstr [c]).size = 1 := rfl
        by_cases hz : c = 0
        · subst hz
          have e0 : (((0 : UInt8).toNat : Int) == 0) = true := rfl
          go_wp2_with fail
          go_roundw
          case rel => exact ⟨k + 1, hlk, by go_num, by rw [hE.out]; exact congrArg Value.string (three 6 l), trivial⟩
          case measure => simp [intOf]; omega
        · have e0 : ((c.toNat : Int) == 0) = false := by
            rw [beq_eq_false_iff_ne]
            intro h
            exact hz (UInt8.toNat_inj.1 (by simpa using h))
          have e1 : Ky.esc1 c = [c] := by unfold Ky.esc1; rw [if_neg hz]
          rw [e1] at hE
          clear e1 hz
          go_wp2_with fail
          go_roundw
          case rel => exact ⟨k + 1, hlk, by go_num, by rw [hE.out]; exact congrArg Value.string (bstr_append _ _), trivial⟩
          case measure => simp [intOf]; omega
      · obtain rfl : k = s.size := by omega
        rw [← hsl, List.take_length] at hel
        have hps : (bstr (6 :: Ky.esc (s.data.toList.take s.size))).size ≤ 9000 := by rw [← hsl, List.take_length, bstr_size, List.length_cons]; omega
        have HT : Hid (Ky.esc (s.data.toList.take s.size) = Ky.esc s.data.toList) := by show _ = _; rw [← hsl, List.take_length]
        clear hel
        go_wp2_with fail
        go_ret
        rw [HE.out, ← HT.out]
        refine ⟨?_, LB.out⟩
        exact congrArg (fun x => Ending.returned (.string x)) (bstr_append _ [0, 1])
end Go.Proofs.Ytimcmpcfnddioaa
