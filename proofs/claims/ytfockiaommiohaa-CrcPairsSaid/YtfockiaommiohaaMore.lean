/-
  crc.More and the reference's More, crc.Of and the reference's Of: their contracts. Condition: the text is shorter than 2^63.
-/
import Derived.Test.YtfockiaommiohaaTable
namespace Go.Proofs.Ytfockiaommiohaa
open Go.RowKit

theorem not_u32 (n : BitVec 32) : bits .xor .u32 IntKind.u32.max (n.toNat : Int) = ((~~~ n).toNat : Int) := by
  have h := u32_xor_nat (BitVec.allOnes 32).toNat n.toNat (BitVec.allOnes 32).isLt n.isLt
  rw [← BitVec.allOnes_xor, BitVec.toNat_xor, ← h]; rfl
theorem idx_eq (a b : Nat) (hb : b < 256) : bits .xor .u8 ((a : Int) % 256) (b : Int) = (((a % 256) ^^^ b : Nat) : Int) := by
  rw [← u8_xor_nat (a % 256) b (by omega) hb]
  congr 1
theorem xor_lt (a b : Nat) (ha : a < 256) (hb : b < 256) : a ^^^ b < 256 := Nat.xor_lt_two_pow (n := 8) ha hb
theorem run_snoc (n : BitVec 32) (s : ByteArray) (k : Nat) (h : k < s.size) : Crc.run n (s.data.toList.take (k + 1)) = Crc.upd (Crc.run n (s.data.toList.take k)) s[k] := by
  rw [List.take_succ_eq_append_getElem (by simpa using h)]
  unfold Crc.run
  rw [List.foldl_append]; rfl
theorem upd_val (x : BitVec 32) (b : UInt8) (ix : Nat) (h : (x.toNat % 256) ^^^ b.toNat = ix) : bits .xor .u32 ((Crc.tab ix).toNat : Int) ((x.toNat : Int) / 256) = ((Crc.upd x b).toNat : Int) := by
  subst h
  unfold Crc.upd
  rw [BitVec.toNat_xor, ← u32_xor_nat _ _ (BitVec.isLt _) (BitVec.isLt _)]
  congr 1
  rw [BitVec.toNat_ushiftRight, Nat.shiftRight_eq_div_pow]; rfl
theorem sub_u32 (n : BitVec 32) : 4294967295 - (n.toNat : Int) = ((~~~ n).toNat : Int) := by
  have := n.isLt
  rw [BitVec.toNat_not]
  omega
theorem xor_byte (x : BitVec 32) (b : UInt8) : bits .xor .u32 (x.toNat : Int) ((b.toNat : Int) % 4294967296) = ((x ^^^ BitVec.ofNat 32 b.toNat).toNat : Int) := by
  have hb := b.toNat_lt
  rw [BitVec.toNat_xor, ← u32_xor_nat _ _ (BitVec.isLt _) (BitVec.isLt _)]
  congr 1
theorem low_bit (x : BitVec 32) : x.getLsbD 0 = decide (x.toNat % 2 = 1) := by
  unfold BitVec.getLsbD
  rw [Nat.testBit_zero]
theorem odd_mod (x : BitVec 32) (h : (x.toNat : Int) % 2 = 1) : bits .xor .u32 ((x.toNat : Int) / 2) 3988292384 = ((Crc.step x).toNat : Int) :=
  odd_step x (by rw [low_bit]; exact decide_eq_true (by omega))
theorem even_mod (x : BitVec 32) (h : ¬ (x.toNat : Int) % 2 = 1) : (x.toNat : Int) / 2 = ((Crc.step x).toNat : Int) :=
  even_step x (by rw [low_bit]; exact decide_eq_false (by omega))
set_option maxRecDepth 100000 in
set_option maxHeartbeats 400000 in
theorem more_any (n : BitVec 32) (s : ByteArray) (w : World) (hs : s.size ≤ 9223372036854775807) :
    Calls Try.prog 14 #[.int .u32 (n.toNat : Int), .string s] w fun e w' => e = .returned (.int .u32 ((Crc.more n s.data.toList).toNat : Int)) ∧ Below w.heap.size w w' := by
  have hz := Try.zero37
  have hsz := hid Try.size37
  have hone := hid T256_one
  go_enter Try.func14, Try.ntmps14
  go_wp2_with (first
    | (go_at_call 18; refine (table_any _).mono ?_; rintro e w1 ⟨rfl, hb1⟩)
    | (refine wpList_store_row rfl 37 _ _ rfl _ (T256 256) rfl rfl 37 Z256 (heap_alloc_new _ _) hsz.out (by rw [T256_size]; rfl) hone.out ?_))
  have hcell : ∀ i, i < 256 → ((w1.alloc (Obj.cells Z256 37)).setRow w1.heap.size (T256 256)).cell? ⟨w1.heap.size, i, none⟩ = some (.int .u32 ((Crc.tab i).toNat : Int)) := fun i hi => by
    rw [cell_of_row _ _ _ _ _ _ (setRow_heap _ _ _ _ _ _ (heap_alloc_new _ _)), T256_get 256 i hi, if_pos hi]
  have hbel : Below w.heap.size w ((w1.alloc (Obj.cells Z256 37)).setRow w1.heap.size (T256 256)) := (hb1.alloc hb1.size _).trans (below_row hb1.size _)
  generalize (w1.alloc (Obj.cells Z256 37)).setRow w1.heap.size (T256 256) = W2 at hcell hbel ⊢
  clear hb1
  have HC := hid hcell
  clear hcell
  go_loop [13, 6] (fun i x => ∃ k : Nat, k ≤ s.size ∧ i = .int .i64 k ∧ x = .int .u32 ((Crc.run (~~~ n) (s.data.toList.take k)).toNat : Int)) (fun i _ => s.size - (intOf i).toNat)
  case atStart => exact ⟨0, by omega, rfl, int_eq (not_u32 n)⟩
  case round =>
    obtain ⟨k, hk, rfl, rfl⟩ := hrel
    by_cases hlt : k < s.size
    · have hxb := (Crc.run (~~~ n) (s.data.toList.take k)).isLt
      have HS := hid (run_snoc (~~~ n) s k hlt)
      generalize Crc.run (~~~ n) (s.data.toList.take k) = x at hxb HS
      have hidx := idx_eq x.toNat s[k].toNat s[k].toNat_lt
      have hlix := xor_lt (x.toNat % 256) s[k].toNat (by omega) s[k].toNat_lt
      have hci := HC.out _ hlix
      generalize hg : (x.toNat % 256) ^^^ s[k].toNat = ix at hidx hlix hci
      have HG := hid hg
      clear hg
      go_wp2
      go_round
      case rel => exact ⟨k + 1, by omega, by go_num, int_eq (by rw [HS.out]; exact upd_val x s[k] ix HG.out)⟩
      case measure => simp [intOf]; omega
    · have hk8 : k = s.size := by omega
      subst hk8
      go_wp2
      go_ret
      exact ⟨ret_eq (by rw [not_u32, List.take_of_length_le (by simp)]; rfl), hbel⟩

theorem of_any (s : ByteArray) (w : World) (hs : s.size ≤ 9223372036854775807) :
    Calls Try.prog 12 #[.string s] w fun e w' => e = .returned (.int .u32 ((Crc.sumOf s.data.toList).toNat : Int)) ∧ Below w.heap.size w w' := by
  go_enter Try.func12, Try.ntmps12
  go_wp2_with (go_at_call 14; refine (more_any 0#32 _ _ hs).mono ?_; rintro e w1 ⟨rfl, hb1⟩)
  go_ret
  exact ⟨rfl, hb1⟩

set_option maxRecDepth 100000 in
set_option maxHeartbeats 400000 in
theorem moreR_any (n : BitVec 32) (s : ByteArray) (w : World) (hs : s.size ≤ 9223372036854775807) :
    Calls Try.prog 15 #[.int .u32 (n.toNat : Int), .string s] w fun e w' => e = .returned (.int .u32 ((Crc.more n s.data.toList).toNat : Int)) ∧ w = w' := by
  have hnb := n.isLt
  go_enter Try.func15, Try.ntmps15
  go_wp2
  go_loop [6, 5] (fun i x => ∃ k : Nat, k ≤ s.size ∧ i = .int .i64 k ∧ x = .int .u32 ((Crc.run (~~~ n) (s.data.toList.take k)).toNat : Int)) (fun i _ => s.size - (intOf i).toNat)
  case atStart => exact ⟨0, by omega, rfl, int_eq (sub_u32 n)⟩
  case round =>
    obtain ⟨k, hk, rfl, rfl⟩ := hrel
    by_cases hlt : k < s.size
    · have hxb := (Crc.run (~~~ n) (s.data.toList.take k)).isLt
      have HS := hid (run_snoc (~~~ n) s k hlt)
      generalize Crc.run (~~~ n) (s.data.toList.take k) = x at hxb HS
      go_wp2
      go_loop [7, 5] (fun i y => ∃ j : Nat, j ≤ 8 ∧ i = .int .i64 j ∧ y = .int .u32 ((Crc.steps j (x ^^^ BitVec.ofNat 32 s[k].toNat)).toNat : Int)) (fun i _ => 8 - (intOf i).toNat)
      case atStart => exact ⟨0, by omega, rfl, int_eq (xor_byte x s[k])⟩
      case round =>
        obtain ⟨j, hj, rfl, rfl⟩ := hrel
        by_cases hlj : j < 8
        · have hyb := (Crc.steps j (x ^^^ BitVec.ofNat 32 s[k].toNat)).isLt
          have HT := hid (show Crc.steps (j + 1) (x ^^^ BitVec.ofNat 32 s[k].toNat) = Crc.step (Crc.steps j (x ^^^ BitVec.ofNat 32 s[k].toNat)) from rfl)
          generalize Crc.steps j (x ^^^ BitVec.ofNat 32 s[k].toNat) = y at hyb HT
          by_cases hodd : (y.toNat : Int) % 2 = 1
          · have hob : (((y.toNat : Int) % 2) == 1) = true := beq_iff_eq.2 hodd
            go_wp2
            go_round
            case rel => exact ⟨j + 1, by omega, by go_num, int_eq (by rw [HT.out]; exact odd_mod y hodd)⟩
            case measure => simp [intOf]; omega
          · have hob : (((y.toNat : Int) % 2) == 1) = false := beq_eq_false_iff_ne.2 hodd
            go_wp2
            go_round
            case rel => exact ⟨j + 1, by omega, by go_num, int_eq (by rw [HT.out]; exact even_mod y hodd)⟩
            case measure => simp [intOf]; omega
        · have hj8 : j = 8 := by omega
          subst hj8
          go_wp2
          go_round
          case rel => exact ⟨k + 1, by omega, by go_num, int_eq (by rw [HS.out, Crc.upd_eq]; rfl)⟩
          case measure => simp [intOf]; omega
    · have hk8 : k = s.size := by omega
      subst hk8
      go_wp2
      go_ret
      exact ⟨ret_eq (by rw [sub_u32, List.take_of_length_le (by simp)]; rfl), rfl⟩

theorem ofR_any (s : ByteArray) (w : World) (hs : s.size ≤ 9223372036854775807) :
    Calls Try.prog 13 #[.string s] w fun e w' => e = .returned (.int .u32 ((Crc.sumOf s.data.toList).toNat : Int)) ∧ w = w' := by
  go_enter Try.func13, Try.ntmps13
  go_wp2_with (go_at_call 15; refine (moreR_any 0#32 _ _ hs).mono ?_; rintro e w1 ⟨rfl, rfl⟩)
  go_ret
  exact ⟨rfl, rfl⟩
end Go.Proofs.Ytfockiaommiohaa
