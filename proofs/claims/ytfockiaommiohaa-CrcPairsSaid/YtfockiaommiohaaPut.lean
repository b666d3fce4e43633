/-
  crc.Put and the reference's Put: their contracts. Condition: the text has at most 100000000 bytes.
-/
import Derived.Test.YtfockiaommiohaaMore
namespace Go.Proofs.Ytfockiaommiohaa
open Go.RowKit

theorem Try.info5 : (Try.prog.info? 5).map (fun i => (i.zero, i.size, i.bytes)) = some (some (.int .u8 0), 1, 1) := by kernel_rfl

theorem low_val (n : BitVec 32) (k : Nat) : Value.int .u8 (((n >>> (8 * k)).toNat : Int) % 256) = byteV (Crc.bt n k) := by
  unfold byteV Crc.bt
  refine int_eq ?_
  rw [UInt8.toNat_ofNat']
  omega
theorem shr_val (n : BitVec 32) (k : Nat) : ((n >>> (8 * k)).toNat : Int) / 256 = ((n >>> (8 * (k + 1))).toNat : Int) := by
  rw [BitVec.toNat_ushiftRight, BitVec.toNat_ushiftRight, Nat.shiftRight_eq_div_pow, Nat.shiftRight_eq_div_pow, show 8 * (k + 1) = 8 * k + 8 from by omega, Nat.pow_add, ← Nat.div_div_eq_div_mul]
  omega

set_option maxRecDepth 100000 in
set_option maxHeartbeats 400000 in
theorem put_any (s : ByteArray) (w : World) (hs : s.size ≤ 100000000) :
    Calls Try.prog 16 #[.string s] w fun e w' => e = .returned (.string (bstr (Crc.put s.data.toList))) ∧ Below w.heap.size w w' := by
  obtain ⟨i0, hi, hz0, hz1, hz2⟩ := info_parts Try.info5
  have hconv := fun (w : World) => run_bytes_of_string (P := Try.prog) w 9 32 5 s Try.underlying9 Try.underlying32 Try.underlying5
  go_enter Try.func16, Try.ntmps16
  go_wp2_with (go_at_call 12; refine (of_any _ _ (by omega)).mono ?_; rintro e w1 ⟨rfl, hb1⟩)
  have hcap : s.size ≤ grownCap w s.size 0 5 := grownCap_ge _ _ _ _
  have hB0 := (BytesAt.of_string w w.heap.size 5 s _ (Nat.le_refl _) hcap).below hb1 (Nat.le_refl _)
  have hb0 : Below w.heap.size w w1 := (((Below.refl w.heap.size w).alloc (Nat.le_refl _) _).drew).trans (hb1.mono (by simp))
  clear hb1 hconv
  go_loopw [5, 3, 4] (fun i b n wr => ∃ k : Nat, k ≤ 4 ∧ i = .int .i64 k ∧ n = .int .u32 ((Crc.sumOf s.data.toList >>> (8 * k)).toNat : Int) ∧ BytesAt wr w.heap.size b (s.data.toList ++ Crc.le (Crc.sumOf s.data.toList) k) ∧ Below w.heap.size w wr) (fun i _ _ _ => 4 - (intOf i).toNat)
  case atStart => exact ⟨0, by omega, rfl, by simp, by simpa [Crc.le] using hB0, hb0⟩
  case round =>
    obtain ⟨k, hk, rfl, rfl, hB, hbel⟩ := hrel
    by_cases hlt : k < 4
    · have hsz := hbel.size
      have HL := hid (low_val (Crc.sumOf s.data.toList) k)
      have HR := hid (shr_val (Crc.sumOf s.data.toList) k)
      generalize Crc.sumOf s.data.toList >>> (8 * k) = x at HL HR ⊢
      have hnb := x.isLt
      have hlen : (s.data.toList ++ Crc.le (Crc.sumOf s.data.toList) k).length = s.size + k := by simp [Crc.le_length]
      have HL2 := hid hlen
      clear hlen
      go_wp2_with (first | (at_builtin; refine wpList_append_bytes _ rfl _ _ 32 rfl 5 i0 (.int .u8 0) Try.underlying32 hi hz0 hz1 hz2 rfl w.heap.size _ _ rfl (hB.alloc _) ⟨_, 0, none⟩ 1 1 [Crc.bt (Crc.sumOf s.data.toList) k] rfl rfl ?c1 ?c2 ?c3 ?_))
      case c1 => exact cell_one_byte _ _ _ _ HL.out
      case c2 => simp; omega
      case c3 => rw [HL2.out]; omega
      · intro v' w' hB' hgr
        have hbel' := (hbel.alloc hbel.size _).grown hgr (by simp; omega) (fun q hq => hB.block _ hq)
        rw [← Crc.le_succ] at hB'
        clear hgr
        go_wp2
        go_roundw
        case rel => exact ⟨k + 1, by omega, by go_num, int_eq HR.out, hB', hbel'⟩
        case measure => simp [intOf]; omega
    · have hk8 : k = 4 := by omega
      subst hk8
      have hst := run_string_of_bytes (P := Try.prog) wr w.heap.size 32 9 5 _ _ Try.underlying32 Try.underlying5 Try.underlying9 hB
      go_wp2
      go_ret
      exact ⟨rfl, hbel⟩

set_option maxRecDepth 100000 in
set_option maxHeartbeats 400000 in
theorem putR_any (s : ByteArray) (w : World) (hs : s.size ≤ 100000000) :
    Calls Try.prog 17 #[.string s] w fun e w' => e = .returned (.string (bstr (Crc.put s.data.toList))) ∧ Below w.heap.size w w' := by
  go_enter Try.func17, Try.ntmps17
  go_wp2_with (go_at_call 13; refine (ofR_any _ _ (by omega)).mono ?_; rintro e w1 ⟨rfl, rfl⟩)
  go_loopw [5, 4, 3] (fun i t n wr => ∃ k : Nat, k ≤ 4 ∧ i = .int .i64 k ∧ n = .int .u32 ((Crc.sumOf s.data.toList >>> (8 * k)).toNat : Int) ∧ t = .string (bstr (s.data.toList ++ Crc.le (Crc.sumOf s.data.toList) k)) ∧ Below w.heap.size w wr) (fun i _ _ _ => 4 - (intOf i).toNat)
  case atStart => exact ⟨0, by omega, rfl, by simp, by simp [Crc.le, bstr_of], Below.refl _ _⟩
  case round =>
    obtain ⟨k, hk, rfl, rfl, rfl, hbel⟩ := hrel
    by_cases hlt : k < 4
    · have HL := hid (low_val (Crc.sumOf s.data.toList) k)
      have HR := hid (shr_val (Crc.sumOf s.data.toList) k)
      generalize Crc.sumOf s.data.toList >>> (8 * k) = x at HL HR ⊢
      have hnb := x.isLt
      have hst := fun W => run_string_one (P := Try.prog) W 32 9 5 _ (Crc.bt (Crc.sumOf s.data.toList) k) HL.out Try.underlying32 Try.underlying5 Try.underlying9
      have hsz : (bstr (s.data.toList ++ Crc.le (Crc.sumOf s.data.toList) k)).size ≤ 100000004 := by rw [bstr_size]; simp [Crc.le_length]; omega
      generalize hT : bstr (s.data.toList ++ Crc.le (Crc.sumOf s.data.toList) k) = T at hsz ⊢
      have HT := hid hT
      clear hT
      have h1 : (bstr [Crc.bt (Crc.sumOf s.data.toList) k]).size = 1 := rfl
      go_wp2
      go_roundw
      case rel => exact ⟨k + 1, by omega, by go_num, int_eq HR.out, str_eq (by rw [← HT.out, Crc.le_succ, bstr_append, List.append_assoc]), hbel.alloc hbel.size _⟩
      case measure => simp [intOf]; omega
    · have hk8 : k = 4 := by omega
      subst hk8
      go_wp2
      go_ret
      exact ⟨rfl, hbel⟩

theorem take_yes {l : List UInt8} (h1 : 4 ≤ l.length) (h2 : Crc.put (l.take (l.length - 4)) = l) : Crc.take l = (l.take (l.length - 4), true) := by
  unfold Crc.take
  rw [if_neg (by intro h; rcases h with h | h; omega; exact h h2)]
theorem take_no {l : List UInt8} (h : l.length < 4 ∨ ¬ Crc.put (l.take (l.length - 4)) = l) : Crc.take l = ([], false) := by
  unfold Crc.take
  rw [if_pos h]
theorem take_test (s : ByteArray) (h4 : 4 ≤ s.size) (b : Bool) (h : (!(bstr (Crc.put (s.data.toList.take (s.size - 4)))).toList == s.toList) = b) : Crc.take s.data.toList = if b then ([], false) else (s.data.toList.take (s.size - 4), true) := by
  rw [bytes_beq] at h
  have hl : s.data.toList.length = s.size := by simp
  by_cases e : bstr (Crc.put (s.data.toList.take (s.size - 4))) = s
  · simp only [e, decide_true, Bool.not_true] at h
    subst h
    rw [take_yes (by omega) (by rw [hl]; conv => rhs; rw [← e]
                                rfl), hl]; rfl
  · simp only [e, decide_false, Bool.not_false] at h
    subst h
    rw [take_no (.inr (by rw [hl]; intro h; exact e (ba_eq (by rw [bstr_toList]; exact h))))]; rfl

set_option maxRecDepth 100000 in
set_option maxHeartbeats 400000 in
theorem take_any (s : ByteArray) (w : World) (hs : s.size ≤ 100000000) :
    Calls Try.prog 10 #[.string s] w fun e w' => e = .returned (.tuple #[.string (bstr (Crc.take s.data.toList).1), .bool (Crc.take s.data.toList).2]) ∧ Below w.heap.size w w' := by
  by_cases h4 : s.size < 4
  · have HF := hid (take_no (l := s.data.toList) (.inl (by simpa using h4)))
    go_enter Try.func10, Try.ntmps10
    go_wp2
    go_ret2
    rw [HF.out]
    exact ⟨rfl, Below.refl _ _⟩
  · go_enter Try.func10, Try.ntmps10
    go_wp2_with (go_at_call 16; refine (put_any _ _ (by simp; omega)).mono ?_; rintro e w1 ⟨rfl, hb1⟩)
    · have h0 : (s.size : Int) - 4 < 0 ∨ (!(bstr (Crc.put (List.take (s.size - 4) s.data.toList))).toList == s.toList) = true := by assumption
      have HF := take_test s (by omega) true (by rcases h0 with h | h; omega; exact h)
      go_ret2
      rw [HF]
      exact ⟨rfl, hb1⟩
    · have h0 : 0 ≤ (s.size : Int) - 4 ∧ (!(bstr (Crc.put (List.take (s.size - 4) s.data.toList))).toList == s.toList) = false := by assumption
      have HF := take_test s (by omega) false h0.2
      go_ret2
      rw [HF, extract_bstr]
      exact ⟨rfl, hb1⟩

set_option maxRecDepth 100000 in
set_option maxHeartbeats 400000 in
theorem takeR_any (s : ByteArray) (w : World) (hs : s.size ≤ 100000000) :
    Calls Try.prog 11 #[.string s] w fun e w' => e = .returned (.tuple #[.string (bstr (Crc.take s.data.toList).1), .bool (Crc.take s.data.toList).2]) ∧ Below w.heap.size w w' := by
  by_cases h4 : s.size < 4
  · have HF := hid (take_no (l := s.data.toList) (.inl (by simpa using h4)))
    go_enter Try.func11, Try.ntmps11
    go_wp2
    go_ret2
    rw [HF.out]
    exact ⟨rfl, Below.refl _ _⟩
  · go_enter Try.func11, Try.ntmps11
    go_wp2_with (go_at_call 17; refine (putR_any _ _ (by simp; omega)).mono ?_; rintro e w1 ⟨rfl, hb1⟩)
    · have h0 : (s.size : Int) < 4 ∨ (!(bstr (Crc.put (List.take (s.size - 4) s.data.toList))).toList == s.toList) = true := by assumption
      have HF := take_test s (by omega) true (by rcases h0 with h | h; omega; exact h)
      go_ret2
      rw [HF]
      exact ⟨rfl, hb1⟩
    · have h0 : 4 ≤ (s.size : Int) ∧ (!(bstr (Crc.put (List.take (s.size - 4) s.data.toList))).toList == s.toList) = false := by assumption
      have HF := take_test s (by omega) false h0.2
      go_ret2
      rw [HF, extract_bstr]
      exact ⟨rfl, hb1⟩
end Go.Proofs.Ytfockiaommiohaa
