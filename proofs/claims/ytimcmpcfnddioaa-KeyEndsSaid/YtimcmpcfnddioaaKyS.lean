/-
  key's reader: number: its contract. Condition: the text has at most 1000000000 bytes.
-/
import Derived.Test.YtimcmpcfnddioaaKyR
import Derived.Laws.Bits64
namespace Go.Proofs.Ytimcmpcfnddioaa
open Go.RowKit

namespace Ky
/-- the number of bytes, the highest first -/
def num (l : List UInt8) : Nat := l.foldl (fun n c => 256 * n + c.toNat) 0
theorem num_next (l : List UInt8) (k : Nat) (h : k < l.length) : num (l.take (k + 1)) = 256 * num (l.take k) + l[k].toNat := by
  unfold num
  rw [take_next l k h, List.foldl_append]; rfl
theorem num_lt (l : List UInt8) (k : Nat) (h : k ≤ l.length) : num (l.take k) < 256 ^ k := by
  induction k with
  | zero => exact Nat.one_pos
  | succ k ih =>
    have h1 := ih (by omega)
    have h2 := (l[k]).toNat_lt
    rw [num_next l k (by omega), Nat.pow_succ]
    omega
end Ky
theorem or_byte (b d : Nat) (hb : b < 72057594037927936) (hd : d < 256) : bits .or .u64 ((256 * b : Nat) : Int) (d : Int) = ((256 * b + d : Nat) : Int) := by
  have h := bits_or_u64_nat (256 * b) d (by omega) (by omega)
  rw [h, show 256 * b = b <<< 8 by rw [Nat.shiftLeft_eq]; omega, Nat.shiftLeft_add_eq_or_of_lt (by omega)]
theorem cells_of_string (w : World) (s : ByteArray) (cap e : Nat) (hc : s.size ≤ cap) (l : List UInt8) (hl : s = bstr l) (j : Nat) (hj : j < l.length) :
    ((w.alloc (.cells (bytesRow s cap) e ((bytesRow s cap).size, (bytesRow s cap).size + 1))).drew).cell? ⟨w.heap.size, j, none⟩ = some (.int .u8 (l[j].toNat : Int)) := by
  subst hl
  show (w.alloc _).cell? _ = _
  rw [cell_of_row _ _ _ _ _ _ (heap_alloc_new w _)]
  have h2 : j < (bstr l).data.size := by show j < l.toArray.size; simpa using hj
  rw [bytesRow_at (bstr l) cap j h2]
  rfl
set_option maxRecDepth 100000 in
set_option maxHeartbeats 1600000 in
theorem number_rd (g : Nat) (l : List UInt8) (b : Bool) (w : World) (hr : Kr w g l b) (hs : l.length ≤ 1000000000) :
    Calls Try.prog 47 #[.pointer (some ⟨g, 0, none⟩)] w fun e w' => e = .returned (.int .u64 (Ky.num (Ky.tk 8 l b).1 : Int)) ∧ Upd g w w' ∧ Kr w' g (Ky.tk 8 l b).2.1 (Ky.tk 8 l b).2.2 := by
  have ct0 := take_any g l b 8 (by decide) w hr hs
  have ht := Ky.tk_length 8 l b
  generalize Ky.tk 8 l b = q at ct0 ht ⊢
  obtain ⟨t, r, c⟩ := q
  simp only at ct0 ht ⊢
  have ct := hid ct0
  clear ct0 hr
  have hts : (bstr t).size = 8 := ht
  have hconv := fun (w : World) => run_bytes_of_string (P := Try.prog) w 9 50 5 (bstr t) Try.underlying9 Try.underlying50 Try.underlying5
  go_enter Try.func47, Try.ntmps47
  go_wp2_with fail
  refine (ct.out).mono ?_; rintro e w1 ⟨rfl, u1, r1⟩
  have hcap : (bstr t).size ≤ grownCap w1 (bstr t).size 0 5 := grownCap_ge _ _ _ _
  have hcl := cells_of_string w1 (bstr t) _ 5 hcap t rfl
  rw [hts] at hcl
  go_wp2_with fail
  have hlay : Below w1.heap.size w1 (w1.alloc (.cells (bytesRow (bstr t) (grownCap w1 8 0 5)) 5 ((bytesRow (bstr t) (grownCap w1 8 0 5)).size, (bytesRow (bstr t) (grownCap w1 8 0 5)).size + 1))).drew := (hba _ _).drew
  have HR := hid (r1.keep hlay)
  have HU := hid (u1.trans (Upd.of hlay))
  clear hlay hcap hconv u1 r1 ct
  have HC := hid hcl
  clear hcl
  generalize (w1.alloc (.cells (bytesRow (bstr t) (grownCap w1 8 0 5)) 5 ((bytesRow (bstr t) (grownCap w1 8 0 5)).size, (bytesRow (bstr t) (grownCap w1 8 0 5)).size + 1))).drew = w2 at *
  generalize grownCap w1 8 0 5 = cap
  generalize w1.heap.size = g1 at *
  go_loopw [10, 3] (fun i n wr => ∃ k nn : Nat, k ≤ 8 ∧ i = .int .i64 (k : Int) ∧ n = .int .u64 (nn : Int) ∧ Hid (nn = Ky.num (t.take k)) ∧ Hid (nn < 256 ^ k) ∧ wr = w2) (fun i _ _ => 8 - (intOf i).toNat)
  case atStart => exact ⟨0, 0, by omega, rfl, rfl, rfl, by show _ < _; decide, rfl⟩
  case round =>
    obtain ⟨k, nn, hk, rfl, rfl, hnn, hlt, rfl⟩ := hrel
    by_cases hk8 : k < 8
    · have hc := HC.out k (by omega)
      have HN := hid (Ky.num_next t k (by omega))
      rw [← hnn.out] at HN
      have hb7 : nn < 72057594037927936 := Nat.lt_of_lt_of_le hlt.out (Nat.le_trans (Nat.pow_le_pow_right (by decide) (show k ≤ 7 by omega)) (by decide))
      have hdl := (t[k]'(by omega)).toNat_lt
      generalize (t[k]'(by omega)).toNat = d at hc HN hdl
      have hk8' : (k : Int) < 8 := by omega
      have hk0 : (0 : Int) ≤ (k : Int) := by omega
      have hsh : IntKind.u64.wrap ((nn : Int) * 256) = ((256 * nn : Nat) : Int) := by rw [IntKind.wrap_u64]; omega
      have hor : bits .or .u64 ((256 * nn : Nat) : Int) (d : Int) = ((256 * nn + d : Nat) : Int) := or_byte nn d (by omega) hdl
      have HB2 : Hid (256 * nn + d < 256 ^ (k + 1)) := by have := hlt.out; show _ < _; rw [Nat.pow_succ]; omega
      obtain ⟨y, hy⟩ : ∃ y, 256 * nn + d = y := ⟨_, rfl⟩
      rw [hy] at hor HN HB2
      clear hy
      generalize (256 * nn : Nat) = x at hsh hor
      clear hnn hlt
      go_wp2_with fail
      go_roundw
      case rel => exact ⟨k + 1, y, by omega, by go_num, rfl, HN.out.symm, HB2, trivial⟩
      case measure => simp [intOf]; omega
    · obtain rfl : k = 8 := by omega
      have HN : Hid (Ky.num t = nn) := by have := hnn.out; rw [List.take_of_length_le (by omega)] at this; exact this.symm
      clear hnn hlt
      go_wp2_with fail
      go_ret
      rw [HN.out]
      exact ⟨rfl, HU.out, HR.out⟩
end Go.Proofs.Ytimcmpcfnddioaa
