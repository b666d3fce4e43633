/-
  The reference's Bytes: its contract. Condition: the texts have at most 2^63 - 1 bytes.
-/
import Derived.Test.YtimcmpcfnddioaaKyC
namespace Go.Proofs.Ytimcmpcfnddioaa
open Go.RowKit

namespace Ky
def strL (l r : List UInt8) : Int := if Op.bytesLess l r then -1 else if l = r then 0 else 1
theorem strs_eq (a b : ByteArray) : strs a b = strL a.data.toList b.data.toList := by
  unfold strs strL
  rw [ByteArray.toList_eq, ByteArray.toList_eq]
  have h : (a = b) = (a.data.toList = b.data.toList) := by
    apply propext
    exact ⟨fun h => by rw [h], fun h => ba_eq h⟩
  simp only [h]
theorem strL_app (p l r : List UInt8) : strL (p ++ l) (p ++ r) = strL l r := by
  induction p with
  | nil => rfl
  | cons c p ih =>
    rw [← ih]
    unfold strL
    simp [Op.bytesLess]
theorem strL_at {l r : List UInt8} {k : Nat} (h1 : k < l.length) (h2 : k < r.length) (h : l.take k = r.take k) (hne : l[k] ≠ r[k]) : strL l r = if l[k] < r[k] then -1 else 1 := by
  rw [show strL l r = strL (l.take k ++ l.drop k) (r.take k ++ r.drop k) by rw [List.take_append_drop, List.take_append_drop], h, strL_app, List.drop_eq_getElem_cons h1, List.drop_eq_getElem_cons h2]
  have hx : ¬ (l[k] :: l.drop (k + 1) = r[k] :: r.drop (k + 1)) := fun e => hne (List.cons.inj e).1
  unfold strL
  rw [if_neg hx]
  unfold Op.bytesLess
  rw [beq_eq_false_iff_ne.2 hne, Bool.false_and, Bool.or_false]
  by_cases hlt : l[k] < r[k]
  · rw [if_pos hlt, decide_eq_true hlt]; rfl
  · rw [if_neg hlt, decide_eq_false hlt]; rfl
theorem strL_end {l r : List UInt8} {k : Nat} (h : l.take k = r.take k) (hk : k = l.length ∨ k = r.length) (h1 : k ≤ l.length) (h2 : k ≤ r.length) : strL l r = if l.length = r.length then 0 else if l.length < r.length then -1 else 1 := by
  rw [show strL l r = strL (l.take k ++ l.drop k) (r.take k ++ r.drop k) by rw [List.take_append_drop, List.take_append_drop], h, strL_app]
  by_cases e : l.length = r.length
  · rw [if_pos e, List.drop_of_length_le (by omega), List.drop_of_length_le (by omega)]
    unfold strL; simp [Op.bytesLess]
  · rw [if_neg e]
    by_cases e2 : l.length < r.length
    · rw [if_pos e2, List.drop_of_length_le (by omega), List.drop_eq_getElem_cons (by omega)]
      unfold strL; simp [Op.bytesLess]
    · have hkl : k < l.length := by omega
      rw [if_neg e2, List.drop_of_length_le (l := r) (by omega), List.drop_eq_getElem_cons hkl]
      unfold strL; simp [Op.bytesLess]
      exact hkl
theorem take_step {l r : List UInt8} {k : Nat} (h1 : k < l.length) (h2 : k < r.length) (h : l.take k = r.take k) (he : l[k] = r[k]) : l.take (k + 1) = r.take (k + 1) := by
  rw [take_next l k h1, take_next r k h2, h, he]
end Ky
set_option maxRecDepth 100000 in
set_option maxHeartbeats 1600000 in
theorem bytesR_any (a b : ByteArray) (ha : a.size ≤ maxLen) (hb : b.size ≤ maxLen) (w : World) : Calls Try.prog 23 #[.string a, .string b] w fun e w' => e = .returned (.int .i64 (Ky.strs a b)) ∧ Below w.heap.size w w' := by
  unfold maxLen at ha hb
  have hla : a.data.toList.length = a.size := by simp
  have hlb : b.data.toList.length = b.size := by simp
  go_enter Try.func23, Try.ntmps23
  go_wp2_with fail
  go_loopw [5] (fun i wr => ∃ k : Nat, k ≤ a.size ∧ k ≤ b.size ∧ i = .int .i64 (k : Int) ∧ Hid (a.data.toList.take k = b.data.toList.take k) ∧ Below w.heap.size w wr) (fun i _ => a.size - (intOf i).toNat)
  case atStart => exact ⟨0, by omega, by omega, rfl, rfl, Below.refl _ _⟩
  case round =>
    obtain ⟨k, hk1, hk2, rfl, htk, hbel⟩ := hrel
    have hk0 : (0 : Int) ≤ (k : Int) := by omega
    by_cases hA : k < a.size
    · have hA' : (k : Int) < a.size := by omega
      by_cases hB : k < b.size
      · have hB' : (k : Int) < b.size := by omega
        have HS := hid (Ky.take_step (l := a.data.toList) (r := b.data.toList) (by omega) (by omega) htk.out)
        have HN := hid (Ky.strL_at (l := a.data.toList) (r := b.data.toList) (by omega) (by omega) htk.out)
        rw [show a.data.toList[k]'(by omega) = a[k] from rfl, show b.data.toList[k]'(by omega) = b[k] from rfl] at HS HN
        by_cases hxy : a[k] = b[k]
        · have HT := hid (HS.out hxy)
          have e0 : ((a[k].toNat : Int) != (b[k].toNat : Int)) = false := by rw [hxy]; simp
          clear hxy HS HN
          go_wp2_with fail
          go_quiet (fail)
          go_wp2_with fail
          go_roundw
          case rel => exact ⟨k + 1, by omega, by omega, by go_num, HT, hdrewN hbel _⟩
          case measure => simp [intOf]; omega
        · have HE := hid (HN.out hxy)
          have e0 : ((a[k].toNat : Int) != (b[k].toNat : Int)) = true := by
            rw [bne_iff_ne]
            intro h
            exact hxy (UInt8.toNat_inj.1 (by omega))
          clear HS HN
          by_cases hlt : a[k] < b[k]
          · have h2 : decide (a[k].toNat < b[k].toNat) = true := decide_eq_true (UInt8.lt_iff_toNat_lt.1 hlt)
            rw [if_pos hlt] at HE
            clear hlt hxy
            go_wp2_with fail
            go_quiet (fail)
            go_wp2_with fail
            go_quiet (fail)
            go_wp2_with fail
            go_ret
            rw [Ky.strs_eq, HE.out]
            exact ⟨rfl, hdrewN (hdrewN hbel _) _⟩
          · have h2 : decide (a[k].toNat < b[k].toNat) = false := decide_eq_false (fun h => hlt (UInt8.lt_iff_toNat_lt.2 h))
            rw [if_neg hlt] at HE
            clear hlt hxy
            go_wp2_with fail
            go_quiet (fail)
            go_wp2_with fail
            go_quiet (fail)
            go_wp2_with fail
            go_ret
            rw [Ky.strs_eq, HE.out]
            exact ⟨rfl, hdrewN (hdrewN hbel _) _⟩
      · have HE := hid (Ky.strL_end (l := a.data.toList) (r := b.data.toList) htk.out (.inr (by omega)) (by omega) (by omega))
        rw [hla, hlb, if_neg (by omega), if_neg (by omega)] at HE
        have hB' : ¬ (k : Int) < b.size := by omega
        have h3 : ¬ (a.size : Int) < b.size := by omega
        have h4 : ((a.size : Int) == (b.size : Int)) = false := by rw [beq_eq_false_iff_ne]; omega
        go_wp2_with fail
        go_ret
        rw [Ky.strs_eq, HE.out]
        exact ⟨rfl, hbel⟩
    · obtain rfl : k = a.size := by omega
      have HE := hid (Ky.strL_end (l := a.data.toList) (r := b.data.toList) htk.out (.inl (by omega)) (by omega) (by omega))
      rw [hla, hlb] at HE
      by_cases h3 : (a.size : Int) = (b.size : Int)
      · have h4 : ((a.size : Int) == (b.size : Int)) = true := by rw [beq_iff_eq]; exact h3
        rw [if_pos (by omega)] at HE
        clear h3
        go_wp2_with fail
        go_ret
        rw [Ky.strs_eq, HE.out]
        exact ⟨rfl, hbel⟩
      · have h4 : ((a.size : Int) == (b.size : Int)) = false := by rw [beq_eq_false_iff_ne]; exact h3
        have h5 : (a.size : Int) < b.size := by omega
        rw [if_neg (by omega), if_pos (by omega)] at HE
        clear h3
        go_wp2_with fail
        go_ret
        rw [Ky.strs_eq, HE.out]
        exact ⟨rfl, hbel⟩
end Go.Proofs.Ytimcmpcfnddioaa
