/-
  Both Compares of values, Same, AsFloat; the values' order plainly: taken out of the key's texts.
-/
import Derived.Test.YtfdehigepgeknaaVb
import Derived.Laws.MakeOwn
import Derived.Lib.AppendStr
import Derived.Laws.Bits64
import Derived.Laws.Bits64b

namespace Go.Proofs.Ytfdehigepgeknaa
open Go.RowKit

namespace Ky
/-- can a row be a key? -/
def right (l : List Cd.V) : Bool := l.all Cd.V.right && decide (l.length ≤ 8)
end Ky
end Go.Proofs.Ytfdehigepgeknaa

namespace Go.Proofs.Ytfdehigepgeknaa
open Go.RowKit

theorem Try.infoByte : (Try.prog.info? 5).map (fun i => (i.zero, i.size, i.bytes)) = some (some (.int .u8 0), 1, 1) := by kernel_rfl
end Go.Proofs.Ytfdehigepgeknaa

namespace Go.Proofs.Ytfdehigepgeknaa
open Go.RowKit

namespace Ky
/-- a byte, so that the end can be told -/
def esc1 (c : UInt8) : List UInt8 := if c = 0 then [0, 255] else [c]
/-- a text's bytes, without the end -/
def esc (l : List UInt8) : List UInt8 := l.flatMap esc1
end Ky
/-- bytes of the call's own -/
def Own8 (w : World) (B : Nat) (v : Value) (l : List UInt8) : Prop := w.ownsRow B 5 1 v l.length (l.map byteV)
theorem append_str (w : World) {ops : Array Oper} {rest : List Oper} {o : Oper} {a : Act} {Q : Exit → Act → World → Prop} (hgd : o.guard = none) (sl x : Operand)
    (ho : o.op = .call { callee := .builtin .append, args := #[sl, x], argTypes := #[88, 9] })
    (B : Nat) (v : Value) (l : List UInt8) (hs : a.eval sl = v) (hown : Own8 w B v l) (s : ByteArray) (hx : a.eval x = .string s) (hlen : l.length + s.size ≤ 140737488355328) (hB : B ≤ w.heap.size)
    (h : ∀ v' w', Own8 w' B v' (l ++ s.data.toList) → w.grownBy w' v.ownBlock → wpList Try.prog ops Q rest (a.put o.dst v') w') : wpList Try.prog ops Q (o :: rest) a w := by
  obtain ⟨i0, hi, hz0, hz1, hz2⟩ := info_parts Try.infoByte
  have hsz : s.data.toList.length = s.size := by simp
  refine Go.Lib.wpList_append_own_string w hgd sl x 88 9 ho B 5 i0 Try.underlying88 Try.underlying9 hi hz0 hz1 hz2 v l.length (l.map byteV) hs hown s hx (by unfold maxLen; omega) hlen hB ?_
  intro v' w' h1 h2 _
  refine h v' w' ?_ h2
  unfold Own8
  rw [List.length_append, hsz, List.map_append]
  exact h1
end Go.Proofs.Ytfdehigepgeknaa

namespace Go.Proofs.Ytfdehigepgeknaa
open Go.RowKit

namespace Ky
/-- a number's bits, in the numbers' order -/
def turned (b : Nat) : Nat := if b < 9223372036854775808 then b + 9223372036854775808 else 18446744073709551615 - b
def straight (b : Nat) : Nat := if b < 9223372036854775808 then 18446744073709551615 - b else b - 9223372036854775808
theorem turned_lt {b : Nat} (h : b < 18446744073709551616) : turned b < 18446744073709551616 := by unfold turned; split <;> omega
theorem straight_turned {b : Nat} (h : b < 18446744073709551616) : straight (turned b) = b := by unfold straight turned; split <;> split <;> omega
end Ky
theorem nat_and_top (b : Nat) (hb : b < 18446744073709551616) : b &&& 2 ^ 63 = if b < 2 ^ 63 then 0 else 2 ^ 63 := by
  apply Nat.eq_of_testBit_eq
  intro i
  rw [Nat.testBit_and, Nat.testBit_two_pow]
  by_cases hi : 63 = i
  · subst hi
    by_cases hl : b < 2 ^ 63
    · rw [if_pos hl, Nat.testBit_lt_two_pow hl]; simp
    · rw [if_neg hl, Nat.testBit_eq_decide_div_mod_eq, Nat.testBit_two_pow, decide_eq_true (show b / 2 ^ 63 % 2 = 1 by omega)]; simp
  · by_cases hl : b < 2 ^ 63
    · rw [if_pos hl]; simp [hi]
    · rw [if_neg hl, Nat.testBit_two_pow]; simp [hi]
theorem and_top (b : Nat) (hb : b < 18446744073709551616) : bits .and .u64 (b : Int) 9223372036854775808 = if b < 9223372036854775808 then 0 else 9223372036854775808 := by
  have h := bits_and_u64_nat b 9223372036854775808 hb (by decide)
  have h2 := nat_and_top b hb
  rw [show (2 ^ 63 : Nat) = 9223372036854775808 from rfl] at h2
  rw [h2] at h
  rw [show (9223372036854775808 : Int) = ((9223372036854775808 : Nat) : Int) from rfl, h]
  split <;> rfl
end Go.Proofs.Ytfdehigepgeknaa

namespace Go.Proofs.Ytfdehigepgeknaa
open Go.RowKit

/-- a whole number, moved so that it is one without a sign -/
def Ky.moved (n : Int) : Nat := (n + 9223372036854775808).toNat
theorem Ky.moved_lt {n : Int} (h1 : n ≤ 9223372036854775807) : Ky.moved n < 18446744073709551616 := by unfold Ky.moved; omega
/-- a value's bytes -/
def Ky.one (k n : Int) (b : Nat) (s : ByteArray) : List UInt8 :=
  if k = 1 then [2, UInt8.ofNat n.toNat] else if k = 2 then 3 :: Cd.eight (Ky.moved n) else if k = 3 then 4 :: Cd.eight (Ky.turned b) else if k = 4 then 5 :: (Ky.esc s.data.toList ++ [0, 1]) else if k = 5 then 6 :: (Ky.esc s.data.toList ++ [0, 1]) else [1]
/-- a box with a value -/
def VB (w : World) (g : Nat) (k n : Int) (b : Nat) (s : ByteArray) : Prop := w.heap[g]? = some (.cells #[.int .i64 k, .int .i64 n, .int .u64 (b : Int), .string s] 39 (0, 0))
theorem VB.keep {w w' : World} {g : Nat} {k n : Int} {b : Nat} {s : ByteArray} (h : VB w g k n b s) (hb : Below w.heap.size w w') : VB w' g k n b s := keepBlock h hb
theorem VB.new (w : World) (k n : Int) (b : Nat) (s : ByteArray) : VB (w.alloc (.cells #[.int .i64 k, .int .i64 n, .int .u64 (b : Int), .string s] 39)) w.heap.size k n b s := heap_alloc_new w _
theorem VB.cells {w : World} {g : Nat} {k n : Int} {b : Nat} {s : ByteArray} (h : VB w g k n b s) : w.cell? ⟨g, 0, none⟩ = some (.int .i64 k) ∧ w.cell? ⟨g, 1, none⟩ = some (.int .i64 n) ∧ w.cell? ⟨g, 2, none⟩ = some (.int .u64 (b : Int)) ∧ w.cell? ⟨g, 3, none⟩ = some (.string s) :=
  ⟨cell_of_row w g 0 _ _ _ h, cell_of_row w g 1 _ _ _ h, cell_of_row w g 2 _ _ _ h, cell_of_row w g 3 _ _ _ h⟩
end Go.Proofs.Ytfdehigepgeknaa

namespace Go.Proofs.Ytfdehigepgeknaa
open Go.RowKit

theorem ext_one (s : ByteArray) (k : Nat) (h : k < s.size) : s.extract k (k + 1) = bstr [s[k]] := by
  apply ba_eq
  rw [ByteArray.data_extract, Array.toList_extract]
  simp only [List.extract]
  rw [show k + 1 - k = 1 by omega, List.drop_eq_getElem_cons (by simpa using h)]
  rfl

end Go.Proofs.Ytfdehigepgeknaa

namespace Go.Proofs.Ytfdehigepgeknaa
open Go.RowKit

/-- a key's bytes -/
def Ky.bytes (x : Cd.V) : List UInt8 := Ky.one x.k x.n x.b x.s
def Ky.of (l : List Cd.V) : List UInt8 := if Ky.right l then l.flatMap Ky.bytes ++ [0] else []
end Go.Proofs.Ytfdehigepgeknaa

namespace Go.Proofs.Ytfdehigepgeknaa
open Go.RowKit

end Go.Proofs.Ytfdehigepgeknaa

namespace Go.Proofs.Ytfdehigepgeknaa
open Go.RowKit

/-- -1, 0, 1 -/
def Ky.ints (a b : Int) : Int := if a < b then -1 else if b < a then 1 else 0
theorem ints_any (a b : Int) (w : World) : Calls Try.prog 58 #[.int .i64 a, .int .i64 b] w fun e w' => e = .returned (.int .i64 (Ky.ints a b)) ∧ w = w' := by
  unfold Ky.ints
  by_cases h : a < b
  · rw [if_pos h]
    go_enter Try.func58, Try.ntmps58
    go_wp2_with fail
    go_ret
    exact ⟨rfl, rfl⟩
  · rw [if_neg h]
    by_cases h2 : b < a
    · rw [if_pos h2]
      go_enter Try.func58, Try.ntmps58
      go_wp2_with fail
      go_ret
      exact ⟨rfl, rfl⟩
    · rw [if_neg h2]
      go_enter Try.func58, Try.ntmps58
      go_wp2_with fail
      go_ret
      exact ⟨rfl, rfl⟩
theorem order_any (a b : Int) (w : World) : Calls Try.prog 46 #[.int .i64 a, .int .i64 b] w fun e w' => e = .returned (.int .i64 (Ky.ints a b)) ∧ w = w' := by
  unfold Ky.ints
  by_cases h : a < b
  · rw [if_pos h]
    go_enter Try.func46, Try.ntmps46
    go_wp2_with fail
    go_ret
    exact ⟨rfl, rfl⟩
  · rw [if_neg h]
    by_cases h2 : b < a
    · rw [if_pos h2]
      go_enter Try.func46, Try.ntmps46
      go_wp2_with fail
      go_ret
      exact ⟨rfl, rfl⟩
    · rw [if_neg h2]
      go_enter Try.func46, Try.ntmps46
      go_wp2_with fail
      go_ret
      exact ⟨rfl, rfl⟩
/-- -1, 0, 1: which text is ahead -/
def Ky.strs (a b : ByteArray) : Int := if Op.bytesLess a.toList b.toList then -1 else if a = b then 0 else 1
theorem orders_any (a b : ByteArray) (w : World) : Calls Try.prog 49 #[.string a, .string b] w fun e w' => e = .returned (.int .i64 (Ky.strs a b)) ∧ w = w' := by
  unfold Ky.strs
  cases h : Op.bytesLess a.toList b.toList
  · have hb := bytes_beq a b
    rw [if_neg (by decide)]
    by_cases h2 : a = b
    · rw [decide_eq_true h2] at hb
      rw [if_pos h2]
      clear h2
      go_enter Try.func49, Try.ntmps49
      go_wp2_with fail
      go_ret
      exact ⟨rfl, rfl⟩
    · rw [decide_eq_false h2] at hb
      rw [if_neg h2]
      clear h2
      go_enter Try.func49, Try.ntmps49
      go_wp2_with fail
      go_ret
      exact ⟨rfl, rfl⟩
  · rw [if_pos rfl]
    go_enter Try.func49, Try.ntmps49
    go_wp2_with fail
    go_ret
    exact ⟨rfl, rfl⟩
end Go.Proofs.Ytfdehigepgeknaa

namespace Go.Proofs.Ytfdehigepgeknaa
open Go.RowKit

namespace Ky
def strL (l r : List UInt8) : Int := if Op.bytesLess l r then -1 else if l = r then 0 else 1
theorem strs_eq (a b : ByteArray) : strs a b = strL a.data.toList b.data.toList := by
  unfold strs strL
  rw [ByteArray.toList_eq, ByteArray.toList_eq]
  have h : (a = b) = (a.data.toList = b.data.toList) := by
    apply propext
    exact ⟨fun h => by rw [h], fun h => ba_eq h⟩
  simp only [h]
theorem strL_app (p l r : List UInt8) : strL (p ++ l) (p ++ r) = strL l r := by
  induction p with
  | nil => rfl
  | cons c p ih =>
    rw [← ih]
    unfold strL
    simp [Op.bytesLess]
theorem strL_at {l r : List UInt8} {k : Nat} (h1 : k < l.length) (h2 : k < r.length) (h : l.take k = r.take k) (hne : l[k] ≠ r[k]) : strL l r = if l[k] < r[k] then -1 else 1 := by
  rw [show strL l r = strL (l.take k ++ l.drop k) (r.take k ++ r.drop k) by rw [List.take_append_drop, List.take_append_drop], h, strL_app, List.drop_eq_getElem_cons h1, List.drop_eq_getElem_cons h2]
  have hx : ¬ (l[k] :: l.drop (k + 1) = r[k] :: r.drop (k + 1)) := fun e => hne (List.cons.inj e).1
  unfold strL
  rw [if_neg hx]
  unfold Op.bytesLess
  rw [beq_eq_false_iff_ne.2 hne, Bool.false_and, Bool.or_false]
  by_cases hlt : l[k] < r[k]
  · rw [if_pos hlt, decide_eq_true hlt]; rfl
  · rw [if_neg hlt, decide_eq_false hlt]; rfl
theorem strL_end {l r : List UInt8} {k : Nat} (h : l.take k = r.take k) (hk : k = l.length ∨ k = r.length) (h1 : k ≤ l.length) (h2 : k ≤ r.length) : strL l r = if l.length = r.length then 0 else if l.length < r.length then -1 else 1 := by
  rw [show strL l r = strL (l.take k ++ l.drop k) (r.take k ++ r.drop k) by rw [List.take_append_drop, List.take_append_drop], h, strL_app]
  by_cases e : l.length = r.length
  · rw [if_pos e, List.drop_of_length_le (by omega), List.drop_of_length_le (by omega)]
    unfold strL; simp [Op.bytesLess]
  · rw [if_neg e]
    by_cases e2 : l.length < r.length
    · rw [if_pos e2, List.drop_of_length_le (by omega), List.drop_eq_getElem_cons (by omega)]
      unfold strL; simp [Op.bytesLess]
    · have hkl : k < l.length := by omega
      rw [if_neg e2, List.drop_of_length_le (l := r) (by omega), List.drop_eq_getElem_cons hkl]
      unfold strL; simp [Op.bytesLess]
      exact hkl
theorem take_step {l r : List UInt8} {k : Nat} (h1 : k < l.length) (h2 : k < r.length) (h : l.take k = r.take k) (he : l[k] = r[k]) : l.take (k + 1) = r.take (k + 1) := by
  rw [take_next l k h1, take_next r k h2, h, he]
end Ky
set_option maxRecDepth 100000 in
set_option maxHeartbeats 1600000 in
theorem bytesR_any (a b : ByteArray) (ha : a.size ≤ maxLen) (hb : b.size ≤ maxLen) (w : World) : Calls Try.prog 60 #[.string a, .string b] w fun e w' => e = .returned (.int .i64 (Ky.strs a b)) ∧ Below w.heap.size w w' := by
  unfold maxLen at ha hb
  have hla : a.data.toList.length = a.size := by simp
  have hlb : b.data.toList.length = b.size := by simp
  go_enter Try.func60, Try.ntmps60
  go_wp2_with fail
  go_loopw [5] (fun i wr => ∃ k : Nat, k ≤ a.size ∧ k ≤ b.size ∧ i = .int .i64 (k : Int) ∧ Hid (a.data.toList.take k = b.data.toList.take k) ∧ Below w.heap.size w wr) (fun i _ => a.size - (intOf i).toNat)
  case atStart => exact ⟨0, by omega, by omega, rfl, rfl, Below.refl _ _⟩
  case round =>
    obtain ⟨k, hk1, hk2, rfl, htk, hbel⟩ := hrel
    have hk0 : (0 : Int) ≤ (k : Int) := by omega
    by_cases hA : k < a.size
    · have hA' : (k : Int) < a.size := by omega
      by_cases hB : k < b.size
      · have hB' : (k : Int) < b.size := by omega
        have HS := hid (Ky.take_step (l := a.data.toList) (r := b.data.toList) (by omega) (by omega) htk.out)
        have HN := hid (Ky.strL_at (l := a.data.toList) (r := b.data.toList) (by omega) (by omega) htk.out)
        rw [show a.data.toList[k]'(by omega) = a[k] from rfl, show b.data.toList[k]'(by omega) = b[k] from rfl] at HS HN
        by_cases hxy : a[k] = b[k]
        · have HT := hid (HS.out hxy)
          have e0 : ((a[k].toNat : Int) != (b[k].toNat : Int)) = false := by rw [hxy]; simp
          clear hxy HS HN
          go_wp2_with fail
          go_quiet (fail)
          go_wp2_with fail
          go_roundw
          case rel => exact ⟨k + 1, by omega, by omega, by go_num, HT, hdrewN hbel _⟩
          case measure => simp [intOf]; omega
        · have HE := hid (HN.out hxy)
          have e0 : ((a[k].toNat : Int) != (b[k].toNat : Int)) = true := by
            rw [bne_iff_ne]
            intro h
            exact hxy (UInt8.toNat_inj.1 (by omega))
          clear HS HN
          by_cases hlt : a[k] < b[k]
          · have h2 : decide (a[k].toNat < b[k].toNat) = true := decide_eq_true (UInt8.lt_iff_toNat_lt.1 hlt)
            rw [if_pos hlt] at HE
            clear hlt hxy
            go_wp2_with fail
            go_quiet (fail)
            go_wp2_with fail
            go_quiet (fail)
            go_wp2_with fail
            go_ret
            rw [Ky.strs_eq, HE.out]
            exact ⟨rfl, hdrewN (hdrewN hbel _) _⟩
          · have h2 : decide (a[k].toNat < b[k].toNat) = false := decide_eq_false (fun h => hlt (UInt8.lt_iff_toNat_lt.2 h))
            rw [if_neg hlt] at HE
            clear hlt hxy
            go_wp2_with fail
            go_quiet (fail)
            go_wp2_with fail
            go_quiet (fail)
            go_wp2_with fail
            go_ret
            rw [Ky.strs_eq, HE.out]
            exact ⟨rfl, hdrewN (hdrewN hbel _) _⟩
      · have HE := hid (Ky.strL_end (l := a.data.toList) (r := b.data.toList) htk.out (.inr (by omega)) (by omega) (by omega))
        rw [hla, hlb, if_neg (by omega), if_neg (by omega)] at HE
        have hB' : ¬ (k : Int) < b.size := by omega
        have h3 : ¬ (a.size : Int) < b.size := by omega
        have h4 : ((a.size : Int) == (b.size : Int)) = false := by rw [beq_eq_false_iff_ne]; omega
        go_wp2_with fail
        go_ret
        rw [Ky.strs_eq, HE.out]
        exact ⟨rfl, hbel⟩
    · obtain rfl : k = a.size := by omega
      have HE := hid (Ky.strL_end (l := a.data.toList) (r := b.data.toList) htk.out (.inl (by omega)) (by omega) (by omega))
      rw [hla, hlb] at HE
      by_cases h3 : (a.size : Int) = (b.size : Int)
      · have h4 : ((a.size : Int) == (b.size : Int)) = true := by rw [beq_iff_eq]; exact h3
        rw [if_pos (by omega)] at HE
        clear h3
        go_wp2_with fail
        go_ret
        rw [Ky.strs_eq, HE.out]
        exact ⟨rfl, hbel⟩
      · have h4 : ((a.size : Int) == (b.size : Int)) = false := by rw [beq_eq_false_iff_ne]; exact h3
        have h5 : (a.size : Int) < b.size := by omega
        rw [if_neg (by omega), if_pos (by omega)] at HE
        clear h3
        go_wp2_with fail
        go_ret
        rw [Ky.strs_eq, HE.out]
        exact ⟨rfl, hbel⟩
end Go.Proofs.Ytfdehigepgeknaa

namespace Go.Proofs.Ytfdehigepgeknaa
open Go.RowKit

/-- is a float below another one, by canonical bits? -/
def Ky.less (a b : Nat) : Bool :=
  if a = 9221120237041090560 ∨ b = 9221120237041090560 then decide (a ≠ 9221120237041090560) && decide (b = 9221120237041090560)
  else if a < 9223372036854775808 then (if b < 9223372036854775808 then decide (a < b) else false)
  else if b < 9223372036854775808 then true else decide (b < a)
set_option maxRecDepth 100000 in
set_option maxHeartbeats 1600000 in
theorem lessR_any (a b : Nat) (ha : a < 18446744073709551616) (hb : b < 18446744073709551616) (w : World) : Calls Try.prog 59 #[.int .u64 (a : Int), .int .u64 (b : Int)] w fun e w' => e = .returned (.bool (Ky.less a b)) ∧ w = w' := by
  have ta := and_top a ha
  have tb := and_top b hb
  by_cases ha1 : a = 9221120237041090560
  · by_cases hb1 : b = 9221120237041090560
    · have na : ((a : Int) == 9221120237041090560) = true := by rw [beq_iff_eq]; omega
      have ma : ((a : Int) != 9221120237041090560) = false := by rw [bne_eq_false_iff_eq]; omega
      have nb : ((b : Int) == 9221120237041090560) = true := by rw [beq_iff_eq]; omega
      have mb : ((b : Int) != 9221120237041090560) = false := by rw [bne_eq_false_iff_eq]; omega
      have HE : Hid (Ky.less a b = false) := by show _ = _; unfold Ky.less; rw [if_pos (by omega)]; simp; try omega
      clear ha hb
      go_enter Try.func59, Try.ntmps59
      go_wp2_with fail
      go_ret
      rw [HE.out]
      exact ⟨rfl, rfl⟩
    · by_cases hb2 : b < 9223372036854775808
      · have na : ((a : Int) == 9221120237041090560) = true := by rw [beq_iff_eq]; omega
        have ma : ((a : Int) != 9221120237041090560) = false := by rw [bne_eq_false_iff_eq]; omega
        have nb : ((b : Int) == 9221120237041090560) = false := by rw [beq_eq_false_iff_ne]; omega
        have mb : ((b : Int) != 9221120237041090560) = true := by rw [bne_iff_ne]; omega
        rw [if_pos hb2] at tb
        have HE : Hid (Ky.less a b = false) := by show _ = _; unfold Ky.less; rw [if_pos (by omega)]; simp; try omega
        clear ha hb
        go_enter Try.func59, Try.ntmps59
        go_wp2_with fail
        go_ret
        rw [HE.out]
        exact ⟨rfl, rfl⟩
      · have na : ((a : Int) == 9221120237041090560) = true := by rw [beq_iff_eq]; omega
        have ma : ((a : Int) != 9221120237041090560) = false := by rw [bne_eq_false_iff_eq]; omega
        have nb : ((b : Int) == 9221120237041090560) = false := by rw [beq_eq_false_iff_ne]; omega
        have mb : ((b : Int) != 9221120237041090560) = true := by rw [bne_iff_ne]; omega
        rw [if_neg hb2] at tb
        have HE : Hid (Ky.less a b = false) := by show _ = _; unfold Ky.less; rw [if_pos (by omega)]; simp; try omega
        clear ha hb
        go_enter Try.func59, Try.ntmps59
        go_wp2_with fail
        go_ret
        rw [HE.out]
        exact ⟨rfl, rfl⟩
  · by_cases ha2 : a < 9223372036854775808
    · by_cases hb1 : b = 9221120237041090560
      · have na : ((a : Int) == 9221120237041090560) = false := by rw [beq_eq_false_iff_ne]; omega
        have ma : ((a : Int) != 9221120237041090560) = true := by rw [bne_iff_ne]; omega
        rw [if_pos ha2] at ta
        have nb : ((b : Int) == 9221120237041090560) = true := by rw [beq_iff_eq]; omega
        have mb : ((b : Int) != 9221120237041090560) = false := by rw [bne_eq_false_iff_eq]; omega
        have HE : Hid (Ky.less a b = true) := by show _ = _; unfold Ky.less; rw [if_pos (by omega)]; simp; try omega
        clear ha hb
        go_enter Try.func59, Try.ntmps59
        go_wp2_with fail
        go_ret
        rw [HE.out]
        exact ⟨rfl, rfl⟩
      · by_cases hb2 : b < 9223372036854775808
        · have na : ((a : Int) == 9221120237041090560) = false := by rw [beq_eq_false_iff_ne]; omega
          have ma : ((a : Int) != 9221120237041090560) = true := by rw [bne_iff_ne]; omega
          rw [if_pos ha2] at ta
          have nb : ((b : Int) == 9221120237041090560) = false := by rw [beq_eq_false_iff_ne]; omega
          have mb : ((b : Int) != 9221120237041090560) = true := by rw [bne_iff_ne]; omega
          rw [if_pos hb2] at tb
          have HE : Hid (Ky.less a b = decide (a < b)) := by show _ = _; unfold Ky.less; rw [if_neg (by omega)]; rw [if_pos ha2, if_pos hb2]
          go_enter Try.func59, Try.ntmps59
          go_wp2_with fail
          go_ret
          rw [HE.out]
          exact ⟨rfl, rfl⟩
        · have na : ((a : Int) == 9221120237041090560) = false := by rw [beq_eq_false_iff_ne]; omega
          have ma : ((a : Int) != 9221120237041090560) = true := by rw [bne_iff_ne]; omega
          rw [if_pos ha2] at ta
          have nb : ((b : Int) == 9221120237041090560) = false := by rw [beq_eq_false_iff_ne]; omega
          have mb : ((b : Int) != 9221120237041090560) = true := by rw [bne_iff_ne]; omega
          rw [if_neg hb2] at tb
          have HE : Hid (Ky.less a b = false) := by show _ = _; unfold Ky.less; rw [if_neg (by omega)]; rw [if_pos ha2, if_neg hb2]
          go_enter Try.func59, Try.ntmps59
          go_wp2_with fail
          go_ret
          rw [HE.out]
          exact ⟨rfl, rfl⟩
    · by_cases hb1 : b = 9221120237041090560
      · have na : ((a : Int) == 9221120237041090560) = false := by rw [beq_eq_false_iff_ne]; omega
        have ma : ((a : Int) != 9221120237041090560) = true := by rw [bne_iff_ne]; omega
        rw [if_neg ha2] at ta
        have nb : ((b : Int) == 9221120237041090560) = true := by rw [beq_iff_eq]; omega
        have mb : ((b : Int) != 9221120237041090560) = false := by rw [bne_eq_false_iff_eq]; omega
        have HE : Hid (Ky.less a b = true) := by show _ = _; unfold Ky.less; rw [if_pos (by omega)]; simp; try omega
        clear ha hb
        go_enter Try.func59, Try.ntmps59
        go_wp2_with fail
        go_ret
        rw [HE.out]
        exact ⟨rfl, rfl⟩
      · by_cases hb2 : b < 9223372036854775808
        · have na : ((a : Int) == 9221120237041090560) = false := by rw [beq_eq_false_iff_ne]; omega
          have ma : ((a : Int) != 9221120237041090560) = true := by rw [bne_iff_ne]; omega
          rw [if_neg ha2] at ta
          have nb : ((b : Int) == 9221120237041090560) = false := by rw [beq_eq_false_iff_ne]; omega
          have mb : ((b : Int) != 9221120237041090560) = true := by rw [bne_iff_ne]; omega
          rw [if_pos hb2] at tb
          have HE : Hid (Ky.less a b = true) := by show _ = _; unfold Ky.less; rw [if_neg (by omega)]; rw [if_neg ha2, if_pos hb2]
          go_enter Try.func59, Try.ntmps59
          go_wp2_with fail
          go_ret
          rw [HE.out]
          exact ⟨rfl, rfl⟩
        · have na : ((a : Int) == 9221120237041090560) = false := by rw [beq_eq_false_iff_ne]; omega
          have ma : ((a : Int) != 9221120237041090560) = true := by rw [bne_iff_ne]; omega
          rw [if_neg ha2] at ta
          have nb : ((b : Int) == 9221120237041090560) = false := by rw [beq_eq_false_iff_ne]; omega
          have mb : ((b : Int) != 9221120237041090560) = true := by rw [bne_iff_ne]; omega
          rw [if_neg hb2] at tb
          have HE : Hid (Ky.less a b = decide (b < a)) := by show _ = _; unfold Ky.less; rw [if_neg (by omega)]; rw [if_neg ha2, if_neg hb2]
          go_enter Try.func59, Try.ntmps59
          go_wp2_with fail
          go_ret
          rw [HE.out]
          exact ⟨rfl, rfl⟩
end Go.Proofs.Ytfdehigepgeknaa

namespace Go.Proofs.Ytfdehigepgeknaa
open Go.RowKit

/-- -1, 0, 1 by the floats' order -/
def Ky.fl (a b : Nat) : Int := match FloatKind.f64.format.order a b with | some .lt => -1 | some .gt => 1 | _ => 0
theorem orderf_any (a b : Nat) (w : World) : Calls Try.prog 57 #[.float .f64 a, .float .f64 b] w fun e w' => e = .returned (.int .i64 (Ky.fl a b)) ∧ w = w' := by
  unfold Ky.fl
  cases h : FloatKind.f64.format.order a b with
  | none =>
    go_enter Try.func57, Try.ntmps57
    go_wp2_with fail
    go_ret
    exact ⟨rfl, rfl⟩
  | some o =>
    cases o with
    | lt =>
      go_enter Try.func57, Try.ntmps57
      go_wp2_with fail
      go_ret
      exact ⟨rfl, rfl⟩
    | eq =>
      go_enter Try.func57, Try.ntmps57
      go_wp2_with fail
      go_ret
      exact ⟨rfl, rfl⟩
    | gt =>
      go_enter Try.func57, Try.ntmps57
      go_wp2_with fail
      go_ret
      exact ⟨rfl, rfl⟩
theorem none_any (b : Nat) (w : World) : Calls Try.prog 56 #[.float .f64 b] w fun e w' => e = .returned (.int .i64 (if Va.INF < b % Va.SIGN then 1 else 0)) ∧ w = w' := by
  have hn := hid (fun W => isnan_any b W)
  by_cases h : Va.INF < b % Va.SIGN
  · rw [if_pos h]
    rw [decide_eq_true h] at hn
    clear h
    go_enter Try.func56, Try.ntmps56
    go_wp2_with fail
    refine (hn.out _).mono ?_; rintro e w1 ⟨rfl, rfl⟩
    go_wp2_with fail
    go_ret
    exact ⟨rfl, rfl⟩
  · rw [if_neg h]
    rw [decide_eq_false h] at hn
    clear h
    go_enter Try.func56, Try.ntmps56
    go_wp2_with fail
    refine (hn.out _).mono ?_; rintro e w1 ⟨rfl, rfl⟩
    go_wp2_with fail
    go_ret
    exact ⟨rfl, rfl⟩
end Go.Proofs.Ytfdehigepgeknaa

namespace Go.Proofs.Ytfdehigepgeknaa
open Go.RowKit

/-- is it no number? -/
def Ky.nan (b : Nat) : Int := if Va.INF < b % Va.SIGN then 1 else 0
/-- -1, 0, 1: what is no number is behind all -/
def Ky.floats (a b : Nat) : Int := if Ky.ints (Ky.nan a) (Ky.nan b) = 0 then Ky.fl a b else Ky.ints (Ky.nan a) (Ky.nan b)
theorem floats_any (a b : Nat) (w : World) : Calls Try.prog 47 #[.float .f64 a, .float .f64 b] w fun e w' => e = .returned (.int .i64 (Ky.floats a b)) ∧ w = w' := by
  have c1 : Hid (∀ W, Calls Try.prog 56 #[.float .f64 a] W fun e w' => e = .returned (.int .i64 (Ky.nan a)) ∧ W = w') := fun W => none_any a W
  have c2 : Hid (∀ W, Calls Try.prog 56 #[.float .f64 b] W fun e w' => e = .returned (.int .i64 (Ky.nan b)) ∧ W = w') := fun W => none_any b W
  have c3 := hid (fun W => order_any (Ky.nan a) (Ky.nan b) W)
  have c4 := hid (fun W => orderf_any a b W)
  unfold Ky.floats
  generalize Ky.ints (Ky.nan a) (Ky.nan b) = r at c3 ⊢
  generalize Ky.nan a = na at c1 c3
  generalize Ky.nan b = nb at c2 c3
  by_cases h : r = 0
  · rw [if_pos h]
    subst h
    go_enter Try.func47, Try.ntmps47
    go_wp2_with fail
    refine (c1.out _).mono ?_; rintro e w1 ⟨rfl, rfl⟩
    go_wp2_with fail
    refine (c2.out _).mono ?_; rintro e w1 ⟨rfl, rfl⟩
    go_wp2_with fail
    refine (c3.out _).mono ?_; rintro e w1 ⟨rfl, rfl⟩
    go_wp2_with fail
    refine (c4.out _).mono ?_; rintro e w1 ⟨rfl, rfl⟩
    go_wp2_with fail
    go_ret
    exact ⟨rfl, rfl⟩
  · rw [if_neg h]
    have e0 : (r != 0) = true := by rw [bne_iff_ne]; exact h
    clear h
    go_enter Try.func47, Try.ntmps47
    go_wp2_with fail
    refine (c1.out _).mono ?_; rintro e w1 ⟨rfl, rfl⟩
    go_wp2_with fail
    refine (c2.out _).mono ?_; rintro e w1 ⟨rfl, rfl⟩
    go_wp2_with fail
    refine (c3.out _).mono ?_; rintro e w1 ⟨rfl, rfl⟩
    go_wp2_with fail
    go_ret
    exact ⟨rfl, rfl⟩
/-- a right Float's number -/
theorem asfloat_any (n : Int) (b : Nat) (s : ByteArray) (hs : s.size ≤ maxLen) (hr : Va.right 3 n b s = true) (w : World) : Calls Try.prog 48 #[vv 3 n b s] w fun e w' => e = .returned (.float .f64 b) ∧ Below w.heap.size w w' := by
  have hR0 := fun W => right_any 3 n b s hs W
  rw [hr] at hR0
  have hf := run_frombits b
  have LB := hid (hba w (.cells #[.int .i64 3, .int .i64 n, .int .u64 (b : Int), .string s] 39))
  have V0 := hid (VB.new w 3 n b s)
  unfold vv at hR0 ⊢
  have hR := hid hR0
  obtain ⟨q0, q1, q2, q3⟩ := V0.out.cells
  clear hR0 hr
  go_enter Try.func48, Try.ntmps48
  go_wp2_with fail
  refine (hR.out _).mono ?_; rintro e w1 ⟨rfl, b1⟩
  obtain ⟨p0, p1, p2, p3⟩ := (V0.out.keep b1).cells
  go_wp2_with fail
  go_ret
  exact ⟨rfl, hnext LB.out b1⟩
end Go.Proofs.Ytfdehigepgeknaa

namespace Go.Proofs.Ytfdehigepgeknaa
open Go.RowKit

/-- which value is ahead -/
def Ky.cmp (x y : Cd.V) : Int :=
  if x.right = false then 0 else if y.right = false then 0 else if x.k = y.k then (if x.k = 3 then Ky.floats x.b y.b else if x.s = y.s then Ky.ints x.n y.n else Ky.strs x.s y.s) else Ky.ints x.k y.k
set_option maxRecDepth 100000 in
set_option maxHeartbeats 3200000 in
theorem compare_any (x y : Cd.V) (hx : x.s.size ≤ maxLen) (hy : y.s.size ≤ maxLen) (w : World) : Calls Try.prog 39 #[vv x.k x.n x.b x.s, vv y.k y.n y.b y.s] w fun e w' => e = .returned (.int .i64 (Ky.cmp x y)) ∧ Below w.heap.size w w' := by
  obtain ⟨xk, xn, xb, xs⟩ := x
  obtain ⟨yk, yn, yb, ys⟩ := y
  simp only at hx hy ⊢
  have rx0 := fun W => right_any xk xn xb xs hx W
  have ry0 := fun W => right_any yk yn yb ys hy W
  have X0 : Hid (VB ((w.alloc (.cells #[.int .i64 xk, .int .i64 xn, .int .u64 (xb : Int), .string xs] 39)).alloc (.cells #[.int .i64 yk, .int .i64 yn, .int .u64 (yb : Int), .string ys] 39)) w.heap.size xk xn xb xs) := (VB.new w xk xn xb xs).keep (hba _ _)
  have Y0 : Hid (VB ((w.alloc (.cells #[.int .i64 xk, .int .i64 xn, .int .u64 (xb : Int), .string xs] 39)).alloc (.cells #[.int .i64 yk, .int .i64 yn, .int .u64 (yb : Int), .string ys] 39)) (w.heap.size + 1) yk yn yb ys) := by
    have h := VB.new (w.alloc (.cells #[.int .i64 xk, .int .i64 xn, .int .u64 (xb : Int), .string xs] 39)) yk yn yb ys
    rw [show (w.alloc (.cells #[.int .i64 xk, .int .i64 xn, .int .u64 (xb : Int), .string xs] 39)).heap.size = w.heap.size + 1 by simp] at h
    exact h
  have L0 := hid (hnext (hba w (.cells #[.int .i64 xk, .int .i64 xn, .int .u64 (xb : Int), .string xs] 39)) (hba _ (.cells #[.int .i64 yk, .int .i64 yn, .int .u64 (yb : Int), .string ys] 39)))
  obtain ⟨q0, q1, q2, q3⟩ := X0.out.cells
  obtain ⟨p0, p1, p2, p3⟩ := Y0.out.cells
  cases hrx : Va.right xk xn xb xs
  · rw [hrx] at rx0
    have HE : Hid (Ky.cmp ⟨xk, xn, xb, xs⟩ ⟨yk, yn, yb, ys⟩ = 0) := if_pos hrx
    unfold vv at rx0 ⊢
    have rx := hid rx0
    clear rx0 ry0 hrx
    go_enter Try.func39, Try.ntmps39
    go_wp2_with fail
    refine (rx.out _).mono ?_; rintro e w1 ⟨rfl, b1⟩
    have L1 := hid (hnext L0.out b1)
    go_wp2_with fail
    go_ret
    rw [HE.out]
    exact ⟨rfl, L1.out⟩
  cases hry : Va.right yk yn yb ys
  · rw [hrx] at rx0
    rw [hry] at ry0
    have HE : Hid (Ky.cmp ⟨xk, xn, xb, xs⟩ ⟨yk, yn, yb, ys⟩ = 0) := by
      show _ = _
      unfold Ky.cmp Cd.V.right
      simp only [hrx, hry]
      rfl
    unfold vv at rx0 ry0 ⊢
    have rx := hid rx0
    have ry := hid ry0
    clear rx0 ry0 hrx hry
    go_enter Try.func39, Try.ntmps39
    go_wp2_with fail
    refine (rx.out _).mono ?_; rintro e w1 ⟨rfl, b1⟩
    have X1 := X0.out.keep b1
    have Y1 := Y0.out.keep b1
    have L1 := hid (hnext L0.out b1)
    clear b1
    obtain ⟨q0, q1, q2, q3⟩ := X1.cells
    obtain ⟨p0, p1, p2, p3⟩ := Y1.cells
    go_wp2_with fail
    refine (ry.out _).mono ?_; rintro e w2 ⟨rfl, b2⟩
    have L2 := hid (hnext L1.out b2)
    go_wp2_with fail
    go_ret
    rw [HE.out]
    exact ⟨rfl, L2.out⟩
  have HC : Hid (Ky.cmp ⟨xk, xn, xb, xs⟩ ⟨yk, yn, yb, ys⟩ = if xk = yk then (if xk = 3 then Ky.floats xb yb else if xs = ys then Ky.ints xn yn else Ky.strs xs ys) else Ky.ints xk yk) := by
    show _ = _
    unfold Ky.cmp Cd.V.right
    simp only [hrx, hry]
    rfl
  have hax := hid (fun (h : xk = 3) => asfloat_any xn xb xs hx (h ▸ hrx))
  have hay := hid (fun (h : yk = 3) => asfloat_any yn yb ys hy (h ▸ hry))
  rw [hrx] at rx0
  rw [hry] at ry0
  have rx := hid rx0
  have ry := hid ry0
  clear rx0 ry0 hrx hry
  by_cases hk : xk = yk
  · by_cases h3 : xk = 3
    · have HE : Hid (Ky.cmp ⟨xk, xn, xb, xs⟩ ⟨yk, yn, yb, ys⟩ = Ky.floats xb yb) := by show _ = _; rw [HC.out, if_pos hk, if_pos h3]
      subst hk
      subst h3
      have ax0 := hax.out rfl
      have ay0 := hay.out rfl
      have cf : Hid (∀ W, Calls Try.prog 47 #[.float .f64 xb, .float .f64 yb] W fun e w' => e = .returned (.int .i64 (Ky.floats xb yb)) ∧ Below W.heap.size W w') := fun W => (floats_any xb yb W).mono fun e w' ⟨h1, h2⟩ => ⟨h1, h2 ▸ Below.refl _ _⟩
      unfold vv at rx ry ax0 ay0 ⊢
      have ax := hid ax0
      have ay := hid ay0
      clear ax0 ay0 hax hay HC
      go_enter Try.func39, Try.ntmps39
      go_wp2_with fail
      refine (rx.out _).mono ?_; rintro e w1 ⟨rfl, b1⟩
      have X1 := X0.out.keep b1
      have Y1 := Y0.out.keep b1
      have L1 := hid (hnext L0.out b1)
      clear b1
      obtain ⟨q0, q1, q2, q3⟩ := X1.cells
      obtain ⟨p0, p1, p2, p3⟩ := Y1.cells
      go_wp2_with fail
      refine (ry.out _).mono ?_; rintro e w2 ⟨rfl, b2⟩
      have X2 := X1.keep b2
      have Y2 := Y1.keep b2
      have L2 := hid (hnext L1.out b2)
      clear b2 X1 Y1 q0 q1 q2 q3 p0 p1 p2 p3
      obtain ⟨q0, q1, q2, q3⟩ := X2.cells
      obtain ⟨p0, p1, p2, p3⟩ := Y2.cells
      go_wp2_with fail
      obtain ⟨w20, hw20⟩ : ∃ w20, (w2).drew = w20 := ⟨_, rfl⟩
      have hd20 : Below (w2).heap.size (w2) w20 := hw20 ▸ (Below.refl _ _).drew
      have mk20 : ∀ W, Below w20.heap.size w20 W → Below w20.heap.size w20 W ∧ W.cell? ⟨w.heap.size, 0, none⟩ = some (.int .i64 3) ∧ W.cell? ⟨w.heap.size, 1, none⟩ = some (.int .i64 xn) ∧ W.cell? ⟨w.heap.size, 2, none⟩ = some (.int .u64 (xb : Int)) ∧ W.cell? ⟨w.heap.size, 3, none⟩ = some (.string xs) ∧ W.cell? ⟨w.heap.size + 1, 0, none⟩ = some (.int .i64 3) ∧ W.cell? ⟨w.heap.size + 1, 1, none⟩ = some (.int .i64 yn) ∧ W.cell? ⟨w.heap.size + 1, 2, none⟩ = some (.int .u64 (yb : Int)) ∧ W.cell? ⟨w.heap.size + 1, 3, none⟩ = some (.string ys) := fun W h => ⟨h, hkeep (hkeep q0 hd20) h, hkeep (hkeep q1 hd20) h, hkeep (hkeep q2 hd20) h, hkeep (hkeep q3 hd20) h, hkeep (hkeep p0 hd20) h, hkeep (hkeep p1 hd20) h, hkeep (hkeep p2 hd20) h, hkeep (hkeep p3 hd20) h⟩
      refine wp_region_held_drew (S := (fun W => Below w20.heap.size w20 W ∧ W.cell? ⟨w.heap.size, 0, none⟩ = some (.int .i64 3) ∧ W.cell? ⟨w.heap.size, 1, none⟩ = some (.int .i64 xn) ∧ W.cell? ⟨w.heap.size, 2, none⟩ = some (.int .u64 (xb : Int)) ∧ W.cell? ⟨w.heap.size, 3, none⟩ = some (.string xs) ∧ W.cell? ⟨w.heap.size + 1, 0, none⟩ = some (.int .i64 3) ∧ W.cell? ⟨w.heap.size + 1, 1, none⟩ = some (.int .i64 yn) ∧ W.cell? ⟨w.heap.size + 1, 2, none⟩ = some (.int .u64 (yb : Int)) ∧ W.cell? ⟨w.heap.size + 1, 3, none⟩ = some (.string ys))) (by kernel_rfl) (by rw [hw20]; exact mk20 _ (Below.refl _ _)) (fun hS20 => ?_)
      rw [hw20] at hS20 ⊢
      clear hw20
      refine wpAnyH_take (i := 0) (oi := ({ dst := some 29, op := Op.load 39 (Operand.tmp 2), type := 39, pos := "value.go:92", after := #[], guard := none } : Oper)) (v := ?_) rfl (by kernel_rfl) (by kernel_rfl) (by kernel_rfl) (fun _ _ _ h => h) (Or.inl ⟨by rfl, ?_⟩) hS20 ?_
      rotate_left
      · intro w hSw; (try dsimp only at hSw); go_simp; (try with_reducible rfl)
      simp only [Act.put, List.setIfInBounds_toArray, List.set_cons_zero, List.set_cons_succ]
      refine wpAnyH_take (i := 2) (oi := ({ dst := some 31, op := Op.load 39 (Operand.tmp 3), type := 39, pos := "value.go:92", after := #[], guard := none } : Oper)) (v := ?_) rfl (by kernel_rfl) (by kernel_rfl) (by kernel_rfl) (fun _ _ _ h => h) (Or.inl ⟨by rfl, ?_⟩) hS20 ?_
      rotate_left
      · intro w hSw; (try dsimp only at hSw); go_simp; (try with_reducible rfl)
      simp only [Act.put, List.setIfInBounds_toArray, List.set_cons_zero, List.set_cons_succ]
      refine wpAnyH_ready (rs := [1]) (by kernel_rfl) (by simp) ?_
      refine AllReadyH.cons (o := ({ dst := some 30, op := Op.call { callee := Callee.value (Operand.func 48), args := #[Operand.tmp 29], argTypes := #[39] }, type := 68, pos := "value.go:92", after := #[{ on := 0, ground := Ground.data }], guard := none } : Oper)) rfl (fun K hK => ?_) AllReadyH.nil
      go_simp
      refine (ax.out _).mono ?_; rintro e w21 ⟨rfl, hb21⟩
      go_wp2_with fail
      refine hK.out _ _ (mk20 _ (hnext hS20.1 hb21)) (fun hS21 => ?_)
      clear hK K
      (try simp only [Act.put, List.setIfInBounds_toArray, List.set_cons_zero, List.set_cons_succ])
      clear hb21 hS20
      refine wpAnyH_ready (rs := [3]) (by kernel_rfl) (by simp) ?_
      refine AllReadyH.cons (o := ({ dst := some 32, op := Op.call { callee := Callee.value (Operand.func 48), args := #[Operand.tmp 31], argTypes := #[39] }, type := 68, pos := "value.go:92", after := #[{ on := 2, ground := Ground.data }, { on := 1, ground := Ground.chain }], guard := none } : Oper)) rfl (fun K hK => ?_) AllReadyH.nil
      go_simp
      refine (ay.out _).mono ?_; rintro e w22 ⟨rfl, hb22⟩
      go_wp2_with fail
      refine hK.out _ _ (mk20 _ (hnext hS21.1 hb22)) (fun hS22 => ?_)
      clear hK K
      (try simp only [Act.put, List.setIfInBounds_toArray, List.set_cons_zero, List.set_cons_succ])
      clear hb22 hS21
      refine wpAnyH_ready (rs := [4]) (by kernel_rfl) (by simp) ?_
      refine AllReadyH.cons (o := ({ dst := some 33, op := Op.call { callee := Callee.value (Operand.func 47), args := #[Operand.tmp 30, Operand.tmp 32], argTypes := #[68, 68] }, type := 3, pos := "value.go:92", after := #[{ on := 1, ground := Ground.data }, { on := 3, ground := Ground.data }, { on := 3, ground := Ground.chain }], guard := none } : Oper)) rfl (fun K hK => ?_) AllReadyH.nil
      go_simp
      refine (cf.out _).mono ?_; rintro e w23 ⟨rfl, hb23⟩
      go_wp2_with fail
      refine hK.out _ _ (mk20 _ (hnext hS22.1 hb23)) (fun hS23 => ?_)
      clear hK K
      (try simp only [Act.put, List.setIfInBounds_toArray, List.set_cons_zero, List.set_cons_succ])
      clear hb23 hS22
      refine wpAnyH_take (i := 5) (oi := ({ dst := some 4, op := Op.assign (Operand.tmp 33), type := 3, pos := "value.go:92", after := #[{ on := 4, ground := Ground.data }, { on := 4, ground := Ground.chain }, { on := 0, ground := Ground.phase }, { on := 1, ground := Ground.phase }, { on := 2, ground := Ground.phase }, { on := 3, ground := Ground.phase }, { on := 4, ground := Ground.phase }], guard := none } : Oper)) (v := ?_) rfl (by kernel_rfl) (by kernel_rfl) (by kernel_rfl) (fun _ _ _ h => h) (Or.inl ⟨by rfl, ?_⟩) hS23 ?_
      rotate_left
      · intro w hSw; (try dsimp only at hSw); go_simp; (try with_reducible rfl)
      simp only [Act.put, List.setIfInBounds_toArray, List.set_cons_zero, List.set_cons_succ]
      refine wpAnyH_done (by kernel_rfl) ?_ _
      go_wp2_with fail
      go_ret
      rw [HE.out]
      exact ⟨rfl, hnext (hnext L2.out hd20) hS23.1⟩
    · have e3 : (xk == 3) = false := by rw [beq_eq_false_iff_ne]; exact h3
      have ek : (xk != yk) = false := by rw [bne_eq_false_iff_eq]; exact hk
      have hse := bytes_beq xs ys
      by_cases hs : xs = ys
      · have HE : Hid (Ky.cmp ⟨xk, xn, xb, xs⟩ ⟨yk, yn, yb, ys⟩ = Ky.ints xn yn) := by show _ = _; rw [HC.out, if_pos hk, if_neg h3, if_pos hs]
        rw [decide_eq_true hs] at hse
        have co := hid (fun W => order_any xn yn W)
        unfold vv at rx ry ⊢
        clear hax hay HC hs h3 hk
        go_enter Try.func39, Try.ntmps39
        go_wp2_with fail
        refine (rx.out _).mono ?_; rintro e w1 ⟨rfl, b1⟩
        have X1 := X0.out.keep b1
        have Y1 := Y0.out.keep b1
        have L1 := hid (hnext L0.out b1)
        clear b1
        obtain ⟨q0, q1, q2, q3⟩ := X1.cells
        obtain ⟨p0, p1, p2, p3⟩ := Y1.cells
        go_wp2_with fail
        refine (ry.out _).mono ?_; rintro e w2 ⟨rfl, b2⟩
        have X2 := X1.keep b2
        have Y2 := Y1.keep b2
        have L2 := hid (hnext L1.out b2)
        clear b2 X1 Y1 q0 q1 q2 q3 p0 p1 p2 p3
        obtain ⟨q0, q1, q2, q3⟩ := X2.cells
        obtain ⟨p0, p1, p2, p3⟩ := Y2.cells
        go_wp2_with fail
        refine (co.out _).mono ?_; rintro e w3 ⟨rfl, rfl⟩
        go_wp2_with fail
        go_ret
        rw [HE.out]
        exact ⟨rfl, L2.out⟩
      · have HE : Hid (Ky.cmp ⟨xk, xn, xb, xs⟩ ⟨yk, yn, yb, ys⟩ = Ky.strs xs ys) := by show _ = _; rw [HC.out, if_pos hk, if_neg h3, if_neg hs]
        rw [decide_eq_false hs] at hse
        have co := hid (fun W => orders_any xs ys W)
        unfold vv at rx ry ⊢
        clear hax hay HC hs h3 hk
        go_enter Try.func39, Try.ntmps39
        go_wp2_with fail
        refine (rx.out _).mono ?_; rintro e w1 ⟨rfl, b1⟩
        have X1 := X0.out.keep b1
        have Y1 := Y0.out.keep b1
        have L1 := hid (hnext L0.out b1)
        clear b1
        obtain ⟨q0, q1, q2, q3⟩ := X1.cells
        obtain ⟨p0, p1, p2, p3⟩ := Y1.cells
        go_wp2_with fail
        refine (ry.out _).mono ?_; rintro e w2 ⟨rfl, b2⟩
        have X2 := X1.keep b2
        have Y2 := Y1.keep b2
        have L2 := hid (hnext L1.out b2)
        clear b2 X1 Y1 q0 q1 q2 q3 p0 p1 p2 p3
        obtain ⟨q0, q1, q2, q3⟩ := X2.cells
        obtain ⟨p0, p1, p2, p3⟩ := Y2.cells
        go_wp2_with fail
        refine (co.out _).mono ?_; rintro e w3 ⟨rfl, rfl⟩
        go_wp2_with fail
        go_ret
        rw [HE.out]
        exact ⟨rfl, L2.out⟩
  · have ek : (xk != yk) = true := by rw [bne_iff_ne]; exact hk
    have HE : Hid (Ky.cmp ⟨xk, xn, xb, xs⟩ ⟨yk, yn, yb, ys⟩ = Ky.ints xk yk) := by show _ = _; rw [HC.out, if_neg hk]
    have co := hid (fun W => order_any xk yk W)
    unfold vv at rx ry ⊢
    clear hax hay HC hk
    go_enter Try.func39, Try.ntmps39
    go_wp2_with fail
    refine (rx.out _).mono ?_; rintro e w1 ⟨rfl, b1⟩
    have X1 := X0.out.keep b1
    have Y1 := Y0.out.keep b1
    have L1 := hid (hnext L0.out b1)
    clear b1
    obtain ⟨q0, q1, q2, q3⟩ := X1.cells
    obtain ⟨p0, p1, p2, p3⟩ := Y1.cells
    go_wp2_with fail
    refine (ry.out _).mono ?_; rintro e w2 ⟨rfl, b2⟩
    have X2 := X1.keep b2
    have Y2 := Y1.keep b2
    have L2 := hid (hnext L1.out b2)
    clear b2 X1 Y1 q0 q1 q2 q3 p0 p1 p2 p3
    obtain ⟨q0, q1, q2, q3⟩ := X2.cells
    obtain ⟨p0, p1, p2, p3⟩ := Y2.cells
    go_wp2_with fail
    refine (co.out _).mono ?_; rintro e w3 ⟨rfl, rfl⟩
    go_wp2_with fail
    go_ret
    rw [HE.out]
    exact ⟨rfl, L2.out⟩
end Go.Proofs.Ytfdehigepgeknaa

namespace Go.Proofs.Ytfdehigepgeknaa
open Go.RowKit

/-- which value is ahead, as the reference says it -/
def Ky.lessI (a b : Nat) : Int := if Ky.less a b then -1 else if Ky.less b a then 1 else 0
def Ky.cmpR (x y : Cd.V) : Int :=
  if x.right = false then 0 else if y.right = false then 0 else if x.k = y.k then (if x.k = 3 then Ky.lessI x.b y.b else if x.k = 4 ∨ x.k = 5 then Ky.strs x.s y.s else Ky.ints x.n y.n) else Ky.ints x.k y.k
set_option maxRecDepth 100000 in
set_option maxHeartbeats 3200000 in
theorem compareR_any (x y : Cd.V) (hx : x.s.size ≤ maxLen) (hy : y.s.size ≤ maxLen) (hxb : x.b < 18446744073709551616) (hyb : y.b < 18446744073709551616) (w : World) : Calls Try.prog 51 #[vv x.k x.n x.b x.s, vv y.k y.n y.b y.s] w fun e w' => e = .returned (.int .i64 (Ky.cmpR x y)) ∧ Below w.heap.size w w' := by
  obtain ⟨xk, xn, xb, xs⟩ := x
  obtain ⟨yk, yn, yb, ys⟩ := y
  simp only at hx hy hxb hyb ⊢
  have rx0 := fun W => rightR_any xk xn xb xs hx hxb W
  have ry0 := fun W => rightR_any yk yn yb ys hy hyb W
  have X0 : Hid (VB ((w.alloc (.cells #[.int .i64 xk, .int .i64 xn, .int .u64 (xb : Int), .string xs] 39)).alloc (.cells #[.int .i64 yk, .int .i64 yn, .int .u64 (yb : Int), .string ys] 39)) w.heap.size xk xn xb xs) := (VB.new w xk xn xb xs).keep (hba _ _)
  have Y0 : Hid (VB ((w.alloc (.cells #[.int .i64 xk, .int .i64 xn, .int .u64 (xb : Int), .string xs] 39)).alloc (.cells #[.int .i64 yk, .int .i64 yn, .int .u64 (yb : Int), .string ys] 39)) (w.heap.size + 1) yk yn yb ys) := by
    have h := VB.new (w.alloc (.cells #[.int .i64 xk, .int .i64 xn, .int .u64 (xb : Int), .string xs] 39)) yk yn yb ys
    rw [show (w.alloc (.cells #[.int .i64 xk, .int .i64 xn, .int .u64 (xb : Int), .string xs] 39)).heap.size = w.heap.size + 1 by simp] at h
    exact h
  have L0 := hid (hnext (hba w (.cells #[.int .i64 xk, .int .i64 xn, .int .u64 (xb : Int), .string xs] 39)) (hba _ (.cells #[.int .i64 yk, .int .i64 yn, .int .u64 (yb : Int), .string ys] 39)))
  obtain ⟨q0, q1, q2, q3⟩ := X0.out.cells
  obtain ⟨p0, p1, p2, p3⟩ := Y0.out.cells
  cases hrx : Va.right xk xn xb xs
  · rw [hrx] at rx0
    have HE : Hid (Ky.cmpR ⟨xk, xn, xb, xs⟩ ⟨yk, yn, yb, ys⟩ = 0) := if_pos hrx
    unfold vv at rx0 ⊢
    have rx := hid rx0
    clear rx0 ry0 hrx
    go_enter Try.func51, Try.ntmps51
    go_wp2_with fail
    refine (rx.out _).mono ?_; rintro e w1 ⟨rfl, b1⟩
    have L1 := hid (hnext L0.out b1)
    go_wp2_with fail
    go_ret
    rw [HE.out]
    exact ⟨rfl, L1.out⟩
  cases hry : Va.right yk yn yb ys
  · rw [hrx] at rx0
    rw [hry] at ry0
    have HE : Hid (Ky.cmpR ⟨xk, xn, xb, xs⟩ ⟨yk, yn, yb, ys⟩ = 0) := by
      show _ = _
      unfold Ky.cmpR Cd.V.right
      simp only [hrx, hry]
      rfl
    unfold vv at rx0 ry0 ⊢
    have rx := hid rx0
    have ry := hid ry0
    clear rx0 ry0 hrx hry
    go_enter Try.func51, Try.ntmps51
    go_wp2_with fail
    refine (rx.out _).mono ?_; rintro e w1 ⟨rfl, b1⟩
    have X1 := X0.out.keep b1
    have Y1 := Y0.out.keep b1
    have L1 := hid (hnext L0.out b1)
    clear b1
    obtain ⟨q0, q1, q2, q3⟩ := X1.cells
    obtain ⟨p0, p1, p2, p3⟩ := Y1.cells
    go_wp2_with fail
    refine (ry.out _).mono ?_; rintro e w2 ⟨rfl, b2⟩
    have L2 := hid (hnext L1.out b2)
    go_wp2_with fail
    go_ret
    rw [HE.out]
    exact ⟨rfl, L2.out⟩
  have HC : Hid (Ky.cmpR ⟨xk, xn, xb, xs⟩ ⟨yk, yn, yb, ys⟩ = if xk = yk then (if xk = 3 then Ky.lessI xb yb else if xk = 4 ∨ xk = 5 then Ky.strs xs ys else Ky.ints xn yn) else Ky.ints xk yk) := by
    show _ = _
    unfold Ky.cmpR Cd.V.right
    simp only [hrx, hry]
    rfl
  rw [hrx] at rx0
  rw [hry] at ry0
  have rx := hid rx0
  have ry := hid ry0
  clear rx0 ry0 hrx hry
  by_cases hk : xk = yk
  · have ek : (xk != yk) = false := by rw [bne_eq_false_iff_eq]; exact hk
    by_cases h3 : xk = 3
    · have HE0 : Hid (Ky.cmpR ⟨xk, xn, xb, xs⟩ ⟨yk, yn, yb, ys⟩ = Ky.lessI xb yb) := by show _ = _; rw [HC.out, if_pos hk, if_pos h3]
      have e3 : (xk == 3) = true := by rw [beq_iff_eq]; exact h3
      have la := hid (fun W => lessR_any xb yb hxb hyb W)
      have lb := hid (fun W => lessR_any yb xb hyb hxb W)
      unfold Ky.lessI at HE0
      unfold vv at rx ry ⊢
      clear HC h3 hk
      generalize Ky.less xb yb = p at HE0 la
      generalize Ky.less yb xb = q at HE0 lb
      cases p
      · cases q
        · have HE : Hid (Ky.cmpR ⟨xk, xn, xb, xs⟩ ⟨yk, yn, yb, ys⟩ = 0) := HE0.out
          go_enter Try.func51, Try.ntmps51
          go_wp2_with fail
          refine (rx.out _).mono ?_; rintro e w1 ⟨rfl, b1⟩
          have X1 := X0.out.keep b1
          have Y1 := Y0.out.keep b1
          have L1 := hid (hnext L0.out b1)
          clear b1
          obtain ⟨q0, q1, q2, q3⟩ := X1.cells
          obtain ⟨p0, p1, p2, p3⟩ := Y1.cells
          go_wp2_with fail
          refine (ry.out _).mono ?_; rintro e w2 ⟨rfl, b2⟩
          have X2 := X1.keep b2
          have Y2 := Y1.keep b2
          have L2 := hid (hnext L1.out b2)
          clear b2 X1 Y1 q0 q1 q2 q3 p0 p1 p2 p3
          obtain ⟨q0, q1, q2, q3⟩ := X2.cells
          obtain ⟨p0, p1, p2, p3⟩ := Y2.cells
          go_wp2_with fail
          refine (la.out _).mono ?_; rintro e w3 ⟨rfl, rfl⟩
          go_wp2_with fail
          refine (lb.out _).mono ?_; rintro e w3 ⟨rfl, rfl⟩
          go_wp2_with fail
          go_ret
          rw [HE.out]
          exact ⟨rfl, L2.out⟩
        · have HE : Hid (Ky.cmpR ⟨xk, xn, xb, xs⟩ ⟨yk, yn, yb, ys⟩ = 1) := HE0.out
          go_enter Try.func51, Try.ntmps51
          go_wp2_with fail
          refine (rx.out _).mono ?_; rintro e w1 ⟨rfl, b1⟩
          have X1 := X0.out.keep b1
          have Y1 := Y0.out.keep b1
          have L1 := hid (hnext L0.out b1)
          clear b1
          obtain ⟨q0, q1, q2, q3⟩ := X1.cells
          obtain ⟨p0, p1, p2, p3⟩ := Y1.cells
          go_wp2_with fail
          refine (ry.out _).mono ?_; rintro e w2 ⟨rfl, b2⟩
          have X2 := X1.keep b2
          have Y2 := Y1.keep b2
          have L2 := hid (hnext L1.out b2)
          clear b2 X1 Y1 q0 q1 q2 q3 p0 p1 p2 p3
          obtain ⟨q0, q1, q2, q3⟩ := X2.cells
          obtain ⟨p0, p1, p2, p3⟩ := Y2.cells
          go_wp2_with fail
          refine (la.out _).mono ?_; rintro e w3 ⟨rfl, rfl⟩
          go_wp2_with fail
          refine (lb.out _).mono ?_; rintro e w3 ⟨rfl, rfl⟩
          go_wp2_with fail
          go_ret
          rw [HE.out]
          exact ⟨rfl, L2.out⟩
      · have HE : Hid (Ky.cmpR ⟨xk, xn, xb, xs⟩ ⟨yk, yn, yb, ys⟩ = -1) := HE0.out
        go_enter Try.func51, Try.ntmps51
        go_wp2_with fail
        refine (rx.out _).mono ?_; rintro e w1 ⟨rfl, b1⟩
        have X1 := X0.out.keep b1
        have Y1 := Y0.out.keep b1
        have L1 := hid (hnext L0.out b1)
        clear b1
        obtain ⟨q0, q1, q2, q3⟩ := X1.cells
        obtain ⟨p0, p1, p2, p3⟩ := Y1.cells
        go_wp2_with fail
        refine (ry.out _).mono ?_; rintro e w2 ⟨rfl, b2⟩
        have X2 := X1.keep b2
        have Y2 := Y1.keep b2
        have L2 := hid (hnext L1.out b2)
        clear b2 X1 Y1 q0 q1 q2 q3 p0 p1 p2 p3
        obtain ⟨q0, q1, q2, q3⟩ := X2.cells
        obtain ⟨p0, p1, p2, p3⟩ := Y2.cells
        go_wp2_with fail
        refine (la.out _).mono ?_; rintro e w3 ⟨rfl, rfl⟩
        go_wp2_with fail
        go_ret
        rw [HE.out]
        exact ⟨rfl, L2.out⟩
    · have e3 : (xk == 3) = false := by rw [beq_eq_false_iff_ne]; exact h3
      by_cases h4 : xk = 4
      · have HE : Hid (Ky.cmpR ⟨xk, xn, xb, xs⟩ ⟨yk, yn, yb, ys⟩ = Ky.strs xs ys) := by show _ = _; rw [HC.out, if_pos hk, if_neg h3, if_pos (.inl h4)]
        have e4 : (xk == 4) = true := by rw [beq_iff_eq]; exact h4
        have co := hid (fun W => bytesR_any xs ys hx hy W)
        unfold vv at rx ry ⊢
        clear HC h3 hk h4
        go_enter Try.func51, Try.ntmps51
        go_wp2_with fail
        refine (rx.out _).mono ?_; rintro e w1 ⟨rfl, b1⟩
        have X1 := X0.out.keep b1
        have Y1 := Y0.out.keep b1
        have L1 := hid (hnext L0.out b1)
        clear b1
        obtain ⟨q0, q1, q2, q3⟩ := X1.cells
        obtain ⟨p0, p1, p2, p3⟩ := Y1.cells
        go_wp2_with fail
        refine (ry.out _).mono ?_; rintro e w2 ⟨rfl, b2⟩
        have X2 := X1.keep b2
        have Y2 := Y1.keep b2
        have L2 := hid (hnext L1.out b2)
        clear b2 X1 Y1 q0 q1 q2 q3 p0 p1 p2 p3
        obtain ⟨q0, q1, q2, q3⟩ := X2.cells
        obtain ⟨p0, p1, p2, p3⟩ := Y2.cells
        go_wp2_with fail
        refine (co.out _).mono ?_; rintro e w3 ⟨rfl, b3⟩
        go_wp2_with fail
        go_ret
        rw [HE.out]
        exact ⟨rfl, hnext L2.out b3⟩
      · have e4 : (xk == 4) = false := by rw [beq_eq_false_iff_ne]; exact h4
        by_cases h5 : xk = 5
        · have HE : Hid (Ky.cmpR ⟨xk, xn, xb, xs⟩ ⟨yk, yn, yb, ys⟩ = Ky.strs xs ys) := by show _ = _; rw [HC.out, if_pos hk, if_neg h3, if_pos (.inr h5)]
          have e5 : (xk == 5) = true := by rw [beq_iff_eq]; exact h5
          have co := hid (fun W => bytesR_any xs ys hx hy W)
          unfold vv at rx ry ⊢
          clear HC h3 hk h4 h5
          go_enter Try.func51, Try.ntmps51
          go_wp2_with fail
          refine (rx.out _).mono ?_; rintro e w1 ⟨rfl, b1⟩
          have X1 := X0.out.keep b1
          have Y1 := Y0.out.keep b1
          have L1 := hid (hnext L0.out b1)
          clear b1
          obtain ⟨q0, q1, q2, q3⟩ := X1.cells
          obtain ⟨p0, p1, p2, p3⟩ := Y1.cells
          go_wp2_with fail
          refine (ry.out _).mono ?_; rintro e w2 ⟨rfl, b2⟩
          have X2 := X1.keep b2
          have Y2 := Y1.keep b2
          have L2 := hid (hnext L1.out b2)
          clear b2 X1 Y1 q0 q1 q2 q3 p0 p1 p2 p3
          obtain ⟨q0, q1, q2, q3⟩ := X2.cells
          obtain ⟨p0, p1, p2, p3⟩ := Y2.cells
          go_wp2_with fail
          refine (co.out _).mono ?_; rintro e w3 ⟨rfl, b3⟩
          go_wp2_with fail
          go_ret
          rw [HE.out]
          exact ⟨rfl, hnext L2.out b3⟩
        · have HE : Hid (Ky.cmpR ⟨xk, xn, xb, xs⟩ ⟨yk, yn, yb, ys⟩ = Ky.ints xn yn) := by show _ = _; rw [HC.out, if_pos hk, if_neg h3, if_neg (fun h => h.elim h4 h5)]
          have e5 : (xk == 5) = false := by rw [beq_eq_false_iff_ne]; exact h5
          have co := hid (fun W => ints_any xn yn W)
          unfold vv at rx ry ⊢
          clear HC h3 hk h4 h5
          go_enter Try.func51, Try.ntmps51
          go_wp2_with fail
          refine (rx.out _).mono ?_; rintro e w1 ⟨rfl, b1⟩
          have X1 := X0.out.keep b1
          have Y1 := Y0.out.keep b1
          have L1 := hid (hnext L0.out b1)
          clear b1
          obtain ⟨q0, q1, q2, q3⟩ := X1.cells
          obtain ⟨p0, p1, p2, p3⟩ := Y1.cells
          go_wp2_with fail
          refine (ry.out _).mono ?_; rintro e w2 ⟨rfl, b2⟩
          have X2 := X1.keep b2
          have Y2 := Y1.keep b2
          have L2 := hid (hnext L1.out b2)
          clear b2 X1 Y1 q0 q1 q2 q3 p0 p1 p2 p3
          obtain ⟨q0, q1, q2, q3⟩ := X2.cells
          obtain ⟨p0, p1, p2, p3⟩ := Y2.cells
          go_wp2_with fail
          refine (co.out _).mono ?_; rintro e w3 ⟨rfl, rfl⟩
          go_wp2_with fail
          go_ret
          rw [HE.out]
          exact ⟨rfl, L2.out⟩
  · have ek : (xk != yk) = true := by rw [bne_iff_ne]; exact hk
    have HE : Hid (Ky.cmpR ⟨xk, xn, xb, xs⟩ ⟨yk, yn, yb, ys⟩ = Ky.ints xk yk) := by show _ = _; rw [HC.out, if_neg hk]
    have co := hid (fun W => ints_any xk yk W)
    unfold vv at rx ry ⊢
    clear HC hk
    go_enter Try.func51, Try.ntmps51
    go_wp2_with fail
    refine (rx.out _).mono ?_; rintro e w1 ⟨rfl, b1⟩
    have X1 := X0.out.keep b1
    have Y1 := Y0.out.keep b1
    have L1 := hid (hnext L0.out b1)
    clear b1
    obtain ⟨q0, q1, q2, q3⟩ := X1.cells
    obtain ⟨p0, p1, p2, p3⟩ := Y1.cells
    go_wp2_with fail
    refine (ry.out _).mono ?_; rintro e w2 ⟨rfl, b2⟩
    have X2 := X1.keep b2
    have Y2 := Y1.keep b2
    have L2 := hid (hnext L1.out b2)
    clear b2 X1 Y1 q0 q1 q2 q3 p0 p1 p2 p3
    obtain ⟨q0, q1, q2, q3⟩ := X2.cells
    obtain ⟨p0, p1, p2, p3⟩ := Y2.cells
    go_wp2_with fail
    refine (co.out _).mono ?_; rintro e w3 ⟨rfl, rfl⟩
    go_wp2_with fail
    go_ret
    rw [HE.out]
    exact ⟨rfl, L2.out⟩
end Go.Proofs.Ytfdehigepgeknaa

namespace Go.Proofs.Ytfdehigepgeknaa
open Go.RowKit

namespace Ky
/-- the next bytes, what is left, and whether something was wrong -/
def tk (n : Nat) (l : List UInt8) (b : Bool) : List UInt8 × List UInt8 × Bool := if l.length < n then (List.replicate n 0, l, true) else (l.take n, l.drop n, b)
end Ky
end Go.Proofs.Ytfdehigepgeknaa

namespace Go.Proofs.Ytfdehigepgeknaa
open Go.RowKit

namespace Ky
/-- the number of bytes, the highest first -/
def num (l : List UInt8) : Nat := l.foldl (fun n c => 256 * n + c.toNat) 0
end Ky
theorem cells_of_string (w : World) (s : ByteArray) (cap e : Nat) (hc : s.size ≤ cap) (l : List UInt8) (hl : s = bstr l) (j : Nat) (hj : j < l.length) :
    ((w.alloc (.cells (bytesRow s cap) e ((bytesRow s cap).size, (bytesRow s cap).size + 1))).drew).cell? ⟨w.heap.size, j, none⟩ = some (.int .u8 (l[j].toNat : Int)) := by
  subst hl
  show (w.alloc _).cell? _ = _
  rw [cell_of_row _ _ _ _ _ _ (heap_alloc_new w _)]
  have h2 : j < (bstr l).data.size := by show j < l.toArray.size; simpa using hj
  rw [bytesRow_at (bstr l) cap j h2]
  rfl
end Go.Proofs.Ytfdehigepgeknaa

namespace Go.Proofs.Ytfdehigepgeknaa
open Go.RowKit

namespace Ky
/-- bytes up to their end: the text, what is left, and whether something was wrong -/
def tx (acc : List UInt8) : List UInt8 → List UInt8 × List UInt8 × Bool
  | [] => ([], [], true)
  | c :: r => if c = 0 then match r with
      | [] => ([], [], true)
      | d :: r2 => if d = 1 then (acc, r2, false) else if d = 255 then tx (acc ++ [0]) r2 else ([], r2, true)
    else tx (acc ++ [c]) r
theorem tx_byte (acc r : List UInt8) (c : UInt8) (h : c ≠ 0) : tx acc (c :: r) = tx (acc ++ [c]) r := by
  rw [tx.eq_def]
  show (if c = 0 then _ else _) = _
  rw [if_neg h]
theorem tx_end (acc r : List UInt8) : tx acc (0 :: 1 :: r) = (acc, r, false) := rfl
theorem tx_zero (acc r : List UInt8) : tx acc (0 :: 255 :: r) = tx (acc ++ [0]) r := by
  rw [tx.eq_def]; rfl
end Ky
theorem str_beq (l r : List UInt8) : ((bstr l).toList == r) = decide (l = r) := by
  rw [ByteArray.toList_eq, bstr_toList, Bool.eq_iff_iff, beq_iff_eq, decide_eq_true_iff]
/-- what a reader has left -/
def Kr.left (w : World) (g : Nat) : Nat := (match w.cell? ⟨g, 0, none⟩ with | some (.string s) => 2 * s.size | _ => 0) + (match w.cell? ⟨g, 1, none⟩ with | some (.bool false) => 1 | _ => 0)
end Go.Proofs.Ytfdehigepgeknaa

namespace Go.Proofs.Ytfdehigepgeknaa
open Go.RowKit

namespace Ky
/-- the number of eight bytes as a number with a sign -/
def unmoved (m : Nat) : Int := (m : Int) - 9223372036854775808
/-- a value of a kind, what is left, and whether something was wrong -/
def raw (k : Int) (r : List UInt8) (b : Bool) : Cd.V × List UInt8 × Bool :=
  if k = 1 then (⟨1, (num (tk 1 r b).1 : Int), 0, ⟨#[]⟩⟩, (tk 1 r b).2)
  else if k = 2 then (⟨2, unmoved (num (tk 8 r b).1), 0, ⟨#[]⟩⟩, (tk 8 r b).2)
  else if k = 3 then (⟨3, 0, straight (num (tk 8 r b).1), ⟨#[]⟩⟩, (tk 8 r b).2)
  else if k = 4 ∨ k = 5 then (⟨k, 0, 0, bstr (tx [] r).1⟩, (tx [] r).2)
  else (⟨k, 0, 0, ⟨#[]⟩⟩, r, b)
/-- the same, told wrong where the value is not right -/
def fin (c : UInt8) (r : List UInt8) (b : Bool) : Cd.V × List UInt8 × Bool :=
  ((raw ((c.toNat : Int) - 1) r b).1, (raw ((c.toNat : Int) - 1) r b).2.1, (raw ((c.toNat : Int) - 1) r b).2.2 || !(raw ((c.toNat : Int) - 1) r b).1.right)
/-- the next value of bytes -/
def vl : List UInt8 → Cd.V × List UInt8 × Bool
  | [] => fin 0 [] true
  | c :: r => fin c r false
theorem c2 : ((2 : UInt8).toNat : Int) = 2 := rfl
theorem fin_of {c : UInt8} {r : List UInt8} {b : Bool} {v : Cd.V} {r2 : List UInt8} {b2 : Bool} (h : raw ((c.toNat : Int) - 1) r b = (v, r2, b2)) : fin c r b = (v, r2, b2 || !v.right) := by unfold fin; rw [h]
end Ky
end Go.Proofs.Ytfdehigepgeknaa

namespace Go.Proofs.Ytfdehigepgeknaa
open Go.RowKit

namespace Ky
end Ky
theorem str_ne (l r : List UInt8) : (!(bstr l).toList == r) = decide (l ≠ r) := by
  rw [str_beq]; simp
end Go.Proofs.Ytfdehigepgeknaa

namespace Go.Proofs.Ytfdehigepgeknaa
open Go.RowKit

namespace Ky
/-- what a text may be -/
def gt : List UInt8 → List UInt8
  | [] => []
  | c :: r => if c = 0 then match r with
      | [] => [0]
      | d :: r2 => if d = 1 then [] else 0 :: gt r2
    else c :: gt r
end Ky
end Go.Proofs.Ytfdehigepgeknaa

namespace Go.Proofs.Ytfdehigepgeknaa
open Go.RowKit

namespace Ky
end Ky
theorem own_below {w w' : World} {B e size : Nat} {v : Value} {n : Nat} {xs : List Value} (h : w.ownsRow B e size v n xs) (hb : Below w.heap.size w w') : w'.ownsRow B e size v n xs :=
  h.kept (Upd.of hb (g := w.heap.size)) (Or.inr (fun e => by have := (h.lt _ e).2; omega))

end Go.Proofs.Ytfdehigepgeknaa

namespace Go.Proofs.Ytfdehigepgeknaa
open Go.RowKit

namespace Ky
theorem canon_cases {b : Nat} (hb : b < 18446744073709551616) (h : Va.canon b = b) : b = 9221120237041090560 ∨ b ≤ 9218868437227405312 ∨ (9223372036854775808 < b ∧ b ≤ 18442240474082181120) := by
  unfold Va.canon Va.INF Va.SIGN Va.NAN at h
  split at h
  · omega
  · split at h <;> omega
theorem fl_sg {a b : Nat} (ha : ¬ Va.INF < a % Va.SIGN) (hb : ¬ Va.INF < b % Va.SIGN) : fl a b = ints (Va.sg a) (Va.sg b) := by
  unfold fl ints
  rw [Va.order_sg ha hb]
  rcases Int.lt_trichotomy (Va.sg a) (Va.sg b) with h | h | h
  · rw [Int.compare_eq_lt.2 h, if_pos h]
  · rw [Int.compare_eq_eq.2 h, if_neg (by omega), if_neg (by omega)]
  · rw [Int.compare_eq_gt.2 h, if_neg (by omega), if_pos h]
theorem sg_pos {b : Nat} (h : b ≤ 9218868437227405312) : Va.sg b = (Va.mag b : Int) := by
  unfold Va.sg Va.SIGN
  rw [if_neg (by omega), Nat.mod_eq_of_lt (by omega)]
theorem sg_neg {b : Nat} (h : 9223372036854775808 ≤ b) (h2 : b ≤ 18442240474082181120) : Va.sg b = -(Va.mag (b - 9223372036854775808) : Int) := by
  unfold Va.sg Va.SIGN
  rw [if_pos (by omega), show b % 9223372036854775808 = b - 9223372036854775808 by omega]
theorem ints_neg (a b : Int) : ints (-a) (-b) = ints b a := by
  unfold ints
  split <;> split <;> first | rfl | omega | (split <;> first | rfl | omega)
theorem ints_mag (r t : Nat) : ints (Va.mag r) (Va.mag t) = ints r t := by
  have h1 := @Va.mag_lt r t
  have h2 := @Va.mag_lt t r
  unfold ints
  simp only [Int.ofNat_lt, h1, h2]
theorem ints_lt {a b : Int} (h : a < b) : ints a b = -1 := if_pos h
theorem ints_gt {a b : Int} (h : b < a) : ints a b = 1 := by unfold ints; rw [if_neg (by omega), if_pos h]
theorem ints_self (a : Int) : ints a a = 0 := by unfold ints; rw [if_neg (by omega), if_neg (by omega)]
theorem ints_add (a b c : Int) : ints (a + c) (b + c) = ints a b := by
  unfold ints
  split <;> split <;> first | rfl | omega | (split <;> first | rfl | omega)
theorem ints_sub (a b c : Int) : ints (c - a) (c - b) = ints b a := by
  unfold ints
  split <;> split <;> first | rfl | omega | (split <;> first | rfl | omega)
theorem turned_pos {b : Nat} (h : b < 9223372036854775808) : (turned b : Int) = (b : Int) + 9223372036854775808 := by unfold turned; rw [if_pos h]; omega
theorem turned_neg {b : Nat} (h : 9223372036854775808 ≤ b) (h2 : b < 18446744073709551616) : (turned b : Int) = 18446744073709551615 - (b : Int) := by unfold turned; rw [if_neg (by omega)]; omega
theorem floats_turned {a b : Nat} (ha : a < 18446744073709551616) (hb : b < 18446744073709551616) (ca : Va.canon a = a) (cb : Va.canon b = b) : floats a b = ints (turned a) (turned b) := by
  have na : ∀ {c : Nat}, c ≤ 9218868437227405312 ∨ (9223372036854775808 < c ∧ c ≤ 18442240474082181120) → ¬ Va.INF < c % Va.SIGN := by
    intro c h
    unfold Va.INF Va.SIGN
    omega
  have nn : nan 9221120237041090560 = 1 := by decide
  have n0 : ∀ {c : Nat}, ¬ Va.INF < c % Va.SIGN → nan c = 0 := fun h => if_neg h
  rcases canon_cases ha ca with rfl | ha1
  · rcases canon_cases hb cb with rfl | hb1
    · rw [ints_self]; decide +kernel
    · unfold floats
      rw [nn, n0 (na hb1), if_neg (by decide), ints_gt (by decide), turned_pos (by decide)]
      rw [ints_gt]
      rcases hb1 with h | h
      · rw [turned_pos (by omega)]; omega
      · rw [turned_neg (by omega) (by omega)]; omega
  · rcases canon_cases hb cb with rfl | hb1
    · unfold floats
      rw [nn, n0 (na ha1), if_neg (by decide), ints_lt (by decide), turned_pos (b := 9221120237041090560) (by decide)]
      rw [ints_lt]
      rcases ha1 with h | h
      · rw [turned_pos (by omega)]; omega
      · rw [turned_neg (by omega) (by omega)]; omega
    · unfold floats
      rw [n0 (na ha1), n0 (na hb1), if_pos (by decide), fl_sg (na ha1) (na hb1)]
      rcases ha1 with h | h
      · rcases hb1 with h' | h'
        · rw [sg_pos h, sg_pos h', turned_pos (by omega), turned_pos (by omega), ints_add, ints_mag]
        · have hm := @Va.mag_pos (b - 9223372036854775808)
          rw [sg_pos h, sg_neg (by omega) h'.2, turned_pos (by omega), turned_neg (by omega) (by omega), ints_gt (by omega), ints_gt (by omega)]
      · rcases hb1 with h' | h'
        · have hm := @Va.mag_pos (a - 9223372036854775808)
          rw [sg_pos h', sg_neg (by omega) h.2, turned_pos (b := b) (by omega), turned_neg (by omega) (by omega), ints_lt (by omega), ints_lt (by omega)]
        · rw [sg_neg (by omega) h.2, sg_neg (by omega) h'.2, turned_neg (by omega) (by omega), turned_neg (by omega) (by omega), ints_neg, ints_mag, ints_sub]
          rw [show ((b - 9223372036854775808 : Nat) : Int) = (b : Int) + (-9223372036854775808) by omega, show ((a - 9223372036854775808 : Nat) : Int) = (a : Int) + (-9223372036854775808) by omega, ints_add]
theorem less_turned {a b : Nat} (ha : a < 18446744073709551616) (hb : b < 18446744073709551616) (ca : Va.canon a = a) (cb : Va.canon b = b) : less a b = decide (turned a < turned b) := by
  have h1 := canon_cases ha ca
  have h2 := canon_cases hb cb
  unfold less turned
  split
  · rw [Bool.eq_iff_iff, Bool.and_eq_true, decide_eq_true_eq, decide_eq_true_eq, decide_eq_true_eq]
    split <;> split <;> omega
  · split
    · split
      · rw [Bool.eq_iff_iff, decide_eq_true_eq, decide_eq_true_eq]; omega
      · rw [eq_comm, decide_eq_false_iff_not]; omega
    · split
      · rw [eq_comm, decide_eq_true_iff]; omega
      · rw [Bool.eq_iff_iff, decide_eq_true_eq, decide_eq_true_eq]; omega
theorem lessI_turned {a b : Nat} (ha : a < 18446744073709551616) (hb : b < 18446744073709551616) (ca : Va.canon a = a) (cb : Va.canon b = b) : lessI a b = ints (turned a) (turned b) := by
  unfold lessI ints
  rw [less_turned ha hb ca cb, less_turned hb ha cb ca]
  simp only [decide_eq_true_eq, Int.ofNat_lt]
theorem right_cases {k n : Int} {b : Nat} {s : ByteArray} (h : Va.right k n b s = true) : (k = 0 ∧ n = 0 ∧ b = 0 ∧ s = ⟨#[]⟩) ∨ (k = 1 ∧ (n = 0 ∨ n = 1) ∧ b = 0 ∧ s = ⟨#[]⟩) ∨ (k = 2 ∧ b = 0 ∧ s = ⟨#[]⟩) ∨ (k = 3 ∧ n = 0 ∧ Va.canon b = b ∧ s = ⟨#[]⟩) ∨ ((k = 4 ∨ k = 5) ∧ n = 0 ∧ b = 0 ∧ s.size ≤ 4096) := by
  unfold Va.right at h
  simp only [← empty_iff_size] at h
  by_cases h0 : k = 0
  · rw [if_pos h0] at h; simp only [Bool.and_eq_true, decide_eq_true_eq] at h; exact .inl ⟨h0, h.1.1, h.1.2, h.2⟩
  rw [if_neg h0] at h
  by_cases h1 : k = 1
  · rw [if_pos h1] at h; simp only [Bool.and_eq_true, Bool.or_eq_true, decide_eq_true_eq] at h; exact .inr (.inl ⟨h1, h.1.1, h.1.2, h.2⟩)
  rw [if_neg h1] at h
  by_cases h2 : k = 2
  · rw [if_pos h2] at h; simp only [Bool.and_eq_true, decide_eq_true_eq] at h; exact .inr (.inr (.inl ⟨h2, h.1, h.2⟩))
  rw [if_neg h2] at h
  by_cases h3 : k = 3
  · rw [if_pos h3] at h; simp only [Bool.and_eq_true, decide_eq_true_eq] at h; exact .inr (.inr (.inr (.inl ⟨h3, h.1.1, h.2, h.1.2⟩)))
  rw [if_neg h3] at h
  by_cases h4 : k = 4 ∨ k = 5
  · rw [if_pos h4] at h; simp only [Bool.and_eq_true, decide_eq_true_eq] at h; exact .inr (.inr (.inr (.inr ⟨h4, h.1.1, h.1.2, h.2⟩)))
  rw [if_neg h4] at h
  cases h
theorem strL_self (l : List UInt8) : strL l l = 0 := by
  have h := strL_app l [] []
  rw [List.append_nil] at h
  rw [h]; rfl
theorem cmp_eq (x y : Cd.V) (hx : x.b < 18446744073709551616) (hy : y.b < 18446744073709551616) : cmp x y = cmpR x y := by
  unfold cmp cmpR
  cases hrx : x.right
  · rfl
  cases hry : y.right
  · rfl
  have ht : ¬ (true = false) := by decide
  simp only [if_neg ht]
  by_cases hk : x.k = y.k
  · rw [if_pos hk, if_pos hk]
    by_cases h3 : x.k = 3
    · rw [if_pos h3, if_pos h3]
      have c1 : Va.canon x.b = x.b := by
        rcases right_cases hrx with h | h | h | h | h
        · omega
        · omega
        · omega
        · exact h.2.2.1
        · omega
      have c2 : Va.canon y.b = y.b := by
        rcases right_cases hry with h | h | h | h | h
        · omega
        · omega
        · omega
        · exact h.2.2.1
        · omega
      rw [floats_turned hx hy c1 c2, lessI_turned hx hy c1 c2]
    · rw [if_neg h3, if_neg h3]
      by_cases h4 : x.k = 4 ∨ x.k = 5
      · rw [if_pos h4]
        by_cases hs : x.s = y.s
        · have e1 : x.n = 0 := by rcases right_cases hrx with h | h | h | h | h <;> omega
          have e2 : y.n = 0 := by rcases right_cases hry with h | h | h | h | h <;> omega
          rw [if_pos hs, e1, e2, hs, strs_eq, strL_self]; rfl
        · rw [if_neg hs]
      · have e1 : x.s = ⟨#[]⟩ := by
          rcases right_cases hrx with h | h | h | h | h
          · exact h.2.2.2
          · exact h.2.2.2
          · exact h.2.2
          · exact h.2.2.2
          · exact absurd h.1 h4
        have e2 : y.s = ⟨#[]⟩ := by
          rcases right_cases hry with h | h | h | h | h
          · exact h.2.2.2
          · exact h.2.2.2
          · exact h.2.2
          · exact h.2.2.2
          · exact absurd (hk ▸ h.1) h4
        rw [if_neg h4, if_pos (by rw [e1, e2])]
  · rw [if_neg hk, if_neg hk]
end Ky
end Go.Proofs.Ytfdehigepgeknaa

namespace Go.Proofs.Ytfdehigepgeknaa
open Go.RowKit

namespace Ky
/-- a right value that can stand in memory -/
def Fit (x : Cd.V) : Prop := x.right = true ∧ (-9223372036854775808 ≤ x.n ∧ x.n ≤ 9223372036854775807) ∧ x.b < 18446744073709551616
/-- the number of bytes behind a number -/
def numF (m : Nat) (l : List UInt8) : Nat := l.foldl (fun n c => 256 * n + c.toNat) m
theorem numF_eq (l : List UInt8) : ∀ m, numF m l = m * 256 ^ l.length + num l := by
  induction l with
  | nil => intro m; show m = m * 1 + 0; omega
  | cons c l ih =>
    intro m
    show numF (256 * m + c.toNat) l = _ + numF (256 * 0 + c.toNat) l
    rw [ih, ih (256 * 0 + c.toNat), List.length_cons, Nat.pow_succ, Nat.add_mul, Nat.add_mul]
    have : 256 * m * 256 ^ l.length = m * (256 ^ l.length * 256) := by rw [Nat.mul_comm 256 m, Nat.mul_assoc, Nat.mul_comm 256]
    omega
theorem num_cons (c : UInt8) (l : List UInt8) : num (c :: l) = c.toNat * 256 ^ l.length + num l := by
  show numF (256 * 0 + c.toNat) l = _
  rw [numF_eq]
  simp
theorem num_low (k b : Nat) : num (Cd.low k b) = b % 256 ^ k := by
  induction k with
  | zero => show 0 = b % 1; omega
  | succ k ih =>
    show num (UInt8.ofNat (b / 256 ^ k) :: Cd.low k b) = _
    rw [num_cons, Cd.low_length, ih, Nat.mod_pow_succ]
    have : (UInt8.ofNat (b / 256 ^ k)).toNat = b / 256 ^ k % 256 := rfl
    rw [this, Nat.mul_comm (256 ^ k)]
    omega
theorem eight_length (b : Nat) : (Cd.eight b).length = 8 := Cd.low_length 8 b
theorem num_eight (b : Nat) (h : b < 18446744073709551616) : num (Cd.eight b) = b := by
  unfold Cd.eight
  rw [num_low, Nat.mod_eq_of_lt (by omega)]
theorem unmoved_moved {n : Int} (h0 : -9223372036854775808 ≤ n) : unmoved (moved n) = n := by unfold unmoved moved; omega
theorem tk_ok {n : Nat} {l : List UInt8} {b : Bool} (h : n ≤ l.length) : tk n l b = (l.take n, l.drop n, b) := if_neg (by omega)
theorem tk_app (t r : List UInt8) (b : Bool) : tk t.length (t ++ r) b = (t, r, b) := by
  rw [tk_ok (by simp), List.take_left, List.drop_left]
theorem esc_cons (c : UInt8) (s : List UInt8) : esc (c :: s) = esc1 c ++ esc s := rfl
theorem tx_esc (s : List UInt8) : ∀ (acc r : List UInt8), tx acc (esc s ++ ([0, 1] ++ r)) = (acc ++ s, r, false) := by
  induction s with
  | nil => intro acc r; rw [List.append_nil]; exact tx_end acc r
  | cons c s ih =>
    intro acc r
    rw [esc_cons, List.append_assoc]
    unfold esc1
    by_cases h : c = 0
    · subst h
      rw [if_pos rfl]
      show tx acc (0 :: 255 :: (esc s ++ ([0, 1] ++ r))) = _
      rw [tx_zero, ih, List.append_assoc]; rfl
    · rw [if_neg h]
      show tx acc (c :: (esc s ++ ([0, 1] ++ r))) = _
      rw [tx_byte _ _ _ h, ih, List.append_assoc]; rfl
theorem fin_right {c : UInt8} {r r2 : List UInt8} {x : Cd.V} (h : raw ((c.toNat : Int) - 1) r false = (x, r2, false)) (hx : x.right = true) : vl (c :: r) = (x, r2, false) := by
  show fin c r false = _
  rw [fin_of h, hx]; rfl
theorem vl_bytes {x : Cd.V} (h : Fit x) (r : List UInt8) : vl (bytes x ++ r) = (x, r, false) := by
  obtain ⟨hr, ⟨hn1, hn2⟩, hb⟩ := h
  obtain ⟨k, n, b, s⟩ := x
  simp only at hn1 hn2 hb
  have hrr : Va.right k n b s = true := hr
  rcases right_cases hrr with ⟨rfl, rfl, rfl, rfl⟩ | ⟨rfl, h1, rfl, rfl⟩ | ⟨rfl, rfl, rfl⟩ | ⟨rfl, rfl, hc, rfl⟩ | ⟨hk, rfl, rfl, hs⟩
  · show vl (1 :: r) = _
    exact fin_right (c := 1) rfl hr
  · rcases h1 with rfl | rfl
    · show vl (2 :: 0 :: r) = _
      exact fin_right (c := 2) rfl hr
    · show vl (2 :: 1 :: r) = _
      exact fin_right (c := 2) rfl hr
  · show vl (3 :: (Cd.eight (moved n) ++ r)) = _
    refine fin_right (c := 3) ?_ hr
    show ((⟨2, unmoved (num (tk 8 (Cd.eight (moved n) ++ r) false).1), 0, ⟨#[]⟩⟩ : Cd.V), (tk 8 (Cd.eight (moved n) ++ r) false).2) = _
    have h8 := tk_app (Cd.eight (moved n)) r false
    rw [eight_length] at h8
    rw [h8, num_eight _ (moved_lt hn2), unmoved_moved hn1]
  · show vl (4 :: (Cd.eight (turned b) ++ r)) = _
    refine fin_right (c := 4) ?_ hr
    show ((⟨3, 0, straight (num (tk 8 (Cd.eight (turned b) ++ r) false).1), ⟨#[]⟩⟩ : Cd.V), (tk 8 (Cd.eight (turned b) ++ r) false).2) = _
    have h8 := tk_app (Cd.eight (turned b)) r false
    rw [eight_length] at h8
    rw [h8, num_eight _ (turned_lt hb), straight_turned hb]
  · rcases hk with rfl | rfl
    · rw [show bytes ⟨4, 0, 0, s⟩ ++ r = 5 :: (esc s.data.toList ++ [0, 1] ++ r) from rfl]
      refine fin_right (c := 5) ?_ hr
      show ((⟨4, 0, 0, bstr (tx [] (esc s.data.toList ++ [0, 1] ++ r)).1⟩ : Cd.V), (tx [] (esc s.data.toList ++ [0, 1] ++ r)).2) = _
      rw [List.append_assoc, tx_esc, List.nil_append, bstr_of]
    · rw [show bytes ⟨5, 0, 0, s⟩ ++ r = 6 :: (esc s.data.toList ++ [0, 1] ++ r) from rfl]
      refine fin_right (c := 6) ?_ hr
      show ((⟨5, 0, 0, bstr (tx [] (esc s.data.toList ++ [0, 1] ++ r)).1⟩ : Cd.V), (tx [] (esc s.data.toList ++ [0, 1] ++ r)).2) = _
      rw [List.append_assoc, tx_esc, List.nil_append, bstr_of]
end Ky
end Go.Proofs.Ytfdehigepgeknaa

namespace Go.Proofs.Ytfdehigepgeknaa
open Go.RowKit

namespace Ky
theorem strL_same (c : UInt8) (l r : List UInt8) : strL (c :: l) (c :: r) = strL l r := strL_app [c] l r
theorem strL_lt {c d : UInt8} (h : c < d) (l r : List UInt8) : strL (c :: l) (d :: r) = -1 := by
  unfold strL Op.bytesLess
  rw [decide_eq_true h]; rfl
theorem strL_gt {c d : UInt8} (h : d < c) (l r : List UInt8) : strL (c :: l) (d :: r) = 1 := by
  have h1 := UInt8.lt_iff_toNat_lt.1 h
  have h2 : ¬ c < d := fun e => by have := UInt8.lt_iff_toNat_lt.1 e; omega
  have h3 : c ≠ d := fun e => by subst e; omega
  unfold strL Op.bytesLess
  rw [decide_eq_false h2, beq_eq_false_iff_ne.2 h3, if_neg (by simp), if_neg (fun e => h3 (List.cons.inj e).1)]
theorem strL_nil (d : UInt8) (r : List UInt8) : strL [] (d :: r) = -1 := rfl
theorem strL_cons (c : UInt8) (l : List UInt8) : strL (c :: l) [] = 1 := by
  unfold strL Op.bytesLess
  rw [if_neg (by decide), if_neg (by simp)]
theorem u8_tri (c d : UInt8) : c < d ∨ c = d ∨ d < c := by
  rcases Nat.lt_trichotomy c.toNat d.toNat with h | h | h
  · exact .inl (UInt8.lt_iff_toNat_lt.2 h)
  · exact .inr (.inl (UInt8.toNat_inj.1 h))
  · exact .inr (.inr (UInt8.lt_iff_toNat_lt.2 h))
theorem strL_neg (l : List UInt8) : ∀ r, strL l r = - strL r l := by
  induction l with
  | nil =>
    intro r
    cases r with
    | nil => rfl
    | cons d r => rw [strL_nil, strL_cons]
  | cons c l ih =>
    intro r
    cases r with
    | nil => rw [strL_nil, strL_cons]; rfl
    | cons d r =>
      rcases u8_tri c d with h | rfl | h
      · rw [strL_lt h, strL_gt h]
      · rw [strL_same, strL_same, ih]
      · rw [strL_lt h, strL_gt h]; rfl
theorem strL_zero (l : List UInt8) : ∀ r, strL l r = 0 → l = r := by
  induction l with
  | nil =>
    intro r h
    cases r with
    | nil => rfl
    | cons d r => rw [strL_nil] at h; cases h
  | cons c l ih =>
    intro r h
    cases r with
    | nil => rw [strL_cons] at h; cases h
    | cons d r =>
      rcases u8_tri c d with h1 | rfl | h1
      · rw [strL_lt h1] at h; cases h
      · rw [strL_same] at h; rw [ih r h]
      · rw [strL_gt h1] at h; cases h
/-- the first that is not 0 -/
def thn (c d : Int) : Int := if c = 0 then d else c
theorem thn_zero (d : Int) : thn 0 d = d := rfl
theorem thn_self (c : Int) : thn c 0 = c := by unfold thn; split <;> simp_all
theorem u8_digit (n : Nat) : (UInt8.ofNat n).toNat = n % 256 := rfl
theorem strL_low (k a b : Nat) (r s : List UInt8) : strL (Cd.low k a ++ r) (Cd.low k b ++ s) = thn (ints ((a % 256 ^ k : Nat) : Int) ((b % 256 ^ k : Nat) : Int)) (strL r s) := by
  induction k with
  | zero =>
    rw [Nat.pow_zero, Nat.mod_one, Nat.mod_one, ints_self, thn_zero]
    rfl
  | succ k ih =>
    show strL (UInt8.ofNat (a / 256 ^ k) :: (Cd.low k a ++ r)) (UInt8.ofNat (b / 256 ^ k) :: (Cd.low k b ++ s)) = _
    rw [Nat.mod_pow_succ, Nat.mod_pow_succ]
    have ha := Nat.mod_lt a (show 256 ^ k > 0 from Nat.pow_pos (by decide))
    have hb := Nat.mod_lt b (show 256 ^ k > 0 from Nat.pow_pos (by decide))
    have da := u8_digit (a / 256 ^ k)
    have db := u8_digit (b / 256 ^ k)
    generalize a % 256 ^ k = a0 at *
    generalize b % 256 ^ k = b0 at *
    generalize a / 256 ^ k % 256 = p at *
    generalize b / 256 ^ k % 256 = q at *
    generalize UInt8.ofNat (a / 256 ^ k) = c at *
    generalize UInt8.ofNat (b / 256 ^ k) = d at *
    generalize 256 ^ k = m at *
    rcases u8_tri c d with h | rfl | h
    · have h1 := UInt8.lt_iff_toNat_lt.1 h
      have h2 := Nat.mul_le_mul_left m (show p + 1 ≤ q by omega)
      rw [Nat.mul_add] at h2
      rw [strL_lt h, ints_lt (by omega)]; rfl
    · have : p = q := by omega
      subst this
      rw [strL_same, ih]
      rw [show ((a0 + m * p : Nat) : Int) = (a0 : Int) + ((m * p : Nat) : Int) by omega, show ((b0 + m * p : Nat) : Int) = (b0 : Int) + ((m * p : Nat) : Int) by omega, ints_add]
    · have h1 := UInt8.lt_iff_toNat_lt.1 h
      have h2 := Nat.mul_le_mul_left m (show q + 1 ≤ p by omega)
      rw [Nat.mul_add] at h2
      rw [strL_gt h, ints_gt (by omega)]; rfl
theorem strL_eight {a b : Nat} (ha : a < 18446744073709551616) (hb : b < 18446744073709551616) (r s : List UInt8) : strL (Cd.eight a ++ r) (Cd.eight b ++ s) = thn (ints (a : Int) (b : Int)) (strL r s) := by
  unfold Cd.eight
  rw [strL_low, Nat.mod_eq_of_lt (by omega), Nat.mod_eq_of_lt (by omega)]
theorem u8_pos {d : UInt8} (h : d ≠ 0) : (0 : UInt8) < d := by
  rcases u8_tri 0 d with h1 | h1 | h1
  · exact h1
  · exact absurd h1.symm h
  · have := UInt8.lt_iff_toNat_lt.1 h1
    exact absurd this (by show ¬ d.toNat < 0; omega)
theorem esc_zero (s : List UInt8) : esc (0 :: s) = 0 :: 255 :: esc s := rfl
theorem esc_byte {c : UInt8} (h : c ≠ 0) (s : List UInt8) : esc (c :: s) = c :: esc s := by
  rw [esc_cons]; unfold esc1; rw [if_neg h]; rfl
theorem strL_esc (s : List UInt8) : ∀ (t p q : List UInt8), strL (esc s ++ ([0, 1] ++ p)) (esc t ++ ([0, 1] ++ q)) = thn (strL s t) (strL p q) := by
  induction s with
  | nil =>
    intro t p q
    cases t with
    | nil => exact strL_app [0, 1] p q
    | cons d t =>
      rw [strL_nil]
      by_cases h : d = 0
      · subst h
        rw [esc_zero]
        show strL (0 :: 1 :: p) (0 :: 255 :: (esc t ++ ([0, 1] ++ q))) = -1
        rw [strL_same]; exact strL_lt (by decide) _ _
      · rw [esc_byte h]
        exact strL_lt (u8_pos h) _ _
  | cons c s ih =>
    intro t p q
    cases t with
    | nil =>
      rw [strL_cons]
      by_cases h : c = 0
      · subst h
        rw [esc_zero]
        show strL (0 :: 255 :: (esc s ++ ([0, 1] ++ p))) (0 :: 1 :: q) = 1
        rw [strL_same]; exact strL_gt (by decide) _ _
      · rw [esc_byte h]
        exact strL_gt (u8_pos h) _ _
    | cons d t =>
      rcases u8_tri c d with h | rfl | h
      · rw [strL_lt h]
        have hd : d ≠ 0 := fun e => by
          subst e
          have := UInt8.lt_iff_toNat_lt.1 h
          exact absurd this (by show ¬ c.toNat < 0; omega)
        rw [esc_byte hd]
        by_cases h0 : c = 0
        · subst h0; rw [esc_zero]; exact strL_lt h _ _
        · rw [esc_byte h0]; exact strL_lt h _ _
      · rw [strL_same, esc_cons, esc_cons, List.append_assoc, List.append_assoc, strL_app, ih]
      · rw [strL_gt h]
        have hc : c ≠ 0 := fun e => by
          subst e
          have := UInt8.lt_iff_toNat_lt.1 h
          exact absurd this (by show ¬ d.toNat < 0; omega)
        rw [esc_byte hc]
        by_cases h0 : d = 0
        · subst h0; rw [esc_zero]; exact strL_gt h _ _
        · rw [esc_byte h0]; exact strL_gt h _ _
theorem bytes_kind {x : Cd.V} (h : x.right = true) : ∃ c t, bytes x = c :: t ∧ (c.toNat : Int) = x.k + 1 := by
  obtain ⟨k, n, b, s⟩ := x
  have hrr : Va.right k n b s = true := h
  rcases right_cases hrr with ⟨rfl, _⟩ | ⟨rfl, _⟩ | ⟨rfl, _⟩ | ⟨rfl, _⟩ | ⟨rfl | rfl, _⟩
  · exact ⟨1, _, rfl, rfl⟩
  · exact ⟨2, _, rfl, rfl⟩
  · exact ⟨3, _, rfl, rfl⟩
  · exact ⟨4, _, rfl, rfl⟩
  · exact ⟨5, _, rfl, rfl⟩
  · exact ⟨6, _, rfl, rfl⟩
theorem cmp_right {x y : Cd.V} (h1 : x.right = true) (h2 : y.right = true) : cmp x y = if x.k = y.k then (if x.k = 3 then floats x.b y.b else if x.s = y.s then ints x.n y.n else strs x.s y.s) else ints x.k y.k := by
  unfold cmp
  rw [if_neg (by rw [h1]; decide), if_neg (by rw [h2]; decide)]
theorem strs_list (s t : ByteArray) : strs s t = strL s.data.toList t.data.toList := strs_eq s t
theorem text_cmp (s t : ByteArray) : (if s = t then ints 0 0 else strs s t) = strL s.data.toList t.data.toList := by
  by_cases h : s = t
  · rw [if_pos h, h, strL_self]; rfl
  · rw [if_neg h, strs_list]
theorem strL_bytes {x y : Cd.V} (hx : Fit x) (hy : Fit y) (p q : List UInt8) : strL (bytes x ++ p) (bytes y ++ q) = thn (cmp x y) (strL p q) := by
  rw [cmp_right hx.1 hy.1]
  by_cases hk : x.k = y.k
  · rw [if_pos hk]
    obtain ⟨hr, ⟨hn1, hn2⟩, hb⟩ := hx
    obtain ⟨hr', ⟨hn1', hn2'⟩, hb'⟩ := hy
    obtain ⟨k, n, b, s⟩ := x
    obtain ⟨k', n', b', s'⟩ := y
    simp only at hk hn1 hn2 hb hn1' hn2' hb' ⊢
    subst hk
    have hrr : Va.right k n b s = true := hr
    have hrr' : Va.right k n' b' s' = true := hr'
    rcases right_cases hrr with ⟨rfl, rfl, rfl, rfl⟩ | ⟨rfl, h1, rfl, rfl⟩ | ⟨rfl, rfl, rfl⟩ | ⟨rfl, rfl, hc, rfl⟩ | ⟨hk, rfl, rfl, hs⟩
    · rcases right_cases hrr' with ⟨_, rfl, rfl, rfl⟩ | ⟨h, _⟩ | ⟨h, _⟩ | ⟨h, _⟩ | ⟨h | h, _⟩
      · rw [if_neg (by decide), if_pos rfl, ints_self, thn_zero]; exact strL_app [1] p q
      all_goals cases h
    · rcases right_cases hrr' with ⟨h, _⟩ | ⟨_, h2, rfl, rfl⟩ | ⟨h, _⟩ | ⟨h, _⟩ | ⟨h | h, _⟩
      · cases h
      · rw [if_neg (by decide), if_pos rfl]
        rcases h1 with rfl | rfl
        · rcases h2 with rfl | rfl
          · exact strL_app [2, 0] p q
          · show strL (2 :: 0 :: p) (2 :: 1 :: q) = _
            rw [strL_same, strL_lt (by decide)]; rfl
        · rcases h2 with rfl | rfl
          · show strL (2 :: 1 :: p) (2 :: 0 :: q) = _
            rw [strL_same, strL_gt (by decide)]; rfl
          · exact strL_app [2, 1] p q
      all_goals cases h
    · rcases right_cases hrr' with ⟨h, _⟩ | ⟨h, _⟩ | ⟨_, rfl, rfl⟩ | ⟨h, _⟩ | ⟨h | h, _⟩
      · cases h
      · cases h
      · rw [if_neg (by decide), if_pos rfl]
        show strL (3 :: (Cd.eight (moved n) ++ p)) (3 :: (Cd.eight (moved n') ++ q)) = _
        rw [strL_same, strL_eight (moved_lt hn2) (moved_lt hn2')]
        congr 1
        unfold moved
        rw [show (((n + 9223372036854775808).toNat : Nat) : Int) = n + 9223372036854775808 by omega, show (((n' + 9223372036854775808).toNat : Nat) : Int) = n' + 9223372036854775808 by omega, ints_add]
      all_goals cases h
    · rcases right_cases hrr' with ⟨h, _⟩ | ⟨h, _⟩ | ⟨h, _⟩ | ⟨_, rfl, hc', rfl⟩ | ⟨h | h, _⟩
      · cases h
      · cases h
      · cases h
      · rw [if_pos rfl]
        show strL (4 :: (Cd.eight (turned b) ++ p)) (4 :: (Cd.eight (turned b') ++ q)) = _
        rw [strL_same, strL_eight (turned_lt hb) (turned_lt hb'), floats_turned hb hb' hc hc']
      all_goals cases h
    · have h3 : ¬ k = 3 := by omega
      have e' : n' = 0 := by rcases right_cases hrr' with h | h | h | h | h <;> omega
      subst e'
      rw [if_neg h3, text_cmp]
      rcases hk with rfl | rfl
      · show strL (5 :: (esc s.data.toList ++ [0, 1] ++ p)) (5 :: (esc s'.data.toList ++ [0, 1] ++ q)) = _
        rw [strL_same, List.append_assoc, List.append_assoc, strL_esc]
      · show strL (6 :: (esc s.data.toList ++ [0, 1] ++ p)) (6 :: (esc s'.data.toList ++ [0, 1] ++ q)) = _
        rw [strL_same, List.append_assoc, List.append_assoc, strL_esc]
  · rw [if_neg hk]
    obtain ⟨c, t, e1, e2⟩ := bytes_kind hx.1
    obtain ⟨d, u, e3, e4⟩ := bytes_kind hy.1
    rw [e1, e3]
    rcases u8_tri c d with h | rfl | h
    · have := UInt8.lt_iff_toNat_lt.1 h
      rw [ints_lt (by omega)]; exact strL_lt h _ _
    · exact absurd (by omega) hk
    · have := UInt8.lt_iff_toNat_lt.1 h
      rw [ints_gt (by omega)]; exact strL_gt h _ _
theorem cmp_bytes {x y : Cd.V} (hx : Fit x) (hy : Fit y) : cmp x y = strL (bytes x) (bytes y) := by
  have h := strL_bytes hx hy [] []
  rw [List.append_nil, List.append_nil] at h
  rw [h]; exact (thn_self _).symm
theorem cmp_neg {x y : Cd.V} (hx : Fit x) (hy : Fit y) : cmp x y = - cmp y x := by
  rw [cmp_bytes hx hy, cmp_bytes hy hx, strL_neg]
theorem bytes_inj {x y : Cd.V} (hx : Fit x) (hy : Fit y) {p q : List UInt8} (h : bytes x ++ p = bytes y ++ q) : x = y ∧ p = q := by
  have h1 := vl_bytes hx p
  rw [h, vl_bytes hy q] at h1
  simp only [Prod.mk.injEq, and_true] at h1
  exact ⟨h1.1.symm, h1.2.symm⟩
theorem cmp_zero {x y : Cd.V} (hx : Fit x) (hy : Fit y) (h : cmp x y = 0) : x = y := by
  rw [cmp_bytes hx hy] at h
  exact (bytes_inj hx hy (p := []) (q := []) (by rw [List.append_nil, List.append_nil, strL_zero _ _ h])).1
theorem cmp_self {x : Cd.V} (hx : Fit x) : cmp x x = 0 := by rw [cmp_bytes hx hx, strL_self]
end Ky
end Go.Proofs.Ytfdehigepgeknaa
