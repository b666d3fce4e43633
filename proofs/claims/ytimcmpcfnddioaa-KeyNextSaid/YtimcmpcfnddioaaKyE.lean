/-
  key's escaped: its contract. Condition: the text has at most 1000000 bytes.
-/
import Derived.Test.YtimcmpcfnddioaaKyN
import Derived.Lib.AppendStr
namespace Go.Proofs.Ytimcmpcfnddioaa
open Go.RowKit

namespace Ky
/-- a byte, so that the end can be told -/
def esc1 (c : UInt8) : List UInt8 := if c = 0 then [0, 255] else [c]
/-- a text's bytes, without the end -/
def esc (l : List UInt8) : List UInt8 := l.flatMap esc1
theorem esc_next (l : List UInt8) (k : Nat) (h : k < l.length) : esc (l.take (k + 1)) = esc (l.take k) ++ esc1 l[k] := by
  unfold esc
  rw [take_next l k h, List.flatMap_append]; simp
theorem esc_length (l : List UInt8) : (esc l).length ≤ 2 * l.length := by
  unfold esc
  induction l with
  | nil => simp
  | cons c l ih =>
    have h : (esc1 c).length ≤ 2 := by unfold esc1; split <;> simp
    rw [List.flatMap_cons, List.length_append, List.length_cons]
    omega
end Ky
/-- bytes of the call's own -/
def Own8 (w : World) (B : Nat) (v : Value) (l : List UInt8) : Prop := w.ownsRow B 5 1 v l.length (l.map byteV)
theorem append_str (w : World) {ops : Array Oper} {rest : List Oper} {o : Oper} {a : Act} {Q : Exit → Act → World → Prop} (hgd : o.guard = none) (sl x : Operand)
    (ho : o.op = .call { callee := .builtin .append, args := #[sl, x], argTypes := #[50, 9] })
    (B : Nat) (v : Value) (l : List UInt8) (hs : a.eval sl = v) (hown : Own8 w B v l) (s : ByteArray) (hx : a.eval x = .string s) (hlen : l.length + s.size ≤ 140737488355328) (hB : B ≤ w.heap.size)
    (h : ∀ v' w', Own8 w' B v' (l ++ s.data.toList) → w.grownBy w' v.ownBlock → wpList Try.prog ops Q rest (a.put o.dst v') w') : wpList Try.prog ops Q (o :: rest) a w := by
  obtain ⟨i0, hi, hz0, hz1, hz2⟩ := info_parts Try.infoByte
  have hsz : s.data.toList.length = s.size := by simp
  refine Go.Lib.wpList_append_own_string w hgd sl x 50 9 ho B 5 i0 Try.underlying50 Try.underlying9 hi hz0 hz1 hz2 v l.length (l.map byteV) hs hown s hx (by unfold maxLen; omega) hlen hB ?_
  intro v' w' h1 h2 _
  refine h v' w' ?_ h2
  unfold Own8
  rw [List.length_append, hsz, List.map_append]
  exact h1
theorem append_byte (w : World) {ops : Array Oper} {rest : List Oper} {o : Oper} {a : Act} {Q : Exit → Act → World → Prop} (hgd : o.guard = none) (sl x : Operand)
    (ho : o.op = .call { callee := .builtin .append, args := #[sl, x], argTypes := #[50, 50] })
    (B : Nat) (v : Value) (l : List UInt8) (hs : a.eval sl = v) (hown : Own8 w B v l) (c : UInt8) (y : Value) (hy : y = byteV c) (g : Nat) (hg : g = w.heap.size) (hx : a.eval x = .slice (some ⟨g, 0, none⟩) 1 1) (hlen : l.length + 1 ≤ 140737488355328) (hB : B ≤ w.heap.size)
    (h : ∀ v' w', Own8 w' B v' (l ++ [c]) → w.grownBy w' v.ownBlock → wpList Try.prog ops Q rest (a.put o.dst v') w') : wpList Try.prog ops Q (o :: rest) a (w.alloc (.cells #[y] 5)) := by
  obtain ⟨i0, hi, hz0, hz1, hz2⟩ := info_parts Try.infoByte
  subst hy hg
  refine wpList_append_own _ hgd sl x 50 ho B 5 i0 (.int .u8 0) 1 1 Try.underlying50 hi hz0 hz1 hz2 rfl (by decide) v l.length (l.map byteV) hs (hown.alloc _) ⟨w.heap.size, 0, none⟩ 1 1 [byteV c] hx rfl (cell_one_byte w _ _ c rfl) (fun u hu => by rw [List.mem_singleton.1 hu]; rfl) ?_ ?_ ?_ ?_
  · unfold maxLen; omega
  · omega
  · simp; omega
  · intro v' w' hown' hgrow _
    refine h v' w' (by unfold Own8; rw [List.length_append, List.map_append]; exact hown') ?_
    refine ⟨hgrow.os, hgrow.tape, hgrow.output, Nat.le_trans (by simp) hgrow.size, fun k hk hne => ?_⟩
    rw [hgrow.block k (by simp; omega) hne]
    exact Below.heap_alloc w _ k hk
theorem Own8.ge {w : World} {B : Nat} {v : Value} {l : List UInt8} (h : Own8 w B v l) : ∀ q, v.ownBlock = some q → B ≤ q := by
  intro q hq
  rcases h.2 with ⟨rfl, _⟩ | ⟨g, cap, cur, rfl, hB, _⟩
  · cases hq
  · cases hq; exact hB
set_option maxRecDepth 100000 in
set_option maxHeartbeats 1600000 in
theorem escaped_any (s : ByteArray) (hs : s.size ≤ 1000000) (w : World) : Calls Try.prog 38 #[.string s] w fun e w' => e = .returned (.string (bstr (Ky.esc s.data.toList ++ [0, 1]))) ∧ Below w.heap.size w w' := by
  obtain ⟨i0, hi, hz0, hz1, hz2⟩ := info_parts Try.infoByte
  go_enter Try.func38, Try.ntmps38
  go_wp2_with (refine wpList_make_own _ rfl _ _ 50 rfl w.heap.size 5 i0 (.int .u8 0) 1 Try.underlying50 hi hz0 hz1 .i64 .i64 _ (s.size + 2) rfl rfl (by omega) (by rw [hz2]; omega) (by unfold maxLen; omega) (Nat.le_refl _) ?_; intro w1 own1 gr1)
  have hB0 : Below w.heap.size w w1 := (Below.refl _ _).grown gr1 (Nat.le_refl _) (fun q hq => by cases hq)
  have hO : Own8 w1 w.heap.size (.slice (some ⟨w.heap.size, 0, none⟩) 0 (s.size + 2)) (Ky.esc (s.data.toList.take 0)) := own1
  have hsl : s.data.toList.length = s.size := by simp
  clear own1 gr1
  go_loopw [11, 3] (fun i v wr => ∃ k : Nat, k ≤ s.size ∧ i = .int .i64 (k : Int) ∧ Own8 wr w.heap.size v (Ky.esc (s.data.toList.take k)) ∧ Below w.heap.size w wr) (fun i _ _ => s.size - (intOf i).toNat)
  case atStart => exact ⟨0, by omega, rfl, hO, hB0⟩
  case round =>
    obtain ⟨k, hk, rfl, hown, hbel⟩ := hrel
    by_cases hlk : k < s.size
    · have hlk' : (k : Int) < s.size := by omega
      have hk0 : (0 : Int) ≤ (k : Int) := by omega
      have hE := hid (Ky.esc_next s.data.toList k (by rw [hsl]; exact hlk))
      have hel := Ky.esc_length (s.data.toList.take k)
      rw [List.length_take] at hel
      rw [show s.data.toList[k]'(by rw [hsl]; exact hlk) = s[k] from rfl] at hE
      have HO := hid hown
      have HL : Hid ((Ky.esc (s.data.toList.take k)).length ≤ 2000000) := by show _ ≤ _; omega
      generalize Ky.esc (s.data.toList.take k) = l at hE HO HL
      have HB := hid hbel.size
      clear hown hel
      generalize hc : s[k] = c at hE
      by_cases hz : c = 0
      · subst hz
        have e0 : (((0 : UInt8).toNat : Int) == 0) = true := rfl
        go_wp2_with (at_builtin; refine append_str _ rfl _ _ rfl w.heap.size _ l rfl HO.out ⟨#[0, 255]⟩ rfl (by have := HL.out; show _ + 2 ≤ _; omega) HB.out ?_; intro v2 w2 own2 gr2; have O2 := hid own2; have B2 : Hid (Below w.heap.size w w2) := hbel.grown gr2 HB.out HO.out.ge; clear own2 gr2)
        go_roundw
        case rel => exact ⟨k + 1, hlk, by go_num, by rw [hE.out]; exact O2.out, B2.out⟩
        case measure => simp [intOf]; omega
      · have e0 : ((c.toNat : Int) == 0) = false := by
          rw [beq_eq_false_iff_ne]
          intro h
          exact hz (UInt8.toNat_inj.1 (by simpa using h))
        have e1 : Ky.esc1 c = [c] := by unfold Ky.esc1; rw [if_neg hz]
        rw [e1] at hE
        clear e1 hz
        go_wp2_with (at_builtin; refine append_byte _ rfl _ _ rfl w.heap.size _ l rfl HO.out c _ rfl _ rfl rfl (by have := HL.out; omega) HB.out ?_; intro v2 w2 own2 gr2; have O2 := hid own2; have B2 : Hid (Below w.heap.size w w2) := hbel.grown gr2 HB.out HO.out.ge; clear own2 gr2)
        go_roundw
        case rel => exact ⟨k + 1, hlk, by go_num, by rw [hE.out]; exact O2.out, B2.out⟩
        case measure => simp [intOf]; omega
    · obtain rfl : k = s.size := by omega
      rw [← hsl, List.take_length] at hown
      have hel := Ky.esc_length s.data.toList
      have HO := hid hown
      have HL : Hid ((Ky.esc s.data.toList).length ≤ 2000000) := by show _ ≤ _; omega
      generalize hl : Ky.esc s.data.toList = l at HO HL
      have HE := hid hl
      clear hl
      have HB := hid hbel.size
      clear hown hel
      go_wp2_with (at_builtin; refine append_str _ rfl _ _ rfl w.heap.size _ l rfl HO.out ⟨#[0, 1]⟩ rfl (by have := HL.out; show _ + 2 ≤ _; omega) HB.out ?_; intro v2 w2 own2 gr2; have O2 := hid own2; have B2 : Hid (Below w.heap.size w w2) := hbel.grown gr2 HB.out HO.out.ge; clear own2 gr2; have hst := run_string_of_bytes (P := Try.prog) w2 w.heap.size 50 9 5 _ _ Try.underlying50 Try.underlying5 Try.underlying9 (BytesAt.own O2.out))
      go_ret
      rw [HE.out]
      exact ⟨rfl, B2.out⟩
end Go.Proofs.Ytimcmpcfnddioaa
