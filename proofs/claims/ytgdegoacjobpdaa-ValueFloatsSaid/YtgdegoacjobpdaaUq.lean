/-
  value.unquoted: its contract. Condition: the text has at most 1000000 bytes.
-/
import Derived.Test.YtgdegoacjobpdaaWh
namespace Go.Proofs.Ytgdegoacjobpdaa
open Go.RowKit

namespace Vl
/-- a text without its quotes: its bytes, and what is left -/
def unq (acc : List UInt8) : List UInt8 → Option (List UInt8 × List UInt8)
  | [] => some (acc, [])
  | [c] => some (acc, [c])
  | c :: d :: r => if c ≠ 92 then unq (acc ++ [c]) (d :: r) else if d ≠ 120 then unq (acc ++ [d]) r else match r with
    | e :: f :: r2 => match numX [e, f] 0 with
      | some n => unq (acc ++ [UInt8.ofNat n]) r2
      | none => none
    | _ => none
theorem unq_byte (acc r : List UInt8) (c d : UInt8) (h : c ≠ 92) : unq acc (c :: d :: r) = unq (acc ++ [c]) (d :: r) := by
  rw [unq.eq_def]
  show (if c ≠ 92 then _ else _) = _
  rw [if_pos h]
theorem unq_esc (acc r : List UInt8) (d : UInt8) (h : d ≠ 120) : unq acc (92 :: d :: r) = unq (acc ++ [d]) r := by
  rw [unq.eq_def]
  show (if d ≠ 120 then _ else _) = _
  rw [if_pos h]
theorem unq_hex (acc r : List UInt8) (e f : UInt8) (n : Nat) (h : numX [e, f] 0 = some n) : unq acc (92 :: 120 :: e :: f :: r) = unq (acc ++ [UInt8.ofNat n]) r := by
  rw [unq.eq_def]
  show (match numX [e, f] 0 with | some n => _ | none => none) = _
  rw [h]
theorem unq_bad (acc r : List UInt8) (e f : UInt8) (h : numX [e, f] 0 = none) : unq acc (92 :: 120 :: e :: f :: r) = none := by
  rw [unq.eq_def]
  show (match numX [e, f] 0 with | some n => _ | none => none) = _
  rw [h]
theorem unq_short (acc r : List UInt8) (h : r.length < 2) : unq acc (92 :: 120 :: r) = none := by
  match r, h with
  | [], _ => rfl
  | [e], _ => rfl
def unquoted (l : List UInt8) : Cd.V × Bool := match unq [] l with
  | none => (V0, false)
  | some (b, r) => (⟨5, 0, 0, bstr b⟩, decide (r = [34]))
end Vl
theorem ext_at (l : List UInt8) (a b : Nat) : (bstr l).extract a b = bstr ((l.drop a).take (b - a)) := by
  apply ba_eq
  simp only [ByteArray.data_extract, Array.toList_extract, List.extract_eq_take_drop, bstr_toList]
set_option maxRecDepth 100000 in
set_option maxHeartbeats 6400000 in
theorem unquoted_any (l : List UInt8) (hl : l.length ≤ 1000000) (w : World) : Calls Try.prog 49 #[.string (bstr l)] w fun e w' => e = .returned (okV (Vl.unquoted l)) ∧ Below w.heap.size w w' := by
  have bz := BV.new w 0 0 0 ⟨#[]⟩
  have L0 := hba w (.cells #[.int .i64 0, .int .i64 0, .int .u64 0, .string ⟨#[]⟩] 24)
  have hl0 : Hid (l.length ≤ 1000000) := hl
  clear hl
  go_enter Try.func49, Try.ntmps49
  go_wp2_with fail
  go_loopw [0, 4] (fun sv v wr => ∃ (acc r : List UInt8), Own8 wr (w.heap.size + 1) v acc ∧ sv = .string (bstr r) ∧ Hid (acc.length + r.length ≤ l.length) ∧ Hid (Vl.unq [] l = Vl.unq acc r) ∧ BV wr w.heap.size 0 0 0 ⟨#[]⟩ ∧ Below w.heap.size w wr) (fun sv _ _ => match sv with | .string s => s.size | _ => 0)
  case atStart => exact ⟨[], l, World.ownsRow_nil _ _ _ _, rfl, by show _ ≤ _; simp, rfl, bz, L0⟩
  case round =>
    obtain ⟨acc, r, hown, rfl, hL, hE, bz1, hbel⟩ := hrel
    obtain ⟨w4, rfl⟩ : ∃ w4 : World, w4 = wr := ⟨_, rfl⟩
    clear bz L0
    have HO : Hid (Own8 w4 (w.heap.size + 1) _ acc) := hown
    have HZ := hid bz1
    have HB := hid hbel
    have HSZ : Hid (w.heap.size + 1 ≤ w4.heap.size) := bz1.cells.2.2.2.2.2.2.2.2
    have HLA : Hid (acc.length + 1 ≤ 140737488355328) := by have := hL.out; have := hl0.out; show _ ≤ _; omega
    have hrl : r.length ≤ 1000000 := by have := hL.out; have := hl0.out; omega
    have hsr : (bstr r).size = r.length := rfl
    clear hown
    by_cases h1 : r.length ≤ 1
    · have h1' : ¬ (1 : Int) < (r.length : Int) := by omega
      have HP : Hid (Vl.unq [] l = some (acc, r)) := by
        show _ = _
        rw [hE.out]
        match r, h1 with
        | [], _ => rfl
        | [c], _ => rfl
      have HR0 : Hid (Vl.unquoted l = (⟨5, 0, 0, bstr acc⟩, decide (r = [34]))) := by show _ = _; unfold Vl.unquoted; rw [HP.out]
      obtain ⟨z0, z1, z2, z3, zf0, zf1, zf2, zf3, zl⟩ := bz1.cells
      have hst := run_string_of_bytes (P := Try.prog) w4 (w.heap.size + 1) 54 9 5 _ _ Try.underlying54 Try.underlying5 Try.underlying9 (BytesAt.own HO.out)
      by_cases hq : r = [34]
      · have e9 : ((bstr r).toList == [34]) = true := by rw [str_beq]; exact decide_eq_true hq
        have HR := hid (HR0.out.trans (by rw [decide_eq_true hq]))
        clear hq HR0 HP hE
        go_wp2_with fail
        refine bodyPost_ret (v := .tuple #[.agg #[.int .i64 5, .int .i64 0, .int .u64 0, .string (bstr acc)], .bool true]) (by simp [results, Try.results49, go_sem, z0, z1, z2, z3]) rfl ?_
        rw [HR.out]
        exact ⟨rfl, (((hbel.setCell (p := ⟨w.heap.size, 0, none⟩) (Nat.le_refl _) _).setCell (p := ⟨w.heap.size, 1, none⟩) (Nat.le_refl _) _).setCell (p := ⟨w.heap.size, 2, none⟩) (Nat.le_refl _) _).setCell (p := ⟨w.heap.size, 3, none⟩) (Nat.le_refl _) _⟩
      · have e9 : ((bstr r).toList == [34]) = false := by rw [str_beq]; exact decide_eq_false hq
        have HR := hid (HR0.out.trans (by rw [decide_eq_false hq]))
        clear hq HR0 HP hE
        go_wp2_with fail
        refine bodyPost_ret (v := .tuple #[.agg #[.int .i64 5, .int .i64 0, .int .u64 0, .string (bstr acc)], .bool false]) (by simp [results, Try.results49, go_sem, z0, z1, z2, z3]) rfl ?_
        rw [HR.out]
        exact ⟨rfl, (((hbel.setCell (p := ⟨w.heap.size, 0, none⟩) (Nat.le_refl _) _).setCell (p := ⟨w.heap.size, 1, none⟩) (Nat.le_refl _) _).setCell (p := ⟨w.heap.size, 2, none⟩) (Nat.le_refl _) _).setCell (p := ⟨w.heap.size, 3, none⟩) (Nat.le_refl _) _⟩
    · match r, h1 with
      | [], h1 => exact absurd (Nat.zero_le 1) h1
      | [c], h1 => exact absurd (Nat.le_refl 1) h1
      | c :: d :: r, _ =>
        have h1' : (1 : Int) < (r.length : Int) + 1 + 1 := by omega
        have hs2 : (bstr (c :: d :: r)).size = r.length + 1 + 1 := rfl
        have hi0 : ∀ h : 0 < (bstr (c :: d :: r)).size, (bstr (c :: d :: r))[0]'h = c := fun _ => rfl
        have hi1 : ∀ h : 1 < (bstr (c :: d :: r)).size, (bstr (c :: d :: r))[1]'h = d := fun _ => rfl
        clear hsr bz1 hbel
        by_cases hc : c = 92
        · subst hc
          by_cases hd : d = 120
          · subst hd
            by_cases h4 : r.length < 2
            · have h4' : (r.length : Int) + 1 + 1 < 4 := by omega
              have HR : Hid (Vl.unquoted l = (Vl.V0, false)) := by
                have := hE.out.trans (Vl.unq_short _ _ h4)
                show _ = _
                unfold Vl.unquoted; rw [this]
              obtain ⟨z0, z1, z2, z3, zf0, zf1, zf2, zf3, zl⟩ := HZ.out.cells
              clear h4 hE
              go_wp2_with fail
              refine bodyPost_ret (v := .tuple #[.agg #[.int .i64 0, .int .i64 0, .int .u64 0, .string ⟨#[]⟩], .bool false]) (by simp [results, Try.results49, go_sem, z0, z1, z2, z3]) rfl ?_
              rw [HR.out]
              exact ⟨rfl, (((HB.out.setCell (p := ⟨w.heap.size, 0, none⟩) (Nat.le_refl _) _).setCell (p := ⟨w.heap.size, 1, none⟩) (Nat.le_refl _) _).setCell (p := ⟨w.heap.size, 2, none⟩) (Nat.le_refl _) _).setCell (p := ⟨w.heap.size, 3, none⟩) (Nat.le_refl _) _⟩
            · have h4' : ¬ (r.length : Int) + 1 + 1 < 4 := by omega
              match r, h4 with
              | [], h4 => exact absurd (show 0 < 2 by decide) h4
              | [e], h4 => exact absurd (show 1 < 2 by decide) h4
              | e :: f :: r, _ =>
                have hs4 : (bstr (92 :: 120 :: e :: f :: r)).size = r.length + 1 + 1 + 1 + 1 := rfl
                have hx : (bstr (92 :: 120 :: e :: f :: r)).extract 2 4 = bstr [e, f] := ext_at _ 2 4
                have hx2 : (bstr (92 :: 120 :: e :: f :: r)).extract 4 (r.length + 1 + 1 + 1 + 1) = bstr r := by
                  rw [ext_at]
                  show bstr (r.take (r.length + 1 + 1 + 1 + 1 - 4)) = _
                  rw [List.take_of_length_le (by omega)]
                have h5 : ¬ (r.length : Int) + 1 + 1 + 1 + 1 < 4 := by omega
                have h6 : (4 : Int) ≤ (r.length : Int) + 1 + 1 + 1 + 1 := by omega
                have h7 : (1 : Int) < (r.length : Int) + 1 + 1 + 1 + 1 := by omega
                have cn := hid (fun W => number_any [e, f] (by simp) W)
                clear hs2 h1' h4'
                cases hn : Vl.numX [e, f] 0 with
                | none =>
                  have HR : Hid (Vl.unquoted l = (Vl.V0, false)) := by
                    have := hE.out.trans (Vl.unq_bad _ _ _ _ hn)
                    show _ = _
                    unfold Vl.unquoted; rw [this]
                  rw [hn] at cn
                  unfold numV at cn
                  clear hn hE
                  go_wp2_with fail
                  refine (cn.out _).mono ?_; rintro e w5 ⟨rfl, b5⟩
                  have bz5 := HZ.out.keep b5
                  have L5 := hid (hnext HB.out b5)
                  obtain ⟨z0, z1, z2, z3, zf0, zf1, zf2, zf3, zl⟩ := bz5.cells
                  clear b5
                  go_wp2_with fail
                  refine bodyPost_ret (v := .tuple #[.agg #[.int .i64 0, .int .i64 0, .int .u64 0, .string ⟨#[]⟩], .bool false]) (by simp [results, Try.results49, go_sem, z0, z1, z2, z3]) rfl ?_
                  rw [HR.out]
                  exact ⟨rfl, (((L5.out.setCell (p := ⟨w.heap.size, 0, none⟩) (Nat.le_refl _) _).setCell (p := ⟨w.heap.size, 1, none⟩) (Nat.le_refl _) _).setCell (p := ⟨w.heap.size, 2, none⟩) (Nat.le_refl _) _).setCell (p := ⟨w.heap.size, 3, none⟩) (Nat.le_refl _) _⟩
                | some n =>
                  have HN := hid (hE.out.trans (Vl.unq_hex _ _ _ _ _ hn))
                  have HY := hid (byte_mod n)
                  rw [hn] at cn
                  unfold numV at cn
                  clear hn hE
                  go_wp2_with fail
                  refine (cn.out _).mono ?_; rintro e w5 ⟨rfl, b5⟩
                  have O5 : Hid (Own8 w5 (w.heap.size + 1) _ acc) := own_below HO.out b5
                  have bz5 := hid (HZ.out.keep b5)
                  have L5 := hid (hnext HB.out b5)
                  have HSZ5 : Hid (w.heap.size + 1 ≤ w5.heap.size) := Nat.le_trans HSZ.out b5.size
                  clear b5 HO HZ HB
                  go_wp2_with (at_builtin; go_loud (refine append_byte _ rfl _ _ rfl (w.heap.size + 1) _ acc rfl O5.out (UInt8.ofNat n) _ HY.out _ rfl rfl HLA.out HSZ5.out ?_; intro v2 w7 own2 gr2; have O7 := hid own2; have Z7 := hid (bv_grow bz5.out gr2 (Nat.lt_succ_self _) O5.out.ge); have B7 := hid (Below.grown L5.out gr2 L5.out.size (fun q e => by have := O5.out.ge q e; omega)); clear own2 gr2))
                  go_roundw
                  case rel => exact ⟨acc ++ [(UInt8.ofNat n)], r, O7.out, rfl, by have := hL.out; show _ ≤ _; simp only [List.length_append, List.length_cons] at this ⊢; simp only [List.length_nil]; omega, HN, Z7.out, B7.out⟩
                  case measure => simp [bstr_size]; try omega
          · have e2 : ((d.toNat : Int) == 120) = false := by
              rw [beq_eq_false_iff_ne]; intro h; exact hd (UInt8.toNat_inj.1 (by show d.toNat = 120; omega))
            have HN := hid (hE.out.trans (Vl.unq_esc _ _ _ hd))
            have hx2 : (bstr (92 :: d :: r)).extract 2 (r.length + 1 + 1) = bstr r := by
              rw [ext_at]
              show bstr (r.take (r.length + 1 + 1 - 2)) = _
              rw [List.take_of_length_le (by omega)]
            have h6 : (2 : Int) ≤ (r.length : Int) + 1 + 1 := by omega
            clear hd hE
            go_wp2_with (at_builtin; go_loud (refine append_byte _ rfl _ _ rfl (w.heap.size + 1) _ acc rfl HO.out d _ rfl _ rfl rfl HLA.out HSZ.out ?_; intro v2 w7 own2 gr2; have O7 := hid own2; have Z7 := hid (bv_grow HZ.out gr2 (Nat.lt_succ_self _) HO.out.ge); have B7 := hid (Below.grown HB.out gr2 HB.out.size (fun q e => by have := HO.out.ge q e; omega)); clear own2 gr2))
            go_roundw
            case rel => exact ⟨acc ++ [d], r, O7.out, rfl, by have := hL.out; show _ ≤ _; simp only [List.length_append, List.length_cons] at this ⊢; simp only [List.length_nil]; omega, HN, Z7.out, B7.out⟩
            case measure => simp [bstr_size]; try omega
        · have e1 : ((c.toNat : Int) == 92) = false := by
            rw [beq_eq_false_iff_ne]; intro h; exact hc (UInt8.toNat_inj.1 (by show c.toNat = 92; omega))
          have HN := hid (hE.out.trans (Vl.unq_byte _ _ _ _ hc))
          have hx2 : (bstr (c :: d :: r)).extract 1 (r.length + 1 + 1) = bstr (d :: r) := by
            rw [ext_at]
            show bstr ((d :: r).take (r.length + 1 + 1 - 1)) = _
            rw [List.take_of_length_le (by rw [List.length_cons]; omega)]
          have h6 : (1 : Int) ≤ (r.length : Int) + 1 + 1 := by omega
          clear hc hE
          go_wp2_with (at_builtin; go_loud (refine append_byte _ rfl _ _ rfl (w.heap.size + 1) _ acc rfl HO.out c _ rfl _ rfl rfl HLA.out HSZ.out ?_; intro v2 w7 own2 gr2; have O7 := hid own2; have Z7 := hid (bv_grow HZ.out gr2 (Nat.lt_succ_self _) HO.out.ge); have B7 := hid (Below.grown HB.out gr2 HB.out.size (fun q e => by have := HO.out.ge q e; omega)); clear own2 gr2))
          go_roundw
          case rel => exact ⟨acc ++ [c], d :: r, O7.out, rfl, by have := hL.out; show _ ≤ _; simp only [List.length_append, List.length_cons] at this ⊢; simp only [List.length_nil]; omega, HN, Z7.out, B7.out⟩
          case measure => simp [bstr_size]; try omega
end Go.Proofs.Ytgdegoacjobpdaa
