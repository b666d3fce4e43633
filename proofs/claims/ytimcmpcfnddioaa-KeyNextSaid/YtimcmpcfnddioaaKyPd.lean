/-
  The reference's Parse: its contract. Condition: the text has at most 1000000 bytes.
-/
import Derived.Test.YtimcmpcfnddioaaKyPc
import Derived.Test.YtimcmpcfnddioaaKyF
namespace Go.Proofs.Ytimcmpcfnddioaa
open Go.RowKit

namespace Ky
/-- the reference's way to read bytes' key -/
def gp : Nat → List Cd.V → List UInt8 → Option (List Cd.V)
  | 0, _, _ => none
  | _ + 1, _, [] => none
  | f + 1, l, c :: r => if c = 0 then (if r = [] then some l else none)
    else if (guess ((c.toNat : Int) - 1) r).right = false ∨ l.length = 8 then none
    else if (Ky.bytes (guess ((c.toNat : Int) - 1) r)).length ≤ r.length + 1 ∧ (c :: r).take (Ky.bytes (guess ((c.toNat : Int) - 1) r)).length = Ky.bytes (guess ((c.toNat : Int) - 1) r)
    then gp f (l ++ [guess ((c.toNat : Int) - 1) r]) ((c :: r).drop (Ky.bytes (guess ((c.toNat : Int) - 1) r)).length) else none
def parseR (s : List UInt8) : Option (List Cd.V) := gp 10 [] s
theorem gt_size (t : List UInt8) : (gt t).length ≤ t.length := by
  match t with
  | [] => exact Nat.le_refl _
  | [c] =>
    by_cases h : c = 0
    · subst h; rw [gt_one]; exact Nat.le_refl _
    · rw [gt_byte _ _ h]; exact Nat.le_refl _
  | c :: d :: r =>
    by_cases h : c = 0
    · subst h
      by_cases h1 : d = 1
      · subst h1; rw [gt_end]; simp
      · have := gt_size r
        rw [gt_zero _ _ h1]; simp; omega
    · have := gt_size (d :: r)
      rw [gt_byte _ _ h]; simp at this ⊢; omega
termination_by t.length
/-- a value as it can stand in memory -/
theorem guess_ok (c : UInt8) (t : List UInt8) (ht : t.length ≤ 1000000) : (guess ((c.toNat : Int) - 1) t).s.size ≤ 1000000 ∧ -9223372036854775808 ≤ (guess ((c.toNat : Int) - 1) t).n ∧ (guess ((c.toNat : Int) - 1) t).n ≤ 9223372036854775807 ∧ (guess ((c.toNat : Int) - 1) t).b < 18446744073709551616 := by
  have hm := num_take t
  have hg := gt_size t
  have h0 : (⟨#[]⟩ : ByteArray).size ≤ 1000000 := by decide
  have hz : (0 : Nat) < 18446744073709551616 := by decide
  have z1 : (-9223372036854775808 : Int) ≤ 0 := by decide
  have z2 : (0 : Int) ≤ 9223372036854775807 := by decide
  unfold guess
  split
  · cases t with
    | nil => exact ⟨h0, z1, z2, hz⟩
    | cons d t => have := d.toNat_lt; exact ⟨h0, by show _ ≤ (d.toNat : Int); omega, by show (d.toNat : Int) ≤ _; omega, hz⟩
  · split
    · exact ⟨h0, by show _ ≤ unmoved _; unfold unmoved; omega, by show unmoved _ ≤ _; unfold unmoved; omega, hz⟩
    · split
      · refine ⟨h0, z1, z2, ?_⟩
        show straight _ < _
        rw [straight_num]
        split <;> omega
      · split
        · exact ⟨by show (gt t).length ≤ _; omega, z1, z2, hz⟩
        · exact ⟨h0, z1, z2, hz⟩
end Ky
theorem guess_any (c : UInt8) (hc : c ≠ 0) (t : List UInt8) (ht : t.length ≤ 1000000) (w : World) :
    Calls Try.prog 33 #[.string (bstr (c :: t))] w fun e w' => e = .returned (vvV (Ky.guess ((c.toNat : Int) - 1) t)) ∧ Below w.heap.size w w' := by
  by_cases h2 : c = 2
  · subst h2; exact guess1 t ht w
  by_cases h3 : c = 3
  · subst h3; exact guess2 t ht w
  by_cases h4 : c = 4
  · subst h4
    by_cases hm : Ky.num (t.take 8) < 9223372036854775808
    · exact guess3a _ hm t rfl ht w
    · exact guess3b _ hm t rfl ht w
  by_cases h5 : c = 5
  · subst h5; exact guess4 t ht w
  by_cases h6 : c = 6
  · subst h6; exact guess5 t ht w
  exact guessO c hc h2 h3 h4 h5 h6 t ht w
theorem own_below {w w' : World} {B e size : Nat} {v : Value} {n : Nat} {xs : List Value} (h : w.ownsRow B e size v n xs) (hb : Below w.heap.size w w') : w'.ownsRow B e size v n xs :=
  h.kept (Upd.of hb (g := w.heap.size)) (Or.inr (fun e => by have := (h.lt _ e).2; omega))

set_option maxRecDepth 100000 in
set_option maxHeartbeats 3200000 in
theorem parseR_any (s : ByteArray) (hs : s.size ≤ 1000000) (w : World) : Calls Try.prog 20 #[.string s] w (ParseP (Ky.parseR s.data.toList) w) := by
  obtain ⟨l0, rfl⟩ : ∃ l0, s = bstr l0 := ⟨s.data.toList, (bstr_of s).symm⟩
  rw [bstr_toList]
  have hs0 : l0.length ≤ 1000000 := hs
  clear hs
  have HP : Hid (Ky.parseR l0 = Ky.gp 10 [] l0) := rfl
  go_enter Try.func20, Try.ntmps20
  go_wp2_with fail
  go_loopw [4, 5] (fun v t wr => ∃ (f : Nat) (l : List Cd.V) (r : List UInt8), f + 1 + l.length = 10 ∧ l.length ≤ 8 ∧ r.length ≤ 1000000 ∧ wr.ownsRow w.heap.size 39 4 v l.length (vcells l) ∧ t = .string (bstr r) ∧ Below w.heap.size w wr ∧ Hid (Ky.parseR l0 = Ky.gp (f + 1) l r)) (fun v _ _ => match v with | .slice _ n _ => 20 - n | _ => 0)
  case atStart => exact ⟨9, [], l0, rfl, by simp, hs0, World.ownsRow_nil _ _ _ _, rfl, Below.refl _ _, HP⟩
  case round =>
    obtain ⟨f, l, r, hf, hl8, hr, hown, rfl, hbel, hE⟩ := hrel
    clear HP
    obtain ⟨w4, rfl⟩ : ∃ w4 : World, w4 = wr := ⟨_, rfl⟩
    have HO := hid hown
    have hvs := VsAt.own hown
    obtain ⟨adr, cap, hv, _⟩ := hvs
    subst hv
    clear hown
    cases r with
    | nil =>
      have HN : Hid (Ky.parseR l0 = none) := hE
      have e0 : (bstr []).size = 0 := rfl
      have e1 : (!(bstr []).toList == [0]) = true := by rw [str_ne]; decide
      clear hE
      go_wp2_with fail
      exact bodyPost_ret (v := .tuple #[.slice none 0 0, .int .i64 7]) (by simp [results, Try.results20, go_sem]) rfl ⟨_, _, rfl, hbel, Or.inr ⟨rfl, rfl, HN.out⟩⟩
    | cons c r =>
      have hrl : r.length ≤ 1000000 := by simp at hr; omega
      have hs : (bstr (c :: r)).size = r.length + 1 := rfl
      have hs0 : (0 : Int) < (r.length : Int) + 1 := by omega
      have hix : ∀ h : 0 < (bstr (c :: r)).size, (bstr (c :: r))[0]'h = c := fun _ => rfl
      by_cases hc : c = 0
      · subst hc
        by_cases hr0 : r = []
        · subst hr0
          have HN : Hid (Ky.parseR l0 = some l) := hE
          have e1 : (!(bstr [0]).toList == [0]) = false := by rw [str_ne]; decide
          clear hE
          go_wp2_with fail
          exact bodyPost_ret (v := .tuple #[.slice adr l.length cap, .int .i64 0]) (by simp [results, Try.results20, go_sem]) rfl ⟨_, _, rfl, hbel, Or.inl ⟨rfl, l, HN.out, VsAt.own HO.out⟩⟩
        · have HN : Hid (Ky.parseR l0 = none) := by
            have := hE.out
            show _ = _
            rw [this]
            show (if (0 : UInt8) = 0 then _ else _) = _
            rw [if_pos rfl, if_neg hr0]
          have e1 : (!(bstr (0 :: r)).toList == [0]) = true := by rw [str_ne]; simpa using hr0
          clear hE
          go_wp2_with fail
          exact bodyPost_ret (v := .tuple #[.slice none 0 0, .int .i64 7]) (by simp [results, Try.results20, go_sem]) rfl ⟨_, _, rfl, hbel, Or.inr ⟨rfl, rfl, HN.out⟩⟩
      · have e9 : ((c.toNat : Int) == 0) = false := by
          rw [beq_eq_false_iff_ne]; intro h; exact hc (UInt8.toNat_inj.1 (by show c.toNat = 0; omega))
        have CG := hid (fun W => guess_any c hc r hrl W)
        have hok := Ky.guess_ok c r hrl
        have HE : Hid (Ky.parseR l0 = if (Ky.guess ((c.toNat : Int) - 1) r).right = false ∨ l.length = 8 then none
            else if (Ky.bytes (Ky.guess ((c.toNat : Int) - 1) r)).length ≤ r.length + 1 ∧ (c :: r).take (Ky.bytes (Ky.guess ((c.toNat : Int) - 1) r)).length = Ky.bytes (Ky.guess ((c.toNat : Int) - 1) r)
            then Ky.gp f (l ++ [Ky.guess ((c.toNat : Int) - 1) r]) ((c :: r).drop (Ky.bytes (Ky.guess ((c.toNat : Int) - 1) r)).length) else none) := by
          have := hE.out
          show _ = _
          rw [this]
          show (if c = 0 then _ else _) = _
          rw [if_neg hc]
        clear hE
        generalize Ky.guess ((c.toNat : Int) - 1) r = x at CG hok HE
        obtain ⟨xk, xn, xb, xs⟩ := x
        simp only at hok
        obtain ⟨o1, o2, o3, o4⟩ := hok
        have CR := hid (fun W => rightR_any xk xn xb xs (by unfold maxLen; omega) o4 W)
        unfold vv at CR
        cases hrt : Va.right xk xn xb xs with
        | false =>
          have HN : Hid (Ky.parseR l0 = none) := HE.out.trans (if_pos (Or.inl hrt))
          rw [hrt] at CR
          clear HE hrt
          go_wp2_with fail
          refine (CG.out _).mono ?_; rintro e w5 ⟨rfl, b5⟩
          have B5 := hnext hbel b5
          unfold vvV vv
          clear b5
          go_wp2_with fail
          have B6 := hnext B5 (hba w5 (.cells #[.int .i64 xk, .int .i64 xn, .int .u64 (xb : Int), .string xs] 39))
          refine (CR.out _).mono ?_; rintro e w7 ⟨rfl, b7⟩
          have B7 := hnext B6 b7
          go_wp2_with fail
          exact bodyPost_ret (v := .tuple #[.slice none 0 0, .int .i64 7]) (by simp [results, Try.results20, go_sem]) rfl ⟨_, _, rfl, B7, Or.inr ⟨rfl, rfl, HN.out⟩⟩
        | true =>
          rw [hrt] at CR
          by_cases hl : l.length = 8
          · have HN : Hid (Ky.parseR l0 = none) := HE.out.trans (if_pos (Or.inr hl))
            have e2 : ((l.length : Int) == 8) = true := by rw [hl]; rfl
            clear HE hrt
            go_wp2_with fail
            refine (CG.out _).mono ?_; rintro e w5 ⟨rfl, b5⟩
            have B5 := hnext hbel b5
            unfold vvV vv
            clear b5
            go_wp2_with fail
            have B6 := hnext B5 (hba w5 (.cells #[.int .i64 xk, .int .i64 xn, .int .u64 (xb : Int), .string xs] 39))
            refine (CR.out _).mono ?_; rintro e w7 ⟨rfl, b7⟩
            have B7 := hnext B6 b7
            go_wp2_with fail
            exact bodyPost_ret (v := .tuple #[.slice none 0 0, .int .i64 7]) (by simp [results, Try.results20, go_sem]) rfl ⟨_, _, rfl, B7, Or.inr ⟨rfl, rfl, HN.out⟩⟩
          · have HE2 := hid (HE.out.trans (if_neg (fun h => h.elim (fun h => absurd (h.symm.trans hrt) (by decide)) hl)))
            have e2 : ((l.length : Int) == 8) = false := by rw [beq_eq_false_iff_ne]; omega
            have CO := hid (fun W => oneR_any xk xn xb xs hrt o2 o3 o4 W)
            have hbl : (Ky.bytes ⟨xk, xn, xb, xs⟩).length ≤ 9000 := Ky.one_length hrt
            rw [show Ky.one xk xn xb xs = Ky.bytes ⟨xk, xn, xb, xs⟩ from rfl] at CO
            generalize Ky.bytes ⟨xk, xn, xb, xs⟩ = bs at HE2 CO hbl
            have hbs : (bstr bs).size = bs.length := rfl
            clear HE hrt
            unfold vv at CO
            by_cases h1 : bs.length ≤ r.length + 1
            · have h1' : ¬ (r.length : Int) + 1 < (bs.length : Int) := by omega
              have h1'' : (bs.length : Int) ≤ (r.length : Int) + 1 := by omega
              have e5 : (bstr (c :: r)).extract 0 bs.length = bstr ((c :: r).take bs.length) := extract_bstr (bstr (c :: r)) bs.length
              by_cases h2 : (c :: r).take bs.length = bs
              · obtain ⟨f, rfl⟩ : ∃ f', f = f' + 1 := ⟨f - 1, by omega⟩
                have HG := hid (HE2.out.trans (if_pos ⟨h1, h2⟩))
                have hd : ((c :: r).drop bs.length).length ≤ 1000000 := by rw [List.length_drop]; exact Nat.le_trans (Nat.sub_le _ _) hr
                have e6 : (bstr (c :: r)).extract bs.length (r.length + 1) = bstr ((c :: r).drop bs.length) := ba_eq (extract_drop (bstr (c :: r)) bs.length)
                rw [h2] at e5
                generalize (c :: r).drop bs.length = r2 at HG hd e6
                have hl6 : l.length ≤ 1000000 := by omega
                have hll : ∀ x : Cd.V, (l ++ [x]).length = l.length + 1 := fun x => by simp
                have HLL := hid hll
                clear HE2 h2 hll
                go_wp2_with fail
                refine (CG.out _).mono ?_; rintro e w5 ⟨rfl, b5⟩
                have B5 := hnext hbel b5
                have O5 := hid (own_below HO.out b5)
                unfold vvV vv
                clear b5
                go_wp2_with fail
                have B6 := hnext B5 (hba w5 (.cells #[.int .i64 xk, .int .i64 xn, .int .u64 (xb : Int), .string xs] 39))
                have O6 := hid (O5.out.alloc (.cells #[.int .i64 xk, .int .i64 xn, .int .u64 (xb : Int), .string xs] 39))
                have V6 := BV.new w5 xk xn xb xs
                clear B5 O5 HO hbel
                refine (CR.out _).mono ?_; rintro e w7 ⟨rfl, b7⟩
                have B7 := hnext B6 b7
                have O7 := hid (own_below O6.out b7)
                have V7 := V6.keep b7
                generalize w5.heap.size = g at V7 ⊢
                clear V6 O6 B6 b7
                obtain ⟨v0, v1, v2, v3, vf0, vf1, vf2, vf3, vl⟩ := V7.cells
                go_wp2_with fail
                refine (CO.out _).mono ?_; rintro e w8 ⟨rfl, b8⟩
                have B8 := hnext B7 b8
                have O8 := hid (own_below O7.out b8)
                have V8 := V7.keep b8
                clear V7 O7 B7 b8 v0 v1 v2 v3 vf0 vf1 vf2 vf3 vl
                obtain ⟨v0, v1, v2, v3, vf0, vf1, vf2, vf3, vl⟩ := V8.cells
                have HB8 := hid B8
                have hB8 := B8.size
                clear B8 V8
                go_wp2_with (at_builtin; go_loud (refine append_value _ rfl _ _ rfl w.heap.size _ l rfl O8.out ⟨xk, xn, xb, xs⟩ _ rfl rfl hl6 hB8 ?_; intro v6 w6 hown6 hgrow6; have hO6 := hid hown6; have HB6 := hid (Below.grown HB8.out hgrow6 HB8.out.size (fun q e => (O8.out.lt q e).1)); obtain ⟨a6, p6, rfl, _⟩ := VsAt.own hown6; clear hown6 hgrow6))
                go_roundw
                case rel => exact ⟨f, l ++ [⟨xk, xn, xb, xs⟩], r2, by rw [HLL.out]; omega, by rw [HLL.out]; omega, hd, by have := hO6.out; rw [HLL.out] at this ⊢; exact this, rfl, HB6.out, HG⟩
                case measure => simp; omega
              · have HN : Hid (Ky.parseR l0 = none) := HE2.out.trans (if_neg (fun h => h2 h.2))
                have e7 : (!(bstr ((c :: r).take bs.length)).toList == (bstr bs).toList) = true := by rw [ByteArray.toList_eq (bstr bs), bstr_toList, str_ne]; simpa using h2
                generalize (c :: r).take bs.length = q at e5 e7
                clear HE2 h2
                go_wp2_with fail
                refine (CG.out _).mono ?_; rintro e w5 ⟨rfl, b5⟩
                have B5 := hnext hbel b5
                have O5 := hid (own_below HO.out b5)
                unfold vvV vv
                clear b5
                go_wp2_with fail
                have B6 := hnext B5 (hba w5 (.cells #[.int .i64 xk, .int .i64 xn, .int .u64 (xb : Int), .string xs] 39))
                have O6 := hid (O5.out.alloc (.cells #[.int .i64 xk, .int .i64 xn, .int .u64 (xb : Int), .string xs] 39))
                have V6 := BV.new w5 xk xn xb xs
                clear B5 O5 HO hbel
                refine (CR.out _).mono ?_; rintro e w7 ⟨rfl, b7⟩
                have B7 := hnext B6 b7
                have O7 := hid (own_below O6.out b7)
                have V7 := V6.keep b7
                generalize w5.heap.size = g at V7 ⊢
                clear V6 O6 B6 b7
                obtain ⟨v0, v1, v2, v3, vf0, vf1, vf2, vf3, vl⟩ := V7.cells
                go_wp2_with fail
                refine (CO.out _).mono ?_; rintro e w8 ⟨rfl, b8⟩
                have B8 := hnext B7 b8
                have O8 := hid (own_below O7.out b8)
                have V8 := V7.keep b8
                clear V7 O7 B7 b8 v0 v1 v2 v3 vf0 vf1 vf2 vf3 vl
                obtain ⟨v0, v1, v2, v3, vf0, vf1, vf2, vf3, vl⟩ := V8.cells
                have HB8 := hid B8
                have hB8 := B8.size
                clear B8 V8
                go_wp2_with fail
                exact bodyPost_ret (v := .tuple #[.slice none 0 0, .int .i64 7]) (by simp [results, Try.results20, go_sem]) rfl ⟨_, _, rfl, HB8.out, Or.inr ⟨rfl, rfl, HN.out⟩⟩
            · have h1' : (r.length : Int) + 1 < (bs.length : Int) := by omega
              have HN : Hid (Ky.parseR l0 = none) := HE2.out.trans (if_neg (fun h => h1 h.1))
              clear HE2
              go_wp2_with fail
              refine (CG.out _).mono ?_; rintro e w5 ⟨rfl, b5⟩
              have B5 := hnext hbel b5
              have O5 := hid (own_below HO.out b5)
              unfold vvV vv
              clear b5
              go_wp2_with fail
              have B6 := hnext B5 (hba w5 (.cells #[.int .i64 xk, .int .i64 xn, .int .u64 (xb : Int), .string xs] 39))
              have O6 := hid (O5.out.alloc (.cells #[.int .i64 xk, .int .i64 xn, .int .u64 (xb : Int), .string xs] 39))
              have V6 := BV.new w5 xk xn xb xs
              clear B5 O5 HO hbel
              refine (CR.out _).mono ?_; rintro e w7 ⟨rfl, b7⟩
              have B7 := hnext B6 b7
              have O7 := hid (own_below O6.out b7)
              have V7 := V6.keep b7
              generalize w5.heap.size = g at V7 ⊢
              clear V6 O6 B6 b7
              obtain ⟨v0, v1, v2, v3, vf0, vf1, vf2, vf3, vl⟩ := V7.cells
              go_wp2_with fail
              refine (CO.out _).mono ?_; rintro e w8 ⟨rfl, b8⟩
              have B8 := hnext B7 b8
              have O8 := hid (own_below O7.out b8)
              have V8 := V7.keep b8
              clear V7 O7 B7 b8 v0 v1 v2 v3 vf0 vf1 vf2 vf3 vl
              obtain ⟨v0, v1, v2, v3, vf0, vf1, vf2, vf3, vl⟩ := V8.cells
              have HB8 := hid B8
              have hB8 := B8.size
              clear B8 V8
              go_wp2_with fail
              exact bodyPost_ret (v := .tuple #[.slice none 0 0, .int .i64 7]) (by simp [results, Try.results20, go_sem]) rfl ⟨_, _, rfl, HB8.out, Or.inr ⟨rfl, rfl, HN.out⟩⟩
end Go.Proofs.Ytimcmpcfnddioaa
