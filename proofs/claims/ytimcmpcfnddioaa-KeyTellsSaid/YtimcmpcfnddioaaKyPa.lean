/-
  key.Parse: its contract. Condition: the text has at most 1000000 bytes.
-/
import Derived.Test.YtimcmpcfnddioaaKyZ
import Derived.Test.YtimcmpcfnddioaaRd4
namespace Go.Proofs.Ytimcmpcfnddioaa
open Go.RowKit

namespace Ky
/-- bytes' key, of at most so many values more -/
def pk : Nat → List Cd.V → List UInt8 → Bool → Option (List Cd.V)
  | 0, _, _, _ => none
  | f + 1, l, r, b => if b = true then none else if r = [0] then some l else pk f (l ++ [(vl r).1]) (vl r).2.1 ((vl r).2.2 || decide (8 < l.length + 1))
def parse (s : List UInt8) : Option (List Cd.V) := pk 11 [] s false
theorem pk_bad (f : Nat) (l : List Cd.V) (r : List UInt8) : pk (f + 1) l r true = none := rfl
theorem pk_end (f : Nat) (l : List Cd.V) : pk (f + 1) l [0] false = some l := rfl
theorem pk_next (f : Nat) (l : List Cd.V) (r : List UInt8) (h : r ≠ [0]) : pk (f + 1) l r false = pk f (l ++ [(vl r).1]) (vl r).2.1 ((vl r).2.2 || decide (8 < l.length + 1)) := by
  show (if false = true then none else if r = [0] then some l else _) = _
  rw [if_neg (by decide), if_neg h]
theorem tx_left (acc r : List UInt8) : (tx acc r).2.1.length ≤ r.length := by
  match r with
  | [] => rw [tx_no]; simp
  | [c] =>
    by_cases h : c = 0
    · subst h; rw [tx_short]; simp
    · rw [tx_byte _ _ _ h, tx_no]; simp
  | c :: d :: r =>
    by_cases h : c = 0
    · subst h
      by_cases h1 : d = 1
      · subst h1; rw [tx_end]; simp; omega
      · by_cases h2 : d = 255
        · subst h2
          have := tx_left (acc ++ [0]) r
          rw [tx_zero]; simp at this ⊢; omega
        · rw [tx_bad _ _ _ h1 h2]; simp; omega
    · have := tx_left (acc ++ [c]) (d :: r)
      rw [tx_byte _ _ _ h]; simp at this ⊢; omega
termination_by r.length
theorem raw_left (k : Int) (r : List UInt8) (b : Bool) : (raw k r b).2.1.length ≤ r.length := by
  unfold raw
  split
  · exact tk_left 1 r b
  · split
    · exact tk_left 8 r b
    · split
      · exact tk_left 8 r b
      · split
        · exact tx_left [] r
        · exact Nat.le_refl _
theorem vl_left (r : List UInt8) : (vl r).2.1.length ≤ r.length := by
  cases r with
  | nil => exact raw_left _ [] true
  | cons c r =>
    have := raw_left ((c.toNat : Int) - 1) r false
    show (raw ((c.toNat : Int) - 1) r false).2.1.length ≤ _
    simp; omega
end Ky
/-- what Parse leaves -/
def ParseP (r : Option (List Cd.V)) (w : World) (e : Ending) (w' : World) : Prop :=
  ∃ (v : Value) (er : Int), e = .returned (.tuple #[v, .int .i64 er]) ∧ Below w.heap.size w w' ∧ ((er = 0 ∧ ∃ l, r = some l ∧ VsAt w' v l) ∨ (er = 7 ∧ v = .slice none 0 0 ∧ r = none))
theorem str_ne (l r : List UInt8) : (!(bstr l).toList == r) = decide (l ≠ r) := by
  rw [str_beq]; simp
set_option maxRecDepth 100000 in
set_option maxHeartbeats 3200000 in
theorem parse_any (s : ByteArray) (hs : s.size ≤ 1000000) (w : World) : Calls Try.prog 19 #[.string s] w (ParseP (Ky.parse s.data.toList) w) := by
  obtain ⟨l0, rfl⟩ : ∃ l0, s = bstr l0 := ⟨s.data.toList, (bstr_of s).symm⟩
  rw [bstr_toList]
  have hs0 : l0.length ≤ 1000000 := hs
  clear hs
  have R0 : Kr (w.alloc (.cells #[.string (bstr l0), .bool false] 47)) w.heap.size l0 false := heap_alloc_new w _
  have L0 := hba w (.cells #[.string (bstr l0), .bool false] 47)
  have HP : Hid (Ky.parse l0 = Ky.pk 11 [] l0 false) := rfl
  go_enter Try.func19, Try.ntmps19
  go_wp2_with fail
  generalize w.alloc (.cells #[.string (bstr l0), .bool false] 47) = w1 at *
  go_loopw [5] (fun v wr => ∃ (f : Nat) (l : List Cd.V) (r : List UInt8) (b : Bool), f + 1 + l.length = 11 ∧ l.length ≤ 9 ∧ (b = false → l.length ≤ 8) ∧ r.length ≤ 1000000 ∧ wr.ownsRow (w.heap.size + 1) 39 4 v l.length (vcells l) ∧ Kr wr w.heap.size r b ∧ Below w.heap.size w wr ∧ Hid (Ky.parse l0 = Ky.pk (f + 1) l r b)) (fun v _ => match v with | .slice _ n _ => 20 - n | _ => 0)
  case atStart => exact ⟨10, [], l0, false, rfl, by simp, by simp, hs0, World.ownsRow_nil _ _ _ _, R0, L0, HP⟩
  case round =>
    obtain ⟨f, l, r, b, hf, hl9, hlb, hr, hown, hrd, hbel, hE⟩ := hrel
    clear HP L0 R0
    obtain ⟨w4, rfl⟩ : ∃ w4 : World, w4 = wr := ⟨_, rfl⟩
    have HO := hid hown
    have hvs := VsAt.own hown
    obtain ⟨adr, cap, hv, _⟩ := hvs
    subst hv
    clear hown
    obtain ⟨c0, c1, f0, f1, hg⟩ := hrd.cells
    cases b with
    | true =>
      rw [Ky.pk_bad] at hE
      go_wp2_with fail
      exact bodyPost_ret (v := .tuple #[.slice none 0 0, .int .i64 7]) (by simp [results, Try.results19, go_sem]) rfl ⟨_, _, rfl, hbel, Or.inr ⟨rfl, rfl, hE.out⟩⟩
    | false =>
      by_cases h0 : r = [0]
      · subst h0
        rw [Ky.pk_end] at hE
        have e0 : (!(bstr [0]).toList == [0]) = false := by rw [str_ne]; decide
        go_wp2_with fail
        exact bodyPost_ret (v := .tuple #[.slice adr l.length cap, .int .i64 0]) (by simp [results, Try.results19, go_sem]) rfl ⟨_, _, rfl, hbel, Or.inl ⟨rfl, l, hE.out, VsAt.own HO.out⟩⟩
      · rw [Ky.pk_next f l r h0] at hE
        have e0 : (!(bstr r).toList == [0]) = true := by rw [str_ne]; simpa using h0
        have cv := hid (value_rd w.heap.size r w4 hrd hr)
        have hrl := Ky.vl_left r
        generalize Ky.vl r = q at hE cv hrl
        obtain ⟨x, r2, b2⟩ := q
        simp only at hE hrl
        have CV : Hid (Calls Try.prog 32 #[.pointer (some ⟨w.heap.size, 0, none⟩)] w4 fun e w' => e = .returned (vvV x) ∧ Upd w.heap.size w4 w' ∧ Kr w' w.heap.size r2 b2) := cv
        have hl6 : l.length ≤ 1000000 := by omega
        have hl8 := hlb rfl
        have HB := hid hbel
        obtain ⟨f, rfl⟩ : ∃ f', f = f' + 1 := ⟨f - 1, by omega⟩
        obtain ⟨b3, hb3⟩ : ∃ b3, (b2 || decide (8 < l.length + 1)) = b3 := ⟨_, rfl⟩
        rw [hb3] at hE
        clear cv hrd hbel hlb
        cases b2 with
        | true =>
          obtain rfl : b3 = true := hb3.symm
          go_wp2_with fail
          refine (CV.out).mono ?_; rintro e w5 ⟨rfl, u5, r5⟩
          have hO5 := hid (own_upd HO.out u5 (Nat.lt_succ_self _))
          have hR5 := hid r5
          have hB5 : w.heap.size + 1 ≤ w5.heap.size := by have := u5.size; omega
          have HB5 := hid (Upd.below HB.out u5 (Nat.le_refl _) HB.out.size)
          clear c0 c1 f0 f1 hg u5 r5 CV HO
          unfold vvV vv
          go_wp2_with (at_builtin; go_loud (refine append_value _ rfl _ _ rfl (w.heap.size + 1) _ l rfl hO5.out x _ (by first | rfl | (simp; done)) rfl hl6 hB5 ?_; intro v6 w6 hown6 hgrow6; have hO6 := hid hown6; have hR6 := hid (Kr.grow hR5.out hgrow6 (Nat.lt_succ_self _) (fun q e => (hO5.out.lt q e).1)); have HB6 := hid (Below.grown HB5.out hgrow6 HB5.out.size (fun q e => by have := (hO5.out.lt q e).1; omega)); obtain ⟨a6, p6, rfl, _⟩ := VsAt.own hown6; have HR7 := hid (hR6.out.setBad true); have HO7 := hid (own_upd hO6.out (Upd.set w.heap.size 1 w6 (.bool true)) (Nat.lt_succ_self _)); have HB7 := hid (HB6.out.setCell (p := ⟨w.heap.size, 1, none⟩) (Nat.le_refl _) (.bool true)); obtain ⟨c0, c1, f0, f1, hg⟩ := hR6.out.cells; have hll : (l ++ [x]).length = l.length + 1 := (by simp); clear hown6 hgrow6))
          go_roundw
          case rel => exact ⟨f, l ++ [x], r2, true, by rw [hll]; omega, by rw [hll]; omega, by simp, by omega, by have := HO7.out; rw [hll] at this ⊢; exact this, HR7.out, HB7.out, hE⟩
          case measure => simp; omega
        | false =>
          by_cases h9 : 8 < l.length + 1
          · obtain rfl : b3 = true := by rw [← hb3]; simpa using h9
            have h9' : decide ((8 : Int) < (l.length : Int) + 1) = true := decide_eq_true (by omega)
            go_wp2_with fail
            refine (CV.out).mono ?_; rintro e w5 ⟨rfl, u5, r5⟩
            have hO5 := hid (own_upd HO.out u5 (Nat.lt_succ_self _))
            have hR5 := hid r5
            have hB5 : w.heap.size + 1 ≤ w5.heap.size := by have := u5.size; omega
            have HB5 := hid (Upd.below HB.out u5 (Nat.le_refl _) HB.out.size)
            clear c0 c1 f0 f1 hg u5 r5 CV HO
            unfold vvV vv
            go_wp2_with (at_builtin; go_loud (refine append_value _ rfl _ _ rfl (w.heap.size + 1) _ l rfl hO5.out x _ (by first | rfl | (simp; done)) rfl hl6 hB5 ?_; intro v6 w6 hown6 hgrow6; have hO6 := hid hown6; have hR6 := hid (Kr.grow hR5.out hgrow6 (Nat.lt_succ_self _) (fun q e => (hO5.out.lt q e).1)); have HB6 := hid (Below.grown HB5.out hgrow6 HB5.out.size (fun q e => by have := (hO5.out.lt q e).1; omega)); obtain ⟨a6, p6, rfl, _⟩ := VsAt.own hown6; have HR7 := hid (hR6.out.setBad true); have HO7 := hid (own_upd hO6.out (Upd.set w.heap.size 1 w6 (.bool true)) (Nat.lt_succ_self _)); have HB7 := hid (HB6.out.setCell (p := ⟨w.heap.size, 1, none⟩) (Nat.le_refl _) (.bool true)); obtain ⟨c0, c1, f0, f1, hg⟩ := hR6.out.cells; have hll : (l ++ [x]).length = l.length + 1 := (by simp); clear hown6 hgrow6))
            go_roundw
            case rel => exact ⟨f, l ++ [x], r2, true, by rw [hll]; omega, by rw [hll]; omega, by simp, by omega, by have := HO7.out; rw [hll] at this ⊢; exact this, HR7.out, HB7.out, hE⟩
            case measure => simp; omega
          · obtain rfl : b3 = false := by rw [← hb3]; simpa using h9
            have h9' : decide ((8 : Int) < (l.length : Int) + 1) = false := decide_eq_false (by omega)
            go_wp2_with fail
            refine (CV.out).mono ?_; rintro e w5 ⟨rfl, u5, r5⟩
            have hO5 := hid (own_upd HO.out u5 (Nat.lt_succ_self _))
            have hR5 := hid r5
            have hB5 : w.heap.size + 1 ≤ w5.heap.size := by have := u5.size; omega
            have HB5 := hid (Upd.below HB.out u5 (Nat.le_refl _) HB.out.size)
            clear c0 c1 f0 f1 hg u5 r5 CV HO
            unfold vvV vv
            go_wp2_with (at_builtin; go_loud (refine append_value _ rfl _ _ rfl (w.heap.size + 1) _ l rfl hO5.out x _ (by first | rfl | (simp; done)) rfl hl6 hB5 ?_; intro v6 w6 hown6 hgrow6; have hO6 := hid hown6; have hR6 := hid (Kr.grow hR5.out hgrow6 (Nat.lt_succ_self _) (fun q e => (hO5.out.lt q e).1)); have HB6 := hid (Below.grown HB5.out hgrow6 HB5.out.size (fun q e => by have := (hO5.out.lt q e).1; omega)); obtain ⟨a6, p6, rfl, _⟩ := VsAt.own hown6; have HR7 := hid (hR6.out.setBad false); have HO7 := hid (own_upd hO6.out (Upd.set w.heap.size 1 w6 (.bool false)) (Nat.lt_succ_self _)); have HB7 := hid (HB6.out.setCell (p := ⟨w.heap.size, 1, none⟩) (Nat.le_refl _) (.bool false)); obtain ⟨c0, c1, f0, f1, hg⟩ := hR6.out.cells; have hll : (l ++ [x]).length = l.length + 1 := (by simp); clear hown6 hgrow6))
            go_roundw
            case rel => exact ⟨f, l ++ [x], r2, false, by rw [hll]; omega, by rw [hll]; omega, by rw [hll]; intro _; omega, by omega, by have := HO7.out; rw [hll] at this ⊢; exact this, HR7.out, HB7.out, hE⟩
            case measure => simp; omega
end Go.Proofs.Ytimcmpcfnddioaa
