/-
  value.read, value.Parse: their contracts. Condition: the text has at most 1000000 bytes.
-/
import Derived.Test.YtgdegoacjobpdaaUq
namespace Go.Proofs.Ytgdegoacjobpdaa
open Go.RowKit

namespace Vl
/-- the value that a text may be -/
def rd (l : List UInt8) : Cd.V × Bool :=
  if l = [] then (V0, false)
  else if l = [110, 117, 108, 108] then (V0, true)
  else if l = [102, 97, 108, 115, 101] then (⟨1, 0, 0, ⟨#[]⟩⟩, true)
  else if l = [116, 114, 117, 101] then (⟨1, 1, 0, ⟨#[]⟩⟩, true)
  else match l with
    | [] => (V0, false)
    | c :: r => if c = 102 then (match numX r 0 with | some n => (⟨3, 0, n, ⟨#[]⟩⟩, true) | none => (⟨3, 0, 0, ⟨#[]⟩⟩, false))
      else if c = 120 then pairs r
      else if c = 34 then unquoted r
      else whole (c :: r)
theorem rd_more {c : UInt8} {r : List UInt8} (h2 : c :: r ≠ [110, 117, 108, 108]) (h3 : c :: r ≠ [102, 97, 108, 115, 101]) (h4 : c :: r ≠ [116, 114, 117, 101]) :
    rd (c :: r) = if c = 102 then (match numX r 0 with | some n => (⟨3, 0, n, ⟨#[]⟩⟩, true) | none => (⟨3, 0, 0, ⟨#[]⟩⟩, false)) else if c = 120 then pairs r else if c = 34 then unquoted r else whole (c :: r) := by
  unfold rd
  rw [if_neg (by simp), if_neg h2, if_neg h3, if_neg h4]
/-- a text's value -/
def parse (l : List UInt8) : Option Cd.V := if (rd l).2 = true ∧ txt (rd l).1.k (rd l).1.n (rd l).1.b (rd l).1.s = l then some (rd l).1 else none
theorem numX_lt (l : List UInt8) : ∀ (m n : Nat), m < 18446744073709551616 → numX l m = some n → n < 18446744073709551616 := by
  induction l with
  | nil => intro m n hm h; cases h; exact hm
  | cons c l ih =>
    intro m n hm h
    cases hd : dig c with
    | none => rw [numX_no hd] at h; cases h
    | some d => rw [numX_next hd] at h; exact ih _ _ (Nat.mod_lt _ (by decide)) h
theorem prF_size (acc l b : List UInt8) (h : prF acc l = some b) : b.length ≤ acc.length + l.length := by
  match l with
  | [] => rw [prF_nil] at h; cases h; simp
  | [a] => rw [prF_one] at h; cases h; simp
  | a :: c :: r =>
    cases hn : numX [a, c] 0 with
    | none => rw [prF_no hn] at h; cases h
    | some n =>
      rw [prF_next hn] at h
      have := prF_size _ _ _ h
      simp at this ⊢; omega
termination_by l.length
theorem unq_size' (b r : List UInt8) (m : Nat) : ∀ acc l : List UInt8, l.length ≤ m → unq acc l = some (b, r) → b.length ≤ acc.length + l.length := by
  induction m with
  | zero =>
    intro acc l hl h
    have : l = [] := List.length_eq_zero_iff.1 (by omega)
    subst this; cases h; simp
  | succ m ih =>
    intro acc l hl h
    match l with
    | [] => cases h; simp
    | [c] => cases h; simp
    | c :: d :: t =>
      by_cases hc : c = 92
      · subst hc
        by_cases hd : d = 120
        · subst hd
          match t with
          | [] => cases h
          | [e] => cases h
          | e :: f :: q =>
            cases hn : numX [e, f] 0 with
            | none => rw [unq_bad _ _ _ _ hn] at h; cases h
            | some n =>
              rw [unq_hex _ _ _ _ _ hn] at h
              have := ih _ _ (by simp at hl; omega) h
              simp at this ⊢; omega
        · rw [unq_esc _ _ _ hd] at h
          have := ih _ _ (by simp at hl; omega) h
          simp at this ⊢; omega
      · rw [unq_byte _ _ _ _ hc] at h
        have := ih _ _ (by simp at hl ⊢; omega) h
        simp at this ⊢; omega
theorem unq_size (acc l b r : List UInt8) (h : unq acc l = some (b, r)) : b.length ≤ acc.length + l.length := unq_size' b r l.length acc l (Nat.le_refl _) h
/-- a value that can stand in memory -/
def Fits (v : Cd.V) : Prop := (-9223372036854775808 ≤ v.n ∧ v.n ≤ 9223372036854775807) ∧ v.b < 18446744073709551616 ∧ v.s.size ≤ 1000000
theorem V0_fits : Fits V0 := ⟨⟨by decide, by decide⟩, by decide, by decide⟩
theorem whF_range (sign : Int) (l : List UInt8) : ∀ (m n : Int), (-9223372036854775808 ≤ m ∧ m ≤ 9223372036854775807) → whF sign l m = some n → -9223372036854775808 ≤ n ∧ n ≤ 9223372036854775807 := by
  induction l with
  | nil => intro m n hm h; cases h; exact hm
  | cons c l ih =>
    intro m n hm h
    by_cases hc : c < 48 ∨ 57 < c
    · rw [whF_no hc] at h; cases h
    · rw [whF_next hc] at h
      exact ih _ _ (by rw [IntKind.wrap_i64]; omega) h
theorem rd_fits (l : List UInt8) (hl : l.length ≤ 1000000) : Fits (rd l).1 := by
  have h0 : ∀ k : Int, Fits ⟨k, 0, 0, ⟨#[]⟩⟩ := fun k => ⟨⟨by show (-9223372036854775808 : Int) ≤ 0; decide, by show (0 : Int) ≤ _; decide⟩, by show 0 < _; decide, by show 0 ≤ _; decide⟩
  unfold rd
  split
  · exact V0_fits
  · split
    · exact V0_fits
    · split
      · exact h0 1
      · split
        · exact ⟨⟨by decide, by decide⟩, by decide, by decide⟩
        · split
          · exact V0_fits
          · rename_i c r _ _ _ _
            have hrl : r.length ≤ 1000000 := by simp at hl; omega
            split
            · split
              · rename_i n hn
                exact ⟨⟨by show (-9223372036854775808 : Int) ≤ 0; decide, by show (0 : Int) ≤ _; decide⟩, numX_lt r 0 n (by decide) hn, by show 0 ≤ _; decide⟩
              · exact h0 3
            · split
              · unfold pairs
                split
                · exact V0_fits
                · rename_i b hb
                  have := prF_size _ _ _ hb
                  exact ⟨⟨by show (-9223372036854775808 : Int) ≤ 0; decide, by show (0 : Int) ≤ _; decide⟩, by show 0 < _; decide, by show b.length ≤ _; simp at this; omega⟩
              · split
                · unfold unquoted
                  split
                  · exact V0_fits
                  · rename_i b t hb
                    have := unq_size _ _ _ _ hb
                    exact ⟨⟨by show (-9223372036854775808 : Int) ≤ 0; decide, by show (0 : Int) ≤ _; decide⟩, by show 0 < _; decide, by show b.length ≤ _; simp at this; omega⟩
                · unfold whole
                  split
                  · exact V0_fits
                  · rename_i n hn
                    refine ⟨?_, by show 0 < _; decide, by show 0 ≤ _; decide⟩
                    unfold whS at hn
                    split at hn
                    · cases hn; exact ⟨by decide, by decide⟩
                    · split at hn
                      · exact whF_range _ _ 0 _ ⟨by decide, by decide⟩ hn
                      · exact whF_range _ _ 0 _ ⟨by decide, by decide⟩ hn
end Vl
set_option maxRecDepth 100000 in
set_option maxHeartbeats 6400000 in
theorem read_any (l : List UInt8) (hl : l.length ≤ 1000000) (w : World) : Calls Try.prog 40 #[.string (bstr l)] w fun e w' => e = .returned (okV (Vl.rd l)) ∧ Below w.heap.size w w' := by
  by_cases g0 : l = []
  · subst g0
    have HR : Hid (Vl.rd [] = (Vl.V0, false)) := rfl
    have e0 : ((bstr []).toList == []) = true := by rw [str_beq]; decide
    have e1 : ((bstr []).toList == [110, 117, 108, 108]) = false := by rw [str_beq]; decide
    have e2 : ((bstr []).toList == [102, 97, 108, 115, 101]) = false := by rw [str_beq]; decide
    have e3 : ((bstr []).toList == [116, 114, 117, 101]) = false := by rw [str_beq]; decide
    go_enter Try.func40, Try.ntmps40
    go_wp2_with fail
    refine bodyPost_ret (v := .tuple #[.agg #[.int .i64 0, .int .i64 0, .int .u64 0, .string ⟨#[]⟩], .bool false]) (by simp [results, Try.results40, go_sem]) rfl ?_
    rw [HR.out]
    exact ⟨rfl, hba _ _⟩
  by_cases g1 : l = [110, 117, 108, 108]
  · subst g1
    have HR : Hid (Vl.rd [110, 117, 108, 108] = (Vl.V0, true)) := rfl
    have e0 : ((bstr [110, 117, 108, 108]).toList == []) = false := by rw [str_beq]; decide
    have e1 : ((bstr [110, 117, 108, 108]).toList == [110, 117, 108, 108]) = true := by rw [str_beq]; decide
    have e2 : ((bstr [110, 117, 108, 108]).toList == [102, 97, 108, 115, 101]) = false := by rw [str_beq]; decide
    have e3 : ((bstr [110, 117, 108, 108]).toList == [116, 114, 117, 101]) = false := by rw [str_beq]; decide
    go_enter Try.func40, Try.ntmps40
    go_wp2_with fail
    refine bodyPost_ret (v := .tuple #[.agg #[.int .i64 0, .int .i64 0, .int .u64 0, .string ⟨#[]⟩], .bool true]) (by simp [results, Try.results40, go_sem]) rfl ?_
    rw [HR.out]
    exact ⟨rfl, hba _ _⟩
  by_cases g2 : l = [102, 97, 108, 115, 101]
  · subst g2
    have HR : Hid (Vl.rd [102, 97, 108, 115, 101] = (⟨1, 0, 0, ⟨#[]⟩⟩, true)) := rfl
    have e0 : ((bstr [102, 97, 108, 115, 101]).toList == []) = false := by rw [str_beq]; decide
    have e1 : ((bstr [102, 97, 108, 115, 101]).toList == [110, 117, 108, 108]) = false := by rw [str_beq]; decide
    have e2 : ((bstr [102, 97, 108, 115, 101]).toList == [102, 97, 108, 115, 101]) = true := by rw [str_beq]; decide
    have e3 : ((bstr [102, 97, 108, 115, 101]).toList == [116, 114, 117, 101]) = false := by rw [str_beq]; decide
    go_enter Try.func40, Try.ntmps40
    go_wp2_with fail
    refine bodyPost_ret (v := .tuple #[.agg #[.int .i64 1, .int .i64 0, .int .u64 0, .string ⟨#[]⟩], .bool true]) (by simp [results, Try.results40, go_sem]) rfl ?_
    rw [HR.out]
    exact ⟨rfl, hba _ _⟩
  by_cases g3 : l = [116, 114, 117, 101]
  · subst g3
    have HR : Hid (Vl.rd [116, 114, 117, 101] = (⟨1, 1, 0, ⟨#[]⟩⟩, true)) := rfl
    have e0 : ((bstr [116, 114, 117, 101]).toList == []) = false := by rw [str_beq]; decide
    have e1 : ((bstr [116, 114, 117, 101]).toList == [110, 117, 108, 108]) = false := by rw [str_beq]; decide
    have e2 : ((bstr [116, 114, 117, 101]).toList == [102, 97, 108, 115, 101]) = false := by rw [str_beq]; decide
    have e3 : ((bstr [116, 114, 117, 101]).toList == [116, 114, 117, 101]) = true := by rw [str_beq]; decide
    go_enter Try.func40, Try.ntmps40
    go_wp2_with fail
    refine bodyPost_ret (v := .tuple #[.agg #[.int .i64 1, .int .i64 1, .int .u64 0, .string ⟨#[]⟩], .bool true]) (by simp [results, Try.results40, go_sem]) rfl ?_
    rw [HR.out]
    exact ⟨rfl, hba _ _⟩
  cases l with
  | nil => exact absurd rfl g0
  | cons c r =>
    have hrl : r.length ≤ 1000000 := by simp at hl; omega
    have HM := hid (Vl.rd_more g1 g2 g3)
    have e0 : ((bstr (c :: r)).toList == []) = false := by rw [str_beq]; exact decide_eq_false g0
    have e0' : (bstr (c :: r)).toList.isEmpty = false := by rw [ByteArray.toList_eq, bstr_toList]; rfl
    have e1 : ((bstr (c :: r)).toList == [110, 117, 108, 108]) = false := by rw [str_beq]; exact decide_eq_false g1
    have e2 : ((bstr (c :: r)).toList == [102, 97, 108, 115, 101]) = false := by rw [str_beq]; exact decide_eq_false g2
    have e3 : ((bstr (c :: r)).toList == [116, 114, 117, 101]) = false := by rw [str_beq]; exact decide_eq_false g3
    have hs : (bstr (c :: r)).size = r.length + 1 := rfl
    have hix : ∀ h : 0 < (bstr (c :: r)).size, (bstr (c :: r))[0]'h = c := fun _ => rfl
    have hx : (bstr (c :: r)).extract 1 (r.length + 1) = bstr r := ba_eq (extract_drop (bstr (c :: r)) 1)
    have bz := BV.new w 0 0 0 ⟨#[]⟩
    have L0 := hid (hba w (.cells #[.int .i64 0, .int .i64 0, .int .u64 0, .string ⟨#[]⟩] 24))
    clear g0 g1 g2 g3
    by_cases c102 : c = 102
    · subst c102
      rw [if_pos rfl] at HM
      have cn := hid (fun W => number_any r hrl W)
      cases hn : Vl.numX r 0 with
      | none =>
        have HR : Hid (Vl.rd (102 :: r) = (⟨3, 0, 0, ⟨#[]⟩⟩, false)) := HM.out.trans (by rw [hn])
        rw [hn] at cn
        unfold numV at cn
        clear HM hn
        go_enter Try.func40, Try.ntmps40
        go_wp2_with fail
        refine (cn.out _).mono ?_; rintro e w5 ⟨rfl, b5⟩
        have bz5 := bz.keep b5
        have L5 := hid (hnext L0.out b5)
        obtain ⟨z0, z1, z2, z3, zf0, zf1, zf2, zf3, zl⟩ := bz5.cells
        clear b5
        go_wp2_with fail
        refine bodyPost_ret (v := .tuple #[.agg #[.int .i64 3, .int .i64 0, .int .u64 0, .string ⟨#[]⟩], .bool false]) (by simp [results, Try.results40, go_sem, z0, z1, z2, z3]) rfl ?_
        rw [HR.out]
        exact ⟨rfl, (((L5.out.setCell (p := ⟨w.heap.size, 0, none⟩) (Nat.le_refl _) _).setCell (p := ⟨w.heap.size, 1, none⟩) (Nat.le_refl _) _).setCell (p := ⟨w.heap.size, 2, none⟩) (Nat.le_refl _) _).setCell (p := ⟨w.heap.size, 3, none⟩) (Nat.le_refl _) _⟩
      | some n =>
        have HR : Hid (Vl.rd (102 :: r) = (⟨3, 0, n, ⟨#[]⟩⟩, true)) := HM.out.trans (by rw [hn])
        rw [hn] at cn
        unfold numV at cn
        clear HM hn
        go_enter Try.func40, Try.ntmps40
        go_wp2_with fail
        refine (cn.out _).mono ?_; rintro e w5 ⟨rfl, b5⟩
        have bz5 := bz.keep b5
        have L5 := hid (hnext L0.out b5)
        obtain ⟨z0, z1, z2, z3, zf0, zf1, zf2, zf3, zl⟩ := bz5.cells
        clear b5
        go_wp2_with fail
        refine bodyPost_ret (v := .tuple #[.agg #[.int .i64 3, .int .i64 0, .int .u64 (n : Int), .string ⟨#[]⟩], .bool true]) (by simp [results, Try.results40, go_sem, z0, z1, z2, z3]) rfl ?_
        rw [HR.out]
        exact ⟨rfl, (((L5.out.setCell (p := ⟨w.heap.size, 0, none⟩) (Nat.le_refl _) _).setCell (p := ⟨w.heap.size, 1, none⟩) (Nat.le_refl _) _).setCell (p := ⟨w.heap.size, 2, none⟩) (Nat.le_refl _) _).setCell (p := ⟨w.heap.size, 3, none⟩) (Nat.le_refl _) _⟩
    rw [if_neg c102] at HM
    have n102 : ((c.toNat : Int) == 102) = false := by
      rw [beq_eq_false_iff_ne]; intro h; exact c102 (UInt8.toNat_inj.1 (by show c.toNat = 102; omega))
    by_cases c120 : c = 120
    · subst c120
      rw [if_pos rfl] at HM
      have cn := hid (fun W => pairs_any r hrl W)
      rcases hq : Vl.pairs r with ⟨⟨k, n, b, s⟩, ok⟩
      rw [hq] at cn
      have HR := hid (HM.out.trans hq)
      unfold okV vvV vv at cn
      clear HM hq
      go_enter Try.func40, Try.ntmps40
      go_wp2_with fail
      refine (cn.out _).mono ?_; rintro e w5 ⟨rfl, b5⟩
      have bz5 := bz.keep b5
      have L5 := hid (hnext L0.out b5)
      obtain ⟨z0, z1, z2, z3, zf0, zf1, zf2, zf3, zl⟩ := bz5.cells
      clear b5
      go_wp2_with fail
      refine bodyPost_ret (v := .tuple #[.agg #[.int .i64 k, .int .i64 n, .int .u64 (b : Int), .string s], .bool ok]) (by simp [results, Try.results40, go_sem, z0, z1, z2, z3]) rfl ?_
      rw [HR.out]
      exact ⟨rfl, (((L5.out.setCell (p := ⟨w.heap.size, 0, none⟩) (Nat.le_refl _) _).setCell (p := ⟨w.heap.size, 1, none⟩) (Nat.le_refl _) _).setCell (p := ⟨w.heap.size, 2, none⟩) (Nat.le_refl _) _).setCell (p := ⟨w.heap.size, 3, none⟩) (Nat.le_refl _) _⟩
    rw [if_neg c120] at HM
    have n120 : ((c.toNat : Int) == 120) = false := by
      rw [beq_eq_false_iff_ne]; intro h; exact c120 (UInt8.toNat_inj.1 (by show c.toNat = 120; omega))
    by_cases c34 : c = 34
    · subst c34
      rw [if_pos rfl] at HM
      have cn := hid (fun W => unquoted_any r hrl W)
      rcases hq : Vl.unquoted r with ⟨⟨k, n, b, s⟩, ok⟩
      rw [hq] at cn
      have HR := hid (HM.out.trans hq)
      unfold okV vvV vv at cn
      clear HM hq
      go_enter Try.func40, Try.ntmps40
      go_wp2_with fail
      refine (cn.out _).mono ?_; rintro e w5 ⟨rfl, b5⟩
      have bz5 := bz.keep b5
      have L5 := hid (hnext L0.out b5)
      obtain ⟨z0, z1, z2, z3, zf0, zf1, zf2, zf3, zl⟩ := bz5.cells
      clear b5
      go_wp2_with fail
      refine bodyPost_ret (v := .tuple #[.agg #[.int .i64 k, .int .i64 n, .int .u64 (b : Int), .string s], .bool ok]) (by simp [results, Try.results40, go_sem, z0, z1, z2, z3]) rfl ?_
      rw [HR.out]
      exact ⟨rfl, (((L5.out.setCell (p := ⟨w.heap.size, 0, none⟩) (Nat.le_refl _) _).setCell (p := ⟨w.heap.size, 1, none⟩) (Nat.le_refl _) _).setCell (p := ⟨w.heap.size, 2, none⟩) (Nat.le_refl _) _).setCell (p := ⟨w.heap.size, 3, none⟩) (Nat.le_refl _) _⟩
    rw [if_neg c34] at HM
    have n34 : ((c.toNat : Int) == 34) = false := by
      rw [beq_eq_false_iff_ne]; intro h; exact c34 (UInt8.toNat_inj.1 (by show c.toNat = 34; omega))
    have cn := hid (fun W => whole_any (c :: r) hl (by simp) W)
    rcases hq : Vl.whole (c :: r) with ⟨⟨k, n, b, s⟩, ok⟩
    rw [hq] at cn
    have HR := hid (HM.out.trans hq)
    unfold okV vvV vv at cn
    clear HM hq
    go_enter Try.func40, Try.ntmps40
    go_wp2_with fail
    refine (cn.out _).mono ?_; rintro e w5 ⟨rfl, b5⟩
    have bz5 := bz.keep b5
    have L5 := hid (hnext L0.out b5)
    obtain ⟨z0, z1, z2, z3, zf0, zf1, zf2, zf3, zl⟩ := bz5.cells
    clear b5
    go_wp2_with fail
    refine bodyPost_ret (v := .tuple #[.agg #[.int .i64 k, .int .i64 n, .int .u64 (b : Int), .string s], .bool ok]) (by simp [results, Try.results40, go_sem, z0, z1, z2, z3]) rfl ?_
    rw [HR.out]
    exact ⟨rfl, (((L5.out.setCell (p := ⟨w.heap.size, 0, none⟩) (Nat.le_refl _) _).setCell (p := ⟨w.heap.size, 1, none⟩) (Nat.le_refl _) _).setCell (p := ⟨w.heap.size, 2, none⟩) (Nat.le_refl _) _).setCell (p := ⟨w.heap.size, 3, none⟩) (Nat.le_refl _) _⟩
/-- what Parse answers -/
def parV : Option Cd.V → Value
  | some v => .tuple #[vvV v, .int .i64 0]
  | none => .tuple #[vvV Vl.V0, .int .i64 7]
set_option maxRecDepth 100000 in
set_option maxHeartbeats 6400000 in
theorem parse_any (l : List UInt8) (hl : l.length ≤ 1000000) (w : World) : Calls Try.prog 19 #[.string (bstr l)] w fun e w' => e = .returned (parV (Vl.parse l)) ∧ Below w.heap.size w w' := by
  have hfit := Vl.rd_fits l hl
  have HP : Hid (Vl.parse l = if (Vl.rd l).2 = true ∧ Vl.txt (Vl.rd l).1.k (Vl.rd l).1.n (Vl.rd l).1.b (Vl.rd l).1.s = l then some (Vl.rd l).1 else none) := rfl
  have cr := hid (fun W => read_any l hl W)
  generalize Vl.rd l = p at hfit HP cr
  obtain ⟨⟨k, n, b, s⟩, ok⟩ := p
  obtain ⟨⟨f1, f2⟩, f3, f4⟩ := hfit
  replace f1 : -9223372036854775808 ≤ n := f1
  replace f2 : n ≤ 9223372036854775807 := f2
  replace f3 : b < 18446744073709551616 := f3
  replace f4 : s.size ≤ 1000000 := f4
  replace HP : Hid (Vl.parse l = if ok = true ∧ Vl.txt k n b s = l then some ⟨k, n, b, s⟩ else none) := HP
  unfold okV vvV vv at cr
  have cs := hid (fun W => show_any k n b s (by unfold maxLen; omega) f1 f2 f3 W)
  unfold vv at cs
  have bz := BV.new w 0 0 0 ⟨#[]⟩
  have L0 := hid (hba w (.cells #[.int .i64 0, .int .i64 0, .int .u64 0, .string ⟨#[]⟩] 24))
  cases ok with
  | false =>
    have HR : Hid (Vl.parse l = none) := HP.out.trans (if_neg (fun h => absurd h.1 (by decide)))
    clear HP f1 f2 f3 f4
    go_enter Try.func19, Try.ntmps19
    go_wp2_with fail
    refine (cr.out _).mono ?_; rintro e w5 ⟨rfl, b5⟩
    have bz5 := bz.keep b5
    have L5 := hid (hnext L0.out b5)
    clear b5 bz L0
    have hba6 := hba w5 (.cells #[.int .i64 k, .int .i64 n, .int .u64 (b : Int), .string s] 24)
    have bz6 := bz5.keep hba6
    have L6 := hid (hnext L5.out hba6)
    obtain ⟨z0, z1, z2, z3, zf0, zf1, zf2, zf3, zl⟩ := bz6.cells
    go_wp2_with fail
    refine bodyPost_ret (v := .tuple #[.agg #[.int .i64 0, .int .i64 0, .int .u64 0, .string ⟨#[]⟩], .int .i64 7]) (by simp [results, Try.results19, go_sem, z0, z1, z2, z3]) rfl ?_
    rw [HR.out]
    exact ⟨rfl, (((L6.out.setCell (p := ⟨w.heap.size, 0, none⟩) (Nat.le_refl _) _).setCell (p := ⟨w.heap.size, 1, none⟩) (Nat.le_refl _) _).setCell (p := ⟨w.heap.size, 2, none⟩) (Nat.le_refl _) _).setCell (p := ⟨w.heap.size, 3, none⟩) (Nat.le_refl _) _⟩
  | true =>
    by_cases ht : Vl.txt k n b s = l
    · have HR : Hid (Vl.parse l = some ⟨k, n, b, s⟩) := HP.out.trans (if_pos ⟨rfl, ht⟩)
      have e9 : (!(bstr (Vl.txt k n b s)).toList == (bstr l).toList) = false := by rw [ByteArray.toList_eq (bstr l), bstr_toList, str_ne]; exact decide_eq_false (fun h => h ht)
      rw [ht] at cs e9
      clear HP f1 f2 f3 f4 ht
      go_enter Try.func19, Try.ntmps19
      go_wp2_with fail
      refine (cr.out _).mono ?_; rintro e w5 ⟨rfl, b5⟩
      have bz5 := bz.keep b5
      have L5 := hid (hnext L0.out b5)
      clear b5 bz L0
      go_wp2_with fail
      have bv6 := BV.new w5 k n b s
      have hba6 := hba w5 (.cells #[.int .i64 k, .int .i64 n, .int .u64 (b : Int), .string s] 24)
      have bz6 := bz5.keep hba6
      have L6 := hid (hnext L5.out hba6)
      have hg6 : w.heap.size < w5.heap.size := bz5.cells.2.2.2.2.2.2.2.2
      refine (cs.out _).mono ?_; rintro e w7 ⟨rfl, b7⟩
      have bz7 := bz6.keep b7
      have bv7 := bv6.keep b7
      have L7 := hid (hnext L6.out b7)
      obtain ⟨z0, z1, z2, z3, zf0, zf1, zf2, zf3, zl⟩ := bz7.cells
      obtain ⟨v0, v1, v2, v3, vf0, vf1, vf2, vf3, vl⟩ := bv7.cells
      clear b7 bz7 bv7 bz6 bv6 hba6 bz5
      go_wp2_with fail
      refine bodyPost_ret (v := .tuple #[.agg #[.int .i64 k, .int .i64 n, .int .u64 (b : Int), .string s], .int .i64 0]) (by simp [results, Try.results19, go_sem, z0, z1, z2, z3]) rfl ?_
      rw [HR.out]
      exact ⟨rfl, (((L7.out.setCell (p := ⟨w.heap.size, 0, none⟩) (Nat.le_refl _) _).setCell (p := ⟨w.heap.size, 1, none⟩) (Nat.le_refl _) _).setCell (p := ⟨w.heap.size, 2, none⟩) (Nat.le_refl _) _).setCell (p := ⟨w.heap.size, 3, none⟩) (Nat.le_refl _) _⟩
    · have HR : Hid (Vl.parse l = none) := HP.out.trans (if_neg (fun h => ht h.2))
      have e9 : (!(bstr (Vl.txt k n b s)).toList == (bstr l).toList) = true := by rw [ByteArray.toList_eq (bstr l), bstr_toList, str_ne]; exact decide_eq_true ht
      generalize Vl.txt k n b s = x at cs e9
      clear HP f1 f2 f3 f4 ht
      go_enter Try.func19, Try.ntmps19
      go_wp2_with fail
      refine (cr.out _).mono ?_; rintro e w5 ⟨rfl, b5⟩
      have bz5 := bz.keep b5
      have L5 := hid (hnext L0.out b5)
      clear b5 bz L0
      go_wp2_with fail
      have bv6 := BV.new w5 k n b s
      have hba6 := hba w5 (.cells #[.int .i64 k, .int .i64 n, .int .u64 (b : Int), .string s] 24)
      have bz6 := bz5.keep hba6
      have L6 := hid (hnext L5.out hba6)
      have hg6 : w.heap.size < w5.heap.size := bz5.cells.2.2.2.2.2.2.2.2
      refine (cs.out _).mono ?_; rintro e w7 ⟨rfl, b7⟩
      have bz7 := bz6.keep b7
      have L7 := hid (hnext L6.out b7)
      obtain ⟨z0, z1, z2, z3, zf0, zf1, zf2, zf3, zl⟩ := bz7.cells
      clear b7 bz7 bz6 bv6 hba6 bz5
      go_wp2_with fail
      refine bodyPost_ret (v := .tuple #[.agg #[.int .i64 0, .int .i64 0, .int .u64 0, .string ⟨#[]⟩], .int .i64 7]) (by simp [results, Try.results19, go_sem, z0, z1, z2, z3]) rfl ?_
      rw [HR.out]
      exact ⟨rfl, (((L7.out.setCell (p := ⟨w.heap.size, 0, none⟩) (Nat.le_refl _) _).setCell (p := ⟨w.heap.size, 1, none⟩) (Nat.le_refl _) _).setCell (p := ⟨w.heap.size, 2, none⟩) (Nat.le_refl _) _).setCell (p := ⟨w.heap.size, 3, none⟩) (Nat.le_refl _) _⟩
end Go.Proofs.Ytgdegoacjobpdaa
