/-
  The reference's guess of a text, plainly: a text that it shows again is read so. No condition.
-/
import Derived.Test.YtgdegoacjobpdaaSr
import Derived.Test.YtgdegoacjobpdaaVp
namespace Go.Proofs.Ytgdegoacjobpdaa
open Go.RowKit

namespace Vl
def gX : List UInt8 → Nat → Nat
  | [], n => n
  | c :: r, n => gX r ((16 * n + digR c) % 18446744073709551616)
def gP : List UInt8 → List UInt8
  | a :: b :: r => UInt8.ofNat (16 * digR a + digR b) :: gP r
  | _ => []
def gQ : List UInt8 → List UInt8
  | c :: d :: r => if c ≠ 92 then c :: gQ (d :: r) else if d ≠ 120 then d :: gQ r else match r with
    | e :: f :: r2 => UInt8.ofNat (16 * digR e + digR f) :: gQ r2
    | r => d :: gQ r
  | _ => []
theorem gQ_byte (r : List UInt8) (c d : UInt8) (h : c ≠ 92) : gQ (c :: d :: r) = c :: gQ (d :: r) := by
  rw [gQ.eq_def]
  show (if c ≠ 92 then _ else _) = _
  rw [if_pos h]
theorem gQ_esc (r : List UInt8) (d : UInt8) (h : d ≠ 120) : gQ (92 :: d :: r) = d :: gQ r := by
  rw [gQ.eq_def]
  show (if d ≠ 120 then _ else _) = _
  rw [if_pos h]
theorem gQ_hex (r : List UInt8) (e f : UInt8) : gQ (92 :: 120 :: e :: f :: r) = UInt8.ofNat (16 * digR e + digR f) :: gQ r := by
  rw [gQ.eq_def]; rfl
theorem gQ_short (r : List UInt8) (h : r.length < 2) : gQ (92 :: 120 :: r) = 120 :: gQ r := by
  match r, h with
  | [], _ => rfl
  | [e], _ => rfl
theorem gQ_end (r : List UInt8) (h : r.length < 2) : gQ r = [] := by
  match r, h with
  | [], _ => rfl
  | [e], _ => rfl
theorem gP_end (r : List UInt8) (h : r.length < 2) : gP r = [] := by
  match r, h with
  | [], _ => rfl
  | [e], _ => rfl
def gW (sign : Int) : List UInt8 → Int → Int
  | [], n => n
  | c :: r, n => gW sign r (IntKind.i64.wrap (IntKind.i64.wrap (10 * n) + sign * (((c.toNat : Int) - 48) % 256)))
/-- the value that a text may be -/
def gs (l : List UInt8) : Cd.V :=
  if l = [110, 117, 108, 108] then V0
  else if l = [116, 114, 117, 101] then ⟨1, 1, 0, ⟨#[]⟩⟩
  else if l = [102, 97, 108, 115, 101] then ⟨1, 0, 0, ⟨#[]⟩⟩
  else match l with
    | [] => V0
    | c :: r => if c = 102 then ⟨3, 0, gX r 0, ⟨#[]⟩⟩
      else if c = 120 then ⟨4, 0, 0, bstr (gP r)⟩
      else if c = 34 then ⟨5, 0, 0, bstr (gQ r)⟩
      else ⟨2, if c = 45 then gW (-1) r 0 else gW 1 (c :: r) 0, 0, ⟨#[]⟩⟩
theorem gs_more {c : UInt8} {r : List UInt8} (h2 : c :: r ≠ [110, 117, 108, 108]) (h3 : c :: r ≠ [102, 97, 108, 115, 101]) (h4 : c :: r ≠ [116, 114, 117, 101]) :
    gs (c :: r) = if c = 102 then ⟨3, 0, gX r 0, ⟨#[]⟩⟩ else if c = 120 then ⟨4, 0, 0, bstr (gP r)⟩ else if c = 34 then ⟨5, 0, 0, bstr (gQ r)⟩ else ⟨2, if c = 45 then gW (-1) r 0 else gW 1 (c :: r) 0, 0, ⟨#[]⟩⟩ := by
  unfold gs
  rw [if_neg h2, if_neg h4, if_neg h3]
theorem digR_of {c : UInt8} {d : Nat} (h : dig c = some d) : digR c = d := by unfold digR; rw [h]
theorem gX_of (l : List UInt8) : ∀ n m : Nat, numX l n = some m → gX l n = m := by
  induction l with
  | nil => intro n m h; cases h; rfl
  | cons c l ih =>
    intro n m h
    cases hd : dig c with
    | none => rw [numX_no hd] at h; cases h
    | some d =>
      rw [numX_next hd] at h
      show gX l ((16 * n + digR c) % 18446744073709551616) = m
      rw [digR_of hd]
      exact ih _ _ h
theorem two_of {a b : UInt8} {n : Nat} (h : numX [a, b] 0 = some n) : 16 * digR a + digR b = n := by
  have h2 := gX_of _ _ _ h
  have e : gX [a, b] 0 = (16 * ((16 * 0 + digR a) % 18446744073709551616) + digR b) % 18446744073709551616 := rfl
  rw [e] at h2
  have h3 := digR_lt a
  have h4 := digR_lt b
  omega
theorem gP_of (m : Nat) : ∀ acc l b : List UInt8, l.length ≤ m → prF acc l = some b → acc ++ gP l = b := by
  induction m with
  | zero =>
    intro acc l b hl h
    have : l = [] := List.length_eq_zero_iff.1 (by omega)
    subst this; cases h; exact List.append_nil _
  | succ m ih =>
    intro acc l b hl h
    match l with
    | [] => cases h; exact List.append_nil _
    | [c] => cases h; exact List.append_nil _
    | a :: c :: r =>
      cases hn : numX [a, c] 0 with
      | none => rw [prF_no hn] at h; cases h
      | some n =>
        rw [prF_next hn] at h
        have := ih _ _ _ (by simp at hl; omega) h
        show acc ++ UInt8.ofNat (16 * digR a + digR c) :: gP r = b
        rw [two_of hn, ← this, List.append_assoc]; rfl
theorem gQ_of (m : Nat) : ∀ acc l b r : List UInt8, l.length ≤ m → unq acc l = some (b, r) → acc ++ gQ l = b := by
  induction m with
  | zero =>
    intro acc l b r hl h
    have : l = [] := List.length_eq_zero_iff.1 (by omega)
    subst this; cases h; exact List.append_nil _
  | succ m ih =>
    intro acc l b r hl h
    match l with
    | [] => cases h; exact List.append_nil _
    | [c] => cases h; exact List.append_nil _
    | c :: d :: t =>
      by_cases hc : c = 92
      · subst hc
        by_cases hd : d = 120
        · subst hd
          match t with
          | [] => cases h
          | [e] => cases h
          | e :: f :: q =>
            cases hn : numX [e, f] 0 with
            | none => rw [unq_bad _ _ _ _ hn] at h; cases h
            | some n =>
              rw [unq_hex _ _ _ _ _ hn] at h
              have := ih _ _ _ _ (by simp at hl; omega) h
              rw [gQ_hex, two_of hn, ← this, List.append_assoc]; rfl
        · rw [unq_esc _ _ _ hd] at h
          have := ih _ _ _ _ (by simp at hl; omega) h
          rw [gQ_esc _ _ hd, ← this, List.append_assoc]; rfl
      · rw [unq_byte _ _ _ _ hc] at h
        have := ih _ _ _ _ (by simp at hl ⊢; omega) h
        rw [gQ_byte _ _ _ hc, ← this, List.append_assoc]; rfl
theorem gW_of (sign : Int) (l : List UInt8) : ∀ n m : Int, whF sign l n = some m → gW sign l n = m := by
  induction l with
  | nil => intro n m h; cases h; rfl
  | cons c l ih =>
    intro n m h
    by_cases hc : c < 48 ∨ 57 < c
    · rw [whF_no hc] at h; cases h
    · rw [whF_next hc] at h
      have h1 : ¬ c.toNat < 48 := fun e => hc (.inl (UInt8.lt_iff_toNat_lt.2 e))
      have h2 : ¬ 57 < c.toNat := fun e => hc (.inr (UInt8.lt_iff_toNat_lt.2 e))
      show gW sign l (IntKind.i64.wrap (IntKind.i64.wrap (10 * n) + sign * (((c.toNat : Int) - 48) % 256))) = m
      rw [show ((c.toNat : Int) - 48) % 256 = (c.toNat : Int) - 48 by omega]
      exact ih _ _ h
theorem gs_rd {l : List UInt8} (h : (rd l).2 = true) : gs l = (rd l).1 := by
  by_cases g0 : l = []
  · subst g0; exact absurd h (by decide)
  by_cases g1 : l = [110, 117, 108, 108]
  · subst g1; rfl
  by_cases g2 : l = [102, 97, 108, 115, 101]
  · subst g2; rfl
  by_cases g3 : l = [116, 114, 117, 101]
  · subst g3; rfl
  match l with
  | [] => exact absurd rfl g0
  | c :: r =>
    rw [rd_more g1 g2 g3] at h ⊢
    rw [gs_more g1 g2 g3]
    by_cases c1 : c = 102
    · rw [if_pos c1] at h ⊢
      rw [if_pos c1]
      cases hn : numX r 0 with
      | none => rw [hn] at h; cases h
      | some n => rw [gX_of _ _ _ hn]
    · rw [if_neg c1] at h ⊢
      rw [if_neg c1]
      by_cases c2 : c = 120
      · rw [if_pos c2] at h ⊢
        rw [if_pos c2]
        unfold pairs at h ⊢
        cases hn : prF [] r with
        | none => rw [hn] at h; cases h
        | some b =>
          have := gP_of r.length [] r b (Nat.le_refl _) hn
          rw [List.nil_append] at this
          rw [this]
      · rw [if_neg c2] at h ⊢
        rw [if_neg c2]
        by_cases c3 : c = 34
        · rw [if_pos c3] at h ⊢
          rw [if_pos c3]
          unfold unquoted at h ⊢
          cases hn : unq [] r with
          | none => rw [hn] at h; cases h
          | some p =>
            have := gQ_of r.length [] r p.1 p.2 (Nat.le_refl _) hn
            rw [List.nil_append] at this
            rw [this]
        · rw [if_neg c3] at h ⊢
          rw [if_neg c3]
          unfold whole at h ⊢
          cases hn : whS (c :: r) with
          | none => rw [hn] at h; cases h
          | some n =>
            have hn : (if c = 45 then whF (-1) r 0 else whF 1 (c :: r) 0) = some n := hn
            by_cases c4 : c = 45
            · have hn2 : whF (-1) r 0 = some n := by rwa [if_pos c4] at hn
              rw [if_pos c4, gW_of _ _ _ _ hn2]
            · have hn2 : whF 1 (c :: r) 0 = some n := by rwa [if_neg c4] at hn
              rw [if_neg c4, gW_of _ _ _ _ hn2]
theorem gX_lt (l : List UInt8) : ∀ n, n < 18446744073709551616 → gX l n < 18446744073709551616 := by
  induction l with
  | nil => intro n h; exact h
  | cons c l ih => intro n h; exact ih _ (Nat.mod_lt _ (by decide))
theorem gW_range (sign : Int) (l : List UInt8) : ∀ n : Int, (-9223372036854775808 ≤ n ∧ n ≤ 9223372036854775807) → -9223372036854775808 ≤ gW sign l n ∧ gW sign l n ≤ 9223372036854775807 := by
  induction l with
  | nil => intro n h; exact h
  | cons c l ih => intro n h; exact ih _ (by rw [IntKind.wrap_i64]; omega)
theorem gP_size (m : Nat) : ∀ l : List UInt8, l.length ≤ m → (gP l).length ≤ l.length := by
  induction m with
  | zero => intro l hl; rw [gP_end l (by omega)]; simp
  | succ m ih =>
    intro l hl
    match l with
    | [] => exact Nat.le_refl _
    | [c] => exact Nat.zero_le _
    | a :: c :: r =>
      have := ih r (by simp at hl; omega)
      show (gP r).length + 1 ≤ r.length + 1 + 1
      omega
theorem gQ_size (m : Nat) : ∀ l : List UInt8, l.length ≤ m → (gQ l).length ≤ l.length := by
  induction m with
  | zero => intro l hl; rw [gQ_end l (by omega)]; simp
  | succ m ih =>
    intro l hl
    match l with
    | [] => exact Nat.le_refl _
    | [c] => exact Nat.zero_le _
    | c :: d :: r =>
      by_cases hc : c = 92
      · subst hc
        by_cases hd : d = 120
        · subst hd
          by_cases h2 : r.length < 2
          · have := ih r (by simp at hl; omega)
            rw [gQ_short _ h2]; simp; omega
          · match r, h2 with
            | [], h2 => exact absurd (show 0 < 2 by decide) h2
            | [e], h2 => exact absurd (show 1 < 2 by decide) h2
            | e :: f :: q, _ =>
              have := ih q (by simp at hl; omega)
              rw [gQ_hex]; simp; omega
        · have := ih r (by simp at hl; omega)
          rw [gQ_esc _ _ hd]; simp; omega
      · have := ih (d :: r) (by simp at hl ⊢; omega)
        rw [gQ_byte _ _ _ hc]; simp at this ⊢; omega
theorem gs_fits (l : List UInt8) (hl : l.length ≤ 1000000) : Fits (gs l) := by
  have h0 : ∀ k : Int, Fits ⟨k, 0, 0, ⟨#[]⟩⟩ := fun k => ⟨⟨by show (-9223372036854775808 : Int) ≤ 0; decide, by show (0 : Int) ≤ _; decide⟩, by show 0 < _; decide, by show 0 ≤ _; decide⟩
  unfold gs
  split
  · exact V0_fits
  · split
    · exact ⟨⟨by decide, by decide⟩, by decide, by decide⟩
    · split
      · exact h0 1
      · split
        · exact V0_fits
        · rename_i c r _ _ _
          have hrl : r.length ≤ 1000000 := by simp at hl; omega
          split
          · exact ⟨⟨by show (-9223372036854775808 : Int) ≤ 0; decide, by show (0 : Int) ≤ _; decide⟩, gX_lt r 0 (by decide), by show 0 ≤ _; decide⟩
          · split
            · exact ⟨⟨by show (-9223372036854775808 : Int) ≤ 0; decide, by show (0 : Int) ≤ _; decide⟩, by show 0 < _; decide, by show (gP r).length ≤ _; have := gP_size r.length r (Nat.le_refl _); omega⟩
            · split
              · exact ⟨⟨by show (-9223372036854775808 : Int) ≤ 0; decide, by show (0 : Int) ≤ _; decide⟩, by show 0 < _; decide, by show (gQ r).length ≤ _; have := gQ_size r.length r (Nat.le_refl _); omega⟩
              · refine ⟨?_, by show 0 < _; decide, by show 0 ≤ _; decide⟩
                show _ ≤ (if c = 45 then gW (-1) r 0 else gW 1 (c :: r) 0) ∧ (if c = 45 then gW (-1) r 0 else gW 1 (c :: r) 0) ≤ _
                split
                · exact gW_range _ _ 0 ⟨by decide, by decide⟩
                · exact gW_range _ _ 0 ⟨by decide, by decide⟩
/-- a text's value, as the document says -/
def parG (l : List UInt8) : Option Cd.V := if txt (gs l).k (gs l).n (gs l).b (gs l).s = l then some (gs l) else none
theorem parG_eq {l : List UInt8} (h0 : l ≠ []) (hl : l.length ≤ 1000000) : parG l = parse l := by
  obtain ⟨⟨f0, f1⟩, f2, _⟩ := gs_fits l hl
  unfold parG
  split
  · rename_i h
    have hr : Va.right (gs l).k (gs l).n (gs l).b (gs l).s = true := by
      cases hr : Va.right (gs l).k (gs l).n (gs l).b (gs l).s with
      | true => rfl
      | false => rw [txt_odd hr] at h; exact absurd h.symm h0
    have := parse_txt hr f0 f1 f2
    rw [h] at this
    exact this.symm
  · rename_i h
    unfold parse
    rw [if_neg]
    rintro ⟨h1, h2⟩
    rw [← gs_rd h1] at h2
    exact h h2
end Vl
end Go.Proofs.Ytgdegoacjobpdaa
