/-
  'known' of the statements of the conditions answers true. No condition.
-/
import Derived.Test.YtfdehigepgeknaaPv
import Derived.Test.YtfdehigepgeknaaPw
import Derived.Test.YtfdehigepgeknaaPs
import Derived.Test.YtfdehigepgeknaaPr
import Derived.Test.YtfdehigepgeknaaPh
namespace Go.Proofs.Ytfdehigepgeknaa
open Go.RowKit Pd

namespace Pd
theorem ser_inj (t : T) : ∀ (t' : T) (r r' : List N), t.ok → t'.ok → t.ser ++ r = t'.ser ++ r' → t = t' ∧ r = r' := by
  induction t with
  | leaf x =>
    intro t' r r' h h' e
    cases t' with
    | leaf y => have := List.cons.inj e; exact ⟨by rw [this.1], this.2⟩
    | not y t => exact absurd h.2 (by have := (List.cons.inj e).1; rw [this, h'.1]; decide)
    | bin y a b => exact absurd h.2 (by have := (List.cons.inj e).1; rw [this]; rcases h'.1 with g | g <;> rw [g] <;> decide)
  | not x t ih =>
    intro t' r r' h h' e
    cases t' with
    | leaf y => exact absurd h'.2 (by have := (List.cons.inj e).1; rw [← this, h.1]; decide)
    | not y t' =>
      have e2 := List.cons.inj e
      obtain ⟨h1, h2⟩ := ih t' r r' h.2 h'.2 e2.2
      exact ⟨by rw [e2.1, h1], h2⟩
    | bin y a b => exact absurd h.1 (by have := (List.cons.inj e).1; rw [this]; rcases h'.1 with g | g <;> rw [g] <;> decide)
  | bin x a b iha ihb =>
    intro t' r r' h h' e
    cases t' with
    | leaf y => exact absurd h'.2 (by have := (List.cons.inj e).1; rw [← this]; rcases h.1 with g | g <;> rw [g] <;> decide)
    | not y t => exact absurd h'.1 (by have := (List.cons.inj e).1; rw [← this]; rcases h.1 with g | g <;> rw [g] <;> decide)
    | bin y a' b' =>
      have e2 := List.cons.inj e
      have e3 : a.ser ++ (b.ser ++ r) = a'.ser ++ (b'.ser ++ r') := by rw [← List.append_assoc, ← List.append_assoc]; exact e2.2
      obtain ⟨h1, h2⟩ := iha a' _ _ h.2.1 h'.2.1 e3
      obtain ⟨h3, h4⟩ := ihb b' _ _ h.2.2 h'.2.2 h2
      exact ⟨by rw [e2.1, h1, h3], h4⟩
theorem ser_eq {t t' : T} (h : t.ok) (h' : t'.ok) (e : t.ser = t'.ser) : t = t' := (ser_inj t t' [] [] h h' (by rw [e])).1
end Pd
theorem NsAt.take {w : World} {adr : Option Addr} {n cap : Nat} {l : List N} (h : NsAt w (.slice adr n cap) l) (m : Nat) (hm : m ≤ l.length) (cap' : Nat) : NsAt w (.slice adr m cap') (l.take m) := by
  obtain ⟨adr', cap'', e, hc⟩ := h
  cases e
  refine ⟨adr, cap', by rw [List.length_take, Nat.min_eq_left hm], fun k hk => ?_⟩
  have hk' : k < l.length := by rw [List.length_take] at hk; omega
  have hg : (l.take m)[k] = l[k] := List.getElem_take ..
  rw [hg]
  exact hc k hk'
theorem NsAt.drop {w : World} {g off n cap : Nat} {l : List N} (h : NsAt w (.slice (some ⟨g, off, none⟩) n cap) l) (j : Nat) (cap' : Nat) : NsAt w (.slice (some ⟨g, off + j * 6, none⟩) (l.length - j) cap') (l.drop j) := by
  obtain ⟨adr', cap'', e, hc⟩ := h
  cases e
  refine ⟨_, cap', by rw [List.length_drop], fun k hk => ?_⟩
  have hk' : j + k < l.length := by rw [List.length_drop] at hk; omega
  have hg : (l.drop j)[k] = l[j + k] := List.getElem_drop ..
  rw [hg]
  obtain ⟨g', off', e, q⟩ := hc (j + k) hk'
  cases e
  refine ⟨g, off + j * 6, rfl, ?_⟩
  rw [show off + j * 6 + k * 6 = off + (j + k) * 6 by omega]
  exact q
def KC : List Sc.C := [⟨⟨#[97]⟩, 2, true⟩, ⟨⟨#[98]⟩, 2, false⟩]
def KS : Sc.S := ⟨⟨#[116]⟩, KC, 1⟩
def KL : List N := [⟨11, 0, nul⟩, ⟨9, 0, nul⟩, ⟨3, 0, ⟨2, 5, 0, ⟨#[]⟩⟩⟩, ⟨7, 1, nul⟩]
def KT : T := .not ⟨11, 0, nul⟩ (.bin ⟨9, 0, nul⟩ (.leaf ⟨3, 0, ⟨2, 5, 0, ⟨#[]⟩⟩⟩) (.leaf ⟨7, 1, nul⟩))
def KP : List N := [⟨10, 0, nul⟩, ⟨6, 0, ⟨2, 5, 0, ⟨#[]⟩⟩⟩, ⟨8, 1, nul⟩]
def KQ : T := .bin ⟨10, 0, nul⟩ (.leaf ⟨6, 0, ⟨2, 5, 0, ⟨#[]⟩⟩⟩) (.leaf ⟨8, 1, nul⟩)
def KR : List Cd.V := [⟨2, 4, 0, ⟨#[]⟩⟩, nul]
def K1 : List N := [⟨1, 1, ⟨2, 1, 0, ⟨#[]⟩⟩⟩]
theorem KT_ok : KT.ok := ⟨rfl, .inl rfl, ⟨by decide, by decide⟩, ⟨by decide, by decide⟩⟩
theorem KQ_ok : KQ.ok := ⟨.inr rfl, ⟨by decide, by decide⟩, ⟨by decide, by decide⟩⟩
theorem KL_whole : whole KL = true := by decide +kernel
theorem KP_whole : whole KP = true := by decide +kernel
theorem k_push {p : List N} (h : pushL KL p) : p = KP := by
  rcases h with ⟨h, _⟩ | ⟨t, ht, hl, _, rfl⟩
  · rw [KL_whole] at h; cases h
  · have := ser_eq ht KT_ok (show t.ser = KT.ser from hl.symm)
    subst this; rfl
theorem k_show {z : List UInt8} (h : txtL KL z) : z = [126, 40, 99, 48, 60, 53, 38, 99, 49, 63, 41] := by
  rcases h with ⟨h, _⟩ | ⟨t, ht, hl, _, rfl⟩
  · rw [KL_whole] at h; cases h
  · have := ser_eq ht KT_ok (show t.ser = KT.ser from hl.symm)
    subst this; decide +kernel
theorem k_showp {z : List UInt8} (h : txtL KP z) : z = [40, 99, 48, 62, 61, 53, 124, 99, 49, 33, 41] := by
  rcases h with ⟨h, _⟩ | ⟨t, ht, hl, _, rfl⟩
  · rw [KP_whole] at h; cases h
  · have := ser_eq ht KQ_ok (show t.ser = KQ.ser from hl.symm)
    subst this; decide +kernel
theorem k_right : rightL KC KL = true := by decide +kernel
theorem k_right3 : rightL KC (KL.take 3) = false := by decide +kernel
theorem k_end1 : endI KL 1 = 4 := by decide +kernel
theorem k_end4 : endI KL 4 = -1 := by decide +kernel
theorem k_eval : evalI KL KR = 0 := by decide +kernel
theorem k_eval1 : evalI ((KL.take 3).drop 2) KR = 1 := by decide +kernel
theorem k_evalp : evalI KP KR = 0 := by decide +kernel
theorem k_evalx : evalI K1 KR = -1 := by decide +kernel
theorem k_same : decide (KL = KL) = true := decide_eq_true rfl
theorem k_differ : decide (KL = KP) = false := by decide +kernel
theorem k_nok : ∀ x ∈ KL, Nok x := by
  intro x hx
  have : x = ⟨11, 0, nul⟩ ∨ x = ⟨9, 0, nul⟩ ∨ x = ⟨3, 0, ⟨2, 5, 0, ⟨#[]⟩⟩⟩ ∨ x = ⟨7, 1, nul⟩ := by simpa [KL] using hx
  rcases this with rfl | rfl | rfl | rfl <;> exact ⟨⟨by decide, by decide⟩, ⟨by decide, by decide⟩, ⟨by decide, by decide⟩, by decide, by decide⟩
theorem k_nokp : ∀ x ∈ KP, Nok x := by
  intro x hx
  have : x = ⟨10, 0, nul⟩ ∨ x = ⟨6, 0, ⟨2, 5, 0, ⟨#[]⟩⟩⟩ ∨ x = ⟨8, 1, nul⟩ := by simpa [KP] using hx
  rcases this with rfl | rfl | rfl <;> exact ⟨⟨by decide, by decide⟩, ⟨by decide, by decide⟩, ⟨by decide, by decide⟩, by decide, by decide⟩
theorem k_siz {l : List N} (h : ∀ x ∈ l, Nok x) : ∀ x ∈ l, x.v.s.size ≤ maxLen := fun x hx => (h x hx).2.2.2.2
theorem k_nok1 : ∀ x ∈ K1, Nok x := by
  intro x hx
  have : x = ⟨1, 1, ⟨2, 1, 0, ⟨#[]⟩⟩⟩ := by simpa [K1] using hx
  rcases this with rfl
  exact ⟨⟨by decide, by decide⟩, ⟨by decide, by decide⟩, ⟨by decide, by decide⟩, by decide, by decide⟩
theorem k_rok : ∀ x ∈ KR, x.s.size ≤ maxLen := by
  intro x hx
  have : x = ⟨2, 4, 0, ⟨#[]⟩⟩ ∨ x = nul := by simpa [KR] using hx
  rcases this with rfl | rfl <;> decide
theorem cols_new (w : World) : CsAt (w.alloc (.cells #[.string ⟨#[97]⟩, .int .i64 2, .bool true, .string ⟨#[98]⟩, .int .i64 2, .bool false] 53)) (.slice (some ⟨w.heap.size, 0, none⟩) 2 2) KC := by
  have h := heap_alloc_new w (.cells #[.string ⟨#[97]⟩, .int .i64 2, .bool true, .string ⟨#[98]⟩, .int .i64 2, .bool false] 53)
  refine ⟨_, 2, rfl, by decide, by decide, fun k hk => ⟨w.heap.size, 0, rfl, ?_⟩⟩
  have hk' : k = 0 ∨ k = 1 := by have : k < 2 := hk; omega
  rcases hk' with rfl | rfl
  · exact ⟨cell_of_row _ _ 0 _ _ _ h, cell_of_row _ _ 1 _ _ _ h, cell_of_row _ _ 2 _ _ _ h⟩
  · exact ⟨cell_of_row _ _ 3 _ _ _ h, cell_of_row _ _ 4 _ _ _ h, cell_of_row _ _ 5 _ _ _ h⟩
theorem nodes_new (w : World) : NsAt (w.alloc (.cells #[.int .i64 11, .int .i64 0, .int .i64 0, .int .i64 0, .int .u64 0, .string ⟨#[]⟩, .int .i64 9, .int .i64 0, .int .i64 0, .int .i64 0, .int .u64 0, .string ⟨#[]⟩, .int .i64 3, .int .i64 0, .int .i64 2, .int .i64 5, .int .u64 0, .string ⟨#[]⟩, .int .i64 7, .int .i64 1, .int .i64 0, .int .i64 0, .int .u64 0, .string ⟨#[]⟩] 41)) (.slice (some ⟨w.heap.size, 0, none⟩) 4 4) KL := NsAt.row (l := KL) (heap_alloc_new w _) rfl
theorem node_new (w : World) : NsAt (w.alloc (.cells #[.int .i64 1, .int .i64 1, .int .i64 2, .int .i64 1, .int .u64 0, .string ⟨#[]⟩] 41)) (.slice (some ⟨w.heap.size, 0, none⟩) 1 1) K1 := NsAt.row (l := K1) (heap_alloc_new w _) rfl
theorem row_new (w : World) : VsAt (w.alloc (.cells #[.int .i64 2, .int .i64 4, .int .u64 0, .string ⟨#[]⟩, .int .i64 0, .int .i64 0, .int .u64 0, .string ⟨#[]⟩] 39)) (.slice (some ⟨w.heap.size, 0, none⟩) 2 2) KR := VsAt.own (BR.own (l := KR) (B := 0) (heap_alloc_new w _ : BR _ _ KR) (Nat.zero_le _) (by decide))
set_option maxRecDepth 100000 in
set_option maxHeartbeats 12800000 in
theorem known_any (w : World) : Calls Try.prog 10 #[] w fun e w' => e = .returned (.bool true) ∧ Below w.heap.size w w' := by
  have o5 := hid (fun W => one_any 5 W)
  have o4 := hid (fun W => one_any 4 W)
  have o1 := hid (fun W => one_any 1 W)
  unfold vv at o5 o4 o1
  go_enter Try.func10, Try.ntmps10
  go_wp2_with fail
  have C1 := hid ((cols_new w).below (hba _ (.cells #[.string ⟨#[116]⟩, .slice (some ⟨w.heap.size, 0, none⟩) 2 2, .int .i64 1] 25)))
  have S1 := heap_alloc_new (w.alloc (.cells #[.string ⟨#[97]⟩, .int .i64 2, .bool true, .string ⟨#[98]⟩, .int .i64 2, .bool false] 53)) (.cells #[.string ⟨#[116]⟩, .slice (some ⟨w.heap.size, 0, none⟩) 2 2, .int .i64 1] 25)
  rw [show (w.alloc (.cells #[.string ⟨#[97]⟩, .int .i64 2, .bool true, .string ⟨#[98]⟩, .int .i64 2, .bool false] 53)).heap.size = w.heap.size + 1 by simp] at S1
  have L1 := hid (hnext (hba w (.cells #[.string ⟨#[97]⟩, .int .i64 2, .bool true, .string ⟨#[98]⟩, .int .i64 2, .bool false] 53)) (hba _ (.cells #[.string ⟨#[116]⟩, .slice (some ⟨w.heap.size, 0, none⟩) 2 2, .int .i64 1] 25)))
  have S1h := hid S1
  clear S1
  obtain ⟨w1, hw1⟩ : ∃ w1, ((w.alloc (.cells #[.string ⟨#[97]⟩, .int .i64 2, .bool true, .string ⟨#[98]⟩, .int .i64 2, .bool false] 53)).alloc (.cells #[.string ⟨#[116]⟩, .slice (some ⟨w.heap.size, 0, none⟩) 2 2, .int .i64 1] 25)) = w1 := ⟨_, rfl⟩
  rw [hw1] at C1 S1h L1 ⊢
  clear hw1
  refine (o5.out _).mono ?_; rintro e w2 ⟨rfl, b2⟩
  have C2 := hid (C1.out.below b2)
  have S2 := hid (keepBlock S1h.out b2)
  have L2 := hid (hnext L1.out b2)
  clear b2 C1 S1h L1 o5
  go_wp2_with fail
  have N3 := hid (nodes_new w2)
  have C3 := hid (C2.out.below (hba w2 (.cells #[.int .i64 11, .int .i64 0, .int .i64 0, .int .i64 0, .int .u64 0, .string ⟨#[]⟩, .int .i64 9, .int .i64 0, .int .i64 0, .int .i64 0, .int .u64 0, .string ⟨#[]⟩, .int .i64 3, .int .i64 0, .int .i64 2, .int .i64 5, .int .u64 0, .string ⟨#[]⟩, .int .i64 7, .int .i64 1, .int .i64 0, .int .i64 0, .int .u64 0, .string ⟨#[]⟩] 41)))
  have S3 := hid (keepBlock S2.out (hba w2 (.cells #[.int .i64 11, .int .i64 0, .int .i64 0, .int .i64 0, .int .u64 0, .string ⟨#[]⟩, .int .i64 9, .int .i64 0, .int .i64 0, .int .i64 0, .int .u64 0, .string ⟨#[]⟩, .int .i64 3, .int .i64 0, .int .i64 2, .int .i64 5, .int .u64 0, .string ⟨#[]⟩, .int .i64 7, .int .i64 1, .int .i64 0, .int .i64 0, .int .u64 0, .string ⟨#[]⟩] 41)))
  have L3 := hid (hnext L2.out (hba w2 (.cells #[.int .i64 11, .int .i64 0, .int .i64 0, .int .i64 0, .int .u64 0, .string ⟨#[]⟩, .int .i64 9, .int .i64 0, .int .i64 0, .int .i64 0, .int .u64 0, .string ⟨#[]⟩, .int .i64 3, .int .i64 0, .int .i64 2, .int .i64 5, .int .u64 0, .string ⟨#[]⟩, .int .i64 7, .int .i64 1, .int .i64 0, .int .i64 0, .int .u64 0, .string ⟨#[]⟩] 41)))
  obtain ⟨gn, hgn⟩ : ∃ g, w2.heap.size = g := ⟨_, rfl⟩
  obtain ⟨w3, hw3⟩ : ∃ w3, w2.alloc (.cells #[.int .i64 11, .int .i64 0, .int .i64 0, .int .i64 0, .int .u64 0, .string ⟨#[]⟩, .int .i64 9, .int .i64 0, .int .i64 0, .int .i64 0, .int .u64 0, .string ⟨#[]⟩, .int .i64 3, .int .i64 0, .int .i64 2, .int .i64 5, .int .u64 0, .string ⟨#[]⟩, .int .i64 7, .int .i64 1, .int .i64 0, .int .i64 0, .int .u64 0, .string ⟨#[]⟩] 41) = w3 := ⟨_, rfl⟩
  rw [hgn, hw3] at N3
  rw [hw3] at C3 S3 L3 ⊢
  rw [hgn]
  clear hw3 hgn C2 S2 L2
  refine (o4.out _).mono ?_; rintro e w4 ⟨rfl, b4⟩
  have N4 := hid (N3.out.below b4)
  have C4 := hid (C3.out.below b4)
  have S4 := hid (keepBlock S3.out b4)
  have L4 := hid (hnext L3.out b4)
  clear b4 N3 C3 S3 L3 o4
  go_wp2_with fail
  have R5 := hid (row_new w4)
  have N5 := hid (N4.out.below (hba w4 (.cells #[.int .i64 2, .int .i64 4, .int .u64 0, .string ⟨#[]⟩, .int .i64 0, .int .i64 0, .int .u64 0, .string ⟨#[]⟩] 39)))
  have C5 := hid (C4.out.below (hba w4 (.cells #[.int .i64 2, .int .i64 4, .int .u64 0, .string ⟨#[]⟩, .int .i64 0, .int .i64 0, .int .u64 0, .string ⟨#[]⟩] 39)))
  have S5 := hid (keepBlock S4.out (hba w4 (.cells #[.int .i64 2, .int .i64 4, .int .u64 0, .string ⟨#[]⟩, .int .i64 0, .int .i64 0, .int .u64 0, .string ⟨#[]⟩] 39)))
  have L5 := hid (hnext L4.out (hba w4 (.cells #[.int .i64 2, .int .i64 4, .int .u64 0, .string ⟨#[]⟩, .int .i64 0, .int .i64 0, .int .u64 0, .string ⟨#[]⟩] 39)))
  obtain ⟨gr, hgr⟩ : ∃ g, w4.heap.size = g := ⟨_, rfl⟩
  obtain ⟨w5, hw5⟩ : ∃ w5, w4.alloc (.cells #[.int .i64 2, .int .i64 4, .int .u64 0, .string ⟨#[]⟩, .int .i64 0, .int .i64 0, .int .u64 0, .string ⟨#[]⟩] 39) = w5 := ⟨_, rfl⟩
  rw [hgr, hw5] at R5
  rw [hw5] at N5 C5 S5 L5 ⊢
  rw [hgr]
  clear hw5 hgr N4 C4 S4 L4
  refine (push_any _ KL _ N5.out (by decide)).mono ?_; rintro e w6 ⟨v6, p6, rfl, own6, hp6, b6⟩
  obtain rfl := k_push hp6
  have P6 := hid (NsAt.own own6)
  have R6 := hid (R5.out.below b6)
  have N6 := hid (N5.out.below b6)
  have C6 := hid (C5.out.below b6)
  have S6 := hid (keepBlock S5.out b6)
  have L6 := hid (hnext L5.out b6)
  clear b6 R5 N5 C5 S5 L5 own6 hp6
  go_wp2_with fail
  refine (o1.out _).mono ?_; rintro e w7 ⟨rfl, b7⟩
  have P7 := hid (P6.out.below b7)
  have R7 := hid (R6.out.below b7)
  have N7 := hid (N6.out.below b7)
  have C7 := hid (C6.out.below b7)
  have S7 := hid (keepBlock S6.out b7)
  have L7 := hid (hnext L6.out b7)
  clear b7 P6 R6 N6 C6 S6 L6 o1
  go_wp2_with fail
  have X8 := hid (node_new w7)
  have P8 := hid (P7.out.below (hba w7 (.cells #[.int .i64 1, .int .i64 1, .int .i64 2, .int .i64 1, .int .u64 0, .string ⟨#[]⟩] 41)))
  have R8 := hid (R7.out.below (hba w7 (.cells #[.int .i64 1, .int .i64 1, .int .i64 2, .int .i64 1, .int .u64 0, .string ⟨#[]⟩] 41)))
  have N8 := hid (N7.out.below (hba w7 (.cells #[.int .i64 1, .int .i64 1, .int .i64 2, .int .i64 1, .int .u64 0, .string ⟨#[]⟩] 41)))
  have C8 := hid (C7.out.below (hba w7 (.cells #[.int .i64 1, .int .i64 1, .int .i64 2, .int .i64 1, .int .u64 0, .string ⟨#[]⟩] 41)))
  have S8 := hid (keepBlock S7.out (hba w7 (.cells #[.int .i64 1, .int .i64 1, .int .i64 2, .int .i64 1, .int .u64 0, .string ⟨#[]⟩] 41)))
  have L8 := hid (hnext L7.out (hba w7 (.cells #[.int .i64 1, .int .i64 1, .int .i64 2, .int .i64 1, .int .u64 0, .string ⟨#[]⟩] 41)))
  clear P7 R7 N7 C7 S7 L7
  have ce := eval_any _ _ K1 KR _ X8.out R8.out (by decide) (k_siz k_nok1) k_rok
  rw [k_evalx] at ce
  refine ce.mono ?_; rintro e w9 ⟨rfl, b9⟩
  have P := hid (P8.out.below b9)
  have R := hid (R8.out.below b9)
  have Nn := hid (N8.out.below b9)
  have C := hid (C8.out.below b9)
  have SS := hid (keepBlock S8.out b9)
  have L := hid (hnext L8.out b9)
  clear b9 P8 R8 N8 C8 S8 L8 X8 ce
  obtain ⟨pa, pc, e6⟩ := P.out.slc
  rw [show KP.length = 3 from rfl] at e6
  subst e6
  obtain ⟨gs, hgs⟩ : ∃ g, w.heap.size + 1 = g := ⟨_, rfl⟩
  obtain ⟨gc, hgc⟩ : ∃ g, w.heap.size = g := ⟨_, rfl⟩
  rw [hgs, hgc] at SS
  rw [hgc] at C
  rw [hgs]
  have s0 := cell_of_row w9 gs 0 _ _ _ SS.out
  have s1 := cell_of_row w9 gs 1 _ _ _ SS.out
  have s2 := cell_of_row w9 gs 2 _ _ _ SS.out
  simp only [List.getElem?_toArray, List.getElem?_cons_zero, List.getElem?_cons_succ] at s0 s1 s2
  have q1 : ((bstr [126, 40, 99, 48, 60, 53, 38, 99, 49, 63, 41]).toList == [126, 40, 99, 48, 60, 53, 38, 99, 49, 63, 41]) = true := by rw [str_beq]; decide
  have q2 : ((bstr [40, 99, 48, 62, 61, 53, 124, 99, 49, 33, 41]).toList == [40, 99, 48, 62, 61, 53, 124, 99, 49, 33, 41]) = true := by rw [str_beq]; decide
  clear hgs
  go_wp2_with fail
  obtain ⟨w20, hw20⟩ : ∃ w20, (w9).drew = w20 := ⟨_, rfl⟩
  have hd20 : Below (w9).heap.size (w9) w20 := hw20 ▸ (Below.refl _ _).drew
  have mk20 : ∀ W, Below w20.heap.size w20 W → Below w20.heap.size w20 W ∧ W.cell? ⟨gs, 0, none⟩ = some (.string ⟨#[116]⟩) ∧ W.cell? ⟨gs, 1, none⟩ = some (.slice (some ⟨gc, 0, none⟩) 2 2) ∧ W.cell? ⟨gs, 2, none⟩ = some (.int .i64 1) := fun W h => ⟨h, hkeep (hkeep s0 hd20) h, hkeep (hkeep s1 hd20) h, hkeep (hkeep s2 hd20) h⟩
  clear s0 s1 s2
  refine wp_region_held_drew (S := (fun W => Below w20.heap.size w20 W ∧ W.cell? ⟨gs, 0, none⟩ = some (.string ⟨#[116]⟩) ∧ W.cell? ⟨gs, 1, none⟩ = some (.slice (some ⟨gc, 0, none⟩) 2 2) ∧ W.cell? ⟨gs, 2, none⟩ = some (.int .i64 1))) (by kernel_rfl) (by rw [hw20]; exact mk20 _ (Below.refl _ _)) (fun hS20 => ?_)
  rw [hw20] at hS20 ⊢
  clear hw20
  refine wpAnyH_take (i := 0) (oi := ({ dst := some 26, op := Op.move (Operand.tmp 2), type := 22, pos := "law.go:29", after := #[], guard := none } : Oper)) (v := ?_) rfl (by kernel_rfl) (by kernel_rfl) (by kernel_rfl) (fun _ _ _ h => h) (Or.inl ⟨by rfl, ?_⟩) hS20 ?_
  rotate_left
  · intro w hSw; (try dsimp only at hSw); go_simp; (try with_reducible rfl)
  simp only [Act.put, List.setIfInBounds_toArray, List.set_cons_zero, List.set_cons_succ]
  refine wpAnyH_take (i := 1) (oi := ({ dst := some 27, op := Op.load 25 (Operand.tmp 1), type := 25, pos := "law.go:29", after := #[], guard := none } : Oper)) (v := ?_) rfl (by kernel_rfl) (by kernel_rfl) (by kernel_rfl) (fun _ _ _ h => h) (Or.inl ⟨by rfl, ?_⟩) hS20 ?_
  rotate_left
  · intro w hSw; (try dsimp only at hSw); go_simp; (try with_reducible rfl)
  simp only [Act.put, List.setIfInBounds_toArray, List.set_cons_zero, List.set_cons_succ]
  refine wpAnyH_ready (rs := [2]) (by kernel_rfl) (by simp) ?_
  refine AllReadyH.cons (o := ({ dst := some 28, op := Op.call { callee := Callee.value (Operand.func 11), args := #[Operand.tmp 26, Operand.tmp 27], argTypes := #[22, 25] }, type := 4, pos := "law.go:29", after := #[{ on := 0, ground := Ground.data }, { on := 1, ground := Ground.data }], guard := none } : Oper)) rfl (fun K hK => ?_) AllReadyH.nil
  go_simp
  refine ((by have h := pright_any _ KL KS _ _ (Nn.out.below (hnext hd20 hS20.1)) (C.out.below (hnext hd20 hS20.1)) (by decide) (k_siz k_nok); rw [show KS.cols = KC from rfl, k_right] at h; exact h : Calls Try.prog 11 #[.slice (some ⟨gn, 0, none⟩) 4 4, sv KS (.slice (some ⟨gc, 0, none⟩) 2 2)] _ _)).mono ?_; rintro e w21 ⟨rfl, hb21⟩
  go_wp2_with fail
  refine hK.out _ _ (mk20 _ (hnext hS20.1 hb21)) (fun hS21 => ?_)
  clear hK K
  (try simp only [Act.put, List.setIfInBounds_toArray, List.set_cons_zero, List.set_cons_succ])
  clear hb21 hS20
  refine wpAnyH_take (i := 3) (oi := ({ dst := some 29, op := Op.move (Operand.tmp 28), type := 4, pos := "law.go:29", after := #[{ on := 2, ground := Ground.data }, { on := 2, ground := Ground.chain }], guard := none } : Oper)) (v := ?_) rfl (by kernel_rfl) (by kernel_rfl) (by kernel_rfl) (fun _ _ _ h => h) (Or.inl ⟨by rfl, ?_⟩) hS21 ?_
  rotate_left
  · intro w hSw; (try dsimp only at hSw); go_simp; (try with_reducible rfl)
  simp only [Act.put, List.setIfInBounds_toArray, List.set_cons_zero, List.set_cons_succ]
  refine wpAnyH_take (i := 4) (oi := ({ dst := some 30, op := Op.move (Operand.tmp 2), type := 22, pos := "law.go:29", after := #[{ on := 3, ground := Ground.guard }], guard := some (3, true) } : Oper)) (v := ?_) rfl (by kernel_rfl) (by kernel_rfl) (by kernel_rfl) (fun _ _ _ h => h) (Or.inl ⟨by rfl, ?_⟩) hS21 ?_
  rotate_left
  · intro w hSw; (try dsimp only at hSw); go_simp; (try with_reducible rfl)
  simp only [Act.put, List.setIfInBounds_toArray, List.set_cons_zero, List.set_cons_succ]
  refine wpAnyH_take (i := 5) (oi := ({ dst := some 31, op := Op.slice 22 (Operand.tmp 30) none (some (Operand.const (Value.int IntKind.i64 3))) none, type := 22, pos := "law.go:29", after := #[{ on := 4, ground := Ground.data }, { on := 3, ground := Ground.guard }], guard := some (3, true) } : Oper)) (v := ?_) rfl (by kernel_rfl) (by kernel_rfl) (by kernel_rfl) (fun _ _ _ h => h) (Or.inl ⟨by rfl, ?_⟩) hS21 ?_
  rotate_left
  · intro w hSw; (try dsimp only at hSw); go_simp; (try with_reducible rfl)
  simp only [Act.put, List.setIfInBounds_toArray, List.set_cons_zero, List.set_cons_succ]
  refine wpAnyH_take (i := 6) (oi := ({ dst := some 32, op := Op.load 25 (Operand.tmp 1), type := 25, pos := "law.go:29", after := #[{ on := 3, ground := Ground.guard }], guard := some (3, true) } : Oper)) (v := ?_) rfl (by kernel_rfl) (by kernel_rfl) (by kernel_rfl) (fun _ _ _ h => h) (Or.inl ⟨by rfl, ?_⟩) hS21 ?_
  rotate_left
  · intro w hSw; (try dsimp only at hSw); go_simp; (try with_reducible rfl)
  simp only [Act.put, List.setIfInBounds_toArray, List.set_cons_zero, List.set_cons_succ]
  refine wpAnyH_ready (rs := [7]) (by kernel_rfl) (by simp) ?_
  refine AllReadyH.cons (o := ({ dst := some 33, op := Op.call { callee := Callee.value (Operand.func 11), args := #[Operand.tmp 31, Operand.tmp 32], argTypes := #[22, 25] }, type := 4, pos := "law.go:29", after := #[{ on := 5, ground := Ground.data }, { on := 6, ground := Ground.data }, { on := 3, ground := Ground.chain }, { on := 3, ground := Ground.guard }], guard := some (3, true) } : Oper)) rfl (fun K hK => ?_) AllReadyH.nil
  go_simp
  refine ((by have h := pright_any _ (KL.take 3) KS _ _ ((Nn.out.below (hnext hd20 hS21.1)).take 3 (by decide) 4) (C.out.below (hnext hd20 hS21.1)) (by decide) (fun x hx => k_siz k_nok x (List.mem_of_mem_take hx)); rw [show KS.cols = KC from rfl, k_right3] at h; exact h : Calls Try.prog 11 #[.slice (some ⟨gn, 0, none⟩) 3 4, sv KS (.slice (some ⟨gc, 0, none⟩) 2 2)] _ _)).mono ?_; rintro e w22 ⟨rfl, hb22⟩
  go_wp2_with fail
  refine hK.out _ _ (mk20 _ (hnext hS21.1 hb22)) (fun hS22 => ?_)
  clear hK K
  (try simp only [Act.put, List.setIfInBounds_toArray, List.set_cons_zero, List.set_cons_succ])
  clear hb22 hS21
  refine wpAnyH_take (i := 8) (oi := ({ dst := some 34, op := Op.unOp UnOp.not 4 (Operand.tmp 33), type := 4, pos := "law.go:29", after := #[{ on := 7, ground := Ground.data }, { on := 3, ground := Ground.guard }], guard := some (3, true) } : Oper)) (v := ?_) rfl (by kernel_rfl) (by kernel_rfl) (by kernel_rfl) (fun _ _ _ h => h) (Or.inl ⟨by rfl, ?_⟩) hS22 ?_
  rotate_left
  · intro w hSw; (try dsimp only at hSw); go_simp; (try with_reducible rfl)
  simp only [Act.put, List.setIfInBounds_toArray, List.set_cons_zero, List.set_cons_succ]
  refine wpAnyH_take (i := 9) (oi := ({ dst := some 35, op := Op.pick (Operand.tmp 29) (Operand.tmp 34) (Operand.const (Value.bool false)), type := 4, pos := "law.go:29", after := #[{ on := 3, ground := Ground.data }, { on := 8, ground := Ground.data }], guard := none } : Oper)) (v := ?_) rfl (by kernel_rfl) (by kernel_rfl) (by kernel_rfl) (fun _ _ _ h => h) (Or.inl ⟨by rfl, ?_⟩) hS22 ?_
  rotate_left
  · intro w hSw; (try dsimp only at hSw); go_simp; (try with_reducible rfl)
  simp only [Act.put, List.setIfInBounds_toArray, List.set_cons_zero, List.set_cons_succ]
  refine wpAnyH_take (i := 10) (oi := ({ dst := some 36, op := Op.move (Operand.tmp 35), type := 4, pos := "law.go:29", after := #[{ on := 9, ground := Ground.data }, { on := 7, ground := Ground.chain }], guard := none } : Oper)) (v := ?_) rfl (by kernel_rfl) (by kernel_rfl) (by kernel_rfl) (fun _ _ _ h => h) (Or.inl ⟨by rfl, ?_⟩) hS22 ?_
  rotate_left
  · intro w hSw; (try dsimp only at hSw); go_simp; (try with_reducible rfl)
  simp only [Act.put, List.setIfInBounds_toArray, List.set_cons_zero, List.set_cons_succ]
  refine wpAnyH_take (i := 11) (oi := ({ dst := some 37, op := Op.move (Operand.tmp 2), type := 22, pos := "law.go:29", after := #[{ on := 10, ground := Ground.guard }], guard := some (10, true) } : Oper)) (v := ?_) rfl (by kernel_rfl) (by kernel_rfl) (by kernel_rfl) (fun _ _ _ h => h) (Or.inl ⟨by rfl, ?_⟩) hS22 ?_
  rotate_left
  · intro w hSw; (try dsimp only at hSw); go_simp; (try with_reducible rfl)
  simp only [Act.put, List.setIfInBounds_toArray, List.set_cons_zero, List.set_cons_succ]
  refine wpAnyH_ready (rs := [12]) (by kernel_rfl) (by simp) ?_
  refine AllReadyH.cons (o := ({ dst := some 38, op := Op.call { callee := Callee.value (Operand.func 19), args := #[Operand.tmp 37, Operand.const (Value.int IntKind.i64 1)], argTypes := #[22, 3] }, type := 3, pos := "law.go:29", after := #[{ on := 11, ground := Ground.data }, { on := 10, ground := Ground.chain }, { on := 10, ground := Ground.guard }], guard := some (10, true) } : Oper)) rfl (fun K hK => ?_) AllReadyH.nil
  go_simp
  refine ((by have h := end_any _ KL 1 _ (Nn.out.below (hnext hd20 hS22.1)) (by decide) (by decide); rw [k_end1] at h; exact h : Calls Try.prog 19 #[.slice (some ⟨gn, 0, none⟩) 4 4, .int .i64 1] _ _)).mono ?_; rintro e w23 ⟨rfl, hz23⟩
  have hb23 : Below w22.heap.size w22 w23 := hz23 ▸ Below.refl _ _
  clear hz23
  go_wp2_with fail
  refine hK.out _ _ (mk20 _ (hnext hS22.1 hb23)) (fun hS23 => ?_)
  clear hK K
  (try simp only [Act.put, List.setIfInBounds_toArray, List.set_cons_zero, List.set_cons_succ])
  clear hb23 hS22
  refine wpAnyH_take (i := 13) (oi := ({ dst := some 39, op := Op.binOp BinOp.eql 3 (Operand.tmp 38) (Operand.const (Value.int IntKind.i64 4)) 3, type := 4, pos := "law.go:29", after := #[{ on := 12, ground := Ground.data }, { on := 10, ground := Ground.guard }], guard := some (10, true) } : Oper)) (v := ?_) rfl (by kernel_rfl) (by kernel_rfl) (by kernel_rfl) (fun _ _ _ h => h) (Or.inl ⟨by rfl, ?_⟩) hS23 ?_
  rotate_left
  · intro w hSw; (try dsimp only at hSw); go_simp; (try with_reducible rfl)
  simp only [Act.put, List.setIfInBounds_toArray, List.set_cons_zero, List.set_cons_succ]
  refine wpAnyH_take (i := 14) (oi := ({ dst := some 40, op := Op.pick (Operand.tmp 36) (Operand.tmp 39) (Operand.const (Value.bool false)), type := 4, pos := "law.go:29", after := #[{ on := 10, ground := Ground.data }, { on := 13, ground := Ground.data }], guard := none } : Oper)) (v := ?_) rfl (by kernel_rfl) (by kernel_rfl) (by kernel_rfl) (fun _ _ _ h => h) (Or.inl ⟨by rfl, ?_⟩) hS23 ?_
  rotate_left
  · intro w hSw; (try dsimp only at hSw); go_simp; (try with_reducible rfl)
  simp only [Act.put, List.setIfInBounds_toArray, List.set_cons_zero, List.set_cons_succ]
  refine wpAnyH_take (i := 15) (oi := ({ dst := some 41, op := Op.move (Operand.tmp 40), type := 4, pos := "law.go:29", after := #[{ on := 14, ground := Ground.data }, { on := 12, ground := Ground.chain }], guard := none } : Oper)) (v := ?_) rfl (by kernel_rfl) (by kernel_rfl) (by kernel_rfl) (fun _ _ _ h => h) (Or.inl ⟨by rfl, ?_⟩) hS23 ?_
  rotate_left
  · intro w hSw; (try dsimp only at hSw); go_simp; (try with_reducible rfl)
  simp only [Act.put, List.setIfInBounds_toArray, List.set_cons_zero, List.set_cons_succ]
  refine wpAnyH_take (i := 16) (oi := ({ dst := some 42, op := Op.move (Operand.tmp 2), type := 22, pos := "law.go:29", after := #[{ on := 15, ground := Ground.guard }], guard := some (15, true) } : Oper)) (v := ?_) rfl (by kernel_rfl) (by kernel_rfl) (by kernel_rfl) (fun _ _ _ h => h) (Or.inl ⟨by rfl, ?_⟩) hS23 ?_
  rotate_left
  · intro w hSw; (try dsimp only at hSw); go_simp; (try with_reducible rfl)
  simp only [Act.put, List.setIfInBounds_toArray, List.set_cons_zero, List.set_cons_succ]
  refine wpAnyH_ready (rs := [17]) (by kernel_rfl) (by simp) ?_
  refine AllReadyH.cons (o := ({ dst := some 43, op := Op.call { callee := Callee.value (Operand.func 19), args := #[Operand.tmp 42, Operand.const (Value.int IntKind.i64 4)], argTypes := #[22, 3] }, type := 3, pos := "law.go:29", after := #[{ on := 16, ground := Ground.data }, { on := 15, ground := Ground.chain }, { on := 15, ground := Ground.guard }], guard := some (15, true) } : Oper)) rfl (fun K hK => ?_) AllReadyH.nil
  go_simp
  refine ((by have h := end_any _ KL 4 _ (Nn.out.below (hnext hd20 hS23.1)) (by decide) (by decide); rw [k_end4] at h; exact h : Calls Try.prog 19 #[.slice (some ⟨gn, 0, none⟩) 4 4, .int .i64 4] _ _)).mono ?_; rintro e w24 ⟨rfl, hz24⟩
  have hb24 : Below w23.heap.size w23 w24 := hz24 ▸ Below.refl _ _
  clear hz24
  go_wp2_with fail
  refine hK.out _ _ (mk20 _ (hnext hS23.1 hb24)) (fun hS24 => ?_)
  clear hK K
  (try simp only [Act.put, List.setIfInBounds_toArray, List.set_cons_zero, List.set_cons_succ])
  clear hb24 hS23
  refine wpAnyH_take (i := 18) (oi := ({ dst := some 44, op := Op.binOp BinOp.eql 3 (Operand.tmp 43) (Operand.const (Value.int IntKind.i64 (-1))) 3, type := 4, pos := "law.go:29", after := #[{ on := 17, ground := Ground.data }, { on := 15, ground := Ground.guard }], guard := some (15, true) } : Oper)) (v := ?_) rfl (by kernel_rfl) (by kernel_rfl) (by kernel_rfl) (fun _ _ _ h => h) (Or.inl ⟨by rfl, ?_⟩) hS24 ?_
  rotate_left
  · intro w hSw; (try dsimp only at hSw); go_simp; (try with_reducible rfl)
  simp only [Act.put, List.setIfInBounds_toArray, List.set_cons_zero, List.set_cons_succ]
  refine wpAnyH_take (i := 19) (oi := ({ dst := some 45, op := Op.pick (Operand.tmp 41) (Operand.tmp 44) (Operand.const (Value.bool false)), type := 4, pos := "law.go:29", after := #[{ on := 15, ground := Ground.data }, { on := 18, ground := Ground.data }], guard := none } : Oper)) (v := ?_) rfl (by kernel_rfl) (by kernel_rfl) (by kernel_rfl) (fun _ _ _ h => h) (Or.inl ⟨by rfl, ?_⟩) hS24 ?_
  rotate_left
  · intro w hSw; (try dsimp only at hSw); go_simp; (try with_reducible rfl)
  simp only [Act.put, List.setIfInBounds_toArray, List.set_cons_zero, List.set_cons_succ]
  refine wpAnyH_take (i := 20) (oi := ({ dst := some 46, op := Op.move (Operand.tmp 45), type := 4, pos := "law.go:29", after := #[{ on := 19, ground := Ground.data }, { on := 17, ground := Ground.chain }], guard := none } : Oper)) (v := ?_) rfl (by kernel_rfl) (by kernel_rfl) (by kernel_rfl) (fun _ _ _ h => h) (Or.inl ⟨by rfl, ?_⟩) hS24 ?_
  rotate_left
  · intro w hSw; (try dsimp only at hSw); go_simp; (try with_reducible rfl)
  simp only [Act.put, List.setIfInBounds_toArray, List.set_cons_zero, List.set_cons_succ]
  refine wpAnyH_take (i := 21) (oi := ({ dst := some 47, op := Op.move (Operand.tmp 2), type := 22, pos := "law.go:29", after := #[{ on := 20, ground := Ground.guard }], guard := some (20, true) } : Oper)) (v := ?_) rfl (by kernel_rfl) (by kernel_rfl) (by kernel_rfl) (fun _ _ _ h => h) (Or.inl ⟨by rfl, ?_⟩) hS24 ?_
  rotate_left
  · intro w hSw; (try dsimp only at hSw); go_simp; (try with_reducible rfl)
  simp only [Act.put, List.setIfInBounds_toArray, List.set_cons_zero, List.set_cons_succ]
  refine wpAnyH_take (i := 22) (oi := ({ dst := some 48, op := Op.move (Operand.tmp 3), type := 35, pos := "law.go:29", after := #[{ on := 20, ground := Ground.guard }], guard := some (20, true) } : Oper)) (v := ?_) rfl (by kernel_rfl) (by kernel_rfl) (by kernel_rfl) (fun _ _ _ h => h) (Or.inl ⟨by rfl, ?_⟩) hS24 ?_
  rotate_left
  · intro w hSw; (try dsimp only at hSw); go_simp; (try with_reducible rfl)
  simp only [Act.put, List.setIfInBounds_toArray, List.set_cons_zero, List.set_cons_succ]
  refine wpAnyH_ready (rs := [23]) (by kernel_rfl) (by simp) ?_
  refine AllReadyH.cons (o := ({ dst := some 49, op := Op.call { callee := Callee.value (Operand.func 17), args := #[Operand.tmp 47, Operand.tmp 48], argTypes := #[22, 35] }, type := 3, pos := "law.go:29", after := #[{ on := 21, ground := Ground.data }, { on := 22, ground := Ground.data }, { on := 20, ground := Ground.chain }, { on := 20, ground := Ground.guard }], guard := some (20, true) } : Oper)) rfl (fun K hK => ?_) AllReadyH.nil
  go_simp
  refine ((by have h := eval_any _ _ KL KR _ (Nn.out.below (hnext hd20 hS24.1)) (R.out.below (hnext hd20 hS24.1)) (by decide) (k_siz k_nok) k_rok; rw [k_eval] at h; exact h : Calls Try.prog 17 #[.slice (some ⟨gn, 0, none⟩) 4 4, .slice (some ⟨gr, 0, none⟩) 2 2] _ _)).mono ?_; rintro e w25 ⟨rfl, hb25⟩
  go_wp2_with fail
  refine hK.out _ _ (mk20 _ (hnext hS24.1 hb25)) (fun hS25 => ?_)
  clear hK K
  (try simp only [Act.put, List.setIfInBounds_toArray, List.set_cons_zero, List.set_cons_succ])
  clear hb25 hS24
  refine wpAnyH_take (i := 24) (oi := ({ dst := some 50, op := Op.binOp BinOp.eql 3 (Operand.tmp 49) (Operand.const (Value.int IntKind.i64 0)) 3, type := 4, pos := "law.go:29", after := #[{ on := 23, ground := Ground.data }, { on := 20, ground := Ground.guard }], guard := some (20, true) } : Oper)) (v := ?_) rfl (by kernel_rfl) (by kernel_rfl) (by kernel_rfl) (fun _ _ _ h => h) (Or.inl ⟨by rfl, ?_⟩) hS25 ?_
  rotate_left
  · intro w hSw; (try dsimp only at hSw); go_simp; (try with_reducible rfl)
  simp only [Act.put, List.setIfInBounds_toArray, List.set_cons_zero, List.set_cons_succ]
  refine wpAnyH_take (i := 25) (oi := ({ dst := some 51, op := Op.pick (Operand.tmp 46) (Operand.tmp 50) (Operand.const (Value.bool false)), type := 4, pos := "law.go:29", after := #[{ on := 20, ground := Ground.data }, { on := 24, ground := Ground.data }], guard := none } : Oper)) (v := ?_) rfl (by kernel_rfl) (by kernel_rfl) (by kernel_rfl) (fun _ _ _ h => h) (Or.inl ⟨by rfl, ?_⟩) hS25 ?_
  rotate_left
  · intro w hSw; (try dsimp only at hSw); go_simp; (try with_reducible rfl)
  simp only [Act.put, List.setIfInBounds_toArray, List.set_cons_zero, List.set_cons_succ]
  refine wpAnyH_take (i := 26) (oi := ({ dst := some 52, op := Op.move (Operand.tmp 51), type := 4, pos := "law.go:29", after := #[{ on := 25, ground := Ground.data }, { on := 23, ground := Ground.chain }], guard := none } : Oper)) (v := ?_) rfl (by kernel_rfl) (by kernel_rfl) (by kernel_rfl) (fun _ _ _ h => h) (Or.inl ⟨by rfl, ?_⟩) hS25 ?_
  rotate_left
  · intro w hSw; (try dsimp only at hSw); go_simp; (try with_reducible rfl)
  simp only [Act.put, List.setIfInBounds_toArray, List.set_cons_zero, List.set_cons_succ]
  refine wpAnyH_take (i := 27) (oi := ({ dst := some 53, op := Op.move (Operand.tmp 2), type := 22, pos := "law.go:29", after := #[{ on := 26, ground := Ground.guard }], guard := some (26, true) } : Oper)) (v := ?_) rfl (by kernel_rfl) (by kernel_rfl) (by kernel_rfl) (fun _ _ _ h => h) (Or.inl ⟨by rfl, ?_⟩) hS25 ?_
  rotate_left
  · intro w hSw; (try dsimp only at hSw); go_simp; (try with_reducible rfl)
  simp only [Act.put, List.setIfInBounds_toArray, List.set_cons_zero, List.set_cons_succ]
  refine wpAnyH_take (i := 28) (oi := ({ dst := some 54, op := Op.slice 22 (Operand.tmp 53) (some (Operand.const (Value.int IntKind.i64 2))) (some (Operand.const (Value.int IntKind.i64 3))) none, type := 22, pos := "law.go:29", after := #[{ on := 27, ground := Ground.data }, { on := 26, ground := Ground.guard }], guard := some (26, true) } : Oper)) (v := ?_) rfl (by kernel_rfl) (by kernel_rfl) (by kernel_rfl) (fun _ _ _ h => h) (Or.inl ⟨by rfl, ?_⟩) hS25 ?_
  rotate_left
  · intro w hSw; (try dsimp only at hSw); go_simp; (try with_reducible rfl)
  simp only [Act.put, List.setIfInBounds_toArray, List.set_cons_zero, List.set_cons_succ]
  refine wpAnyH_take (i := 29) (oi := ({ dst := some 55, op := Op.move (Operand.tmp 3), type := 35, pos := "law.go:29", after := #[{ on := 26, ground := Ground.guard }], guard := some (26, true) } : Oper)) (v := ?_) rfl (by kernel_rfl) (by kernel_rfl) (by kernel_rfl) (fun _ _ _ h => h) (Or.inl ⟨by rfl, ?_⟩) hS25 ?_
  rotate_left
  · intro w hSw; (try dsimp only at hSw); go_simp; (try with_reducible rfl)
  simp only [Act.put, List.setIfInBounds_toArray, List.set_cons_zero, List.set_cons_succ]
  refine wpAnyH_ready (rs := [30]) (by kernel_rfl) (by simp) ?_
  refine AllReadyH.cons (o := ({ dst := some 56, op := Op.call { callee := Callee.value (Operand.func 17), args := #[Operand.tmp 54, Operand.tmp 55], argTypes := #[22, 35] }, type := 3, pos := "law.go:29", after := #[{ on := 28, ground := Ground.data }, { on := 29, ground := Ground.data }, { on := 26, ground := Ground.chain }, { on := 26, ground := Ground.guard }], guard := some (26, true) } : Oper)) rfl (fun K hK => ?_) AllReadyH.nil
  go_simp
  refine ((by have h := eval_any _ _ ((KL.take 3).drop 2) KR _ (NsAt.drop ((Nn.out.below (hnext hd20 hS25.1)).take 3 (by decide) 4) 2 2) (R.out.below (hnext hd20 hS25.1)) (by decide) (fun x hx => k_siz k_nok x (List.mem_of_mem_take (List.mem_of_mem_drop hx))) k_rok; rw [k_eval1] at h; exact h : Calls Try.prog 17 #[.slice (some ⟨gn, 12, none⟩) 1 2, .slice (some ⟨gr, 0, none⟩) 2 2] _ _)).mono ?_; rintro e w26 ⟨rfl, hb26⟩
  go_wp2_with fail
  refine hK.out _ _ (mk20 _ (hnext hS25.1 hb26)) (fun hS26 => ?_)
  clear hK K
  (try simp only [Act.put, List.setIfInBounds_toArray, List.set_cons_zero, List.set_cons_succ])
  clear hb26 hS25
  refine wpAnyH_take (i := 31) (oi := ({ dst := some 57, op := Op.binOp BinOp.eql 3 (Operand.tmp 56) (Operand.const (Value.int IntKind.i64 1)) 3, type := 4, pos := "law.go:29", after := #[{ on := 30, ground := Ground.data }, { on := 26, ground := Ground.guard }], guard := some (26, true) } : Oper)) (v := ?_) rfl (by kernel_rfl) (by kernel_rfl) (by kernel_rfl) (fun _ _ _ h => h) (Or.inl ⟨by rfl, ?_⟩) hS26 ?_
  rotate_left
  · intro w hSw; (try dsimp only at hSw); go_simp; (try with_reducible rfl)
  simp only [Act.put, List.setIfInBounds_toArray, List.set_cons_zero, List.set_cons_succ]
  refine wpAnyH_take (i := 32) (oi := ({ dst := some 58, op := Op.pick (Operand.tmp 52) (Operand.tmp 57) (Operand.const (Value.bool false)), type := 4, pos := "law.go:29", after := #[{ on := 26, ground := Ground.data }, { on := 31, ground := Ground.data }], guard := none } : Oper)) (v := ?_) rfl (by kernel_rfl) (by kernel_rfl) (by kernel_rfl) (fun _ _ _ h => h) (Or.inl ⟨by rfl, ?_⟩) hS26 ?_
  rotate_left
  · intro w hSw; (try dsimp only at hSw); go_simp; (try with_reducible rfl)
  simp only [Act.put, List.setIfInBounds_toArray, List.set_cons_zero, List.set_cons_succ]
  refine wpAnyH_take (i := 33) (oi := ({ dst := some 59, op := Op.move (Operand.tmp 58), type := 4, pos := "law.go:29", after := #[{ on := 32, ground := Ground.data }, { on := 30, ground := Ground.chain }], guard := none } : Oper)) (v := ?_) rfl (by kernel_rfl) (by kernel_rfl) (by kernel_rfl) (fun _ _ _ h => h) (Or.inl ⟨by rfl, ?_⟩) hS26 ?_
  rotate_left
  · intro w hSw; (try dsimp only at hSw); go_simp; (try with_reducible rfl)
  simp only [Act.put, List.setIfInBounds_toArray, List.set_cons_zero, List.set_cons_succ]
  refine wpAnyH_take (i := 34) (oi := ({ dst := some 60, op := Op.move (Operand.tmp 5), type := 3, pos := "law.go:29", after := #[{ on := 33, ground := Ground.guard }], guard := some (33, true) } : Oper)) (v := ?_) rfl (by kernel_rfl) (by kernel_rfl) (by kernel_rfl) (fun _ _ _ h => h) (Or.inl ⟨by rfl, ?_⟩) hS26 ?_
  rotate_left
  · intro w hSw; (try dsimp only at hSw); go_simp; (try with_reducible rfl)
  simp only [Act.put, List.setIfInBounds_toArray, List.set_cons_zero, List.set_cons_succ]
  refine wpAnyH_take (i := 35) (oi := ({ dst := some 61, op := Op.binOp BinOp.eql 3 (Operand.tmp 60) (Operand.const (Value.int IntKind.i64 (-1))) 3, type := 4, pos := "law.go:29", after := #[{ on := 34, ground := Ground.data }, { on := 33, ground := Ground.guard }], guard := some (33, true) } : Oper)) (v := ?_) rfl (by kernel_rfl) (by kernel_rfl) (by kernel_rfl) (fun _ _ _ h => h) (Or.inl ⟨by rfl, ?_⟩) hS26 ?_
  rotate_left
  · intro w hSw; (try dsimp only at hSw); go_simp; (try with_reducible rfl)
  simp only [Act.put, List.setIfInBounds_toArray, List.set_cons_zero, List.set_cons_succ]
  refine wpAnyH_take (i := 36) (oi := ({ dst := some 62, op := Op.pick (Operand.tmp 59) (Operand.tmp 61) (Operand.const (Value.bool false)), type := 4, pos := "law.go:29", after := #[{ on := 33, ground := Ground.data }, { on := 35, ground := Ground.data }], guard := none } : Oper)) (v := ?_) rfl (by kernel_rfl) (by kernel_rfl) (by kernel_rfl) (fun _ _ _ h => h) (Or.inl ⟨by rfl, ?_⟩) hS26 ?_
  rotate_left
  · intro w hSw; (try dsimp only at hSw); go_simp; (try with_reducible rfl)
  simp only [Act.put, List.setIfInBounds_toArray, List.set_cons_zero, List.set_cons_succ]
  refine wpAnyH_take (i := 37) (oi := ({ dst := some 63, op := Op.move (Operand.tmp 62), type := 4, pos := "law.go:29", after := #[{ on := 36, ground := Ground.data }, { on := 33, ground := Ground.chain }], guard := none } : Oper)) (v := ?_) rfl (by kernel_rfl) (by kernel_rfl) (by kernel_rfl) (fun _ _ _ h => h) (Or.inl ⟨by rfl, ?_⟩) hS26 ?_
  rotate_left
  · intro w hSw; (try dsimp only at hSw); go_simp; (try with_reducible rfl)
  simp only [Act.put, List.setIfInBounds_toArray, List.set_cons_zero, List.set_cons_succ]
  refine wpAnyH_take (i := 38) (oi := ({ dst := some 64, op := Op.move (Operand.tmp 2), type := 22, pos := "law.go:29", after := #[{ on := 37, ground := Ground.guard }], guard := some (37, true) } : Oper)) (v := ?_) rfl (by kernel_rfl) (by kernel_rfl) (by kernel_rfl) (fun _ _ _ h => h) (Or.inl ⟨by rfl, ?_⟩) hS26 ?_
  rotate_left
  · intro w hSw; (try dsimp only at hSw); go_simp; (try with_reducible rfl)
  simp only [Act.put, List.setIfInBounds_toArray, List.set_cons_zero, List.set_cons_succ]
  refine wpAnyH_ready (rs := [39]) (by kernel_rfl) (by simp) ?_
  refine AllReadyH.cons (o := ({ dst := some 65, op := Op.call { callee := Callee.value (Operand.func 20), args := #[Operand.tmp 64], argTypes := #[22] }, type := 9, pos := "law.go:29", after := #[{ on := 38, ground := Ground.data }, { on := 37, ground := Ground.chain }, { on := 37, ground := Ground.guard }], guard := some (37, true) } : Oper)) rfl (fun K hK => ?_) AllReadyH.nil
  go_simp
  refine (pshow_any _ KL _ (Nn.out.below (hnext hd20 hS26.1)) (by decide) k_nok).mono ?_; rintro e w27 ⟨z27, rfl, hz27, hb27⟩
  obtain rfl := k_show hz27
  clear hz27
  go_wp2_with fail
  refine hK.out _ _ (mk20 _ (hnext hS26.1 hb27)) (fun hS27 => ?_)
  clear hK K
  (try simp only [Act.put, List.setIfInBounds_toArray, List.set_cons_zero, List.set_cons_succ])
  clear hb27 hS26
  refine wpAnyH_take (i := 40) (oi := ({ dst := some 66, op := Op.binOp BinOp.eql 9 (Operand.tmp 65) (Operand.const (Value.string { data := #[126, 40, 99, 48, 60, 53, 38, 99, 49, 63, 41] })) 9, type := 4, pos := "law.go:29", after := #[{ on := 39, ground := Ground.data }, { on := 37, ground := Ground.guard }], guard := some (37, true) } : Oper)) (v := ?_) rfl (by kernel_rfl) (by kernel_rfl) (by kernel_rfl) (fun _ _ _ h => h) (Or.inl ⟨by rfl, ?_⟩) hS27 ?_
  rotate_left
  · intro w hSw; (try dsimp only at hSw); go_simp; (try with_reducible rfl)
  simp only [Act.put, List.setIfInBounds_toArray, List.set_cons_zero, List.set_cons_succ]
  refine wpAnyH_take (i := 41) (oi := ({ dst := some 67, op := Op.pick (Operand.tmp 63) (Operand.tmp 66) (Operand.const (Value.bool false)), type := 4, pos := "law.go:29", after := #[{ on := 37, ground := Ground.data }, { on := 40, ground := Ground.data }], guard := none } : Oper)) (v := ?_) rfl (by kernel_rfl) (by kernel_rfl) (by kernel_rfl) (fun _ _ _ h => h) (Or.inl ⟨by rfl, ?_⟩) hS27 ?_
  rotate_left
  · intro w hSw; (try dsimp only at hSw); go_simp; (try with_reducible rfl)
  simp only [Act.put, List.setIfInBounds_toArray, List.set_cons_zero, List.set_cons_succ]
  refine wpAnyH_take (i := 42) (oi := ({ dst := some 68, op := Op.move (Operand.tmp 67), type := 4, pos := "law.go:29", after := #[{ on := 41, ground := Ground.data }, { on := 39, ground := Ground.chain }], guard := none } : Oper)) (v := ?_) rfl (by kernel_rfl) (by kernel_rfl) (by kernel_rfl) (fun _ _ _ h => h) (Or.inl ⟨by rfl, ?_⟩) hS27 ?_
  rotate_left
  · intro w hSw; (try dsimp only at hSw); go_simp; (try with_reducible rfl)
  simp only [Act.put, List.setIfInBounds_toArray, List.set_cons_zero, List.set_cons_succ]
  refine wpAnyH_take (i := 43) (oi := ({ dst := some 69, op := Op.move (Operand.tmp 4), type := 22, pos := "law.go:29", after := #[{ on := 42, ground := Ground.guard }], guard := some (42, true) } : Oper)) (v := ?_) rfl (by kernel_rfl) (by kernel_rfl) (by kernel_rfl) (fun _ _ _ h => h) (Or.inl ⟨by rfl, ?_⟩) hS27 ?_
  rotate_left
  · intro w hSw; (try dsimp only at hSw); go_simp; (try with_reducible rfl)
  simp only [Act.put, List.setIfInBounds_toArray, List.set_cons_zero, List.set_cons_succ]
  refine wpAnyH_ready (rs := [44]) (by kernel_rfl) (by simp) ?_
  refine AllReadyH.cons (o := ({ dst := some 70, op := Op.call { callee := Callee.value (Operand.func 20), args := #[Operand.tmp 69], argTypes := #[22] }, type := 9, pos := "law.go:29", after := #[{ on := 43, ground := Ground.data }, { on := 42, ground := Ground.chain }, { on := 42, ground := Ground.guard }], guard := some (42, true) } : Oper)) rfl (fun K hK => ?_) AllReadyH.nil
  go_simp
  refine (pshow_any _ KP _ (P.out.below (hnext hd20 hS27.1)) (by decide) k_nokp).mono ?_; rintro e w28 ⟨z28, rfl, hz28, hb28⟩
  obtain rfl := k_showp hz28
  clear hz28
  go_wp2_with fail
  refine hK.out _ _ (mk20 _ (hnext hS27.1 hb28)) (fun hS28 => ?_)
  clear hK K
  (try simp only [Act.put, List.setIfInBounds_toArray, List.set_cons_zero, List.set_cons_succ])
  clear hb28 hS27
  refine wpAnyH_take (i := 45) (oi := ({ dst := some 71, op := Op.binOp BinOp.eql 9 (Operand.tmp 70) (Operand.const (Value.string { data := #[40, 99, 48, 62, 61, 53, 124, 99, 49, 33, 41] })) 9, type := 4, pos := "law.go:29", after := #[{ on := 44, ground := Ground.data }, { on := 42, ground := Ground.guard }], guard := some (42, true) } : Oper)) (v := ?_) rfl (by kernel_rfl) (by kernel_rfl) (by kernel_rfl) (fun _ _ _ h => h) (Or.inl ⟨by rfl, ?_⟩) hS28 ?_
  rotate_left
  · intro w hSw; (try dsimp only at hSw); go_simp; (try with_reducible rfl)
  simp only [Act.put, List.setIfInBounds_toArray, List.set_cons_zero, List.set_cons_succ]
  refine wpAnyH_take (i := 46) (oi := ({ dst := some 72, op := Op.pick (Operand.tmp 68) (Operand.tmp 71) (Operand.const (Value.bool false)), type := 4, pos := "law.go:29", after := #[{ on := 42, ground := Ground.data }, { on := 45, ground := Ground.data }], guard := none } : Oper)) (v := ?_) rfl (by kernel_rfl) (by kernel_rfl) (by kernel_rfl) (fun _ _ _ h => h) (Or.inl ⟨by rfl, ?_⟩) hS28 ?_
  rotate_left
  · intro w hSw; (try dsimp only at hSw); go_simp; (try with_reducible rfl)
  simp only [Act.put, List.setIfInBounds_toArray, List.set_cons_zero, List.set_cons_succ]
  refine wpAnyH_take (i := 47) (oi := ({ dst := some 73, op := Op.move (Operand.tmp 72), type := 4, pos := "law.go:29", after := #[{ on := 46, ground := Ground.data }, { on := 44, ground := Ground.chain }], guard := none } : Oper)) (v := ?_) rfl (by kernel_rfl) (by kernel_rfl) (by kernel_rfl) (fun _ _ _ h => h) (Or.inl ⟨by rfl, ?_⟩) hS28 ?_
  rotate_left
  · intro w hSw; (try dsimp only at hSw); go_simp; (try with_reducible rfl)
  simp only [Act.put, List.setIfInBounds_toArray, List.set_cons_zero, List.set_cons_succ]
  refine wpAnyH_take (i := 48) (oi := ({ dst := some 74, op := Op.move (Operand.tmp 4), type := 22, pos := "law.go:29", after := #[{ on := 47, ground := Ground.guard }], guard := some (47, true) } : Oper)) (v := ?_) rfl (by kernel_rfl) (by kernel_rfl) (by kernel_rfl) (fun _ _ _ h => h) (Or.inl ⟨by rfl, ?_⟩) hS28 ?_
  rotate_left
  · intro w hSw; (try dsimp only at hSw); go_simp; (try with_reducible rfl)
  simp only [Act.put, List.setIfInBounds_toArray, List.set_cons_zero, List.set_cons_succ]
  refine wpAnyH_take (i := 49) (oi := ({ dst := some 75, op := Op.move (Operand.tmp 3), type := 35, pos := "law.go:29", after := #[{ on := 47, ground := Ground.guard }], guard := some (47, true) } : Oper)) (v := ?_) rfl (by kernel_rfl) (by kernel_rfl) (by kernel_rfl) (fun _ _ _ h => h) (Or.inl ⟨by rfl, ?_⟩) hS28 ?_
  rotate_left
  · intro w hSw; (try dsimp only at hSw); go_simp; (try with_reducible rfl)
  simp only [Act.put, List.setIfInBounds_toArray, List.set_cons_zero, List.set_cons_succ]
  refine wpAnyH_ready (rs := [50]) (by kernel_rfl) (by simp) ?_
  refine AllReadyH.cons (o := ({ dst := some 76, op := Op.call { callee := Callee.value (Operand.func 17), args := #[Operand.tmp 74, Operand.tmp 75], argTypes := #[22, 35] }, type := 3, pos := "law.go:29", after := #[{ on := 48, ground := Ground.data }, { on := 49, ground := Ground.data }, { on := 47, ground := Ground.chain }, { on := 47, ground := Ground.guard }], guard := some (47, true) } : Oper)) rfl (fun K hK => ?_) AllReadyH.nil
  go_simp
  refine ((by have h := eval_any _ _ KP KR _ (P.out.below (hnext hd20 hS28.1)) (R.out.below (hnext hd20 hS28.1)) (by decide) (k_siz k_nokp) k_rok; rw [k_evalp] at h; exact h : Calls Try.prog 17 #[.slice pa 3 pc, .slice (some ⟨gr, 0, none⟩) 2 2] _ _)).mono ?_; rintro e w29 ⟨rfl, hb29⟩
  go_wp2_with fail
  refine hK.out _ _ (mk20 _ (hnext hS28.1 hb29)) (fun hS29 => ?_)
  clear hK K
  (try simp only [Act.put, List.setIfInBounds_toArray, List.set_cons_zero, List.set_cons_succ])
  clear hb29 hS28
  refine wpAnyH_take (i := 51) (oi := ({ dst := some 77, op := Op.binOp BinOp.eql 3 (Operand.tmp 76) (Operand.const (Value.int IntKind.i64 0)) 3, type := 4, pos := "law.go:29", after := #[{ on := 50, ground := Ground.data }, { on := 47, ground := Ground.guard }], guard := some (47, true) } : Oper)) (v := ?_) rfl (by kernel_rfl) (by kernel_rfl) (by kernel_rfl) (fun _ _ _ h => h) (Or.inl ⟨by rfl, ?_⟩) hS29 ?_
  rotate_left
  · intro w hSw; (try dsimp only at hSw); go_simp; (try with_reducible rfl)
  simp only [Act.put, List.setIfInBounds_toArray, List.set_cons_zero, List.set_cons_succ]
  refine wpAnyH_take (i := 52) (oi := ({ dst := some 78, op := Op.pick (Operand.tmp 73) (Operand.tmp 77) (Operand.const (Value.bool false)), type := 4, pos := "law.go:29", after := #[{ on := 47, ground := Ground.data }, { on := 51, ground := Ground.data }], guard := none } : Oper)) (v := ?_) rfl (by kernel_rfl) (by kernel_rfl) (by kernel_rfl) (fun _ _ _ h => h) (Or.inl ⟨by rfl, ?_⟩) hS29 ?_
  rotate_left
  · intro w hSw; (try dsimp only at hSw); go_simp; (try with_reducible rfl)
  simp only [Act.put, List.setIfInBounds_toArray, List.set_cons_zero, List.set_cons_succ]
  refine wpAnyH_take (i := 53) (oi := ({ dst := some 79, op := Op.move (Operand.tmp 78), type := 4, pos := "law.go:29", after := #[{ on := 52, ground := Ground.data }, { on := 50, ground := Ground.chain }], guard := none } : Oper)) (v := ?_) rfl (by kernel_rfl) (by kernel_rfl) (by kernel_rfl) (fun _ _ _ h => h) (Or.inl ⟨by rfl, ?_⟩) hS29 ?_
  rotate_left
  · intro w hSw; (try dsimp only at hSw); go_simp; (try with_reducible rfl)
  simp only [Act.put, List.setIfInBounds_toArray, List.set_cons_zero, List.set_cons_succ]
  refine wpAnyH_take (i := 54) (oi := ({ dst := some 80, op := Op.move (Operand.tmp 2), type := 22, pos := "law.go:29", after := #[{ on := 53, ground := Ground.guard }], guard := some (53, true) } : Oper)) (v := ?_) rfl (by kernel_rfl) (by kernel_rfl) (by kernel_rfl) (fun _ _ _ h => h) (Or.inl ⟨by rfl, ?_⟩) hS29 ?_
  rotate_left
  · intro w hSw; (try dsimp only at hSw); go_simp; (try with_reducible rfl)
  simp only [Act.put, List.setIfInBounds_toArray, List.set_cons_zero, List.set_cons_succ]
  refine wpAnyH_take (i := 55) (oi := ({ dst := some 81, op := Op.move (Operand.tmp 2), type := 22, pos := "law.go:29", after := #[{ on := 53, ground := Ground.guard }], guard := some (53, true) } : Oper)) (v := ?_) rfl (by kernel_rfl) (by kernel_rfl) (by kernel_rfl) (fun _ _ _ h => h) (Or.inl ⟨by rfl, ?_⟩) hS29 ?_
  rotate_left
  · intro w hSw; (try dsimp only at hSw); go_simp; (try with_reducible rfl)
  simp only [Act.put, List.setIfInBounds_toArray, List.set_cons_zero, List.set_cons_succ]
  refine wpAnyH_ready (rs := [56]) (by kernel_rfl) (by simp) ?_
  refine AllReadyH.cons (o := ({ dst := some 82, op := Op.call { callee := Callee.value (Operand.func 14), args := #[Operand.tmp 80, Operand.tmp 81], argTypes := #[22, 22] }, type := 4, pos := "law.go:29", after := #[{ on := 54, ground := Ground.data }, { on := 55, ground := Ground.data }, { on := 53, ground := Ground.chain }, { on := 53, ground := Ground.guard }], guard := some (53, true) } : Oper)) rfl (fun K hK => ?_) AllReadyH.nil
  go_simp
  refine ((by have h := psame_any _ _ KL KL _ (Nn.out.below (hnext hd20 hS29.1)) (Nn.out.below (hnext hd20 hS29.1)) (by decide) (by decide); rw [k_same] at h; exact h : Calls Try.prog 14 #[.slice (some ⟨gn, 0, none⟩) 4 4, .slice (some ⟨gn, 0, none⟩) 4 4] _ _)).mono ?_; rintro e w30 ⟨rfl, hb30⟩
  go_wp2_with fail
  refine hK.out _ _ (mk20 _ (hnext hS29.1 hb30)) (fun hS30 => ?_)
  clear hK K
  (try simp only [Act.put, List.setIfInBounds_toArray, List.set_cons_zero, List.set_cons_succ])
  clear hb30 hS29
  refine wpAnyH_take (i := 57) (oi := ({ dst := some 83, op := Op.pick (Operand.tmp 79) (Operand.tmp 82) (Operand.const (Value.bool false)), type := 4, pos := "law.go:29", after := #[{ on := 53, ground := Ground.data }, { on := 56, ground := Ground.data }], guard := none } : Oper)) (v := ?_) rfl (by kernel_rfl) (by kernel_rfl) (by kernel_rfl) (fun _ _ _ h => h) (Or.inl ⟨by rfl, ?_⟩) hS30 ?_
  rotate_left
  · intro w hSw; (try dsimp only at hSw); go_simp; (try with_reducible rfl)
  simp only [Act.put, List.setIfInBounds_toArray, List.set_cons_zero, List.set_cons_succ]
  refine wpAnyH_take (i := 58) (oi := ({ dst := some 84, op := Op.move (Operand.tmp 83), type := 4, pos := "law.go:29", after := #[{ on := 57, ground := Ground.data }, { on := 56, ground := Ground.chain }], guard := none } : Oper)) (v := ?_) rfl (by kernel_rfl) (by kernel_rfl) (by kernel_rfl) (fun _ _ _ h => h) (Or.inl ⟨by rfl, ?_⟩) hS30 ?_
  rotate_left
  · intro w hSw; (try dsimp only at hSw); go_simp; (try with_reducible rfl)
  simp only [Act.put, List.setIfInBounds_toArray, List.set_cons_zero, List.set_cons_succ]
  refine wpAnyH_take (i := 59) (oi := ({ dst := some 85, op := Op.move (Operand.tmp 2), type := 22, pos := "law.go:29", after := #[{ on := 58, ground := Ground.guard }], guard := some (58, true) } : Oper)) (v := ?_) rfl (by kernel_rfl) (by kernel_rfl) (by kernel_rfl) (fun _ _ _ h => h) (Or.inl ⟨by rfl, ?_⟩) hS30 ?_
  rotate_left
  · intro w hSw; (try dsimp only at hSw); go_simp; (try with_reducible rfl)
  simp only [Act.put, List.setIfInBounds_toArray, List.set_cons_zero, List.set_cons_succ]
  refine wpAnyH_take (i := 60) (oi := ({ dst := some 86, op := Op.move (Operand.tmp 4), type := 22, pos := "law.go:29", after := #[{ on := 58, ground := Ground.guard }], guard := some (58, true) } : Oper)) (v := ?_) rfl (by kernel_rfl) (by kernel_rfl) (by kernel_rfl) (fun _ _ _ h => h) (Or.inl ⟨by rfl, ?_⟩) hS30 ?_
  rotate_left
  · intro w hSw; (try dsimp only at hSw); go_simp; (try with_reducible rfl)
  simp only [Act.put, List.setIfInBounds_toArray, List.set_cons_zero, List.set_cons_succ]
  refine wpAnyH_ready (rs := [61]) (by kernel_rfl) (by simp) ?_
  refine AllReadyH.cons (o := ({ dst := some 87, op := Op.call { callee := Callee.value (Operand.func 14), args := #[Operand.tmp 85, Operand.tmp 86], argTypes := #[22, 22] }, type := 4, pos := "law.go:29", after := #[{ on := 59, ground := Ground.data }, { on := 60, ground := Ground.data }, { on := 58, ground := Ground.chain }, { on := 58, ground := Ground.guard }], guard := some (58, true) } : Oper)) rfl (fun K hK => ?_) AllReadyH.nil
  go_simp
  refine ((by have h := psame_any _ _ KL KP _ (Nn.out.below (hnext hd20 hS30.1)) (P.out.below (hnext hd20 hS30.1)) (by decide) (by decide); rw [k_differ] at h; exact h : Calls Try.prog 14 #[.slice (some ⟨gn, 0, none⟩) 4 4, .slice pa 3 pc] _ _)).mono ?_; rintro e w31 ⟨rfl, hb31⟩
  go_wp2_with fail
  refine hK.out _ _ (mk20 _ (hnext hS30.1 hb31)) (fun hS31 => ?_)
  clear hK K
  (try simp only [Act.put, List.setIfInBounds_toArray, List.set_cons_zero, List.set_cons_succ])
  clear hb31 hS30
  refine wpAnyH_take (i := 62) (oi := ({ dst := some 88, op := Op.unOp UnOp.not 4 (Operand.tmp 87), type := 4, pos := "law.go:29", after := #[{ on := 61, ground := Ground.data }, { on := 58, ground := Ground.guard }], guard := some (58, true) } : Oper)) (v := ?_) rfl (by kernel_rfl) (by kernel_rfl) (by kernel_rfl) (fun _ _ _ h => h) (Or.inl ⟨by rfl, ?_⟩) hS31 ?_
  rotate_left
  · intro w hSw; (try dsimp only at hSw); go_simp; (try with_reducible rfl)
  simp only [Act.put, List.setIfInBounds_toArray, List.set_cons_zero, List.set_cons_succ]
  refine wpAnyH_take (i := 63) (oi := ({ dst := some 89, op := Op.pick (Operand.tmp 84) (Operand.tmp 88) (Operand.const (Value.bool false)), type := 4, pos := "law.go:29", after := #[{ on := 58, ground := Ground.data }, { on := 62, ground := Ground.data }], guard := none } : Oper)) (v := ?_) rfl (by kernel_rfl) (by kernel_rfl) (by kernel_rfl) (fun _ _ _ h => h) (Or.inl ⟨by rfl, ?_⟩) hS31 ?_
  rotate_left
  · intro w hSw; (try dsimp only at hSw); go_simp; (try with_reducible rfl)
  simp only [Act.put, List.setIfInBounds_toArray, List.set_cons_zero, List.set_cons_succ]
  refine wpAnyH_take (i := 64) (oi := ({ dst := some 0, op := Op.assign (Operand.tmp 89), type := 4, pos := "law.go:29", after := ([{ on := 63, ground := Ground.data }, { on := 61, ground := Ground.chain }, { on := 0, ground := Ground.phase }, { on := 1, ground := Ground.phase }, { on := 2, ground := Ground.phase }, { on := 3, ground := Ground.phase }, { on := 4, ground := Ground.phase }, { on := 5, ground := Ground.phase }, { on := 6, ground := Ground.phase }, { on := 7, ground := Ground.phase }, { on := 8, ground := Ground.phase }, { on := 9, ground := Ground.phase }, { on := 10, ground := Ground.phase }, { on := 11, ground := Ground.phase }, { on := 12, ground := Ground.phase }, { on := 13, ground := Ground.phase }, { on := 14, ground := Ground.phase }, { on := 15, ground := Ground.phase }, { on := 16, ground := Ground.phase }, { on := 17, ground := Ground.phase }, { on := 18, ground := Ground.phase }, { on := 19, ground := Ground.phase }, { on := 20, ground := Ground.phase }, { on := 21, ground := Ground.phase }, { on := 22, ground := Ground.phase }, { on := 23, ground := Ground.phase }, { on := 24, ground := Ground.phase }, { on := 25, ground := Ground.phase }, { on := 26, ground := Ground.phase }, { on := 27, ground := Ground.phase }, { on := 28, ground := Ground.phase }, { on := 29, ground := Ground.phase }, { on := 30, ground := Ground.phase }].append [{ on := 31, ground := Ground.phase }, { on := 32, ground := Ground.phase }, { on := 33, ground := Ground.phase }, { on := 34, ground := Ground.phase }, { on := 35, ground := Ground.phase }, { on := 36, ground := Ground.phase }, { on := 37, ground := Ground.phase }, { on := 38, ground := Ground.phase }, { on := 39, ground := Ground.phase }, { on := 40, ground := Ground.phase }, { on := 41, ground := Ground.phase }, { on := 42, ground := Ground.phase }, { on := 43, ground := Ground.phase }, { on := 44, ground := Ground.phase }, { on := 45, ground := Ground.phase }, { on := 46, ground := Ground.phase }, { on := 47, ground := Ground.phase }, { on := 48, ground := Ground.phase }, { on := 49, ground := Ground.phase }, { on := 50, ground := Ground.phase }, { on := 51, ground := Ground.phase }, { on := 52, ground := Ground.phase }, { on := 53, ground := Ground.phase }, { on := 54, ground := Ground.phase }, { on := 55, ground := Ground.phase }, { on := 56, ground := Ground.phase }, { on := 57, ground := Ground.phase }, { on := 58, ground := Ground.phase }, { on := 59, ground := Ground.phase }, { on := 60, ground := Ground.phase }, { on := 61, ground := Ground.phase }, { on := 62, ground := Ground.phase }, { on := 63, ground := Ground.phase }]).toArray, guard := none } : Oper)) (v := ?_) rfl (by kernel_rfl) (by kernel_rfl) (by kernel_rfl) (fun _ _ _ h => h) (Or.inl ⟨by rfl, ?_⟩) hS31 ?_
  rotate_left
  · intro w hSw; (try dsimp only at hSw); go_simp; (try with_reducible rfl)
  simp only [Act.put, List.setIfInBounds_toArray, List.set_cons_zero]
  refine wpAnyH_done (by kernel_rfl) ?_ _
  go_wp2_with fail
  go_ret
  exact ⟨rfl, hnext L.out (hnext hd20 hS31.1)⟩
end Go.Proofs.Ytfdehigepgeknaa
