/-
  'known' of the statements of the keys answers true. No condition.
-/
import Derived.Test.YtimcmpcfnddioaaKyPd
import Derived.Test.YtimcmpcfnddioaaKyM
import Derived.Test.YtimcmpcfnddioaaKyMr
import Derived.Test.YtimcmpcfnddioaaKyQ
import Derived.Test.YtimcmpcfnddioaaRo
namespace Go.Proofs.Ytimcmpcfnddioaa
open Go.RowKit

def KA : List Cd.V := [⟨1, 1, 0, ⟨#[]⟩⟩, ⟨5, 0, 0, ⟨#[97]⟩⟩]
def KN : List Cd.V := [⟨9, 0, 0, ⟨#[]⟩⟩]
theorem KA_parse : Ky.parse [2, 1, 6, 97, 0, 1, 0] = some KA := by decide +kernel
theorem KA_short : Ky.parse [2, 1, 6, 97, 0, 1] = none := by decide +kernel
theorem KA_none : Ky.parse [0] = some [] := by decide +kernel
theorem KA_of : Ky.of KA = [2, 1, 6, 97, 0, 1, 0] := by decide +kernel
theorem KN_of : Ky.of KN = [] := by decide +kernel
theorem KA_comp1 : Ky.comp Ky.cmp (KA.take 1) KA = -1 := by decide +kernel
theorem KA_comp2 : Ky.comp Ky.cmp KA KA = 0 := by decide +kernel
theorem KA_pre1 : Ky.pre (KA.take 1) KA = true := by decide +kernel
theorem KA_pre2 : Ky.pre KA (KA.take 1) = false := by decide +kernel
theorem KA_ok : ∀ x ∈ KA, Vok x := fun x hx => by
  have : x = ⟨1, 1, 0, ⟨#[]⟩⟩ ∨ x = ⟨5, 0, 0, ⟨#[97]⟩⟩ := by simpa [KA] using hx
  rcases this with rfl | rfl <;> exact ⟨⟨by decide, by decide⟩, by decide, by decide⟩
theorem KN_ok : ∀ x ∈ KN, Vok x := fun x hx => by
  have : x = ⟨9, 0, 0, ⟨#[]⟩⟩ := by simpa [KN] using hx
  subst this; exact ⟨⟨by decide, by decide⟩, by decide, by decide⟩
theorem KA_new (w : World) (g : Nat) (hg : g = w.heap.size) : VsAt (w.alloc (.cells #[.int .i64 1, .int .i64 1, .int .u64 0, .string ⟨#[]⟩, .int .i64 5, .int .i64 0, .int .u64 0, .string ⟨#[97]⟩] 39)) (.slice (some ⟨g, 0, none⟩) 2 2) KA := by
  subst hg
  have h := heap_alloc_new w (.cells #[.int .i64 1, .int .i64 1, .int .u64 0, .string ⟨#[]⟩, .int .i64 5, .int .i64 0, .int .u64 0, .string ⟨#[97]⟩] 39)
  refine ⟨_, 2, rfl, fun k hk => ⟨w.heap.size, 0, rfl, ?_⟩⟩
  have hk' : k = 0 ∨ k = 1 := by have : KA.length = 2 := rfl; omega
  rcases hk' with rfl | rfl
  · exact ⟨cell_of_row _ _ 0 _ _ _ h, cell_of_row _ _ 1 _ _ _ h, cell_of_row _ _ 2 _ _ _ h, cell_of_row _ _ 3 _ _ _ h⟩
  · exact ⟨cell_of_row _ _ 4 _ _ _ h, cell_of_row _ _ 5 _ _ _ h, cell_of_row _ _ 6 _ _ _ h, cell_of_row _ _ 7 _ _ _ h⟩
theorem KN_new (w : World) (g : Nat) (hg : g = w.heap.size) : VsAt (w.alloc (.cells #[.int .i64 9, .int .i64 0, .int .u64 0, .string ⟨#[]⟩] 39)) (.slice (some ⟨g, 0, none⟩) 1 1) KN := by
  subst hg
  have h := heap_alloc_new w (.cells #[.int .i64 9, .int .i64 0, .int .u64 0, .string ⟨#[]⟩] 39)
  refine ⟨_, 1, rfl, fun k hk => ⟨w.heap.size, 0, rfl, ?_⟩⟩
  have hk' : k = 0 := by have : KN.length = 1 := rfl; omega
  subst hk'
  exact ⟨cell_of_row _ _ 0 _ _ _ h, cell_of_row _ _ 1 _ _ _ h, cell_of_row _ _ 2 _ _ _ h, cell_of_row _ _ 3 _ _ _ h⟩
theorem VsAt.take {w : World} {adr : Option Addr} {cap : Nat} {l : List Cd.V} (h : VsAt w (.slice adr l.length cap) l) (n : Nat) (hn : n ≤ l.length) (cap' : Nat) : VsAt w (.slice adr n cap') (l.take n) := by
  obtain ⟨a2, c2, he, hc⟩ := h
  cases he
  refine ⟨_, cap', by rw [List.length_take, Nat.min_eq_left hn], fun k hk => ?_⟩
  rw [List.length_take] at hk
  obtain ⟨g, off, e1, e2⟩ := hc k (by omega)
  exact ⟨g, off, e1, by simpa using e2⟩
theorem ParseP.yes {l : List Cd.V} {w w' : World} {e : Ending} (h : ParseP (some l) w e w') : ∃ adr cap, e = .returned (.tuple #[.slice adr l.length cap, .int .i64 0]) ∧ Below w.heap.size w w' ∧ VsAt w' (.slice adr l.length cap) l := by
  obtain ⟨v, er, he, hb, h⟩ := h
  rcases h with ⟨rfl, l2, e2, hv⟩ | ⟨_, _, e2⟩
  · cases e2
    obtain ⟨adr, cap, rfl, hc⟩ := id hv
    exact ⟨adr, cap, he, hb, hv⟩
  · cases e2
theorem ParseP.no {w w' : World} {e : Ending} (h : ParseP none w e w') : e = .returned (.tuple #[.slice none 0 0, .int .i64 7]) ∧ Below w.heap.size w w' := by
  obtain ⟨v, er, he, hb, h⟩ := h
  rcases h with ⟨_, l2, e2, _⟩ | ⟨rfl, rfl, _⟩
  · cases e2
  · exact ⟨he, hb⟩
set_option maxRecDepth 100000 in
set_option maxHeartbeats 3200000 in
theorem known_any (w : World) : Calls Try.prog 11 #[] w fun e w' => e = .returned (.bool true) ∧ Below w.heap.size w w' := by
  have P1 := hid (fun W => (parse_any ⟨#[2, 1, 6, 97, 0, 1, 0]⟩ (by decide) W).mono fun e w' h => ParseP.yes (l := KA) (by rwa [show Ky.parse (⟨#[2, 1, 6, 97, 0, 1, 0]⟩ : ByteArray).data.toList = some KA from KA_parse] at h))
  have P2 := hid (fun W => (parse_any ⟨#[2, 1, 6, 97, 0, 1]⟩ (by decide) W).mono fun e w' h => ParseP.no (by rwa [show Ky.parse (⟨#[2, 1, 6, 97, 0, 1]⟩ : ByteArray).data.toList = none from KA_short] at h))
  have P3 := hid (fun W => (parse_any ⟨#[0]⟩ (by decide) W).mono fun e w' h => ParseP.yes (l := []) (by rwa [show Ky.parse (⟨#[0]⟩ : ByteArray).data.toList = some [] from KA_none] at h))
  go_enter Try.func11, Try.ntmps11
  go_wp2_with fail
  have V1 := KA_new w w.heap.size rfl
  have L1 := hba w (.cells #[.int .i64 1, .int .i64 1, .int .u64 0, .string ⟨#[]⟩, .int .i64 5, .int .i64 0, .int .u64 0, .string ⟨#[97]⟩] 39)
  generalize w.alloc (.cells #[.int .i64 1, .int .i64 1, .int .u64 0, .string ⟨#[]⟩, .int .i64 5, .int .i64 0, .int .u64 0, .string ⟨#[97]⟩] 39) = w1 at *
  obtain ⟨g, hg⟩ : ∃ g, w.heap.size = g := ⟨_, rfl⟩
  rw [hg] at V1 ⊢
  clear hg
  refine (P1.out _).mono ?_; rintro e w2 ⟨adr, cap, rfl, b, A2⟩
  have V2 := hid (V1.below b)
  have L2 := hid (hnext L1 b)
  clear b V1 L1 P1
  rw [show KA.length = 2 from rfl] at A2 ⊢
  have HA2 := hid A2
  clear A2
  go_wp2_with fail
  refine (P2.out _).mono ?_; rintro e w3 ⟨rfl, b⟩
  have V3 := hid (V2.out.below b)
  have A3 := hid (HA2.out.below b)
  have L3 := hid (hnext L2.out b)
  clear b V2 HA2 L2 P2
  go_wp2_with fail
  refine (P3.out _).mono ?_; rintro e w4 ⟨adr4, cap4, rfl, b, _⟩
  have V4 := hid (V3.out.below b)
  have A4 := hid (A3.out.below b)
  have L4 := hid (hnext L3.out b)
  clear b V3 A3 L3 P3
  go_wp2_with fail
  refine (of_any _ KA _ V4.out KA_ok (by decide)).mono ?_; rintro e w5 ⟨rfl, b⟩
  rw [KA_of]
  have V5 := hid (V4.out.below b)
  have A5 := hid (A4.out.below b)
  have L5 := hid (hnext L4.out b)
  clear b V4 A4 L4
  have e1 : (bstr [2, 1, 6, 97, 0, 1, 0]).toList = [2, 1, 6, 97, 0, 1, 0] := by rw [ByteArray.toList_eq]; rfl
  go_wp2_with fail
  refine (rows_any _ _ KA KA _ A5.out V5.out (by decide) (by decide)).mono ?_; rintro e w6 ⟨rfl, b⟩
  rw [decide_eq_true (rfl : KA = KA)]
  have V6 := hid (V5.out.below b)
  have L6 := hid (hnext L5.out b)
  clear b V5 A5 L5 e1
  go_wp2_with fail
  refine (comp_any _ _ (KA.take 1) KA _ (VsAt.take (l := KA) V6.out 1 (by decide) _) V6.out (fun x hx => KA_ok x (List.mem_of_mem_take hx)) KA_ok (by decide) (by decide)).mono ?_; rintro e w7 ⟨rfl, b⟩
  rw [KA_comp1]
  have V7 := hid (V6.out.below b)
  have L7 := hid (hnext L6.out b)
  clear b V6 L6
  go_wp2_with fail
  refine (comp_any _ _ KA KA _ V7.out V7.out KA_ok KA_ok (by decide) (by decide)).mono ?_; rintro e w8 ⟨rfl, b⟩
  rw [KA_comp2]
  have V8 := hid (V7.out.below b)
  have L8 := hid (hnext L7.out b)
  clear b V7 L7
  go_wp2_with fail
  refine (prefix_any _ _ (KA.take 1) KA _ (VsAt.take (l := KA) V8.out 1 (by decide) _) V8.out (fun x hx => KA_ok x (List.mem_of_mem_take hx)) (by decide) (by decide)).mono ?_; rintro e w9 ⟨rfl, b⟩
  rw [KA_pre1]
  have V9 := hid (V8.out.below b)
  have L9 := hid (hnext L8.out b)
  clear b V8 L8
  go_wp2_with fail
  refine (prefix_any _ _ KA (KA.take 1) _ V9.out (VsAt.take (l := KA) V9.out 1 (by decide) _) KA_ok (by decide) (by decide)).mono ?_; rintro e wA ⟨rfl, b⟩
  rw [KA_pre2]
  have LA := hid (hnext L9.out b)
  clear b V9 L9
  go_wp2_with fail
  refine (next_any ⟨#[97]⟩ (by decide) _).mono ?_; rintro e wB ⟨rfl, rfl⟩
  rw [show (⟨#[97]⟩ : ByteArray) ++ ⟨#[0]⟩ = bstr [97, 0] from bstr_append [97] [0]]
  have e2 : (bstr [97, 0]).toList = [97, 0] := by rw [ByteArray.toList_eq]; rfl
  go_wp2_with fail
  have VN := KN_new wA wA.heap.size rfl
  have LB := hnext LA.out (hba wA (.cells #[.int .i64 9, .int .i64 0, .int .u64 0, .string ⟨#[]⟩] 39))
  generalize wA.alloc (.cells #[.int .i64 9, .int .i64 0, .int .u64 0, .string ⟨#[]⟩] 39) = wC at *
  refine (of_any _ KN _ VN KN_ok (by decide)).mono ?_; rintro e wD ⟨rfl, b⟩
  rw [KN_of]
  have LC := hnext LB b
  have e3 : (bstr []).toList = [] := by rw [ByteArray.toList_eq]; rfl
  go_wp2_with fail
  go_ret
  exact ⟨rfl, LC⟩
end Go.Proofs.Ytimcmpcfnddioaa
