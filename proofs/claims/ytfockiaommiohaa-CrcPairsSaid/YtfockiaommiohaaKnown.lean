/-
  'known' of the statements of the sum answers true. No condition.
-/
import Derived.Test.YtfockiaommiohaaPut
namespace Go.Proofs.Ytfockiaommiohaa
open Go.RowKit

def PAB : ByteArray := bstr (Crc.put [97, 98])
def PE : ByteArray := bstr (Crc.put [])
theorem PE_size : PE.size = 4 := by unfold PE; rw [bstr_size, Crc.put_length]; rfl
theorem take_PAB : Crc.take PAB.data.toList = ([97, 98], true) := by decide +kernel
theorem take_PE : Crc.take PE.data.toList = ([], true) := by decide +kernel
theorem take_abcd : Crc.take [97, 98, 99, 100] = ([], false) := by decide +kernel
theorem sum_digits : (Crc.sumOf [49, 50, 51, 52, 53, 54, 55, 56, 57]).toNat = 3421780262 := by decide +kernel
theorem sum_none : (Crc.sumOf []).toNat = 0 := by decide +kernel

theorem k1 (w : World) : Calls Try.prog 16 #[.string ⟨#[97, 98]⟩] w fun e w' => e = .returned (.string PAB) ∧ Below w.heap.size w w' := put_any _ w (by decide)
theorem k2 (w : World) : Calls Try.prog 10 #[.string PAB] w fun e w' => e = .returned (.tuple #[.string ⟨#[97, 98]⟩, .bool true]) ∧ Below w.heap.size w w' :=
  (take_any PAB w (by unfold PAB; rw [bstr_size, Crc.put_length]; decide)).mono fun e w' ⟨h1, h2⟩ => ⟨by rw [h1, take_PAB]; rfl, h2⟩
theorem k3 (w : World) : Calls Try.prog 10 #[.string ⟨#[97, 98, 99, 100]⟩] w fun e w' => e = .returned (.tuple #[.string ⟨#[]⟩, .bool false]) ∧ Below w.heap.size w w' :=
  (take_any _ w (by decide)).mono fun e w' ⟨h1, h2⟩ => ⟨by rw [h1]; show Ending.returned (.tuple #[.string (bstr (Crc.take [97, 98, 99, 100]).1), .bool (Crc.take [97, 98, 99, 100]).2]) = _; rw [take_abcd]; rfl, h2⟩
theorem k4 (w : World) : Calls Try.prog 16 #[.string ⟨#[]⟩] w fun e w' => e = .returned (.string PE) ∧ Below w.heap.size w w' := put_any _ w (by decide)
theorem k5 (w : World) : Calls Try.prog 10 #[.string PE] w fun e w' => e = .returned (.tuple #[.string ⟨#[]⟩, .bool true]) ∧ Below w.heap.size w w' :=
  (take_any PE w (by rw [PE_size]; decide)).mono fun e w' ⟨h1, h2⟩ => ⟨by rw [h1, take_PE]; rfl, h2⟩
theorem k6 (w : World) : Calls Try.prog 12 #[.string ⟨#[49, 50, 51, 52, 53, 54, 55, 56, 57]⟩] w fun e w' => e = .returned (.int .u32 3421780262) ∧ Below w.heap.size w w' :=
  (of_any _ w (by decide)).mono fun e w' ⟨h1, h2⟩ => ⟨by rw [h1]; exact ret_eq (by show ((Crc.sumOf [49, 50, 51, 52, 53, 54, 55, 56, 57]).toNat : Int) = _; rw [sum_digits]; rfl), h2⟩
theorem k7 (w : World) : Calls Try.prog 12 #[.string ⟨#[]⟩] w fun e w' => e = .returned (.int .u32 0) ∧ Below w.heap.size w w' :=
  (of_any _ w (by decide)).mono fun e w' ⟨h1, h2⟩ => ⟨by rw [h1]; exact ret_eq (by show ((Crc.sumOf []).toNat : Int) = _; rw [sum_none]; rfl), h2⟩

set_option maxHeartbeats 400000 in
theorem known_any (w : World) : Calls Try.prog 9 #[] w fun e w' => e = .returned (.bool true) ∧ Below w.heap.size w w' := by
  have hPE := PE_size
  go_enter Try.func9, Try.ntmps9
  go_wp2_with fail
  refine (k1 _).mono ?_; rintro e w1 ⟨rfl, hb1⟩
  go_wp2_with fail
  refine (k2 _).mono ?_; rintro e w2 ⟨rfl, hb2⟩
  go_wp2_with fail
  refine (k3 _).mono ?_; rintro e w3 ⟨rfl, hb3⟩
  go_wp2_with fail
  refine (k4 _).mono ?_; rintro e w4 ⟨rfl, hb4⟩
  go_wp2_with fail
  refine (k5 _).mono ?_; rintro e w5 ⟨rfl, hb5⟩
  go_wp2_with fail
  refine (k6 _).mono ?_; rintro e w6 ⟨rfl, hb6⟩
  go_wp2_with fail
  refine (k7 _).mono ?_; rintro e w7 ⟨rfl, hb7⟩
  go_wp2_with fail
  refine (k4 _).mono ?_; rintro e w8 ⟨rfl, hb8⟩
  go_wp2
  go_ret
  refine ⟨rfl, ?_⟩
  have g2 := hb1.trans (hb2.mono hb1.size)
  have g3 := g2.trans (hb3.mono g2.size)
  have g4 := g3.trans (hb4.mono g3.size)
  have g5 := g4.trans (hb5.mono g4.size)
  have g6 := g5.trans (hb6.mono g5.size)
  have g7 := g6.trans (hb7.mono g6.size)
  exact g7.trans (hb8.mono g7.size)
end Go.Proofs.Ytfockiaommiohaa
