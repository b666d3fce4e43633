/-
  'known' of the statements of the bytes answers true. No condition.
-/
import Derived.Test.YtmgafcblbbbanaaMe
import Derived.Test.YtmgafcblbbbanaaRo
namespace Go.Proofs.Ytmgafcblbbbanaa
open Go.RowKit

def K1 : ByteArray := ⟨#[172, 2]⟩
def K3 : ByteArray := ⟨#[2, 97, 98]⟩
def KS : ByteArray := ⟨#[172, 2, 1, 2, 97, 98, 1, 1, 2, 0, 2, 10]⟩
theorem K_e1 : bstr (Cd.enc 300) = K1 := by decide +kernel
theorem K_e3 : bstr (Cd.text ⟨#[97, 98]⟩) = K3 := by decide +kernel
theorem K_t1 : Cd.top 0 (Cd.uintR KS.data.toList) 0 0 = (300, 2, 0) := by decide +kernel
theorem K_t3 : Cd.top ⟨#[]⟩ (Cd.textR KS 1000000) 3 0 = (⟨#[97, 98]⟩, 6, 0) := by decide +kernel
theorem k1 (w : World) : Calls Try.prog 32 #[.int .u64 300] w fun e w' => e = .returned (.string K1) ∧ Below w.heap.size w w' := (uint_any 300 (by decide) w).mono fun e w' ⟨h1, h2⟩ => ⟨by rw [h1, K_e1], h2⟩
theorem k3 (w : World) : Calls Try.prog 31 #[.string ⟨#[97, 98]⟩] w fun e w' => e = .returned (.string K3) ∧ Below w.heap.size w w' := (text_any _ (by decide) w).mono fun e w' ⟨h1, h2⟩ => ⟨by rw [h1, K_e3], h2⟩
theorem r1 (g : Nat) (w : World) (hr : Rdr w g KS 0 0) : Calls Try.prog 39 #[.pointer (some ⟨g, 0, none⟩)] w fun e w' => e = .returned (.int .u64 300) ∧ Upd g w w' ∧ Rdr w' g KS 2 0 := by
  have h := mUint g KS 0 0 w hr (by decide) (by decide); rw [K_t1] at h; exact h.mono fun e w' ⟨a, b, c, d⟩ => ⟨a, b, c⟩
theorem r3 (g : Nat) (w : World) (hr : Rdr w g KS 3 0) : Calls Try.prog 38 #[.pointer (some ⟨g, 0, none⟩)] w fun e w' => e = .returned (.string ⟨#[97, 98]⟩) ∧ Upd g w w' ∧ Rdr w' g KS 6 0 := by
  have h := mText g KS 3 0 w hr (by decide) (by decide); rw [K_t3] at h; exact h.mono fun e w' ⟨a, b, c, d⟩ => ⟨a, b, c⟩
theorem own_upd {w w' : World} {g B e size : Nat} {v : Value} {n : Nat} {xs : List Value} (h : w.ownsRow B e size v n xs) (hu : Upd g w w') (hg : g < B) : w'.ownsRow B e size v n xs :=
  h.kept (row := some g) hu (Or.inr (fun e => by have := (h.lt g e).1; omega))
end Go.Proofs.Ytmgafcblbbbanaa
