/-
  The order of values is an order: plainly. No condition.
-/
import Derived.Test.YtgdegoacjobpdaaLv
namespace Go.Proofs.Ytgdegoacjobpdaa
open Go.RowKit

namespace Ky
theorem strL_tri (l : List UInt8) : ∀ r, strL l r = -1 ∨ strL l r = 0 ∨ strL l r = 1 := by
  intro r
  unfold strL
  split
  · exact .inl rfl
  · split
    · exact .inr (.inl rfl)
    · exact .inr (.inr rfl)
theorem strL_trans (l : List UInt8) : ∀ r t, strL l r ≤ 0 → strL r t ≤ 0 → strL l t ≤ 0 ∧ (strL l r < 0 → strL l t < 0) := by
  induction l with
  | nil =>
    intro r t h1 h2
    cases r with
    | nil => exact ⟨h2, fun h => absurd h (by decide)⟩
    | cons d r =>
      cases t with
      | nil => rw [strL_cons] at h2; exact absurd h2 (by decide)
      | cons e t => rw [strL_nil, strL_nil]; exact ⟨by decide, fun _ => by decide⟩
  | cons c l ih =>
    intro r t h1 h2
    cases r with
    | nil => rw [strL_cons] at h1; exact absurd h1 (by decide)
    | cons d r =>
      cases t with
      | nil => rw [strL_cons] at h2; exact absurd h2 (by decide)
      | cons e t =>
        rcases u8_tri c d with h | rfl | h
        · rcases u8_tri d e with g | rfl | g
          · have hce : c < e := UInt8.lt_trans h g
            rw [strL_lt hce, strL_lt h]; exact ⟨by decide, fun _ => by decide⟩
          · rw [strL_lt h, strL_lt h]; exact ⟨by decide, fun _ => by decide⟩
          · rw [strL_gt g] at h2; exact absurd h2 (by decide)
        · rcases u8_tri c e with g | rfl | g
          · rw [strL_lt g]; exact ⟨by decide, fun _ => by decide⟩
          · rw [strL_same] at h1 h2
            rw [strL_same, strL_same]
            exact ih r t h1 h2
          · rw [strL_gt g] at h2; exact absurd h2 (by decide)
        · rw [strL_gt h] at h1; exact absurd h1 (by decide)
theorem cmp_tri {x y : Cd.V} (hx : Fit x) (hy : Fit y) : cmp x y = -1 ∨ cmp x y = 0 ∨ cmp x y = 1 := by rw [cmp_bytes hx hy]; exact strL_tri _ _
theorem cmp_trans {x y z : Cd.V} (hx : Fit x) (hy : Fit y) (hz : Fit z) (h1 : cmp x y ≤ 0) (h2 : cmp y z ≤ 0) : cmp x z ≤ 0 ∧ (cmp x y < 0 → cmp x z < 0) := by
  rw [cmp_bytes hx hy] at h1
  rw [cmp_bytes hy hz] at h2
  rw [cmp_bytes hx hz, cmp_bytes hx hy]
  exact strL_trans _ _ _ h1 h2
theorem cmp_same {x y : Cd.V} (hx : Fit x) (hy : Fit y) : decide (cmp x y = 0) = decide (x = y) := by
  rw [decide_eq_decide]
  exact ⟨cmp_zero hx hy, fun h => by rw [h]; exact cmp_self hy⟩
end Ky
end Go.Proofs.Ytgdegoacjobpdaa
