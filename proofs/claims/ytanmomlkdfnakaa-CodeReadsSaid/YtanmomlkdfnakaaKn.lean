/-
  'known' of the statements of the bytes answers true. No condition.
-/
import Derived.Test.YtanmomlkdfnakaaMe
import Derived.Test.YtanmomlkdfnakaaRo
namespace Go.Proofs.Ytanmomlkdfnakaa
open Go.RowKit

def K1 : ByteArray := ⟨#[172, 2]⟩
def K2 : ByteArray := ⟨#[1]⟩
def K3 : ByteArray := ⟨#[2, 97, 98]⟩
def K4 : ByteArray := ⟨#[1, 1]⟩
def K5 : ByteArray := ⟨#[2, 0, 2, 10]⟩
def KS : ByteArray := ⟨#[172, 2, 1, 2, 97, 98, 1, 1, 2, 0, 2, 10]⟩
def KL : List Cd.V := [⟨0, 0, 0, ⟨#[]⟩⟩, ⟨2, 5, 0, ⟨#[]⟩⟩]
theorem K_cat : K1 ++ K2 ++ K3 ++ K4 ++ K5 = KS := by decide +kernel
theorem K_e1 : bstr (Cd.enc 300) = K1 := by decide +kernel
theorem K_e2 : bstr (Cd.enc (Cd.zig (-1))) = K2 := by decide +kernel
theorem K_e3 : bstr (Cd.text ⟨#[97, 98]⟩) = K3 := by decide +kernel
theorem K_e4 : bstr (Cd.value 1 1 0 ⟨#[]⟩) = K4 := by decide +kernel
theorem K_e5 : bstr (Cd.row KL) = K5 := by decide +kernel
theorem K_e6 : bstr (Cd.value 6 0 0 ⟨#[]⟩) = ⟨#[]⟩ := by decide +kernel
theorem K_t1 : Cd.top 0 (Cd.uintR KS.data.toList) 0 0 = (300, 2, 0) := by decide +kernel
theorem K_t2 : Cd.top 0 (Cd.intR KS.data.toList) 2 0 = (-1, 3, 0) := by decide +kernel
theorem K_t3 : Cd.top ⟨#[]⟩ (Cd.textR KS 1000000) 3 0 = (⟨#[97, 98]⟩, 6, 0) := by decide +kernel
theorem K_t4 : Cd.top ⟨0, 0, 0, ⟨#[]⟩⟩ (Cd.valueR KS) 6 0 = (⟨1, 1, 0, ⟨#[]⟩⟩, 8, 0) := by decide +kernel
theorem K_t5 : Cd.top [] (Cd.rowR KS) 8 0 = (KL, 12, 0) := by decide +kernel
theorem K_t6 : Cd.top 0 (Cd.uintR KS.data.toList) 12 0 = (0, 12, 8) := by decide +kernel
theorem KL_ok : ∀ x ∈ KL, Vok x := by
  intro x hx
  simp [KL] at hx
  rcases hx with rfl | rfl <;> exact ⟨by decide, by decide, by decide⟩
theorem k1 (w : World) : Calls Try.prog 13 #[.int .u64 300] w fun e w' => e = .returned (.string K1) ∧ Below w.heap.size w w' := (uint_any 300 (by decide) w).mono fun e w' ⟨h1, h2⟩ => ⟨by rw [h1, K_e1], h2⟩
theorem k2 (w : World) : Calls Try.prog 15 #[.int .i64 (-1)] w fun e w' => e = .returned (.string K2) ∧ Below w.heap.size w w' := (int_any (-1) (by decide) (by decide) w).mono fun e w' ⟨h1, h2⟩ => ⟨by rw [h1, K_e2], h2⟩
theorem k3 (w : World) : Calls Try.prog 17 #[.string ⟨#[97, 98]⟩] w fun e w' => e = .returned (.string K3) ∧ Below w.heap.size w w' := (text_any _ (by decide) w).mono fun e w' ⟨h1, h2⟩ => ⟨by rw [h1, K_e3], h2⟩
theorem k4 (w : World) : Calls Try.prog 19 #[.agg #[.int .i64 1, .int .i64 1, .int .u64 0, .string ⟨#[]⟩]] w fun e w' => e = .returned (.string K4) ∧ Below w.heap.size w w' := (value_any 1 1 0 ⟨#[]⟩ (by decide) (by decide) (by decide) (by decide) w).mono fun e w' ⟨h1, h2⟩ => ⟨by rw [h1, K_e4], h2⟩
theorem k6 (w : World) : Calls Try.prog 19 #[.agg #[.int .i64 6, .int .i64 0, .int .u64 0, .string ⟨#[]⟩]] w fun e w' => e = .returned (.string ⟨#[]⟩) ∧ Below w.heap.size w w' := (value_any 6 0 0 ⟨#[]⟩ (by decide) (by decide) (by decide) (by decide) w).mono fun e w' ⟨h1, h2⟩ => ⟨by rw [h1, K_e6], h2⟩
theorem k5 (w : World) (v : Value) (h : VsAt w v KL) : Calls Try.prog 21 #[v] w fun e w' => e = .returned (.string K5) ∧ Below w.heap.size w w' := (row_any v KL w h KL_ok (by decide)).mono fun e w' ⟨h1, h2⟩ => ⟨by rw [h1, K_e5], h2⟩
theorem k7 (w : World) (v1 v2 : Value) (h : VsAt w v1 KL) (h2 : VsAt w v2 KL) : Calls Try.prog 33 #[v1, v2] w fun e w' => e = .returned (.bool true) ∧ Below w.heap.size w w' := (rows_any v1 v2 KL KL w h h2 (by decide) (by decide)).mono fun e w' ⟨h1, h2⟩ => ⟨by rw [h1, decide_eq_true rfl], h2⟩
theorem K_size : K1.size = 2 ∧ K2.size = 1 ∧ K3.size = 3 ∧ K4.size = 2 ∧ K5.size = 4 ∧ KS.size = 12 := by decide +kernel
theorem r1 (g : Nat) (w : World) (hr : Rdr w g KS 0 0) : Calls Try.prog 25 #[.pointer (some ⟨g, 0, none⟩)] w fun e w' => e = .returned (.int .u64 300) ∧ Upd g w w' ∧ Rdr w' g KS 2 0 := by
  have h := mUint g KS 0 0 w hr (by decide) (by decide); rw [K_t1] at h; exact h.mono fun e w' ⟨a, b, c, d⟩ => ⟨a, b, c⟩
theorem r2 (g : Nat) (w : World) (hr : Rdr w g KS 2 0) : Calls Try.prog 27 #[.pointer (some ⟨g, 0, none⟩)] w fun e w' => e = .returned (.int .i64 (-1)) ∧ Upd g w w' ∧ Rdr w' g KS 3 0 := by
  have h := mInt g KS 2 0 w hr (by decide) (by decide); rw [K_t2] at h; exact h.mono fun e w' ⟨a, b, c, d⟩ => ⟨a, b, c⟩
theorem r3 (g : Nat) (w : World) (hr : Rdr w g KS 3 0) : Calls Try.prog 29 #[.pointer (some ⟨g, 0, none⟩)] w fun e w' => e = .returned (.string ⟨#[97, 98]⟩) ∧ Upd g w w' ∧ Rdr w' g KS 6 0 := by
  have h := mText g KS 3 0 w hr (by decide) (by decide); rw [K_t3] at h; exact h.mono fun e w' ⟨a, b, c, d⟩ => ⟨a, b, c⟩
theorem r4 (g : Nat) (w : World) (hr : Rdr w g KS 6 0) : Calls Try.prog 31 #[.pointer (some ⟨g, 0, none⟩)] w fun e w' => e = .returned (.agg #[.int .i64 1, .int .i64 1, .int .u64 0, .string ⟨#[]⟩]) ∧ Upd g w w' ∧ Rdr w' g KS 8 0 := by
  have h := mValue g KS 6 0 w hr (by decide) (by decide); rw [K_t4] at h; exact h.mono fun e w' ⟨a, b, c, d⟩ => ⟨a, b, c⟩
theorem r5 (g : Nat) (w : World) (hr : Rdr w g KS 8 0) : Calls Try.prog 34 #[.pointer (some ⟨g, 0, none⟩)] w fun e w' => (∃ v', e = .returned v' ∧ w'.ownsRow w.heap.size 28 4 v' KL.length (vcells KL)) ∧ Upd g w w' ∧ Rdr w' g KS 12 0 := by
  have h := mRow g KS 8 0 w hr (by decide) (by decide); rw [K_t5] at h; exact h.mono fun e w' ⟨a, b, c, d⟩ => ⟨a, b, c⟩
theorem r6 (g : Nat) (w : World) (hr : Rdr w g KS 12 0) : Calls Try.prog 25 #[.pointer (some ⟨g, 0, none⟩)] w fun e w' => e = .returned (.int .u64 0) ∧ Upd g w w' ∧ Rdr w' g KS 12 8 := by
  have h := mUint g KS 12 0 w hr (by decide) (by decide); rw [K_t6] at h; exact h.mono fun e w' ⟨a, b, c, d⟩ => ⟨a, b, c⟩
theorem r7 (g : Nat) (w : World) (hr : Rdr w g KS 12 0) : Calls Try.prog 36 #[.pointer (some ⟨g, 0, none⟩)] w fun e w' => e = .returned (.int .i64 0) ∧ Below w.heap.size w w' := left_any g KS 12 0 w hr (by decide) (by decide)
theorem own_upd {w w' : World} {g B e size : Nat} {v : Value} {n : Nat} {xs : List Value} (h : w.ownsRow B e size v n xs) (hu : Upd g w w') (hg : g < B) : w'.ownsRow B e size v n xs :=
  h.kept (row := some g) hu (Or.inr (fun e => by have := (h.lt g e).1; omega))
theorem KL_new (w : World) (g : Nat) (hg : g = w.heap.size) : VsAt (w.alloc (.cells #[.int .i64 0, .int .i64 0, .int .u64 0, .string ⟨#[]⟩, .int .i64 2, .int .i64 5, .int .u64 0, .string ⟨#[]⟩] 28)) (.slice (some ⟨g, 0, none⟩) 2 2) KL := by
  subst hg
  refine ⟨_, 2, rfl, fun k hk => ⟨w.heap.size, 0, rfl, ?_⟩⟩
  have hk' : k < 2 := hk
  rcases (show k = 0 ∨ k = 1 by omega) with rfl | rfl <;> exact ⟨by simp [KL], by simp [KL], by simp [KL], by simp [KL]⟩
theorem K_str : (KS.toList == [172, 2, 1, 2, 97, 98, 1, 1, 2, 0, 2, 10]) = true := by decide +kernel
set_option maxHeartbeats 1600000 in
theorem known_any (w : World) : Calls Try.prog 12 #[] w fun e w' => e = .returned (.bool true) ∧ Below w.heap.size w w' := by
  obtain ⟨s1, s2, s3, s4, s5, s6⟩ := K_size
  have hcat := K_cat
  have hstr := K_str
  go_enter Try.func12, Try.ntmps12
  go_wp2_with fail
  refine (k1 _).mono ?_; rintro e w1 ⟨rfl, hb1⟩
  go_wp2_with fail
  refine (k2 _).mono ?_; rintro e w2 ⟨rfl, hb2⟩
  go_wp2_with fail
  refine (k3 _).mono ?_; rintro e w3 ⟨rfl, hb3⟩
  go_wp2_with fail
  refine (k4 _).mono ?_; rintro e w4 ⟨rfl, hb4⟩
  have g2 := hnext hb1 hb2
  have g3 := hnext g2 hb3
  have g4 := hnext g3 hb4
  clear hb1 hb2 hb3 hb4 g2 g3
  go_wp2_with fail
  refine (k5 _ _ (KL_new _ _ rfl)).mono ?_; rintro e w5 ⟨rfl, hb5⟩
  have g5 := hnext (hnext g4 (hba _ _)) hb5
  clear hb5 g4
  go_wp2_with fail
  refine (new_any _ _).mono ?_; rintro e w6 ⟨rfl, hw6⟩
  have R0 := new_rdr KS w5
  rw [← hw6] at R0
  have g6 := hnext g5 (hba w5 (.cells #[.string KS, .int .i64 0, .int .i64 0] 60))
  rw [← hw6] at g6
  have hgg : w.heap.size ≤ w5.heap.size := g5.size
  clear hw6 g5
  generalize w5.heap.size = g at *
  have hG := hid hgg
  have hB := hid g6
  clear g6 hgg
  go_wp2_with fail
  refine (r1 g _ R0).mono ?_; rintro e w7 ⟨rfl, u1, R1⟩
  go_wp2_with fail
  refine (r2 g _ R1).mono ?_; rintro e w8 ⟨rfl, u2, R2⟩
  go_wp2_with fail
  refine (r3 g _ R2).mono ?_; rintro e w9 ⟨rfl, u3, R3⟩
  go_wp2_with fail
  refine (r4 g _ R3).mono ?_; rintro e w10 ⟨rfl, u4, R4⟩
  have U := ((u1.trans u2).trans u3).trans u4
  clear u1 u2 u3 u4 R0 R1 R2 R3
  go_wp2_with fail
  have hx := Var.new w10 #[.int .i64 1, .int .i64 1, .int .u64 0, .string ⟨#[]⟩] 28 rfl
  have hdg : w10.heap.size ≠ g := by have := R4.cells.2.2.2.2.2; omega
  have hb := hba w10 (.cells #[.int .i64 1, .int .i64 1, .int .u64 0, .string ⟨#[]⟩] 28)
  refine (r5 g _ (R4.keep hb)).mono ?_; rintro e w11 ⟨⟨v', rfl, hown⟩, u5, R5⟩
  have hx1 := hx.upd u5 hdg
  clear hx
  have hgl : g < (w10.alloc (.cells #[.int .i64 1, .int .i64 1, .int .u64 0, .string ⟨#[]⟩] 28)).heap.size := (R4.keep hb).cells.2.2.2.2.2
  generalize (w10.alloc (.cells #[.int .i64 1, .int .i64 1, .int .u64 0, .string ⟨#[]⟩] 28)) = w10' at *
  have U := (U.trans (Upd.of hb)).trans u5
  clear u5 hb R4
  generalize w10.heap.size = d at *
  have HO := hid hown
  clear hown
  go_wp2_with fail
  refine (r7 g _ R5).mono ?_; rintro e w12 ⟨rfl, b7⟩
  have R6 := R5.keep b7
  have HO := hid (own_upd HO.out (Upd.of b7) hgl)
  have hx2 := hx1.keep b7
  have U := U.trans (Upd.of b7)
  clear b7 R5
  go_wp2_with fail
  refine (r6 g _ R6).mono ?_; rintro e w13 ⟨rfl, u8, R8⟩
  have HO := hid (own_upd HO.out u8 hgl)
  have hx3 := hx2.upd u8 hdg
  have U := U.trans u8
  clear u8 R6
  go_wp2_with fail
  refine (err_any g KS 12 8 _ R8).mono ?_; rintro e w14 ⟨rfl, rfl⟩
  have x0 := hx3.cell 0
  have x1 := hx3.cell 1
  have x2 := hx3.cell 2
  have x3 := hx3.cell 3
  have HV := hid (VsAt.own HO.out)
  clear HO R8 hx1 hx2 hx3
  go_wp2_with fail
  have hb := hba w13 (.cells #[.int .i64 0, .int .i64 0, .int .u64 0, .string ⟨#[]⟩, .int .i64 2, .int .i64 5, .int .u64 0, .string ⟨#[]⟩] 28)
  refine (k7 _ _ _ (HV.out.below hb) (KL_new _ _ rfl)).mono ?_; rintro e w15 ⟨rfl, b15⟩
  have B1 := hnext hb b15
  clear hb b15
  go_wp2_with fail
  refine (k6 _).mono ?_; rintro e w16 ⟨rfl, b16⟩
  go_wp2
  go_ret
  refine ⟨rfl, ?_⟩
  have A1 := hB.out.size
  have A2 := U.size
  exact (hB.out.grown U A1 (fun q hq => by cases hq; exact hG.out)).trans ((B1.trans (b16.mono B1.size)).mono (Nat.le_trans A1 A2))
end Go.Proofs.Ytanmomlkdfnakaa
