/-
  'known' of the statements of the values answers true. No condition.
-/
import Derived.Test.YtgdegoacjobpdaaTf
namespace Go.Proofs.Ytgdegoacjobpdaa
open Go.RowKit

theorem K_parse : Vl.parse [34, 97, 92, 34, 98, 34] = some ⟨5, 0, 0, ⟨#[97, 34, 98]⟩⟩ := by decide +kernel
theorem K_bad : Vl.parse [48, 49] = none := by decide +kernel
theorem K_nan : Vl.parse [102, 55, 102, 102, 56, 48, 48, 48, 48, 48, 48, 48, 48, 48, 48, 48, 48] = some ⟨3, 0, 9221120237041090560, ⟨#[]⟩⟩ := by decide +kernel
theorem K_show : Vl.txt 5 0 0 ⟨#[97, 34, 98]⟩ = [34, 97, 92, 34, 98, 34] := by decide +kernel
theorem K_cmp : Ky.cmp ⟨3, 0, 0, ⟨#[]⟩⟩ ⟨3, 0, 9221120237041090560, ⟨#[]⟩⟩ = -1 := by
  rw [Ky.cmp_right (by decide +kernel) (by decide +kernel), if_pos rfl, if_pos rfl]
  exact (Ky.floats_turned (by decide) (by decide) (by decide +kernel) (by decide +kernel)).trans (by decide +kernel)
theorem K_c0 : Va.canon 9223372036854775808 = 0 := by decide +kernel
theorem K_cn : Va.canon 9221120237041090561 = 9221120237041090560 := by decide +kernel
theorem K_ch : Va.canon 4609434218613702656 = 4609434218613702656 := by decide +kernel
theorem K_r3 : Va.right 3 0 4609434218613702656 ⟨#[]⟩ = true := by decide +kernel
set_option maxRecDepth 100000 in
set_option maxHeartbeats 12800000 in
theorem known_any (w : World) : Calls Try.prog 10 #[] w fun e w' => e = .returned (.bool true) ∧ Below w.heap.size w w' := by
  have P1 := hid (show ∀ W : World, Calls Try.prog 19 #[.string ⟨#[34, 97, 92, 34, 98, 34]⟩] W fun e w' => e = .returned (.tuple #[(.agg #[.int .i64 5, .int .i64 0, .int .u64 0, .string ⟨#[97, 34, 98]⟩]), .int .i64 0]) ∧ Below W.heap.size W w' from fun W => by have h := parse_any [34, 97, 92, 34, 98, 34] (by decide) W; rw [K_parse] at h; exact h)
  have P2 := hid (show ∀ W : World, Calls Try.prog 19 #[.string ⟨#[48, 49]⟩] W fun e w' => e = .returned (.tuple #[(.agg #[.int .i64 0, .int .i64 0, .int .u64 0, .string ⟨#[]⟩]), .int .i64 7]) ∧ Below W.heap.size W w' from fun W => by have h := parse_any [48, 49] (by decide) W; rw [K_bad] at h; exact h)
  have P3 := hid (show ∀ W : World, Calls Try.prog 19 #[.string ⟨#[102, 55, 102, 102, 56, 48, 48, 48, 48, 48, 48, 48, 48, 48, 48, 48, 48]⟩] W fun e w' => e = .returned (.tuple #[(.agg #[.int .i64 3, .int .i64 0, .int .u64 9221120237041090560, .string ⟨#[]⟩]), .int .i64 0]) ∧ Below W.heap.size W w' from fun W => by have h := parse_any [102, 55, 102, 102, 56, 48, 48, 48, 48, 48, 48, 48, 48, 48, 48, 48, 48] (by decide) W; rw [K_nan] at h; exact h)
  have O1 := hid (show ∀ W : World, Calls Try.prog 22 #[.float .f64 9223372036854775808] W fun e w' => e = .returned ((.agg #[.int .i64 3, .int .i64 0, .int .u64 0, .string ⟨#[]⟩])) ∧ Below W.heap.size W w' from fun W => by have h := offloat_any 9223372036854775808 W; rw [K_c0] at h; exact h)
  have O2 := hid (show ∀ W : World, Calls Try.prog 22 #[.float .f64 9221120237041090561] W fun e w' => e = .returned ((.agg #[.int .i64 3, .int .i64 0, .int .u64 9221120237041090560, .string ⟨#[]⟩])) ∧ Below W.heap.size W w' from fun W => by have h := offloat_any 9221120237041090561 W; rw [K_cn] at h; exact h)
  have O3 := hid (show ∀ W : World, Calls Try.prog 22 #[.float .f64 4609434218613702656] W fun e w' => e = .returned ((.agg #[.int .i64 3, .int .i64 0, .int .u64 4609434218613702656, .string ⟨#[]⟩])) ∧ Below W.heap.size W w' from fun W => by have h := offloat_any 4609434218613702656 W; rw [K_ch] at h; exact h)
  have F1 := hid (show ∀ W : World, Calls Try.prog 23 #[(.agg #[.int .i64 3, .int .i64 0, .int .u64 4609434218613702656, .string ⟨#[]⟩])] W fun e w' => e = .returned (.float .f64 4609434218613702656) ∧ Below W.heap.size W w' from fun W => asfloat_any 0 4609434218613702656 ⟨#[]⟩ (by decide) K_r3 W)
  have S1 := hid (show ∀ W : World, Calls Try.prog 16 #[(.agg #[.int .i64 5, .int .i64 0, .int .u64 0, .string ⟨#[97, 34, 98]⟩])] W fun e w' => e = .returned (.string ⟨#[34, 97, 92, 34, 98, 34]⟩) ∧ Below W.heap.size W w' from fun W => by have h := show_any 5 0 0 ⟨#[97, 34, 98]⟩ (by decide) (by decide) (by decide) (by decide) W; rw [K_show] at h; exact h)
  have C1 := hid (show ∀ W : World, Calls Try.prog 13 #[(.agg #[.int .i64 3, .int .i64 0, .int .u64 0, .string ⟨#[]⟩]), (.agg #[.int .i64 3, .int .i64 0, .int .u64 9221120237041090560, .string ⟨#[]⟩])] W fun e w' => e = .returned (.int .i64 (-1)) ∧ Below W.heap.size W w' from fun W => by have h := compare_any ⟨3, 0, 0, ⟨#[]⟩⟩ ⟨3, 0, 9221120237041090560, ⟨#[]⟩⟩ (by decide) (by decide) W; rw [K_cmp] at h; exact h)
  have E1 := hid (show ∀ W : World, Calls Try.prog 15 #[(.agg #[.int .i64 5, .int .i64 0, .int .u64 0, .string ⟨#[97, 34, 98]⟩]), (.agg #[.int .i64 5, .int .i64 0, .int .u64 0, .string ⟨#[97, 34, 98]⟩])] W fun e w' => e = .returned (.bool true) ∧ Below W.heap.size W w' from fun W => by have h := same_any ⟨5, 0, 0, ⟨#[97, 34, 98]⟩⟩ ⟨5, 0, 0, ⟨#[97, 34, 98]⟩⟩ (by decide) W; rw [show (decide ((⟨5, 0, 0, ⟨#[97, 34, 98]⟩⟩ : Cd.V) = ⟨5, 0, 0, ⟨#[97, 34, 98]⟩⟩) && Cd.V.right ⟨5, 0, 0, ⟨#[97, 34, 98]⟩⟩) = true by decide +kernel] at h; exact h)
  have R1 := hid (show ∀ W : World, Calls Try.prog 12 #[(.agg #[.int .i64 3, .int .i64 0, .int .u64 9221120237041090560, .string ⟨#[]⟩])] W fun e w' => e = .returned (.bool true) ∧ Below W.heap.size W w' from fun W => by have h := right_any 3 0 9221120237041090560 ⟨#[]⟩ (by decide) W; rw [show Va.right 3 0 9221120237041090560 ⟨#[]⟩ = true by decide +kernel] at h; exact h)
  have R2 := hid (show ∀ W : World, Calls Try.prog 12 #[(.agg #[.int .i64 6, .int .i64 0, .int .u64 0, .string ⟨#[]⟩])] W fun e w' => e = .returned (.bool false) ∧ Below W.heap.size W w' from fun W => by have h := right_any 6 0 0 ⟨#[]⟩ (by decide) W; rw [show Va.right 6 0 0 ⟨#[]⟩ = false by decide +kernel] at h; exact h)
  have T1 := hid (show ∀ W : World, Calls Try.prog 18 #[(.agg #[.int .i64 1, .int .i64 1, .int .u64 0, .string ⟨#[]⟩])] W fun e w' => e = .returned (.int .i64 1) ∧ Below W.heap.size W w' from fun W => by have h := truth_any 1 1 0 ⟨#[]⟩ (by decide) W; rw [show Vl.tru 1 1 0 ⟨#[]⟩ = 1 by decide +kernel] at h; exact h)
  have T2 := hid (show ∀ W : World, Calls Try.prog 18 #[(.agg #[.int .i64 5, .int .i64 0, .int .u64 0, .string ⟨#[97, 34, 98]⟩])] W fun e w' => e = .returned (.int .i64 (-1)) ∧ Below W.heap.size W w' from fun W => by have h := truth_any 5 0 0 ⟨#[97, 34, 98]⟩ (by decide) W; rw [show Vl.tru 5 0 0 ⟨#[97, 34, 98]⟩ = -1 by decide +kernel] at h; exact h)
  have q1 : ∀ w, (binOp .eql 24 (.agg #[.int .i64 5, .int .i64 0, .int .u64 0, .string ⟨#[97, 34, 98]⟩]) (.agg #[.int .i64 5, .int .i64 0, .int .u64 0, .string ⟨#[97, 34, 98]⟩])).run Try.prog w = .ok (.bool true) w := fun w => va_eql 5 0 0 ⟨#[97, 34, 98]⟩ 5 0 0 ⟨#[97, 34, 98]⟩ true (by decide +kernel) w
  have q2 : ∀ w, (binOp .eql 24 (.agg #[.int .i64 3, .int .i64 0, .int .u64 9221120237041090560, .string ⟨#[]⟩]) (.agg #[.int .i64 3, .int .i64 0, .int .u64 9221120237041090560, .string ⟨#[]⟩])).run Try.prog w = .ok (.bool true) w := fun w => va_eql 3 0 9221120237041090560 ⟨#[]⟩ 3 0 9221120237041090560 ⟨#[]⟩ true (by decide +kernel) w
  have q3 : ∀ w, (binOp .eql 24 (.agg #[.int .i64 3, .int .i64 0, .int .u64 0, .string ⟨#[]⟩]) (.agg #[.int .i64 3, .int .i64 0, .int .u64 0, .string ⟨#[]⟩])).run Try.prog w = .ok (.bool true) w := fun w => va_eql 3 0 0 ⟨#[]⟩ 3 0 0 ⟨#[]⟩ true (by decide +kernel) w
  have q4 : ((⟨#[34, 97, 92, 34, 98, 34]⟩ : ByteArray).toList == [34, 97, 92, 34, 98, 34]) = true := by rw [ByteArray.toList_eq]; rfl
  have q5 : (FloatKind.f64.format.order 4609434218613702656 4609434218613702656 == some .eq) = true := (Va.order_self 4609434218613702656).trans (by decide +kernel)
  go_enter Try.func10, Try.ntmps10
  go_wp2_with fail
  have V1 := BV.new w 5 0 0 ⟨#[97, 34, 98]⟩
  have hb := hba w (.cells #[.int .i64 5, .int .i64 0, .int .u64 0, .string ⟨#[97, 34, 98]⟩] 24)
  have L := hid hb
  change BV (World.alloc w (.cells #[.int .i64 5, .int .i64 0, .int .u64 0, .string ⟨#[97, 34, 98]⟩] 24)) _ _ _ _ _ at V1
  obtain ⟨g1, hg1⟩ : ∃ g, w.heap.size = g := ⟨_, rfl⟩
  rw [hg1] at V1 ⊢
  clear hb hg1
  generalize World.alloc w (.cells #[.int .i64 5, .int .i64 0, .int .u64 0, .string ⟨#[97, 34, 98]⟩] 24) = w1 at *
  refine (P1.out _).mono ?_; rintro e w2 ⟨rfl, hb⟩
  replace V1 := V1.keep hb
  replace L := hid (hnext L.out hb)
  clear hb P1
  go_wp2_with fail
  have V2 := BV.new w2 5 0 0 ⟨#[97, 34, 98]⟩
  have hb := hba w2 (.cells #[.int .i64 5, .int .i64 0, .int .u64 0, .string ⟨#[97, 34, 98]⟩] 24)
  replace V1 := V1.keep hb
  replace L := hid (hnext L.out hb)
  change BV (World.alloc w2 (.cells #[.int .i64 5, .int .i64 0, .int .u64 0, .string ⟨#[97, 34, 98]⟩] 24)) _ _ _ _ _ at V2
  obtain ⟨g2, hg2⟩ : ∃ g, w2.heap.size = g := ⟨_, rfl⟩
  rw [hg2] at V2 ⊢
  clear hb hg2
  generalize World.alloc w2 (.cells #[.int .i64 5, .int .i64 0, .int .u64 0, .string ⟨#[97, 34, 98]⟩] 24) = w3 at *
  refine (P2.out _).mono ?_; rintro e w4 ⟨rfl, hb⟩
  replace V1 := V1.keep hb
  replace V2 := V2.keep hb
  replace L := hid (hnext L.out hb)
  clear hb P2
  go_wp2_with fail
  have V3 := BV.new w4 0 0 0 ⟨#[]⟩
  have hb := hba w4 (.cells #[.int .i64 0, .int .i64 0, .int .u64 0, .string ⟨#[]⟩] 24)
  replace V1 := V1.keep hb
  replace V2 := V2.keep hb
  replace L := hid (hnext L.out hb)
  change BV (World.alloc w4 (.cells #[.int .i64 0, .int .i64 0, .int .u64 0, .string ⟨#[]⟩] 24)) _ _ _ _ _ at V3
  obtain ⟨g3, hg3⟩ : ∃ g, w4.heap.size = g := ⟨_, rfl⟩
  rw [hg3] at V3 ⊢
  clear hb hg3
  generalize World.alloc w4 (.cells #[.int .i64 0, .int .i64 0, .int .u64 0, .string ⟨#[]⟩] 24) = w5 at *
  refine (P3.out _).mono ?_; rintro e w6 ⟨rfl, hb⟩
  replace V1 := V1.keep hb
  replace V2 := V2.keep hb
  replace L := hid (hnext L.out hb)
  clear hb P3
  go_wp2_with fail
  have V4 := BV.new w6 3 0 9221120237041090560 ⟨#[]⟩
  have hb := hba w6 (.cells #[.int .i64 3, .int .i64 0, .int .u64 9221120237041090560, .string ⟨#[]⟩] 24)
  replace V1 := V1.keep hb
  replace V2 := V2.keep hb
  replace L := hid (hnext L.out hb)
  change BV (World.alloc w6 (.cells #[.int .i64 3, .int .i64 0, .int .u64 9221120237041090560, .string ⟨#[]⟩] 24)) _ _ _ _ _ at V4
  obtain ⟨g4, hg4⟩ : ∃ g, w6.heap.size = g := ⟨_, rfl⟩
  rw [hg4] at V4 ⊢
  clear hb hg4
  generalize World.alloc w6 (.cells #[.int .i64 3, .int .i64 0, .int .u64 9221120237041090560, .string ⟨#[]⟩] 24) = w7 at *
  refine (copysign_any _).mono ?_; rintro e w8 ⟨rfl, rfl⟩
  go_wp2_with fail
  refine (O1.out _).mono ?_; rintro e w9 ⟨rfl, hb⟩
  replace V1 := V1.keep hb
  replace V2 := V2.keep hb
  replace V4 := V4.keep hb
  replace L := hid (hnext L.out hb)
  clear hb O1
  go_wp2_with fail
  have V5 := BV.new w9 3 0 0 ⟨#[]⟩
  have hb := hba w9 (.cells #[.int .i64 3, .int .i64 0, .int .u64 0, .string ⟨#[]⟩] 24)
  replace V1 := V1.keep hb
  replace V2 := V2.keep hb
  replace V4 := V4.keep hb
  replace L := hid (hnext L.out hb)
  change BV (World.alloc w9 (.cells #[.int .i64 3, .int .i64 0, .int .u64 0, .string ⟨#[]⟩] 24)) _ _ _ _ _ at V5
  obtain ⟨g5, hg5⟩ : ∃ g, w9.heap.size = g := ⟨_, rfl⟩
  rw [hg5] at V5 ⊢
  clear hb hg5
  generalize World.alloc w9 (.cells #[.int .i64 3, .int .i64 0, .int .u64 0, .string ⟨#[]⟩] 24) = w10 at *
  obtain ⟨a10, a11, a12, a13, _, _, _, _, _⟩ := V1.cells
  obtain ⟨a20, a21, a22, a23, _, _, _, _, _⟩ := V2.cells
  obtain ⟨a40, a41, a42, a43, _, _, _, _, _⟩ := V4.cells
  obtain ⟨a50, a51, a52, a53, _, _, _, _, _⟩ := V5.cells
  clear V1 V2 V3 V4 V5
  obtain ⟨w20, hw20⟩ : ∃ w20, (w10).drew = w20 := ⟨_, rfl⟩
  have hd20 : Below (w10).heap.size (w10) w20 := hw20 ▸ (Below.refl _ _).drew
  have mk20 : ∀ W, Below w20.heap.size w20 W → Below w20.heap.size w20 W ∧ W.cell? ⟨g1, 0, none⟩ = some (.int .i64 5) ∧ W.cell? ⟨g1, 1, none⟩ = some (.int .i64 0) ∧ W.cell? ⟨g1, 2, none⟩ = some (.int .u64 0) ∧ W.cell? ⟨g1, 3, none⟩ = some (.string ⟨#[97, 34, 98]⟩) ∧ W.cell? ⟨g2, 0, none⟩ = some (.int .i64 5) ∧ W.cell? ⟨g2, 1, none⟩ = some (.int .i64 0) ∧ W.cell? ⟨g2, 2, none⟩ = some (.int .u64 0) ∧ W.cell? ⟨g2, 3, none⟩ = some (.string ⟨#[97, 34, 98]⟩) ∧ W.cell? ⟨g4, 0, none⟩ = some (.int .i64 3) ∧ W.cell? ⟨g4, 1, none⟩ = some (.int .i64 0) ∧ W.cell? ⟨g4, 2, none⟩ = some (.int .u64 9221120237041090560) ∧ W.cell? ⟨g4, 3, none⟩ = some (.string ⟨#[]⟩) ∧ W.cell? ⟨g5, 0, none⟩ = some (.int .i64 3) ∧ W.cell? ⟨g5, 1, none⟩ = some (.int .i64 0) ∧ W.cell? ⟨g5, 2, none⟩ = some (.int .u64 0) ∧ W.cell? ⟨g5, 3, none⟩ = some (.string ⟨#[]⟩) := fun W h => ⟨h, hkeep (hkeep a10 hd20) h, hkeep (hkeep a11 hd20) h, hkeep (hkeep a12 hd20) h, hkeep (hkeep a13 hd20) h, hkeep (hkeep a20 hd20) h, hkeep (hkeep a21 hd20) h, hkeep (hkeep a22 hd20) h, hkeep (hkeep a23 hd20) h, hkeep (hkeep a40 hd20) h, hkeep (hkeep a41 hd20) h, hkeep (hkeep a42 hd20) h, hkeep (hkeep a43 hd20) h, hkeep (hkeep a50 hd20) h, hkeep (hkeep a51 hd20) h, hkeep (hkeep a52 hd20) h, hkeep (hkeep a53 hd20) h⟩
  refine wp_region_held_drew (S := (fun W => Below w20.heap.size w20 W ∧ W.cell? ⟨g1, 0, none⟩ = some (.int .i64 5) ∧ W.cell? ⟨g1, 1, none⟩ = some (.int .i64 0) ∧ W.cell? ⟨g1, 2, none⟩ = some (.int .u64 0) ∧ W.cell? ⟨g1, 3, none⟩ = some (.string ⟨#[97, 34, 98]⟩) ∧ W.cell? ⟨g2, 0, none⟩ = some (.int .i64 5) ∧ W.cell? ⟨g2, 1, none⟩ = some (.int .i64 0) ∧ W.cell? ⟨g2, 2, none⟩ = some (.int .u64 0) ∧ W.cell? ⟨g2, 3, none⟩ = some (.string ⟨#[97, 34, 98]⟩) ∧ W.cell? ⟨g4, 0, none⟩ = some (.int .i64 3) ∧ W.cell? ⟨g4, 1, none⟩ = some (.int .i64 0) ∧ W.cell? ⟨g4, 2, none⟩ = some (.int .u64 9221120237041090560) ∧ W.cell? ⟨g4, 3, none⟩ = some (.string ⟨#[]⟩) ∧ W.cell? ⟨g5, 0, none⟩ = some (.int .i64 3) ∧ W.cell? ⟨g5, 1, none⟩ = some (.int .i64 0) ∧ W.cell? ⟨g5, 2, none⟩ = some (.int .u64 0) ∧ W.cell? ⟨g5, 3, none⟩ = some (.string ⟨#[]⟩))) (by kernel_rfl) (by rw [hw20]; exact mk20 _ (Below.refl _ _)) (fun hS20 => ?_)
  rw [hw20] at hS20 ⊢
  clear hw20
  refine wpAnyH_take (i := 0) (oi := ({ dst := some 24, op := Op.load 24 (Operand.tmp 1), type := 24, pos := "law.go:19", after := #[], guard := none } : Oper)) (v := ?_) rfl (by kernel_rfl) (by kernel_rfl) (by kernel_rfl) (fun _ _ _ h => h) (Or.inl ⟨by rfl, ?_⟩) hS20 ?_
  rotate_left
  · intro w hSw; (try dsimp only at hSw); go_simp; (try with_reducible rfl)
  simp only [Act.put, List.setIfInBounds_toArray, List.set_cons_zero, List.set_cons_succ]
  refine wpAnyH_ready (rs := [1]) (by kernel_rfl) (by simp) ?_
  refine AllReadyH.cons (o := ({ dst := some 25, op := Op.call { callee := Callee.value (Operand.func 16), args := #[Operand.tmp 24], argTypes := #[24] }, type := 9, pos := "law.go:19", after := #[{ on := 0, ground := Ground.data }], guard := none } : Oper)) rfl (fun K hK => ?_) AllReadyH.nil
  go_simp
  refine (S1.out _).mono ?_; rintro e w21 ⟨rfl, hb21⟩
  go_wp2_with fail
  refine hK.out _ _ (mk20 _ (hnext hS20.1 hb21)) (fun hS21 => ?_)
  clear hK K
  (try simp only [Act.put, List.setIfInBounds_toArray, List.set_cons_zero, List.set_cons_succ])
  clear hb21 hS20
  refine wpAnyH_take (i := 2) (oi := ({ dst := some 26, op := Op.binOp BinOp.eql 9 (Operand.tmp 25) (Operand.const (Value.string { data := #[34, 97, 92, 34, 98, 34] })) 9, type := 4, pos := "law.go:19", after := #[{ on := 1, ground := Ground.data }], guard := none } : Oper)) (v := ?_) rfl (by kernel_rfl) (by kernel_rfl) (by kernel_rfl) (fun _ _ _ h => h) (Or.inl ⟨by rfl, ?_⟩) hS21 ?_
  rotate_left
  · intro w hSw; (try dsimp only at hSw); go_simp; (try with_reducible rfl)
  simp only [Act.put, List.setIfInBounds_toArray, List.set_cons_zero, List.set_cons_succ]
  refine wpAnyH_take (i := 3) (oi := ({ dst := some 27, op := Op.move (Operand.tmp 26), type := 4, pos := "law.go:19", after := #[{ on := 2, ground := Ground.data }, { on := 1, ground := Ground.chain }], guard := none } : Oper)) (v := ?_) rfl (by kernel_rfl) (by kernel_rfl) (by kernel_rfl) (fun _ _ _ h => h) (Or.inl ⟨by rfl, ?_⟩) hS21 ?_
  rotate_left
  · intro w hSw; (try dsimp only at hSw); go_simp; (try with_reducible rfl)
  simp only [Act.put, List.setIfInBounds_toArray, List.set_cons_zero, List.set_cons_succ]
  refine wpAnyH_take (i := 4) (oi := ({ dst := some 28, op := Op.load 24 (Operand.tmp 2), type := 24, pos := "law.go:19", after := #[{ on := 3, ground := Ground.guard }], guard := some (3, true) } : Oper)) (v := ?_) rfl (by kernel_rfl) (by kernel_rfl) (by kernel_rfl) (fun _ _ _ h => h) (Or.inl ⟨by rfl, ?_⟩) hS21 ?_
  rotate_left
  · intro w hSw; (try dsimp only at hSw); go_simp; (try with_reducible rfl)
  simp only [Act.put, List.setIfInBounds_toArray, List.set_cons_zero, List.set_cons_succ]
  refine wpAnyH_take (i := 5) (oi := ({ dst := some 29, op := Op.load 24 (Operand.tmp 1), type := 24, pos := "law.go:19", after := #[{ on := 3, ground := Ground.guard }], guard := some (3, true) } : Oper)) (v := ?_) rfl (by kernel_rfl) (by kernel_rfl) (by kernel_rfl) (fun _ _ _ h => h) (Or.inl ⟨by rfl, ?_⟩) hS21 ?_
  rotate_left
  · intro w hSw; (try dsimp only at hSw); go_simp; (try with_reducible rfl)
  simp only [Act.put, List.setIfInBounds_toArray, List.set_cons_zero, List.set_cons_succ]
  refine wpAnyH_take (i := 6) (oi := ({ dst := some 30, op := Op.binOp BinOp.eql 24 (Operand.tmp 28) (Operand.tmp 29) 24, type := 4, pos := "law.go:19", after := #[{ on := 4, ground := Ground.data }, { on := 5, ground := Ground.data }, { on := 3, ground := Ground.guard }], guard := some (3, true) } : Oper)) (v := ?_) rfl (by kernel_rfl) (by kernel_rfl) (by kernel_rfl) (fun _ _ _ h => h) (Or.inl ⟨by rfl, ?_⟩) hS21 ?_
  rotate_left
  · intro w hSw; (try dsimp only at hSw); go_simp; (try with_reducible rfl)
  simp only [Act.put, List.setIfInBounds_toArray, List.set_cons_zero, List.set_cons_succ]
  refine wpAnyH_take (i := 7) (oi := ({ dst := some 31, op := Op.pick (Operand.tmp 27) (Operand.tmp 30) (Operand.const (Value.bool false)), type := 4, pos := "law.go:19", after := #[{ on := 3, ground := Ground.data }, { on := 6, ground := Ground.data }], guard := none } : Oper)) (v := ?_) rfl (by kernel_rfl) (by kernel_rfl) (by kernel_rfl) (fun _ _ _ h => h) (Or.inl ⟨by rfl, ?_⟩) hS21 ?_
  rotate_left
  · intro w hSw; (try dsimp only at hSw); go_simp; (try with_reducible rfl)
  simp only [Act.put, List.setIfInBounds_toArray, List.set_cons_zero, List.set_cons_succ]
  refine wpAnyH_take (i := 8) (oi := ({ dst := some 32, op := Op.move (Operand.tmp 31), type := 4, pos := "law.go:19", after := #[{ on := 7, ground := Ground.data }, { on := 3, ground := Ground.chain }], guard := none } : Oper)) (v := ?_) rfl (by kernel_rfl) (by kernel_rfl) (by kernel_rfl) (fun _ _ _ h => h) (Or.inl ⟨by rfl, ?_⟩) hS21 ?_
  rotate_left
  · intro w hSw; (try dsimp only at hSw); go_simp; (try with_reducible rfl)
  simp only [Act.put, List.setIfInBounds_toArray, List.set_cons_zero, List.set_cons_succ]
  refine wpAnyH_take (i := 9) (oi := ({ dst := some 33, op := Op.move (Operand.tmp 3), type := 31, pos := "law.go:19", after := #[{ on := 8, ground := Ground.guard }], guard := some (8, true) } : Oper)) (v := ?_) rfl (by kernel_rfl) (by kernel_rfl) (by kernel_rfl) (fun _ _ _ h => h) (Or.inl ⟨by rfl, ?_⟩) hS21 ?_
  rotate_left
  · intro w hSw; (try dsimp only at hSw); go_simp; (try with_reducible rfl)
  simp only [Act.put, List.setIfInBounds_toArray, List.set_cons_zero, List.set_cons_succ]
  refine wpAnyH_take (i := 10) (oi := ({ dst := some 34, op := Op.binOp BinOp.eql 31 (Operand.tmp 33) (Operand.const (Value.int IntKind.i64 0)) 31, type := 4, pos := "law.go:19", after := #[{ on := 9, ground := Ground.data }, { on := 8, ground := Ground.guard }], guard := some (8, true) } : Oper)) (v := ?_) rfl (by kernel_rfl) (by kernel_rfl) (by kernel_rfl) (fun _ _ _ h => h) (Or.inl ⟨by rfl, ?_⟩) hS21 ?_
  rotate_left
  · intro w hSw; (try dsimp only at hSw); go_simp; (try with_reducible rfl)
  simp only [Act.put, List.setIfInBounds_toArray, List.set_cons_zero, List.set_cons_succ]
  refine wpAnyH_take (i := 11) (oi := ({ dst := some 35, op := Op.pick (Operand.tmp 32) (Operand.tmp 34) (Operand.const (Value.bool false)), type := 4, pos := "law.go:19", after := #[{ on := 8, ground := Ground.data }, { on := 10, ground := Ground.data }], guard := none } : Oper)) (v := ?_) rfl (by kernel_rfl) (by kernel_rfl) (by kernel_rfl) (fun _ _ _ h => h) (Or.inl ⟨by rfl, ?_⟩) hS21 ?_
  rotate_left
  · intro w hSw; (try dsimp only at hSw); go_simp; (try with_reducible rfl)
  simp only [Act.put, List.setIfInBounds_toArray, List.set_cons_zero, List.set_cons_succ]
  refine wpAnyH_take (i := 12) (oi := ({ dst := some 36, op := Op.move (Operand.tmp 35), type := 4, pos := "law.go:19", after := #[{ on := 11, ground := Ground.data }, { on := 8, ground := Ground.chain }], guard := none } : Oper)) (v := ?_) rfl (by kernel_rfl) (by kernel_rfl) (by kernel_rfl) (fun _ _ _ h => h) (Or.inl ⟨by rfl, ?_⟩) hS21 ?_
  rotate_left
  · intro w hSw; (try dsimp only at hSw); go_simp; (try with_reducible rfl)
  simp only [Act.put, List.setIfInBounds_toArray, List.set_cons_zero, List.set_cons_succ]
  refine wpAnyH_take (i := 13) (oi := ({ dst := some 37, op := Op.move (Operand.tmp 5), type := 31, pos := "law.go:19", after := #[{ on := 12, ground := Ground.guard }], guard := some (12, true) } : Oper)) (v := ?_) rfl (by kernel_rfl) (by kernel_rfl) (by kernel_rfl) (fun _ _ _ h => h) (Or.inl ⟨by rfl, ?_⟩) hS21 ?_
  rotate_left
  · intro w hSw; (try dsimp only at hSw); go_simp; (try with_reducible rfl)
  simp only [Act.put, List.setIfInBounds_toArray, List.set_cons_zero, List.set_cons_succ]
  refine wpAnyH_take (i := 14) (oi := ({ dst := some 38, op := Op.binOp BinOp.eql 31 (Operand.tmp 37) (Operand.const (Value.int IntKind.i64 7)) 31, type := 4, pos := "law.go:19", after := #[{ on := 13, ground := Ground.data }, { on := 12, ground := Ground.guard }], guard := some (12, true) } : Oper)) (v := ?_) rfl (by kernel_rfl) (by kernel_rfl) (by kernel_rfl) (fun _ _ _ h => h) (Or.inl ⟨by rfl, ?_⟩) hS21 ?_
  rotate_left
  · intro w hSw; (try dsimp only at hSw); go_simp; (try with_reducible rfl)
  simp only [Act.put, List.setIfInBounds_toArray, List.set_cons_zero, List.set_cons_succ]
  refine wpAnyH_take (i := 15) (oi := ({ dst := some 39, op := Op.pick (Operand.tmp 36) (Operand.tmp 38) (Operand.const (Value.bool false)), type := 4, pos := "law.go:19", after := #[{ on := 12, ground := Ground.data }, { on := 14, ground := Ground.data }], guard := none } : Oper)) (v := ?_) rfl (by kernel_rfl) (by kernel_rfl) (by kernel_rfl) (fun _ _ _ h => h) (Or.inl ⟨by rfl, ?_⟩) hS21 ?_
  rotate_left
  · intro w hSw; (try dsimp only at hSw); go_simp; (try with_reducible rfl)
  simp only [Act.put, List.setIfInBounds_toArray, List.set_cons_zero, List.set_cons_succ]
  refine wpAnyH_take (i := 16) (oi := ({ dst := some 40, op := Op.move (Operand.tmp 39), type := 4, pos := "law.go:19", after := #[{ on := 15, ground := Ground.data }, { on := 12, ground := Ground.chain }], guard := none } : Oper)) (v := ?_) rfl (by kernel_rfl) (by kernel_rfl) (by kernel_rfl) (fun _ _ _ h => h) (Or.inl ⟨by rfl, ?_⟩) hS21 ?_
  rotate_left
  · intro w hSw; (try dsimp only at hSw); go_simp; (try with_reducible rfl)
  simp only [Act.put, List.setIfInBounds_toArray, List.set_cons_zero, List.set_cons_succ]
  refine wpAnyH_take (i := 17) (oi := ({ dst := some 41, op := Op.move (Operand.tmp 7), type := 31, pos := "law.go:19", after := #[{ on := 16, ground := Ground.guard }], guard := some (16, true) } : Oper)) (v := ?_) rfl (by kernel_rfl) (by kernel_rfl) (by kernel_rfl) (fun _ _ _ h => h) (Or.inl ⟨by rfl, ?_⟩) hS21 ?_
  rotate_left
  · intro w hSw; (try dsimp only at hSw); go_simp; (try with_reducible rfl)
  simp only [Act.put, List.setIfInBounds_toArray, List.set_cons_zero, List.set_cons_succ]
  refine wpAnyH_take (i := 18) (oi := ({ dst := some 42, op := Op.binOp BinOp.eql 31 (Operand.tmp 41) (Operand.const (Value.int IntKind.i64 0)) 31, type := 4, pos := "law.go:19", after := #[{ on := 17, ground := Ground.data }, { on := 16, ground := Ground.guard }], guard := some (16, true) } : Oper)) (v := ?_) rfl (by kernel_rfl) (by kernel_rfl) (by kernel_rfl) (fun _ _ _ h => h) (Or.inl ⟨by rfl, ?_⟩) hS21 ?_
  rotate_left
  · intro w hSw; (try dsimp only at hSw); go_simp; (try with_reducible rfl)
  simp only [Act.put, List.setIfInBounds_toArray, List.set_cons_zero, List.set_cons_succ]
  refine wpAnyH_take (i := 19) (oi := ({ dst := some 43, op := Op.pick (Operand.tmp 40) (Operand.tmp 42) (Operand.const (Value.bool false)), type := 4, pos := "law.go:19", after := #[{ on := 16, ground := Ground.data }, { on := 18, ground := Ground.data }], guard := none } : Oper)) (v := ?_) rfl (by kernel_rfl) (by kernel_rfl) (by kernel_rfl) (fun _ _ _ h => h) (Or.inl ⟨by rfl, ?_⟩) hS21 ?_
  rotate_left
  · intro w hSw; (try dsimp only at hSw); go_simp; (try with_reducible rfl)
  simp only [Act.put, List.setIfInBounds_toArray, List.set_cons_zero, List.set_cons_succ]
  refine wpAnyH_take (i := 20) (oi := ({ dst := some 44, op := Op.move (Operand.tmp 43), type := 4, pos := "law.go:19", after := #[{ on := 19, ground := Ground.data }, { on := 16, ground := Ground.chain }], guard := none } : Oper)) (v := ?_) rfl (by kernel_rfl) (by kernel_rfl) (by kernel_rfl) (fun _ _ _ h => h) (Or.inl ⟨by rfl, ?_⟩) hS21 ?_
  rotate_left
  · intro w hSw; (try dsimp only at hSw); go_simp; (try with_reducible rfl)
  simp only [Act.put, List.setIfInBounds_toArray, List.set_cons_zero, List.set_cons_succ]
  refine wpAnyH_take (i := 21) (oi := ({ dst := some 45, op := Op.load 24 (Operand.tmp 6), type := 24, pos := "law.go:19", after := #[{ on := 20, ground := Ground.guard }], guard := some (20, true) } : Oper)) (v := ?_) rfl (by kernel_rfl) (by kernel_rfl) (by kernel_rfl) (fun _ _ _ h => h) (Or.inl ⟨by rfl, ?_⟩) hS21 ?_
  rotate_left
  · intro w hSw; (try dsimp only at hSw); go_simp; (try with_reducible rfl)
  simp only [Act.put, List.setIfInBounds_toArray, List.set_cons_zero, List.set_cons_succ]
  refine wpAnyH_ready (rs := [22]) (by kernel_rfl) (by simp) ?_
  refine AllReadyH.cons (o := ({ dst := some 46, op := Op.call { callee := Callee.value (Operand.func 25), args := #[], argTypes := #[] }, type := 37, pos := "law.go:19", after := #[{ on := 20, ground := Ground.chain }, { on := 20, ground := Ground.guard }], guard := some (20, true) } : Oper)) rfl (fun K hK => ?_) AllReadyH.nil
  go_simp
  refine (nan_any _).mono ?_; rintro e w22 ⟨rfl, hw22⟩
  have hb22 : Below w21.heap.size w21 w22 := hw22 ▸ Below.refl _ _
  clear hw22
  go_wp2_with fail
  refine hK.out _ _ (mk20 _ (hnext hS21.1 hb22)) (fun hS22 => ?_)
  clear hK K
  (try simp only [Act.put, List.setIfInBounds_toArray, List.set_cons_zero, List.set_cons_succ])
  clear hb22 hS21
  refine wpAnyH_ready (rs := [23]) (by kernel_rfl) (by simp) ?_
  refine AllReadyH.cons (o := ({ dst := some 47, op := Op.call { callee := Callee.value (Operand.func 22), args := #[Operand.tmp 46], argTypes := #[37] }, type := 24, pos := "law.go:19", after := #[{ on := 22, ground := Ground.data }, { on := 22, ground := Ground.chain }, { on := 20, ground := Ground.guard }], guard := some (20, true) } : Oper)) rfl (fun K hK => ?_) AllReadyH.nil
  go_simp
  refine (O2.out _).mono ?_; rintro e w23 ⟨rfl, hb23⟩
  go_wp2_with fail
  refine hK.out _ _ (mk20 _ (hnext hS22.1 hb23)) (fun hS23 => ?_)
  clear hK K
  (try simp only [Act.put, List.setIfInBounds_toArray, List.set_cons_zero, List.set_cons_succ])
  clear hb23 hS22
  refine wpAnyH_take (i := 24) (oi := ({ dst := some 48, op := Op.binOp BinOp.eql 24 (Operand.tmp 45) (Operand.tmp 47) 24, type := 4, pos := "law.go:19", after := #[{ on := 21, ground := Ground.data }, { on := 23, ground := Ground.data }, { on := 20, ground := Ground.guard }], guard := some (20, true) } : Oper)) (v := ?_) rfl (by kernel_rfl) (by kernel_rfl) (by kernel_rfl) (fun _ _ _ h => h) (Or.inl ⟨by rfl, ?_⟩) hS23 ?_
  rotate_left
  · intro w hSw; (try dsimp only at hSw); go_simp; (try with_reducible rfl)
  simp only [Act.put, List.setIfInBounds_toArray, List.set_cons_zero, List.set_cons_succ]
  refine wpAnyH_take (i := 25) (oi := ({ dst := some 49, op := Op.pick (Operand.tmp 44) (Operand.tmp 48) (Operand.const (Value.bool false)), type := 4, pos := "law.go:19", after := #[{ on := 20, ground := Ground.data }, { on := 24, ground := Ground.data }], guard := none } : Oper)) (v := ?_) rfl (by kernel_rfl) (by kernel_rfl) (by kernel_rfl) (fun _ _ _ h => h) (Or.inl ⟨by rfl, ?_⟩) hS23 ?_
  rotate_left
  · intro w hSw; (try dsimp only at hSw); go_simp; (try with_reducible rfl)
  simp only [Act.put, List.setIfInBounds_toArray, List.set_cons_zero, List.set_cons_succ]
  refine wpAnyH_take (i := 26) (oi := ({ dst := some 50, op := Op.move (Operand.tmp 49), type := 4, pos := "law.go:19", after := #[{ on := 25, ground := Ground.data }, { on := 23, ground := Ground.chain }], guard := none } : Oper)) (v := ?_) rfl (by kernel_rfl) (by kernel_rfl) (by kernel_rfl) (fun _ _ _ h => h) (Or.inl ⟨by rfl, ?_⟩) hS23 ?_
  rotate_left
  · intro w hSw; (try dsimp only at hSw); go_simp; (try with_reducible rfl)
  simp only [Act.put, List.setIfInBounds_toArray, List.set_cons_zero, List.set_cons_succ]
  refine wpAnyH_take (i := 27) (oi := ({ dst := some 51, op := Op.load 24 (Operand.tmp 8), type := 24, pos := "law.go:19", after := #[{ on := 26, ground := Ground.guard }], guard := some (26, true) } : Oper)) (v := ?_) rfl (by kernel_rfl) (by kernel_rfl) (by kernel_rfl) (fun _ _ _ h => h) (Or.inl ⟨by rfl, ?_⟩) hS23 ?_
  rotate_left
  · intro w hSw; (try dsimp only at hSw); go_simp; (try with_reducible rfl)
  simp only [Act.put, List.setIfInBounds_toArray, List.set_cons_zero, List.set_cons_succ]
  refine wpAnyH_take (i := 28) (oi := ({ dst := some 52, op := Op.build 24 #[(0, Operand.const (Value.int IntKind.i64 3))], type := 24, pos := "law.go:19", after := #[{ on := 26, ground := Ground.guard }], guard := some (26, true) } : Oper)) (v := ?_) rfl (by kernel_rfl) (by kernel_rfl) (by kernel_rfl) (fun _ _ _ h => h) (Or.inl ⟨by rfl, ?_⟩) hS23 ?_
  rotate_left
  · intro w hSw; (try dsimp only at hSw); go_simp; (try with_reducible rfl)
  simp only [Act.put, List.setIfInBounds_toArray, List.set_cons_zero, List.set_cons_succ]
  refine wpAnyH_take (i := 29) (oi := ({ dst := some 53, op := Op.binOp BinOp.eql 24 (Operand.tmp 51) (Operand.tmp 52) 24, type := 4, pos := "law.go:19", after := #[{ on := 27, ground := Ground.data }, { on := 28, ground := Ground.data }, { on := 26, ground := Ground.guard }], guard := some (26, true) } : Oper)) (v := ?_) rfl (by kernel_rfl) (by kernel_rfl) (by kernel_rfl) (fun _ _ _ h => h) (Or.inl ⟨by rfl, ?_⟩) hS23 ?_
  rotate_left
  · intro w hSw; (try dsimp only at hSw); go_simp; (try with_reducible rfl)
  simp only [Act.put, List.setIfInBounds_toArray, List.set_cons_zero, List.set_cons_succ]
  refine wpAnyH_take (i := 30) (oi := ({ dst := some 54, op := Op.pick (Operand.tmp 50) (Operand.tmp 53) (Operand.const (Value.bool false)), type := 4, pos := "law.go:19", after := #[{ on := 26, ground := Ground.data }, { on := 29, ground := Ground.data }], guard := none } : Oper)) (v := ?_) rfl (by kernel_rfl) (by kernel_rfl) (by kernel_rfl) (fun _ _ _ h => h) (Or.inl ⟨by rfl, ?_⟩) hS23 ?_
  rotate_left
  · intro w hSw; (try dsimp only at hSw); go_simp; (try with_reducible rfl)
  simp only [Act.put, List.setIfInBounds_toArray, List.set_cons_zero, List.set_cons_succ]
  refine wpAnyH_take (i := 31) (oi := ({ dst := some 55, op := Op.move (Operand.tmp 54), type := 4, pos := "law.go:19", after := #[{ on := 30, ground := Ground.data }, { on := 26, ground := Ground.chain }], guard := none } : Oper)) (v := ?_) rfl (by kernel_rfl) (by kernel_rfl) (by kernel_rfl) (fun _ _ _ h => h) (Or.inl ⟨by rfl, ?_⟩) hS23 ?_
  rotate_left
  · intro w hSw; (try dsimp only at hSw); go_simp; (try with_reducible rfl)
  simp only [Act.put, List.setIfInBounds_toArray, List.set_cons_zero, List.set_cons_succ]
  refine wpAnyH_take (i := 32) (oi := ({ dst := some 56, op := Op.load 24 (Operand.tmp 8), type := 24, pos := "law.go:19", after := #[{ on := 31, ground := Ground.guard }], guard := some (31, true) } : Oper)) (v := ?_) rfl (by kernel_rfl) (by kernel_rfl) (by kernel_rfl) (fun _ _ _ h => h) (Or.inl ⟨by rfl, ?_⟩) hS23 ?_
  rotate_left
  · intro w hSw; (try dsimp only at hSw); go_simp; (try with_reducible rfl)
  simp only [Act.put, List.setIfInBounds_toArray, List.set_cons_zero, List.set_cons_succ]
  refine wpAnyH_take (i := 33) (oi := ({ dst := some 57, op := Op.load 24 (Operand.tmp 6), type := 24, pos := "law.go:19", after := #[{ on := 31, ground := Ground.guard }], guard := some (31, true) } : Oper)) (v := ?_) rfl (by kernel_rfl) (by kernel_rfl) (by kernel_rfl) (fun _ _ _ h => h) (Or.inl ⟨by rfl, ?_⟩) hS23 ?_
  rotate_left
  · intro w hSw; (try dsimp only at hSw); go_simp; (try with_reducible rfl)
  simp only [Act.put, List.setIfInBounds_toArray, List.set_cons_zero, List.set_cons_succ]
  refine wpAnyH_ready (rs := [34]) (by kernel_rfl) (by simp) ?_
  refine AllReadyH.cons (o := ({ dst := some 58, op := Op.call { callee := Callee.value (Operand.func 13), args := #[Operand.tmp 56, Operand.tmp 57], argTypes := #[24, 24] }, type := 3, pos := "law.go:19", after := #[{ on := 32, ground := Ground.data }, { on := 33, ground := Ground.data }, { on := 31, ground := Ground.chain }, { on := 31, ground := Ground.guard }], guard := some (31, true) } : Oper)) rfl (fun K hK => ?_) AllReadyH.nil
  go_simp
  refine (C1.out _).mono ?_; rintro e w24 ⟨rfl, hb24⟩
  go_wp2_with fail
  refine hK.out _ _ (mk20 _ (hnext hS23.1 hb24)) (fun hS24 => ?_)
  clear hK K
  (try simp only [Act.put, List.setIfInBounds_toArray, List.set_cons_zero, List.set_cons_succ])
  clear hb24 hS23
  refine wpAnyH_take (i := 35) (oi := ({ dst := some 59, op := Op.binOp BinOp.eql 3 (Operand.tmp 58) (Operand.const (Value.int IntKind.i64 (-1))) 3, type := 4, pos := "law.go:19", after := #[{ on := 34, ground := Ground.data }, { on := 31, ground := Ground.guard }], guard := some (31, true) } : Oper)) (v := ?_) rfl (by kernel_rfl) (by kernel_rfl) (by kernel_rfl) (fun _ _ _ h => h) (Or.inl ⟨by rfl, ?_⟩) hS24 ?_
  rotate_left
  · intro w hSw; (try dsimp only at hSw); go_simp; (try with_reducible rfl)
  simp only [Act.put, List.setIfInBounds_toArray, List.set_cons_zero, List.set_cons_succ]
  refine wpAnyH_take (i := 36) (oi := ({ dst := some 60, op := Op.pick (Operand.tmp 55) (Operand.tmp 59) (Operand.const (Value.bool false)), type := 4, pos := "law.go:19", after := #[{ on := 31, ground := Ground.data }, { on := 35, ground := Ground.data }], guard := none } : Oper)) (v := ?_) rfl (by kernel_rfl) (by kernel_rfl) (by kernel_rfl) (fun _ _ _ h => h) (Or.inl ⟨by rfl, ?_⟩) hS24 ?_
  rotate_left
  · intro w hSw; (try dsimp only at hSw); go_simp; (try with_reducible rfl)
  simp only [Act.put, List.setIfInBounds_toArray, List.set_cons_zero, List.set_cons_succ]
  refine wpAnyH_take (i := 37) (oi := ({ dst := some 61, op := Op.move (Operand.tmp 60), type := 4, pos := "law.go:19", after := #[{ on := 36, ground := Ground.data }, { on := 34, ground := Ground.chain }], guard := none } : Oper)) (v := ?_) rfl (by kernel_rfl) (by kernel_rfl) (by kernel_rfl) (fun _ _ _ h => h) (Or.inl ⟨by rfl, ?_⟩) hS24 ?_
  rotate_left
  · intro w hSw; (try dsimp only at hSw); go_simp; (try with_reducible rfl)
  simp only [Act.put, List.setIfInBounds_toArray, List.set_cons_zero, List.set_cons_succ]
  refine wpAnyH_take (i := 38) (oi := ({ dst := some 62, op := Op.load 24 (Operand.tmp 1), type := 24, pos := "law.go:19", after := #[{ on := 37, ground := Ground.guard }], guard := some (37, true) } : Oper)) (v := ?_) rfl (by kernel_rfl) (by kernel_rfl) (by kernel_rfl) (fun _ _ _ h => h) (Or.inl ⟨by rfl, ?_⟩) hS24 ?_
  rotate_left
  · intro w hSw; (try dsimp only at hSw); go_simp; (try with_reducible rfl)
  simp only [Act.put, List.setIfInBounds_toArray, List.set_cons_zero, List.set_cons_succ]
  refine wpAnyH_take (i := 39) (oi := ({ dst := some 63, op := Op.load 24 (Operand.tmp 2), type := 24, pos := "law.go:19", after := #[{ on := 37, ground := Ground.guard }], guard := some (37, true) } : Oper)) (v := ?_) rfl (by kernel_rfl) (by kernel_rfl) (by kernel_rfl) (fun _ _ _ h => h) (Or.inl ⟨by rfl, ?_⟩) hS24 ?_
  rotate_left
  · intro w hSw; (try dsimp only at hSw); go_simp; (try with_reducible rfl)
  simp only [Act.put, List.setIfInBounds_toArray, List.set_cons_zero, List.set_cons_succ]
  refine wpAnyH_ready (rs := [40]) (by kernel_rfl) (by simp) ?_
  refine AllReadyH.cons (o := ({ dst := some 64, op := Op.call { callee := Callee.value (Operand.func 15), args := #[Operand.tmp 62, Operand.tmp 63], argTypes := #[24, 24] }, type := 4, pos := "law.go:19", after := #[{ on := 38, ground := Ground.data }, { on := 39, ground := Ground.data }, { on := 37, ground := Ground.chain }, { on := 37, ground := Ground.guard }], guard := some (37, true) } : Oper)) rfl (fun K hK => ?_) AllReadyH.nil
  go_simp
  refine (E1.out _).mono ?_; rintro e w25 ⟨rfl, hb25⟩
  go_wp2_with fail
  refine hK.out _ _ (mk20 _ (hnext hS24.1 hb25)) (fun hS25 => ?_)
  clear hK K
  (try simp only [Act.put, List.setIfInBounds_toArray, List.set_cons_zero, List.set_cons_succ])
  clear hb25 hS24
  refine wpAnyH_take (i := 41) (oi := ({ dst := some 65, op := Op.pick (Operand.tmp 61) (Operand.tmp 64) (Operand.const (Value.bool false)), type := 4, pos := "law.go:19", after := #[{ on := 37, ground := Ground.data }, { on := 40, ground := Ground.data }], guard := none } : Oper)) (v := ?_) rfl (by kernel_rfl) (by kernel_rfl) (by kernel_rfl) (fun _ _ _ h => h) (Or.inl ⟨by rfl, ?_⟩) hS25 ?_
  rotate_left
  · intro w hSw; (try dsimp only at hSw); go_simp; (try with_reducible rfl)
  simp only [Act.put, List.setIfInBounds_toArray, List.set_cons_zero, List.set_cons_succ]
  refine wpAnyH_take (i := 42) (oi := ({ dst := some 66, op := Op.move (Operand.tmp 65), type := 4, pos := "law.go:19", after := #[{ on := 41, ground := Ground.data }, { on := 40, ground := Ground.chain }], guard := none } : Oper)) (v := ?_) rfl (by kernel_rfl) (by kernel_rfl) (by kernel_rfl) (fun _ _ _ h => h) (Or.inl ⟨by rfl, ?_⟩) hS25 ?_
  rotate_left
  · intro w hSw; (try dsimp only at hSw); go_simp; (try with_reducible rfl)
  simp only [Act.put, List.setIfInBounds_toArray, List.set_cons_zero, List.set_cons_succ]
  refine wpAnyH_take (i := 43) (oi := ({ dst := some 67, op := Op.load 24 (Operand.tmp 6), type := 24, pos := "law.go:19", after := #[{ on := 42, ground := Ground.guard }], guard := some (42, true) } : Oper)) (v := ?_) rfl (by kernel_rfl) (by kernel_rfl) (by kernel_rfl) (fun _ _ _ h => h) (Or.inl ⟨by rfl, ?_⟩) hS25 ?_
  rotate_left
  · intro w hSw; (try dsimp only at hSw); go_simp; (try with_reducible rfl)
  simp only [Act.put, List.setIfInBounds_toArray, List.set_cons_zero, List.set_cons_succ]
  refine wpAnyH_ready (rs := [44]) (by kernel_rfl) (by simp) ?_
  refine AllReadyH.cons (o := ({ dst := some 68, op := Op.call { callee := Callee.value (Operand.func 12), args := #[Operand.tmp 67], argTypes := #[24] }, type := 4, pos := "law.go:19", after := #[{ on := 43, ground := Ground.data }, { on := 42, ground := Ground.chain }, { on := 42, ground := Ground.guard }], guard := some (42, true) } : Oper)) rfl (fun K hK => ?_) AllReadyH.nil
  go_simp
  refine (R1.out _).mono ?_; rintro e w26 ⟨rfl, hb26⟩
  go_wp2_with fail
  refine hK.out _ _ (mk20 _ (hnext hS25.1 hb26)) (fun hS26 => ?_)
  clear hK K
  (try simp only [Act.put, List.setIfInBounds_toArray, List.set_cons_zero, List.set_cons_succ])
  clear hb26 hS25
  refine wpAnyH_take (i := 45) (oi := ({ dst := some 69, op := Op.pick (Operand.tmp 66) (Operand.tmp 68) (Operand.const (Value.bool false)), type := 4, pos := "law.go:19", after := #[{ on := 42, ground := Ground.data }, { on := 44, ground := Ground.data }], guard := none } : Oper)) (v := ?_) rfl (by kernel_rfl) (by kernel_rfl) (by kernel_rfl) (fun _ _ _ h => h) (Or.inl ⟨by rfl, ?_⟩) hS26 ?_
  rotate_left
  · intro w hSw; (try dsimp only at hSw); go_simp; (try with_reducible rfl)
  simp only [Act.put, List.setIfInBounds_toArray, List.set_cons_zero, List.set_cons_succ]
  refine wpAnyH_take (i := 46) (oi := ({ dst := some 70, op := Op.move (Operand.tmp 69), type := 4, pos := "law.go:19", after := #[{ on := 45, ground := Ground.data }, { on := 44, ground := Ground.chain }], guard := none } : Oper)) (v := ?_) rfl (by kernel_rfl) (by kernel_rfl) (by kernel_rfl) (fun _ _ _ h => h) (Or.inl ⟨by rfl, ?_⟩) hS26 ?_
  rotate_left
  · intro w hSw; (try dsimp only at hSw); go_simp; (try with_reducible rfl)
  simp only [Act.put, List.setIfInBounds_toArray, List.set_cons_zero, List.set_cons_succ]
  refine wpAnyH_take (i := 47) (oi := ({ dst := some 71, op := Op.build 24 #[(0, Operand.const (Value.int IntKind.i64 6))], type := 24, pos := "law.go:19", after := #[{ on := 46, ground := Ground.guard }], guard := some (46, true) } : Oper)) (v := ?_) rfl (by kernel_rfl) (by kernel_rfl) (by kernel_rfl) (fun _ _ _ h => h) (Or.inl ⟨by rfl, ?_⟩) hS26 ?_
  rotate_left
  · intro w hSw; (try dsimp only at hSw); go_simp; (try with_reducible rfl)
  simp only [Act.put, List.setIfInBounds_toArray, List.set_cons_zero, List.set_cons_succ]
  refine wpAnyH_ready (rs := [48]) (by kernel_rfl) (by simp) ?_
  refine AllReadyH.cons (o := ({ dst := some 72, op := Op.call { callee := Callee.value (Operand.func 12), args := #[Operand.tmp 71], argTypes := #[24] }, type := 4, pos := "law.go:19", after := #[{ on := 47, ground := Ground.data }, { on := 46, ground := Ground.chain }, { on := 46, ground := Ground.guard }], guard := some (46, true) } : Oper)) rfl (fun K hK => ?_) AllReadyH.nil
  go_simp
  refine (R2.out _).mono ?_; rintro e w27 ⟨rfl, hb27⟩
  go_wp2_with fail
  refine hK.out _ _ (mk20 _ (hnext hS26.1 hb27)) (fun hS27 => ?_)
  clear hK K
  (try simp only [Act.put, List.setIfInBounds_toArray, List.set_cons_zero, List.set_cons_succ])
  clear hb27 hS26
  refine wpAnyH_take (i := 49) (oi := ({ dst := some 73, op := Op.unOp UnOp.not 4 (Operand.tmp 72), type := 4, pos := "law.go:19", after := #[{ on := 48, ground := Ground.data }, { on := 46, ground := Ground.guard }], guard := some (46, true) } : Oper)) (v := ?_) rfl (by kernel_rfl) (by kernel_rfl) (by kernel_rfl) (fun _ _ _ h => h) (Or.inl ⟨by rfl, ?_⟩) hS27 ?_
  rotate_left
  · intro w hSw; (try dsimp only at hSw); go_simp; (try with_reducible rfl)
  simp only [Act.put, List.setIfInBounds_toArray, List.set_cons_zero, List.set_cons_succ]
  refine wpAnyH_take (i := 50) (oi := ({ dst := some 74, op := Op.pick (Operand.tmp 70) (Operand.tmp 73) (Operand.const (Value.bool false)), type := 4, pos := "law.go:19", after := #[{ on := 46, ground := Ground.data }, { on := 49, ground := Ground.data }], guard := none } : Oper)) (v := ?_) rfl (by kernel_rfl) (by kernel_rfl) (by kernel_rfl) (fun _ _ _ h => h) (Or.inl ⟨by rfl, ?_⟩) hS27 ?_
  rotate_left
  · intro w hSw; (try dsimp only at hSw); go_simp; (try with_reducible rfl)
  simp only [Act.put, List.setIfInBounds_toArray, List.set_cons_zero, List.set_cons_succ]
  refine wpAnyH_take (i := 51) (oi := ({ dst := some 75, op := Op.move (Operand.tmp 74), type := 4, pos := "law.go:19", after := #[{ on := 50, ground := Ground.data }, { on := 48, ground := Ground.chain }], guard := none } : Oper)) (v := ?_) rfl (by kernel_rfl) (by kernel_rfl) (by kernel_rfl) (fun _ _ _ h => h) (Or.inl ⟨by rfl, ?_⟩) hS27 ?_
  rotate_left
  · intro w hSw; (try dsimp only at hSw); go_simp; (try with_reducible rfl)
  simp only [Act.put, List.setIfInBounds_toArray, List.set_cons_zero, List.set_cons_succ]
  refine wpAnyH_take (i := 52) (oi := ({ dst := some 76, op := Op.build 24 #[(0, Operand.const (Value.int IntKind.i64 1)), (1, Operand.const (Value.int IntKind.i64 1))], type := 24, pos := "law.go:19", after := #[{ on := 51, ground := Ground.guard }], guard := some (51, true) } : Oper)) (v := ?_) rfl (by kernel_rfl) (by kernel_rfl) (by kernel_rfl) (fun _ _ _ h => h) (Or.inl ⟨by rfl, ?_⟩) hS27 ?_
  rotate_left
  · intro w hSw; (try dsimp only at hSw); go_simp; (try with_reducible rfl)
  simp only [Act.put, List.setIfInBounds_toArray, List.set_cons_zero, List.set_cons_succ]
  refine wpAnyH_ready (rs := [53]) (by kernel_rfl) (by simp) ?_
  refine AllReadyH.cons (o := ({ dst := some 77, op := Op.call { callee := Callee.value (Operand.func 18), args := #[Operand.tmp 76], argTypes := #[24] }, type := 3, pos := "law.go:19", after := #[{ on := 52, ground := Ground.data }, { on := 51, ground := Ground.chain }, { on := 51, ground := Ground.guard }], guard := some (51, true) } : Oper)) rfl (fun K hK => ?_) AllReadyH.nil
  go_simp
  refine (T1.out _).mono ?_; rintro e w28 ⟨rfl, hb28⟩
  go_wp2_with fail
  refine hK.out _ _ (mk20 _ (hnext hS27.1 hb28)) (fun hS28 => ?_)
  clear hK K
  (try simp only [Act.put, List.setIfInBounds_toArray, List.set_cons_zero, List.set_cons_succ])
  clear hb28 hS27
  refine wpAnyH_take (i := 54) (oi := ({ dst := some 78, op := Op.binOp BinOp.eql 3 (Operand.tmp 77) (Operand.const (Value.int IntKind.i64 1)) 3, type := 4, pos := "law.go:19", after := #[{ on := 53, ground := Ground.data }, { on := 51, ground := Ground.guard }], guard := some (51, true) } : Oper)) (v := ?_) rfl (by kernel_rfl) (by kernel_rfl) (by kernel_rfl) (fun _ _ _ h => h) (Or.inl ⟨by rfl, ?_⟩) hS28 ?_
  rotate_left
  · intro w hSw; (try dsimp only at hSw); go_simp; (try with_reducible rfl)
  simp only [Act.put, List.setIfInBounds_toArray, List.set_cons_zero, List.set_cons_succ]
  refine wpAnyH_take (i := 55) (oi := ({ dst := some 79, op := Op.pick (Operand.tmp 75) (Operand.tmp 78) (Operand.const (Value.bool false)), type := 4, pos := "law.go:19", after := #[{ on := 51, ground := Ground.data }, { on := 54, ground := Ground.data }], guard := none } : Oper)) (v := ?_) rfl (by kernel_rfl) (by kernel_rfl) (by kernel_rfl) (fun _ _ _ h => h) (Or.inl ⟨by rfl, ?_⟩) hS28 ?_
  rotate_left
  · intro w hSw; (try dsimp only at hSw); go_simp; (try with_reducible rfl)
  simp only [Act.put, List.setIfInBounds_toArray, List.set_cons_zero, List.set_cons_succ]
  refine wpAnyH_take (i := 56) (oi := ({ dst := some 80, op := Op.move (Operand.tmp 79), type := 4, pos := "law.go:19", after := #[{ on := 55, ground := Ground.data }, { on := 53, ground := Ground.chain }], guard := none } : Oper)) (v := ?_) rfl (by kernel_rfl) (by kernel_rfl) (by kernel_rfl) (fun _ _ _ h => h) (Or.inl ⟨by rfl, ?_⟩) hS28 ?_
  rotate_left
  · intro w hSw; (try dsimp only at hSw); go_simp; (try with_reducible rfl)
  simp only [Act.put, List.setIfInBounds_toArray, List.set_cons_zero, List.set_cons_succ]
  refine wpAnyH_take (i := 57) (oi := ({ dst := some 81, op := Op.load 24 (Operand.tmp 1), type := 24, pos := "law.go:19", after := #[{ on := 56, ground := Ground.guard }], guard := some (56, true) } : Oper)) (v := ?_) rfl (by kernel_rfl) (by kernel_rfl) (by kernel_rfl) (fun _ _ _ h => h) (Or.inl ⟨by rfl, ?_⟩) hS28 ?_
  rotate_left
  · intro w hSw; (try dsimp only at hSw); go_simp; (try with_reducible rfl)
  simp only [Act.put, List.setIfInBounds_toArray, List.set_cons_zero, List.set_cons_succ]
  refine wpAnyH_ready (rs := [58]) (by kernel_rfl) (by simp) ?_
  refine AllReadyH.cons (o := ({ dst := some 82, op := Op.call { callee := Callee.value (Operand.func 18), args := #[Operand.tmp 81], argTypes := #[24] }, type := 3, pos := "law.go:19", after := #[{ on := 57, ground := Ground.data }, { on := 56, ground := Ground.chain }, { on := 56, ground := Ground.guard }], guard := some (56, true) } : Oper)) rfl (fun K hK => ?_) AllReadyH.nil
  go_simp
  refine (T2.out _).mono ?_; rintro e w29 ⟨rfl, hb29⟩
  go_wp2_with fail
  refine hK.out _ _ (mk20 _ (hnext hS28.1 hb29)) (fun hS29 => ?_)
  clear hK K
  (try simp only [Act.put, List.setIfInBounds_toArray, List.set_cons_zero, List.set_cons_succ])
  clear hb29 hS28
  refine wpAnyH_take (i := 59) (oi := ({ dst := some 83, op := Op.binOp BinOp.eql 3 (Operand.tmp 82) (Operand.const (Value.int IntKind.i64 (-1))) 3, type := 4, pos := "law.go:19", after := #[{ on := 58, ground := Ground.data }, { on := 56, ground := Ground.guard }], guard := some (56, true) } : Oper)) (v := ?_) rfl (by kernel_rfl) (by kernel_rfl) (by kernel_rfl) (fun _ _ _ h => h) (Or.inl ⟨by rfl, ?_⟩) hS29 ?_
  rotate_left
  · intro w hSw; (try dsimp only at hSw); go_simp; (try with_reducible rfl)
  simp only [Act.put, List.setIfInBounds_toArray, List.set_cons_zero, List.set_cons_succ]
  refine wpAnyH_take (i := 60) (oi := ({ dst := some 84, op := Op.pick (Operand.tmp 80) (Operand.tmp 83) (Operand.const (Value.bool false)), type := 4, pos := "law.go:19", after := #[{ on := 56, ground := Ground.data }, { on := 59, ground := Ground.data }], guard := none } : Oper)) (v := ?_) rfl (by kernel_rfl) (by kernel_rfl) (by kernel_rfl) (fun _ _ _ h => h) (Or.inl ⟨by rfl, ?_⟩) hS29 ?_
  rotate_left
  · intro w hSw; (try dsimp only at hSw); go_simp; (try with_reducible rfl)
  simp only [Act.put, List.setIfInBounds_toArray, List.set_cons_zero, List.set_cons_succ]
  refine wpAnyH_take (i := 61) (oi := ({ dst := some 85, op := Op.move (Operand.tmp 84), type := 4, pos := "law.go:19", after := #[{ on := 60, ground := Ground.data }, { on := 58, ground := Ground.chain }], guard := none } : Oper)) (v := ?_) rfl (by kernel_rfl) (by kernel_rfl) (by kernel_rfl) (fun _ _ _ h => h) (Or.inl ⟨by rfl, ?_⟩) hS29 ?_
  rotate_left
  · intro w hSw; (try dsimp only at hSw); go_simp; (try with_reducible rfl)
  simp only [Act.put, List.setIfInBounds_toArray, List.set_cons_zero, List.set_cons_succ]
  refine wpAnyH_ready (rs := [62]) (by kernel_rfl) (by simp) ?_
  refine AllReadyH.cons (o := ({ dst := some 86, op := Op.call { callee := Callee.value (Operand.func 22), args := #[Operand.const (Value.float FloatKind.f64 4609434218613702656)], argTypes := #[37] }, type := 24, pos := "law.go:19", after := #[{ on := 61, ground := Ground.chain }, { on := 61, ground := Ground.guard }], guard := some (61, true) } : Oper)) rfl (fun K hK => ?_) AllReadyH.nil
  go_simp
  refine (O3.out _).mono ?_; rintro e w30 ⟨rfl, hb30⟩
  go_wp2_with fail
  refine hK.out _ _ (mk20 _ (hnext hS29.1 hb30)) (fun hS30 => ?_)
  clear hK K
  (try simp only [Act.put, List.setIfInBounds_toArray, List.set_cons_zero, List.set_cons_succ])
  clear hb30 hS29
  refine wpAnyH_ready (rs := [63]) (by kernel_rfl) (by simp) ?_
  refine AllReadyH.cons (o := ({ dst := some 87, op := Op.call { callee := Callee.value (Operand.func 23), args := #[Operand.tmp 86], argTypes := #[24] }, type := 37, pos := "law.go:19", after := #[{ on := 62, ground := Ground.data }, { on := 62, ground := Ground.chain }, { on := 61, ground := Ground.guard }], guard := some (61, true) } : Oper)) rfl (fun K hK => ?_) AllReadyH.nil
  go_simp
  refine (F1.out _).mono ?_; rintro e w31 ⟨rfl, hb31⟩
  go_wp2_with fail
  refine hK.out _ _ (mk20 _ (hnext hS30.1 hb31)) (fun hS31 => ?_)
  clear hK K
  (try simp only [Act.put, List.setIfInBounds_toArray, List.set_cons_zero, List.set_cons_succ])
  clear hb31 hS30
  refine wpAnyH_take (i := 64) (oi := ({ dst := some 88, op := Op.binOp BinOp.eql 37 (Operand.tmp 87) (Operand.const (Value.float FloatKind.f64 4609434218613702656)) 37, type := 4, pos := "law.go:19", after := #[{ on := 63, ground := Ground.data }, { on := 61, ground := Ground.guard }], guard := some (61, true) } : Oper)) (v := ?_) rfl (by kernel_rfl) (by kernel_rfl) (by kernel_rfl) (fun _ _ _ h => h) (Or.inl ⟨by rfl, ?_⟩) hS31 ?_
  rotate_left
  · intro w hSw; (try dsimp only at hSw); go_simp; (try with_reducible rfl)
  simp only [Act.put, List.setIfInBounds_toArray, List.set_cons_zero, List.set_cons_succ]
  refine wpAnyH_take (i := 65) (oi := ({ dst := some 89, op := Op.pick (Operand.tmp 85) (Operand.tmp 88) (Operand.const (Value.bool false)), type := 4, pos := "law.go:19", after := #[{ on := 61, ground := Ground.data }, { on := 64, ground := Ground.data }], guard := none } : Oper)) (v := ?_) rfl (by kernel_rfl) (by kernel_rfl) (by kernel_rfl) (fun _ _ _ h => h) (Or.inl ⟨by rfl, ?_⟩) hS31 ?_
  rotate_left
  · intro w hSw; (try dsimp only at hSw); go_simp; (try with_reducible rfl)
  simp only [Act.put, List.setIfInBounds_toArray, List.set_cons_zero, List.set_cons_succ]
  refine wpAnyH_take (i := 66) (oi := ({ dst := some 0, op := Op.assign (Operand.tmp 89), type := 4, pos := "law.go:19", after := ([{ on := 65, ground := Ground.data }, { on := 63, ground := Ground.chain }, { on := 0, ground := Ground.phase }, { on := 1, ground := Ground.phase }, { on := 2, ground := Ground.phase }, { on := 3, ground := Ground.phase }, { on := 4, ground := Ground.phase }, { on := 5, ground := Ground.phase }, { on := 6, ground := Ground.phase }, { on := 7, ground := Ground.phase }, { on := 8, ground := Ground.phase }, { on := 9, ground := Ground.phase }, { on := 10, ground := Ground.phase }, { on := 11, ground := Ground.phase }, { on := 12, ground := Ground.phase }, { on := 13, ground := Ground.phase }, { on := 14, ground := Ground.phase }, { on := 15, ground := Ground.phase }, { on := 16, ground := Ground.phase }, { on := 17, ground := Ground.phase }, { on := 18, ground := Ground.phase }, { on := 19, ground := Ground.phase }, { on := 20, ground := Ground.phase }, { on := 21, ground := Ground.phase }, { on := 22, ground := Ground.phase }, { on := 23, ground := Ground.phase }, { on := 24, ground := Ground.phase }, { on := 25, ground := Ground.phase }, { on := 26, ground := Ground.phase }, { on := 27, ground := Ground.phase }, { on := 28, ground := Ground.phase }, { on := 29, ground := Ground.phase }, { on := 30, ground := Ground.phase }, { on := 31, ground := Ground.phase }].append [{ on := 32, ground := Ground.phase }, { on := 33, ground := Ground.phase }, { on := 34, ground := Ground.phase }, { on := 35, ground := Ground.phase }, { on := 36, ground := Ground.phase }, { on := 37, ground := Ground.phase }, { on := 38, ground := Ground.phase }, { on := 39, ground := Ground.phase }, { on := 40, ground := Ground.phase }, { on := 41, ground := Ground.phase }, { on := 42, ground := Ground.phase }, { on := 43, ground := Ground.phase }, { on := 44, ground := Ground.phase }, { on := 45, ground := Ground.phase }, { on := 46, ground := Ground.phase }, { on := 47, ground := Ground.phase }, { on := 48, ground := Ground.phase }, { on := 49, ground := Ground.phase }, { on := 50, ground := Ground.phase }, { on := 51, ground := Ground.phase }, { on := 52, ground := Ground.phase }, { on := 53, ground := Ground.phase }, { on := 54, ground := Ground.phase }, { on := 55, ground := Ground.phase }, { on := 56, ground := Ground.phase }, { on := 57, ground := Ground.phase }, { on := 58, ground := Ground.phase }, { on := 59, ground := Ground.phase }, { on := 60, ground := Ground.phase }, { on := 61, ground := Ground.phase }, { on := 62, ground := Ground.phase }, { on := 63, ground := Ground.phase }, { on := 64, ground := Ground.phase }, { on := 65, ground := Ground.phase }]).toArray, guard := none } : Oper)) (v := ?_) rfl (by kernel_rfl) (by kernel_rfl) (by kernel_rfl) (fun _ _ _ h => h) (Or.inl ⟨by rfl, ?_⟩) hS31 ?_
  rotate_left
  · intro w hSw; (try dsimp only at hSw); go_simp; (try with_reducible rfl)
  simp only [Act.put, List.setIfInBounds_toArray, List.set_cons_zero]
  refine wpAnyH_done (by kernel_rfl) ?_ _
  go_wp2_with fail
  go_ret
  exact ⟨rfl, hnext (hnext L.out hd20) hS31.1⟩
end Go.Proofs.Ytgdegoacjobpdaa
