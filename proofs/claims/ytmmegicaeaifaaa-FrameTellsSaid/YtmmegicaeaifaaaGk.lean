/-
  'known' of the statements of frames answers true. No condition.
-/
import Derived.Test.YtmmegicaeaifaaaGg
namespace Go.Proofs.Ytmmegicaeaifaaa
open Go.RowKit Fr

def KT : Tx := ⟨1, 5, []⟩
def KR : List Cd.V := [⟨1, 1, 0, ⟨#[]⟩⟩]
def KC : Ch := ⟨1, ⟨#[116]⟩, KR, 0, 9, noS⟩
def KU : Tx := ⟨2, 6, [KC]⟩
def KB1 : ByteArray := ⟨#[1, 5, 0]⟩
def KB2 : ByteArray := ⟨#[2, 6, 1, 1, 1, 116, 1, 1, 1, 0, 9]⟩
def KX : ByteArray := bstr (frame KT)
def KY : ByteArray := bstr (frame KU)
theorem K_b1 : body KT = [1, 5, 0] := by decide +kernel
theorem K_b2 : body KU = [2, 6, 1, 1, 1, 116, 1, 1, 1, 0, 9] := by decide +kernel
theorem K_f1 : frame KT = fr [1, 5, 0] := by rw [frame_fr (by rw [K_b1]; exact fun h => by cases h), K_b1]
theorem K_f2 : frame KU = fr [2, 6, 1, 1, 1, 116, 1, 1, 1, 0, 9] := by rw [frame_fr (by rw [K_b2]; exact fun h => by cases h), K_b2]
theorem KX_size : KX.size = 11 := by unfold KX; rw [bstr_size, K_f1, fr_len]; rfl
theorem KY_size : KY.size = 19 := by unfold KY; rw [bstr_size, K_f2, fr_len]; rfl
theorem K_cat : KX ++ KY ++ ⟨#[0]⟩ = bstr ([[1, 5, 0], [2, 6, 1, 1, 1, 116, 1, 1, 1, 0, 9]].flatMap fr ++ (⟨#[0]⟩ : ByteArray).data.toList) := by
  unfold KX KY
  rw [K_f1, K_f2]
  apply ByteArray.ext
  apply Array.ext'
  rw [bstr_toList]
  simp [bstr]
theorem K_split : splitR (KX ++ KY ++ ⟨#[0]⟩) = ([KB1, KB2], 30, 8) := by
  rw [K_cat, split_frames ⟨#[0]⟩ _ (fun B hB => by
    have : B = [1, 5, 0] ∨ B = [2, 6, 1, 1, 1, 116, 1, 1, 1, 0, 9] := by simpa using hB
    rcases this with rfl | rfl <;> decide)]
  have e : splitR ⟨#[0]⟩ = ([], 0, 8) := by decide +kernel
  rw [e]
  refine Prod.ext rfl (Prod.ext ?_ rfl)
  show (List.flatMap fr _).length + 0 = 30
  rw [List.flatMap_cons, List.flatMap_cons, List.flatMap_nil, List.length_append, List.length_append, fr_len, fr_len]
  rfl
theorem K_next : nextR ⟨#[0, 0, 0, 1, 97, 0, 0, 0, 0]⟩ = (⟨#[]⟩, 0, 9) := by decide +kernel
theorem K_bad : (decR ⟨#[1, 5, 1]⟩).2 = 8 := rfl
theorem K_right : txB KU = true := by decide +kernel
theorem K_right0 : txB noT = false := by decide +kernel
theorem K_change : chB KC = true := by decide +kernel
theorem KR_ok : ∀ x ∈ KR, Vok x := by
  intro x hx
  rw [List.mem_singleton.1 hx]
  exact ⟨by decide, by decide, by decide⟩
theorem KC_ok : Chk KC := ⟨by decide, by decide, by decide, by decide, KR_ok, by decide, fun c hc => absurd hc List.not_mem_nil⟩
theorem Hok.nil : Hok [] := ⟨by decide, fun c hc => absurd hc List.not_mem_nil⟩
theorem KU_ok : Hok [KC] := ⟨by decide, fun c hc => by rw [List.mem_singleton.1 hc]; exact ⟨KC_ok, by decide⟩⟩
theorem kenc1 (w : World) : Calls Try.prog 17 #[.agg #[.int .i64 1, .int .i64 5, .slice none 0 0]] w fun e w' => e = .returned (.string KX) ∧ Below w.heap.size w w' := fencode_any KT (.slice none 0 0) w (HsAt.nil w) Hok.nil
theorem kenc2 (w : World) (v : Value) (h : HsAt w v [KC]) : Calls Try.prog 17 #[.agg #[.int .i64 2, .int .i64 6, v]] w fun e w' => e = .returned (.string KY) ∧ Below w.heap.size w w' := fencode_any KU v w h KU_ok
theorem ksplit (w : World) : Calls Try.prog 23 #[.string (KX ++ KY ++ ⟨#[0]⟩)] w fun e w' => ∃ v, e = .returned (.tuple #[v, .int .i64 30, .int .i64 8]) ∧ SsAt w' v [KB1, KB2] ∧ Below w.heap.size w w' :=
  (fsplit_any _ (by simp only [ByteArray.size_append, KX_size, KY_size]; decide) w).mono fun e w' h => by
    obtain ⟨v, rfl, ho, hb⟩ := h
    rw [K_split] at ho ⊢
    exact ⟨v, rfl, ho.at, hb⟩
theorem kdec1 (w : World) : Calls Try.prog 25 #[.string ⟨#[1, 5, 0]⟩] w fun e w' => ∃ v, e = .returned (.tuple #[.agg #[.int .i64 1, .int .i64 5, v], .int .i64 0]) ∧ HsAt w' v [] ∧ Below w.heap.size w w' :=
  (fdecode_any ⟨#[1, 5, 0]⟩ (by decide) w).mono fun e w' h => by
    obtain ⟨t, v, er, rfl, hv, hk, hb, h | h⟩ := h
    · have e1 := decR_body (fun c hc => (hk.2 c hc).1) h.2.1 h.2.2
      have e2 : decR (⟨#[1, 5, 0]⟩ : ByteArray) = (KT, 0) := decR_body (t := KT) (fun c hc => absurd hc List.not_mem_nil) (by rw [K_b1]; exact fun h => by cases h) (by rw [K_b1]; rfl)
      rw [e2] at e1
      injection e1 with e1 _
      subst e1
      obtain ⟨h1, _⟩ := h
      subst h1
      exact ⟨v, rfl, hv, hb⟩
    · exact absurd (by rw [K_b1]; rfl : (⟨#[1, 5, 0]⟩ : ByteArray) = bstr (body KT)) (h.2.2 KT Hok.nil (by rw [K_b1]; exact fun h => by cases h))
theorem kdec2 (w : World) : Calls Try.prog 25 #[.string ⟨#[1, 5, 1]⟩] w fun e w' => ∃ v, e = .returned (.tuple #[.agg #[.int .i64 0, .int .i64 0, v], .int .i64 7]) ∧ HsAt w' v [] ∧ Below w.heap.size w w' :=
  (fdecode_any ⟨#[1, 5, 1]⟩ (by decide) w).mono fun e w' h => by
    obtain ⟨t, v, er, rfl, hv, hk, hb, h | h⟩ := h
    · have e1 := decR_body (fun c hc => (hk.2 c hc).1) h.2.1 h.2.2
      have e2 := K_bad
      rw [e1] at e2
      cases e2
    · obtain ⟨h1, h2, _⟩ := h
      subst h1 h2
      exact ⟨v, rfl, hv, hb⟩
theorem knext (w : World) : Calls Try.prog 21 #[.string ⟨#[0, 0, 0, 1, 97, 0, 0, 0, 0]⟩] w fun e w' => e = .returned (.tuple #[.string ⟨#[]⟩, .int .i64 0, .int .i64 9]) ∧ Below w.heap.size w w' := by
  have h := fnext_any ⟨#[0, 0, 0, 1, 97, 0, 0, 0, 0]⟩ (by decide) w
  rw [K_next] at h
  exact h
theorem kbody (w : World) : Calls Try.prog 15 #[.agg #[.int .i64 1, .int .i64 5, .slice none 0 0]] w fun e w' => e = .returned (.string ⟨#[1, 5, 0]⟩) ∧ Below w.heap.size w w' := by
  have h := fbody_any KT (.slice none 0 0) w (HsAt.nil w) Hok.nil
  rw [K_b1] at h
  exact h
theorem ksame1 (w : World) (v : Value) (h : HsAt w v []) : Calls Try.prog 19 #[.agg #[.int .i64 1, .int .i64 5, v], .agg #[.int .i64 1, .int .i64 5, .slice none 0 0]] w fun e w' => e = .returned (.bool true) ∧ Below w.heap.size w w' := by
  have h := fsame_any KT KT v (.slice none 0 0) w h (HsAt.nil w) Hok.nil Hok.nil
  rw [decide_eq_true (rfl : KT = KT)] at h
  exact h
theorem ksame2 (w : World) (v : Value) (h : HsAt w v [KC]) : Calls Try.prog 19 #[.agg #[.int .i64 1, .int .i64 5, .slice none 0 0], .agg #[.int .i64 2, .int .i64 6, v]] w fun e w' => e = .returned (.bool false) ∧ Below w.heap.size w w' := by
  have h := fsame_any KT KU (.slice none 0 0) v w (HsAt.nil w) h Hok.nil KU_ok
  rw [decide_eq_false (show ¬ KT = KU from fun e => absurd (congrArg Tx.seq e) (by decide))] at h
  exact h
theorem kright1 (w : World) (v : Value) (h : HsAt w v [KC]) : Calls Try.prog 11 #[.agg #[.int .i64 2, .int .i64 6, v]] w fun e w' => e = .returned (.bool true) ∧ Below w.heap.size w w' := by
  have h := fright_any KU v w h KU_ok
  rw [K_right] at h
  exact h
theorem kright0 (w : World) : Calls Try.prog 11 #[.agg #[.int .i64 0, .int .i64 0, .slice none 0 0]] w fun e w' => e = .returned (.bool false) ∧ Below w.heap.size w w' := by
  have h := fright_any noT (.slice none 0 0) w (HsAt.nil w) Hok.nil
  rw [K_right0] at h
  exact h
theorem kchange (w : World) (v u : Value) (h : VsAt w v KR) (h' : CsAt w u []) : Calls Try.prog 13 #[.agg #[.int .i64 1, .string ⟨#[116]⟩, v, .int .i64 0, .int .i64 9, .string ⟨#[]⟩, u, .int .i64 0]] w fun e w' => e = .returned (.bool true) ∧ Below w.heap.size w w' := by
  have h := fchange_any KC v u w h h' KC_ok (by decide)
  rw [K_change] at h
  exact h
theorem krow_new (w : World) : VsAt (w.alloc (.cells #[.int .i64 1, .int .i64 1, .int .u64 0, .string ⟨#[]⟩] 59)) (.slice (some ⟨w.heap.size, 0, none⟩) 1 1) KR := VsAt.own (BR.own (l := KR) (B := 0) (heap_alloc_new w _ : BR _ _ KR) (Nat.zero_le _) (by decide))
theorem kch_new (w : World) (g : Nat) (h : VsAt w (.slice (some ⟨g, 0, none⟩) 1 1) KR) : HsAt (w.alloc (.cells #[.int .i64 1, .string ⟨#[116]⟩, .slice (some ⟨g, 0, none⟩) 1 1, .int .i64 0, .int .i64 9, .string ⟨#[]⟩, .slice none 0 0, .int .i64 0] 32)) (.slice (some ⟨w.heap.size, 0, none⟩) 1 1) [KC] := by
  have hb := heap_alloc_new w (.cells #[.int .i64 1, .string ⟨#[116]⟩, .slice (some ⟨g, 0, none⟩) 1 1, .int .i64 0, .int .i64 9, .string ⟨#[]⟩, .slice none 0 0, .int .i64 0] 32)
  refine ⟨_, 1, rfl, fun k hk => ⟨w.heap.size, 0, .slice (some ⟨g, 0, none⟩) 1 1, .slice none 0 0, rfl, ?_⟩⟩
  have hk' : k = 0 := by have : k < 1 := hk; omega
  subst hk'
  exact ⟨cell_of_row _ _ 0 _ _ _ hb, cell_of_row _ _ 1 _ _ _ hb, cell_of_row _ _ 2 _ _ _ hb, cell_of_row _ _ 3 _ _ _ hb, cell_of_row _ _ 4 _ _ _ hb, cell_of_row _ _ 5 _ _ _ hb, cell_of_row _ _ 6 _ _ _ hb, cell_of_row _ _ 7 _ _ _ hb, h.below (hba w (.cells #[.int .i64 1, .string ⟨#[116]⟩, .slice (some ⟨g, 0, none⟩) 1 1, .int .i64 0, .int .i64 9, .string ⟨#[]⟩, .slice none 0 0, .int .i64 0] 32)), CsAt.nil0 _⟩
set_option maxRecDepth 100000 in
set_option maxHeartbeats 12800000 in
theorem known_any (w : World) : Calls Try.prog 10 #[] w fun e w' => e = .returned (.bool true) ∧ Below w.heap.size w w' := by
  go_enter Try.func10, Try.ntmps10
  go_wp2_with fail
  obtain ⟨g, hg⟩ : ∃ g, w.heap.size = g := ⟨_, rfl⟩
  have B1 := heap_alloc_new w (.cells #[.int .i64 1, .int .i64 5, .slice none 0 0] 24)
  have R2 := krow_new (w.alloc (.cells #[.int .i64 1, .int .i64 5, .slice none 0 0] 24))
  have H3 := kch_new _ _ R2
  have B4 := heap_alloc_new (((w.alloc (.cells #[.int .i64 1, .int .i64 5, .slice none 0 0] 24)).alloc (.cells #[.int .i64 1, .int .i64 1, .int .u64 0, .string ⟨#[]⟩] 59)).alloc (.cells #[.int .i64 1, .string ⟨#[116]⟩, .slice (some ⟨(w.alloc (.cells #[.int .i64 1, .int .i64 5, .slice none 0 0] 24)).heap.size, 0, none⟩) 1 1, .int .i64 0, .int .i64 9, .string ⟨#[]⟩, .slice none 0 0, .int .i64 0] 32)) (.cells #[.int .i64 2, .int .i64 6, .slice (some ⟨((w.alloc (.cells #[.int .i64 1, .int .i64 5, .slice none 0 0] 24)).alloc (.cells #[.int .i64 1, .int .i64 1, .int .u64 0, .string ⟨#[]⟩] 59)).heap.size, 0, none⟩) 1 1] 24)
  have b1 := hba w (.cells #[.int .i64 1, .int .i64 5, .slice none 0 0] 24)
  have b2 := hba (w.alloc (.cells #[.int .i64 1, .int .i64 5, .slice none 0 0] 24)) (.cells #[.int .i64 1, .int .i64 1, .int .u64 0, .string ⟨#[]⟩] 59)
  have b3 := hba ((w.alloc (.cells #[.int .i64 1, .int .i64 5, .slice none 0 0] 24)).alloc (.cells #[.int .i64 1, .int .i64 1, .int .u64 0, .string ⟨#[]⟩] 59)) (.cells #[.int .i64 1, .string ⟨#[116]⟩, .slice (some ⟨(w.alloc (.cells #[.int .i64 1, .int .i64 5, .slice none 0 0] 24)).heap.size, 0, none⟩) 1 1, .int .i64 0, .int .i64 9, .string ⟨#[]⟩, .slice none 0 0, .int .i64 0] 32)
  have b4 := hba (((w.alloc (.cells #[.int .i64 1, .int .i64 5, .slice none 0 0] 24)).alloc (.cells #[.int .i64 1, .int .i64 1, .int .u64 0, .string ⟨#[]⟩] 59)).alloc (.cells #[.int .i64 1, .string ⟨#[116]⟩, .slice (some ⟨(w.alloc (.cells #[.int .i64 1, .int .i64 5, .slice none 0 0] 24)).heap.size, 0, none⟩) 1 1, .int .i64 0, .int .i64 9, .string ⟨#[]⟩, .slice none 0 0, .int .i64 0] 32)) (.cells #[.int .i64 2, .int .i64 6, .slice (some ⟨((w.alloc (.cells #[.int .i64 1, .int .i64 5, .slice none 0 0] 24)).alloc (.cells #[.int .i64 1, .int .i64 1, .int .u64 0, .string ⟨#[]⟩] 59)).heap.size, 0, none⟩) 1 1] 24)
  have B1' := hid (keepBlock (keepBlock (keepBlock B1 b2) b3) b4)
  have R2' := hid ((R2.below b3).below b4)
  have H3' := hid (H3.below b4)
  have L1 := hid (hnext (hnext (hnext b1 b2) b3) b4)
  have B4' := hid B4
  clear B1 R2 H3 B4 b1 b2 b3 b4
  have hsz : ∀ (W : World) (o : Obj), (W.alloc o).heap.size = W.heap.size + 1 := fun W o => by simp
  simp only [hsz] at B1' R2' H3' B4' L1
  (try simp only [hsz])
  clear hsz
  generalize ((((w.alloc (.cells #[.int .i64 1, .int .i64 5, .slice none 0 0] 24)).alloc (.cells #[.int .i64 1, .int .i64 1, .int .u64 0, .string ⟨#[]⟩] 59)).alloc (.cells #[.int .i64 1, .string ⟨#[116]⟩, .slice (some ⟨w.heap.size + 1, 0, none⟩) 1 1, .int .i64 0, .int .i64 9, .string ⟨#[]⟩, .slice none 0 0, .int .i64 0] 32)).alloc (.cells #[.int .i64 2, .int .i64 6, .slice (some ⟨w.heap.size + 1 + 1, 0, none⟩) 1 1] 24)) = w1 at *
  rw [hg] at B1' R2' H3' B4'
  (try rw [hg])
  clear hg
  have s0 := cell_of_row w1 g 0 _ _ _ B1'.out
  have s1 := cell_of_row w1 g 1 _ _ _ B1'.out
  have s2 := cell_of_row w1 g 2 _ _ _ B1'.out
  have u0 := cell_of_row w1 (g + 1 + 1 + 1) 0 _ _ _ B4'.out
  have u1 := cell_of_row w1 (g + 1 + 1 + 1) 1 _ _ _ B4'.out
  have u2 := cell_of_row w1 (g + 1 + 1 + 1) 2 _ _ _ B4'.out
  simp only [List.getElem?_toArray, List.getElem?_cons_zero, List.getElem?_cons_succ] at s0 s1 s2 u0 u1 u2
  have kx := KX_size
  have ky := KY_size
  obtain ⟨w20, hw20⟩ : ∃ w20, (w1).drew = w20 := ⟨_, rfl⟩
  have hd20 : Below (w1).heap.size (w1) w20 := hw20 ▸ (Below.refl _ _).drew
  have mk20 : ∀ W, Below w20.heap.size w20 W → Below w20.heap.size w20 W ∧ W.cell? ⟨g, 0, none⟩ = some (.int .i64 1) ∧ W.cell? ⟨g, 1, none⟩ = some (.int .i64 5) ∧ W.cell? ⟨g, 2, none⟩ = some (.slice none 0 0) ∧ W.cell? ⟨g + 1 + 1 + 1, 0, none⟩ = some (.int .i64 2) ∧ W.cell? ⟨g + 1 + 1 + 1, 1, none⟩ = some (.int .i64 6) ∧ W.cell? ⟨g + 1 + 1 + 1, 2, none⟩ = some (.slice (some ⟨g + 1 + 1, 0, none⟩) 1 1) := fun W h => ⟨h, hkeep (hkeep s0 hd20) h, hkeep (hkeep s1 hd20) h, hkeep (hkeep s2 hd20) h, hkeep (hkeep u0 hd20) h, hkeep (hkeep u1 hd20) h, hkeep (hkeep u2 hd20) h⟩
  clear s0 s1 s2 u0 u1 u2
  refine wp_region_held_drew (S := (fun W => Below w20.heap.size w20 W ∧ W.cell? ⟨g, 0, none⟩ = some (.int .i64 1) ∧ W.cell? ⟨g, 1, none⟩ = some (.int .i64 5) ∧ W.cell? ⟨g, 2, none⟩ = some (.slice none 0 0) ∧ W.cell? ⟨g + 1 + 1 + 1, 0, none⟩ = some (.int .i64 2) ∧ W.cell? ⟨g + 1 + 1 + 1, 1, none⟩ = some (.int .i64 6) ∧ W.cell? ⟨g + 1 + 1 + 1, 2, none⟩ = some (.slice (some ⟨g + 1 + 1, 0, none⟩) 1 1))) (by kernel_rfl) (by rw [hw20]; exact mk20 _ (Below.refl _ _)) (fun hS20 => ?_)
  rw [hw20] at hS20 ⊢
  clear hw20
  refine wpAnyH_take (i := 0) (oi := ({ dst := some 21, op := Op.load 24 (Operand.tmp 1), type := 24, pos := "law.go:14", after := #[], guard := none } : Oper)) (v := ?_) rfl (by kernel_rfl) (by kernel_rfl) (by kernel_rfl) (fun _ _ _ h => h) (Or.inl ⟨by rfl, ?_⟩) hS20 ?_
  rotate_left
  · intro w hSw; (try dsimp only at hSw); go_simp; (try with_reducible rfl)
  simp only [Act.put, List.setIfInBounds_toArray, List.set_cons_zero, List.set_cons_succ]
  refine wpAnyH_take (i := 2) (oi := ({ dst := some 23, op := Op.load 24 (Operand.tmp 2), type := 24, pos := "law.go:14", after := #[], guard := none } : Oper)) (v := ?_) rfl (by kernel_rfl) (by kernel_rfl) (by kernel_rfl) (fun _ _ _ h => h) (Or.inl ⟨by rfl, ?_⟩) hS20 ?_
  rotate_left
  · intro w hSw; (try dsimp only at hSw); go_simp; (try with_reducible rfl)
  simp only [Act.put, List.setIfInBounds_toArray, List.set_cons_zero, List.set_cons_succ]
  refine wpAnyH_ready (rs := [1]) (by kernel_rfl) (by simp) ?_
  refine AllReadyH.cons (o := ({ dst := some 22, op := Op.call { callee := Callee.value (Operand.func 17), args := #[Operand.tmp 21], argTypes := #[24] }, type := 9, pos := "law.go:14", after := #[{ on := 0, ground := Ground.data }], guard := none } : Oper)) rfl (fun K hK => ?_) AllReadyH.nil
  go_simp
  refine (kenc1 _).mono ?_; rintro e w21 ⟨rfl, hb21⟩
  go_wp2_with fail
  refine hK.out _ _ (mk20 _ (hnext hS20.1 hb21)) (fun hS21 => ?_)
  clear hK K
  (try simp only [Act.put, List.setIfInBounds_toArray, List.set_cons_zero, List.set_cons_succ])
  clear hb21 hS20
  refine wpAnyH_ready (rs := [3]) (by kernel_rfl) (by simp) ?_
  refine AllReadyH.cons (o := ({ dst := some 24, op := Op.call { callee := Callee.value (Operand.func 17), args := #[Operand.tmp 23], argTypes := #[24] }, type := 9, pos := "law.go:14", after := #[{ on := 2, ground := Ground.data }, { on := 1, ground := Ground.chain }], guard := none } : Oper)) rfl (fun K hK => ?_) AllReadyH.nil
  go_simp
  refine (kenc2 _ _ (H3'.out.below (hnext hd20 hS21.1))).mono ?_; rintro e w22 ⟨rfl, hb22⟩
  go_wp2_with fail
  refine hK.out _ _ (mk20 _ (hnext hS21.1 hb22)) (fun hS22 => ?_)
  clear hK K
  (try simp only [Act.put, List.setIfInBounds_toArray, List.set_cons_zero, List.set_cons_succ])
  clear hb22 hS21
  refine wpAnyH_take (i := 4) (oi := ({ dst := some 25, op := Op.binOp BinOp.add 9 (Operand.tmp 22) (Operand.tmp 24) 9, type := 9, pos := "law.go:14", after := #[{ on := 1, ground := Ground.data }, { on := 3, ground := Ground.data }], guard := none } : Oper)) (v := ?_) rfl (by kernel_rfl) (by kernel_rfl) (by kernel_rfl) (fun _ _ _ h => h) (Or.inl ⟨by rfl, ?_⟩) hS22 ?_
  rotate_left
  · intro w hSw; (try dsimp only at hSw); go_simp; (try with_reducible rfl)
  simp only [Act.put, List.setIfInBounds_toArray, List.set_cons_zero, List.set_cons_succ]
  refine wpAnyH_take (i := 5) (oi := ({ dst := some 3, op := Op.assign (Operand.tmp 25), type := 9, pos := "law.go:14", after := #[{ on := 4, ground := Ground.data }, { on := 3, ground := Ground.chain }, { on := 0, ground := Ground.phase }, { on := 1, ground := Ground.phase }, { on := 2, ground := Ground.phase }, { on := 3, ground := Ground.phase }, { on := 4, ground := Ground.phase }], guard := none } : Oper)) (v := ?_) rfl (by kernel_rfl) (by kernel_rfl) (by kernel_rfl) (fun _ _ _ h => h) (Or.inl ⟨by rfl, ?_⟩) hS22 ?_
  rotate_left
  · intro w hSw; (try dsimp only at hSw); go_simp; (try with_reducible rfl)
  simp only [Act.put, List.setIfInBounds_toArray, List.set_cons_zero, List.set_cons_succ]
  refine wpAnyH_done (by kernel_rfl) ?_ _
  have K := hnext hd20 hS22.1
  have B1 := hid (keepBlock B1'.out K)
  have B4 := hid (keepBlock B4'.out K)
  have R2 := hid (R2'.out.below K)
  have H3 := hid (H3'.out.below K)
  replace L1 := hid (hnext L1.out K)
  clear K hS22 hd20 mk20 B1' B4' R2' H3'
  go_wp2_with fail
  refine (ksplit _).mono ?_; rintro e w30 ⟨v, rfl, ss, b⟩
  replace L1 := hid (hnext L1.out b)
  replace B1 := hid (keepBlock B1.out b)
  replace B4 := hid (keepBlock B4.out b)
  replace R2 := hid (R2.out.below b)
  replace H3 := hid (H3.out.below b)
  obtain ⟨adr, cap, rfl⟩ := ss.slc
  have SS := hid ss
  clear ss
  clear b
  go_wp2_with fail
  refine (kdec1 _).mono ?_; rintro e w31 ⟨v1, rfl, hv1, b⟩
  replace L1 := hid (hnext L1.out b)
  replace B1 := hid (keepBlock B1.out b)
  replace B4 := hid (keepBlock B4.out b)
  replace R2 := hid (R2.out.below b)
  replace H3 := hid (H3.out.below b)
  replace SS := hid (SS.out.below b)
  have HV := hid hv1
  clear hv1
  clear b
  obtain ⟨av1, cv1, rfl⟩ := HV.out.slc
  rw [show ([] : List Ch).length = 0 from rfl] at HV ⊢
  go_wp2_with fail
  have BX := hid (heap_alloc_new w31 (.cells #[.int .i64 1, .int .i64 5, .slice av1 0 cv1] 24))
  have b := hba w31 (.cells #[.int .i64 1, .int .i64 5, .slice av1 0 cv1] 24)
  replace L1 := hid (hnext L1.out b)
  replace B1 := hid (keepBlock B1.out b)
  replace B4 := hid (keepBlock B4.out b)
  replace R2 := hid (R2.out.below b)
  replace H3 := hid (H3.out.below b)
  replace SS := hid (SS.out.below b)
  replace HV := hid (HV.out.below b)
  clear b
  obtain ⟨gx, hgx⟩ : ∃ gx, w31.heap.size = gx := ⟨_, rfl⟩
  rw [hgx] at BX
  (try rw [hgx])
  clear hgx
  generalize w31.alloc (.cells #[.int .i64 1, .int .i64 5, .slice av1 0 cv1] 24) = w32 at *
  refine (kdec2 _).mono ?_; rintro e w33 ⟨v2, rfl, hv2, b⟩
  replace L1 := hid (hnext L1.out b)
  replace B1 := hid (keepBlock B1.out b)
  replace B4 := hid (keepBlock B4.out b)
  replace R2 := hid (R2.out.below b)
  replace H3 := hid (H3.out.below b)
  replace SS := hid (SS.out.below b)
  replace HV := hid (HV.out.below b)
  replace BX := hid (keepBlock BX.out b)
  obtain ⟨av2, cv2, rfl⟩ := hv2.slc
  clear hv2
  rw [show ([] : List Ch).length = 0 from rfl]
  clear b
  go_wp2_with fail
  have b := hba w33 (.cells #[.int .i64 0, .int .i64 0, .slice av2 0 cv2] 24)
  replace L1 := hid (hnext L1.out b)
  replace B1 := hid (keepBlock B1.out b)
  replace B4 := hid (keepBlock B4.out b)
  replace R2 := hid (R2.out.below b)
  replace H3 := hid (H3.out.below b)
  replace SS := hid (SS.out.below b)
  replace HV := hid (HV.out.below b)
  replace BX := hid (keepBlock BX.out b)
  clear b
  generalize w33.alloc (.cells #[.int .i64 0, .int .i64 0, .slice av2 0 cv2] 24) = w34 at *
  refine (knext _).mono ?_; rintro e w35 ⟨rfl, b⟩
  replace L1 := hid (hnext L1.out b)
  replace B1 := hid (keepBlock B1.out b)
  replace B4 := hid (keepBlock B4.out b)
  replace R2 := hid (R2.out.below b)
  replace H3 := hid (H3.out.below b)
  replace SS := hid (SS.out.below b)
  replace HV := hid (HV.out.below b)
  replace BX := hid (keepBlock BX.out b)
  clear b
  have s0 := cell_of_row w35 g 0 _ _ _ B1.out
  have s1 := cell_of_row w35 g 1 _ _ _ B1.out
  have s2 := cell_of_row w35 g 2 _ _ _ B1.out
  have u0 := cell_of_row w35 (g + 1 + 1 + 1) 0 _ _ _ B4.out
  have u1 := cell_of_row w35 (g + 1 + 1 + 1) 1 _ _ _ B4.out
  have u2 := cell_of_row w35 (g + 1 + 1 + 1) 2 _ _ _ B4.out
  simp only [List.getElem?_toArray, List.getElem?_cons_zero, List.getElem?_cons_succ] at s0 s1 s2 u0 u1 u2
  have x0 := cell_of_row w35 gx 0 _ _ _ BX.out
  have x1 := cell_of_row w35 gx 1 _ _ _ BX.out
  have x2 := cell_of_row w35 gx 2 _ _ _ BX.out
  simp only [List.getElem?_toArray, List.getElem?_cons_zero, List.getElem?_cons_succ] at x0 x1 x2
  obtain ⟨_, _, e1, hc⟩ := SS.out
  cases e1
  obtain ⟨ga, oa, rfl, y0⟩ := hc 0 (by decide)
  obtain ⟨_, _, e1, y1⟩ := hc 1 (by decide)
  cases e1
  simp only [List.getElem_cons_zero, List.getElem_cons_succ, Nat.add_zero] at y0 y1
  clear hc
  go_wp2_with fail
  refine (kbody _).mono ?_; rintro e w36 ⟨rfl, b⟩
  replace L1 := hid (hnext L1.out b)
  replace B1 := hid (keepBlock B1.out b)
  replace B4 := hid (keepBlock B4.out b)
  replace R2 := hid (R2.out.below b)
  replace H3 := hid (H3.out.below b)
  replace SS := hid (SS.out.below b)
  replace HV := hid (HV.out.below b)
  replace BX := hid (keepBlock BX.out b)
  clear s0 s1 s2 u0 u1 u2 x0 x1 x2 y0 y1
  have s0 := cell_of_row w36 g 0 _ _ _ B1.out
  have s1 := cell_of_row w36 g 1 _ _ _ B1.out
  have s2 := cell_of_row w36 g 2 _ _ _ B1.out
  have u0 := cell_of_row w36 (g + 1 + 1 + 1) 0 _ _ _ B4.out
  have u1 := cell_of_row w36 (g + 1 + 1 + 1) 1 _ _ _ B4.out
  have u2 := cell_of_row w36 (g + 1 + 1 + 1) 2 _ _ _ B4.out
  simp only [List.getElem?_toArray, List.getElem?_cons_zero, List.getElem?_cons_succ] at s0 s1 s2 u0 u1 u2
  have x0 := cell_of_row w36 gx 0 _ _ _ BX.out
  have x1 := cell_of_row w36 gx 1 _ _ _ BX.out
  have x2 := cell_of_row w36 gx 2 _ _ _ BX.out
  simp only [List.getElem?_toArray, List.getElem?_cons_zero, List.getElem?_cons_succ] at x0 x1 x2
  obtain ⟨_, _, e1, hc⟩ := SS.out
  cases e1
  obtain ⟨_, _, e1, y0⟩ := hc 0 (by decide)
  cases e1
  obtain ⟨_, _, e1, y1⟩ := hc 1 (by decide)
  cases e1
  simp only [List.getElem_cons_zero, List.getElem_cons_succ, Nat.add_zero] at y0 y1
  clear hc
  unfold KB1 at y0
  unfold KB2 at y1
  clear b
  go_wp2_with fail
  refine (ksame1 _ _ HV.out).mono ?_; rintro e w37 ⟨rfl, b⟩
  replace L1 := hid (hnext L1.out b)
  replace B1 := hid (keepBlock B1.out b)
  replace B4 := hid (keepBlock B4.out b)
  replace R2 := hid (R2.out.below b)
  replace H3 := hid (H3.out.below b)
  replace SS := hid (SS.out.below b)
  replace HV := hid (HV.out.below b)
  replace BX := hid (keepBlock BX.out b)
  clear s0 s1 s2 u0 u1 u2 x0 x1 x2 y0 y1
  have s0 := cell_of_row w37 g 0 _ _ _ B1.out
  have s1 := cell_of_row w37 g 1 _ _ _ B1.out
  have s2 := cell_of_row w37 g 2 _ _ _ B1.out
  have u0 := cell_of_row w37 (g + 1 + 1 + 1) 0 _ _ _ B4.out
  have u1 := cell_of_row w37 (g + 1 + 1 + 1) 1 _ _ _ B4.out
  have u2 := cell_of_row w37 (g + 1 + 1 + 1) 2 _ _ _ B4.out
  simp only [List.getElem?_toArray, List.getElem?_cons_zero, List.getElem?_cons_succ] at s0 s1 s2 u0 u1 u2
  have x0 := cell_of_row w37 gx 0 _ _ _ BX.out
  have x1 := cell_of_row w37 gx 1 _ _ _ BX.out
  have x2 := cell_of_row w37 gx 2 _ _ _ BX.out
  simp only [List.getElem?_toArray, List.getElem?_cons_zero, List.getElem?_cons_succ] at x0 x1 x2
  obtain ⟨_, _, e1, hc⟩ := SS.out
  cases e1
  obtain ⟨_, _, e1, y0⟩ := hc 0 (by decide)
  cases e1
  obtain ⟨_, _, e1, y1⟩ := hc 1 (by decide)
  cases e1
  simp only [List.getElem_cons_zero, List.getElem_cons_succ, Nat.add_zero] at y0 y1
  clear hc
  clear b
  go_wp2_with fail
  refine (kright1 _ _ H3.out).mono ?_; rintro e w38 ⟨rfl, b⟩
  replace L1 := hid (hnext L1.out b)
  replace B1 := hid (keepBlock B1.out b)
  replace B4 := hid (keepBlock B4.out b)
  replace R2 := hid (R2.out.below b)
  replace H3 := hid (H3.out.below b)
  replace SS := hid (SS.out.below b)
  replace HV := hid (HV.out.below b)
  replace BX := hid (keepBlock BX.out b)
  clear s0 s1 s2 u0 u1 u2 x0 x1 x2 y0 y1
  clear b
  go_wp2_with fail
  refine (kright0 _).mono ?_; rintro e w39 ⟨rfl, b⟩
  replace L1 := hid (hnext L1.out b)
  replace B1 := hid (keepBlock B1.out b)
  replace B4 := hid (keepBlock B4.out b)
  replace R2 := hid (R2.out.below b)
  replace H3 := hid (H3.out.below b)
  replace SS := hid (SS.out.below b)
  replace HV := hid (HV.out.below b)
  replace BX := hid (keepBlock BX.out b)
  clear b
  have s0 := cell_of_row w39 g 0 _ _ _ B1.out
  have s1 := cell_of_row w39 g 1 _ _ _ B1.out
  have s2 := cell_of_row w39 g 2 _ _ _ B1.out
  have u0 := cell_of_row w39 (g + 1 + 1 + 1) 0 _ _ _ B4.out
  have u1 := cell_of_row w39 (g + 1 + 1 + 1) 1 _ _ _ B4.out
  have u2 := cell_of_row w39 (g + 1 + 1 + 1) 2 _ _ _ B4.out
  simp only [List.getElem?_toArray, List.getElem?_cons_zero, List.getElem?_cons_succ] at s0 s1 s2 u0 u1 u2
  have x0 := cell_of_row w39 gx 0 _ _ _ BX.out
  have x1 := cell_of_row w39 gx 1 _ _ _ BX.out
  have x2 := cell_of_row w39 gx 2 _ _ _ BX.out
  simp only [List.getElem?_toArray, List.getElem?_cons_zero, List.getElem?_cons_succ] at x0 x1 x2
  obtain ⟨_, _, e1, hc⟩ := SS.out
  cases e1
  obtain ⟨_, _, e1, y0⟩ := hc 0 (by decide)
  cases e1
  obtain ⟨_, _, e1, y1⟩ := hc 1 (by decide)
  cases e1
  simp only [List.getElem_cons_zero, List.getElem_cons_succ, Nat.add_zero] at y0 y1
  clear hc
  obtain ⟨_, _, e1, hc3⟩ := H3.out
  cases e1
  obtain ⟨_, _, vr, vc, e1, q0, q1, q2, q3, q4, q5, q6, q7, hvr, hvc⟩ := hc3 0 (by decide)
  cases e1
  obtain ⟨ra, rc, rfl⟩ := vs_slc hvr
  obtain ⟨ca, cc, rfl⟩ := hvc.slc
  have VR := hid hvr
  have VC := hid hvc
  simp only [List.getElem_cons_zero, Nat.zero_mul, Nat.add_zero, Nat.zero_add] at q0 q1 q2 q3 q4 q5 q6 q7 VR VC
  unfold KC at q0 q1 q2 q3 q4 q5 q6 q7 VR VC
  simp only at q0 q1 q2 q3 q4 q5 q6 q7 VR VC
  clear hc3 hvr hvc
  go_wp2_with fail
  refine (kchange _ _ _ VR.out VC.out).mono ?_; rintro e w40 ⟨rfl, b⟩
  replace L1 := hid (hnext L1.out b)
  replace B1 := hid (keepBlock B1.out b)
  replace B4 := hid (keepBlock B4.out b)
  replace R2 := hid (R2.out.below b)
  replace H3 := hid (H3.out.below b)
  replace SS := hid (SS.out.below b)
  replace HV := hid (HV.out.below b)
  replace BX := hid (keepBlock BX.out b)
  clear s0 s1 s2 u0 u1 u2 x0 x1 x2 y0 y1
  have s0 := cell_of_row w40 g 0 _ _ _ B1.out
  have s1 := cell_of_row w40 g 1 _ _ _ B1.out
  have s2 := cell_of_row w40 g 2 _ _ _ B1.out
  have u0 := cell_of_row w40 (g + 1 + 1 + 1) 0 _ _ _ B4.out
  have u1 := cell_of_row w40 (g + 1 + 1 + 1) 1 _ _ _ B4.out
  have u2 := cell_of_row w40 (g + 1 + 1 + 1) 2 _ _ _ B4.out
  simp only [List.getElem?_toArray, List.getElem?_cons_zero, List.getElem?_cons_succ] at s0 s1 s2 u0 u1 u2
  have x0 := cell_of_row w40 gx 0 _ _ _ BX.out
  have x1 := cell_of_row w40 gx 1 _ _ _ BX.out
  have x2 := cell_of_row w40 gx 2 _ _ _ BX.out
  simp only [List.getElem?_toArray, List.getElem?_cons_zero, List.getElem?_cons_succ] at x0 x1 x2
  obtain ⟨_, _, e1, hc⟩ := SS.out
  cases e1
  obtain ⟨_, _, e1, y0⟩ := hc 0 (by decide)
  cases e1
  obtain ⟨_, _, e1, y1⟩ := hc 1 (by decide)
  cases e1
  simp only [List.getElem_cons_zero, List.getElem_cons_succ, Nat.add_zero] at y0 y1
  clear hc
  clear q0 q1 q2 q3 q4 q5 q6 q7 VR VC
  clear b
  go_wp2_with fail
  refine (ksame2 _ _ H3.out).mono ?_; rintro e w41 ⟨rfl, b⟩
  replace L1 := hid (hnext L1.out b)
  replace B1 := hid (keepBlock B1.out b)
  replace B4 := hid (keepBlock B4.out b)
  replace R2 := hid (R2.out.below b)
  replace H3 := hid (H3.out.below b)
  replace SS := hid (SS.out.below b)
  replace HV := hid (HV.out.below b)
  replace BX := hid (keepBlock BX.out b)
  clear s0 s1 s2 u0 u1 u2 x0 x1 x2 y0 y1
  clear b
  go_wp2_with fail
  go_ret
  exact ⟨rfl, L1.out⟩
end Go.Proofs.Ytmmegicaeaifaaa
