/-
  'known' of the statements of queries answers true. No condition.
-/
import Derived.Test.YtmcneelapghfcaaRi
import Derived.Test.YtmcneelapghfcaaRb
import Derived.Test.YtmcneelapghfcaaRp
import Derived.Test.YtmcneelapghfcaaRt
import Derived.Test.YtmcneelapghfcaaRa
namespace Go.Proofs.Ytmcneelapghfcaa
open Go.RowKit Pd Qu

def KqS : Sc.S := ⟨⟨#[116]⟩, [⟨⟨#[97]⟩, 2, true⟩], 1⟩
def KqV : Cd.V := ⟨2, 1, 0, ⟨#[]⟩⟩
def KqW : N := ⟨8, 0, nul⟩
def KqQ : Q := ⟨3, ⟨#[116]⟩, [KqV], 0, 0, 1, 2, [KqW], [0, 0], 0, false⟩
def KqB : Q := ⟨3, ⟨#[116]⟩, [KqV], 1, 0, 1, 2, [KqW], [0, 0], 0, false⟩
def KqE : ByteArray := bstr (enc KqQ)
theorem KqV_ok : Vok KqV := ⟨by constructor <;> decide, by decide, by decide⟩
theorem KqW_ok : Nok KqW := ⟨by constructor <;> decide, by constructor <;> decide, nul_ok⟩
theorem ones {α : Type} {P : α → Prop} {a : α} (h : P a) : ∀ x ∈ [a], P x := fun x hx => by rw [List.mem_singleton.1 hx]; exact h
theorem Kq_cols : ∀ c ∈ KqQ.cols, I64 c := fun c hc => by
  have : c = 0 := by simpa [KqQ] using hc
  rw [this]; exact i64_0
theorem KqQ_ok : Qok KqQ := ⟨by constructor <;> decide, by decide, ones KqV_ok, by constructor <;> decide, by constructor <;> decide, by constructor <;> decide, by constructor <;> decide, ones KqW_ok, Kq_cols, i64_0, by decide, by decide, by decide⟩
theorem KqB_ok : Qok KqB := ⟨KqQ_ok.kind, KqQ_ok.table, KqQ_ok.key, by constructor <;> decide, KqQ_ok.v, KqQ_ok.fr, KqQ_ok.to, KqQ_ok.wh, KqQ_ok.cols, KqQ_ok.limit, KqQ_ok.lk, KqQ_ok.lw, KqQ_ok.lc⟩
theorem noQ_ok : Qok noQ := small_no.ok
theorem Kq_right : rightB KqS KqQ = true := by decide +kernel
theorem Kq_bad : rightB KqS KqB = false := by decide +kernel
theorem Kq_pass : passB KqQ [KqV] = true := by decide +kernel
theorem Kq_nul : passB KqQ [nul] = false := by decide +kernel
theorem Kq_zero : passB noQ [] = true := by decide +kernel
theorem Kq_proj : projL KqQ [KqV] = [KqV, KqV] := rfl
theorem Kq_enc : enc KqQ ≠ [] := by decide +kernel
theorem Kq_size : KqE.size ≤ 1000000000 := by decide +kernel
theorem enc_long {q : Q} (h : enc q ≠ []) : 2 ≤ (bstr (enc q)).size := by
  rw [bstr_size, (enc_full h).2]
  have a := (Cd.enc_length q.wh.length).1
  have b := (Cd.enc_length q.cols.length).1
  unfold encL whL colsL
  simp only [List.length_append]
  omega
theorem qs3 {w : World} {q : Q} {vk vw vc : Value} (h : QIn w q vk vw vc) : ∃ a1 c1 a2 c2 a3 c3, vk = .slice a1 q.key.length c1 ∧ vw = .slice a2 q.wh.length c2 ∧ vc = .slice a3 q.cols.length c3 := by
  obtain ⟨a1, c1, e1⟩ := vs_slc h.1
  obtain ⟨a2, c2, e2⟩ := h.2.1.slc
  obtain ⟨a3, c3, e3⟩ := h.2.2.slc
  exact ⟨a1, c1, a2, c2, a3, c3, e1, e2, e3⟩
section
variable (w : World) (vk vw vc u : Value)
theorem qkenc (h : QIn w KqQ vk vw vc) : Calls Try.prog 19 #[.agg #[.int .i64 3, .string ⟨#[116]⟩, vk, .int .i64 0, .int .i64 0, .int .i64 1, .int .i64 2, vw, vc, .int .i64 0, .bool false]] w fun e w' => e = .returned (.string KqE) ∧ Below w.heap.size w w' := qenc_any KqQ vk vw vc w h KqQ_ok (by decide) (by decide) (by decide) (by decide)
theorem qkright (h : QIn w KqQ vk vw vc) (hu : CsAt w u KqS.cols) : Calls Try.prog 12 #[.agg #[.int .i64 3, .string ⟨#[116]⟩, vk, .int .i64 0, .int .i64 0, .int .i64 1, .int .i64 2, vw, vc, .int .i64 0, .bool false], .agg #[.string ⟨#[116]⟩, u, .int .i64 1]] w fun e w' => e = .returned (.bool true) ∧ Below w.heap.size w w' := by
  have c := qright_any KqQ vk vw vc KqS u w h hu KqQ_ok (by decide)
  rw [Kq_right] at c
  exact c
theorem qkbad (h : QIn w KqB vk vw vc) (hu : CsAt w u KqS.cols) : Calls Try.prog 12 #[.agg #[.int .i64 3, .string ⟨#[116]⟩, vk, .int .i64 1, .int .i64 0, .int .i64 1, .int .i64 2, vw, vc, .int .i64 0, .bool false], .agg #[.string ⟨#[116]⟩, u, .int .i64 1]] w fun e w' => e = .returned (.bool false) ∧ Below w.heap.size w w' := by
  have c := qright_any KqB vk vw vc KqS u w h hu KqB_ok (by decide)
  rw [Kq_bad] at c
  exact c
theorem qkpass (h : QIn w KqQ vk vw vc) (hu : VsAt w u [KqV]) : Calls Try.prog 14 #[.agg #[.int .i64 3, .string ⟨#[116]⟩, vk, .int .i64 0, .int .i64 0, .int .i64 1, .int .i64 2, vw, vc, .int .i64 0, .bool false], u] w fun e w' => e = .returned (.bool true) ∧ Below w.heap.size w w' := by
  have c := pass_any KqQ vk vw vc [KqV] u w h hu (by decide) KqQ_ok.wh (ones KqV_ok)
  rw [Kq_pass] at c
  exact c
theorem qknul (h : QIn w KqQ vk vw vc) (hu : VsAt w u [nul]) : Calls Try.prog 14 #[.agg #[.int .i64 3, .string ⟨#[116]⟩, vk, .int .i64 0, .int .i64 0, .int .i64 1, .int .i64 2, vw, vc, .int .i64 0, .bool false], u] w fun e w' => e = .returned (.bool false) ∧ Below w.heap.size w w' := by
  have c := pass_any KqQ vk vw vc [nul] u w h hu (by decide) KqQ_ok.wh (ones nul_ok)
  rw [Kq_nul] at c
  exact c
theorem qkzero : Calls Try.prog 14 #[.agg #[.int .i64 0, .string ⟨#[]⟩, .slice none 0 0, .int .i64 0, .int .i64 0, .int .i64 0, .int .i64 0, .slice none 0 0, .slice none 0 0, .int .i64 0, .bool false], .slice none 0 0] w fun e w' => e = .returned (.bool true) ∧ Below w.heap.size w w' := by
  have c := pass_any noQ (.slice none 0 0) (.slice none 0 0) (.slice none 0 0) [] (.slice none 0 0) w ⟨VsAt.own (World.ownsRow_nil _ 0 _ _), NsAt.own (OwN.nil _ 0), IsAt.nil _⟩ (VsAt.own (World.ownsRow_nil _ 0 _ _)) (by decide) (fun x hx => absurd hx List.not_mem_nil) (fun x hx => absurd hx List.not_mem_nil)
  rw [Kq_zero] at c
  exact c
theorem qkproj (h : QIn w KqQ vk vw vc) (hu : RsAt w u [KqV]) : Calls Try.prog 17 #[.agg #[.int .i64 3, .string ⟨#[116]⟩, vk, .int .i64 0, .int .i64 0, .int .i64 1, .int .i64 2, vw, vc, .int .i64 0, .bool false], u] w fun e w' => ∃ a c, e = .returned (.slice a 2 c) ∧ VsAt w' (.slice a 2 c) [KqV, KqV] ∧ Below w.heap.size w w' :=
  (project_any KqQ vk vw vc [KqV] u w h hu (by decide) (by decide)).mono fun e w' h => by
    obtain ⟨v', rfl, h1, h2⟩ := h
    rw [Kq_proj] at h1
    obtain ⟨a, c, rfl⟩ := vs_slc h1
    exact ⟨a, c, rfl, h1, h2⟩
theorem qkrows (v : Value) (h : VsAt w v [KqV, KqV]) (hu : VsAt w u [KqV, KqV]) : Calls Try.prog 16 #[v, u] w fun e w' => e = .returned (.bool true) ∧ Below w.heap.size w w' := by
  have c := rows_any v u [KqV, KqV] [KqV, KqV] w h hu (by decide) (by decide)
  rw [decide_eq_true rfl] at c
  exact c
theorem qkdec : Calls Try.prog 21 #[.string KqE] w fun e w' => ∃ a1 c1 a2 c2 a3 c3, e = .returned (.tuple #[.agg #[.int .i64 3, .string ⟨#[116]⟩, .slice a1 1 c1, .int .i64 0, .int .i64 0, .int .i64 1, .int .i64 2, .slice a2 1 c2, .slice a3 2 c3, .int .i64 0, .bool false], .int .i64 0]) ∧ QIn w' KqQ (.slice a1 1 c1) (.slice a2 1 c2) (.slice a3 2 c3) ∧ Below w.heap.size w w' :=
  (qdec_any KqE Kq_size w).mono fun e w' h => by
    obtain ⟨q, vk, vw, vc, er, rfl, hq, hs, hb, h⟩ := h
    rcases h with ⟨rfl, hn, he⟩ | ⟨_, _, hn⟩
    · have := enc_inj KqQ_ok hs.ok (by decide) hs.tab Kq_enc he hn
      subst this
      obtain ⟨a1, c1, a2, c2, a3, c3, rfl, rfl, rfl⟩ := qs3 hq
      exact ⟨a1, c1, a2, c2, a3, c3, rfl, hq, hb⟩
    · exact absurd rfl (hn KqQ KqQ_ok (by decide) Kq_enc)
theorem qkdec2 : Calls Try.prog 21 #[.string ⟨#[97]⟩] w fun e w' => ∃ a1 c1 a2 c2 a3 c3, e = .returned (.tuple #[.agg #[.int .i64 0, .string ⟨#[]⟩, .slice a1 0 c1, .int .i64 0, .int .i64 0, .int .i64 0, .int .i64 0, .slice a2 0 c2, .slice a3 0 c3, .int .i64 0, .bool false], .int .i64 7]) ∧ Below w.heap.size w w' :=
  (qdec_any ⟨#[97]⟩ (by decide) w).mono fun e w' h => by
    obtain ⟨q, vk, vw, vc, er, rfl, hq, hs, hb, h⟩ := h
    rcases h with ⟨rfl, hn, he⟩ | ⟨rfl, rfl, _⟩
    · have := enc_long hn
      rw [← he] at this
      exact absurd this (by decide)
    · obtain ⟨a1, c1, a2, c2, a3, c3, rfl, rfl, rfl⟩ := qs3 hq
      exact ⟨a1, c1, a2, c2, a3, c3, rfl, hb⟩
end
theorem qkcols_new (w : World) : CsAt (w.alloc (.cells #[.string ⟨#[97]⟩, .int .i64 2, .bool true] 68)) (.slice (some ⟨w.heap.size, 0, none⟩) 1 1) KqS.cols := by
  have hb := heap_alloc_new w (.cells #[.string ⟨#[97]⟩, .int .i64 2, .bool true] 68)
  refine ⟨_, 1, rfl, Nat.le_refl _, by decide, fun k hk => ⟨w.heap.size, 0, rfl, ?_⟩⟩
  have hk' : k = 0 := by have : k < 1 := hk; omega
  subst hk'
  exact ⟨cell_of_row _ _ 0 _ _ _ hb, cell_of_row _ _ 1 _ _ _ hb, cell_of_row _ _ 2 _ _ _ hb⟩
theorem qkrow_new (w : World) : RsAt (w.alloc (.cells #[.int .i64 2, .int .i64 1, .int .u64 0, .string ⟨#[]⟩] 36)) (.slice (some ⟨w.heap.size, 0, none⟩) 1 1) [KqV] := RsAt.own (BR.own (l := [KqV]) (B := 0) (heap_alloc_new w _ : BR _ _ [KqV]) (Nat.zero_le _) (by decide))
theorem qknul_new (w : World) : VsAt (w.alloc (.cells #[.int .i64 0, .int .i64 0, .int .u64 0, .string ⟨#[]⟩] 36)) (.slice (some ⟨w.heap.size, 0, none⟩) 1 1) [nul] := VsAt.own (BR.own (l := [nul]) (B := 0) (heap_alloc_new w _ : BR _ _ [nul]) (Nat.zero_le _) (by decide))
theorem qktwo_new (w : World) : VsAt (w.alloc (.cells #[.int .i64 2, .int .i64 1, .int .u64 0, .string ⟨#[]⟩, .int .i64 2, .int .i64 1, .int .u64 0, .string ⟨#[]⟩] 36)) (.slice (some ⟨w.heap.size, 0, none⟩) 2 2) [KqV, KqV] := VsAt.own (BR.own (l := [KqV, KqV]) (B := 0) (heap_alloc_new w _ : BR _ _ [KqV, KqV]) (Nat.zero_le _) (by decide))
theorem qkwh_new (w : World) : NsAt (w.alloc (.cells #[.int .i64 8, .int .i64 0, .int .i64 0, .int .i64 0, .int .u64 0, .string ⟨#[]⟩] 65)) (.slice (some ⟨w.heap.size, 0, none⟩) 1 1) [KqW] := NsAt.row (l := [KqW]) (heap_alloc_new w _) rfl
theorem qkints_new (w : World) : IsAt (w.alloc (.cells #[.int .i64 0, .int .i64 0] 3)) (.slice (some ⟨w.heap.size, 0, none⟩) 2 2) [0, 0] := by
  have hb := heap_alloc_new w (.cells #[.int .i64 0, .int .i64 0] 3)
  refine ⟨_, 2, rfl, fun k hk => ⟨w.heap.size, 0, rfl, ?_⟩⟩
  have hk' : k = 0 ∨ k = 1 := by have : k < 2 := hk; omega
  rcases hk' with rfl | rfl
  · exact cell_of_row _ _ 0 _ _ _ hb
  · exact cell_of_row _ _ 1 _ _ _ hb
set_option maxRecDepth 100000 in
set_option maxHeartbeats 12800000 in
theorem known_any (w : World) : Calls Try.prog 10 #[] w fun e w' => e = .returned (.bool true) ∧ Below w.heap.size w w' := by
  go_enter Try.func10, Try.ntmps10
  go_wp2_with fail
  have b1 := hba w (.cells #[.string ⟨#[97]⟩, .int .i64 2, .bool true] 68)
  have b2 := hba (w.alloc (.cells #[.string ⟨#[97]⟩, .int .i64 2, .bool true] 68)) (.cells #[.string ⟨#[116]⟩, .slice (some ⟨w.heap.size, 0, none⟩) 1 1, .int .i64 1] 31)
  have b3 := hba ((w.alloc (.cells #[.string ⟨#[97]⟩, .int .i64 2, .bool true] 68)).alloc (.cells #[.string ⟨#[116]⟩, .slice (some ⟨w.heap.size, 0, none⟩) 1 1, .int .i64 1] 31)) (.cells #[.int .i64 2, .int .i64 1, .int .u64 0, .string ⟨#[]⟩] 36)
  have b4 := hba (((w.alloc (.cells #[.string ⟨#[97]⟩, .int .i64 2, .bool true] 68)).alloc (.cells #[.string ⟨#[116]⟩, .slice (some ⟨w.heap.size, 0, none⟩) 1 1, .int .i64 1] 31)).alloc (.cells #[.int .i64 2, .int .i64 1, .int .u64 0, .string ⟨#[]⟩] 36)) (.cells #[.int .i64 8, .int .i64 0, .int .i64 0, .int .i64 0, .int .u64 0, .string ⟨#[]⟩] 65)
  have b5 := hba ((((w.alloc (.cells #[.string ⟨#[97]⟩, .int .i64 2, .bool true] 68)).alloc (.cells #[.string ⟨#[116]⟩, .slice (some ⟨w.heap.size, 0, none⟩) 1 1, .int .i64 1] 31)).alloc (.cells #[.int .i64 2, .int .i64 1, .int .u64 0, .string ⟨#[]⟩] 36)).alloc (.cells #[.int .i64 8, .int .i64 0, .int .i64 0, .int .i64 0, .int .u64 0, .string ⟨#[]⟩] 65)) (.cells #[.int .i64 0, .int .i64 0] 3)
  have b6 := hba (((((w.alloc (.cells #[.string ⟨#[97]⟩, .int .i64 2, .bool true] 68)).alloc (.cells #[.string ⟨#[116]⟩, .slice (some ⟨w.heap.size, 0, none⟩) 1 1, .int .i64 1] 31)).alloc (.cells #[.int .i64 2, .int .i64 1, .int .u64 0, .string ⟨#[]⟩] 36)).alloc (.cells #[.int .i64 8, .int .i64 0, .int .i64 0, .int .i64 0, .int .u64 0, .string ⟨#[]⟩] 65)).alloc (.cells #[.int .i64 0, .int .i64 0] 3)) (.cells #[.int .i64 3, .string ⟨#[116]⟩, .slice (some ⟨w.heap.size + 1 + 1, 0, none⟩) 1 1, .int .i64 0, .int .i64 0, .int .i64 1, .int .i64 2, .slice (some ⟨w.heap.size + 1 + 1 + 1, 0, none⟩) 1 1, .slice (some ⟨w.heap.size + 1 + 1 + 1 + 1, 0, none⟩) 2 2, .int .i64 0, .bool false] 28)
  have L := hid (hnext (hnext (hnext (hnext (hnext (b1) b2) b3) b4) b5) b6)
  have hsz : ∀ (W : World) (o : Obj), (W.alloc o).heap.size = W.heap.size + 1 := fun W o => by simp
  have x0 := qkcols_new w
  have x1 := heap_alloc_new (w.alloc (.cells #[.string ⟨#[97]⟩, .int .i64 2, .bool true] 68)) (.cells #[.string ⟨#[116]⟩, .slice (some ⟨w.heap.size, 0, none⟩) 1 1, .int .i64 1] 31)
  have x2 := qkrow_new ((w.alloc (.cells #[.string ⟨#[97]⟩, .int .i64 2, .bool true] 68)).alloc (.cells #[.string ⟨#[116]⟩, .slice (some ⟨w.heap.size, 0, none⟩) 1 1, .int .i64 1] 31))
  have x2b := heap_alloc_new ((w.alloc (.cells #[.string ⟨#[97]⟩, .int .i64 2, .bool true] 68)).alloc (.cells #[.string ⟨#[116]⟩, .slice (some ⟨w.heap.size, 0, none⟩) 1 1, .int .i64 1] 31)) (.cells #[.int .i64 2, .int .i64 1, .int .u64 0, .string ⟨#[]⟩] 36)
  have x3 := qkwh_new (((w.alloc (.cells #[.string ⟨#[97]⟩, .int .i64 2, .bool true] 68)).alloc (.cells #[.string ⟨#[116]⟩, .slice (some ⟨w.heap.size, 0, none⟩) 1 1, .int .i64 1] 31)).alloc (.cells #[.int .i64 2, .int .i64 1, .int .u64 0, .string ⟨#[]⟩] 36))
  have x4 := qkints_new ((((w.alloc (.cells #[.string ⟨#[97]⟩, .int .i64 2, .bool true] 68)).alloc (.cells #[.string ⟨#[116]⟩, .slice (some ⟨w.heap.size, 0, none⟩) 1 1, .int .i64 1] 31)).alloc (.cells #[.int .i64 2, .int .i64 1, .int .u64 0, .string ⟨#[]⟩] 36)).alloc (.cells #[.int .i64 8, .int .i64 0, .int .i64 0, .int .i64 0, .int .u64 0, .string ⟨#[]⟩] 65))
  have x5 := heap_alloc_new (((((w.alloc (.cells #[.string ⟨#[97]⟩, .int .i64 2, .bool true] 68)).alloc (.cells #[.string ⟨#[116]⟩, .slice (some ⟨w.heap.size, 0, none⟩) 1 1, .int .i64 1] 31)).alloc (.cells #[.int .i64 2, .int .i64 1, .int .u64 0, .string ⟨#[]⟩] 36)).alloc (.cells #[.int .i64 8, .int .i64 0, .int .i64 0, .int .i64 0, .int .u64 0, .string ⟨#[]⟩] 65)).alloc (.cells #[.int .i64 0, .int .i64 0] 3)) (.cells #[.int .i64 3, .string ⟨#[116]⟩, .slice (some ⟨w.heap.size + 1 + 1, 0, none⟩) 1 1, .int .i64 0, .int .i64 0, .int .i64 1, .int .i64 2, .slice (some ⟨w.heap.size + 1 + 1 + 1, 0, none⟩) 1 1, .slice (some ⟨w.heap.size + 1 + 1 + 1 + 1, 0, none⟩) 2 2, .int .i64 0, .bool false] 28)
  simp only [hsz] at x1 x2 x2b x3 x4 x5
  (try simp only [hsz])
  have BS := hid (keepBlock (keepBlock (keepBlock (keepBlock (x1) b3) b4) b5) b6)
  have BR1 := hid (keepBlock (keepBlock (keepBlock (x2b) b4) b5) b6)
  have BQ1 := hid x5
  have HC := hid ((((((x0).below b2).below b3).below b4).below b5).below b6)
  have HR := hid ((((x2).below b4).below b5).below b6)
  have HQ : Hid (QIn _ KqQ _ _ _) := ⟨((((x2).below b4).below b5).below b6).1, ((x3).below b5).below b6, (x4).below b6⟩
  clear x0 x1 x2 x2b x3 x4 x5 b1 b2 b3 b4 b5 b6 hsz
  generalize ((((((w.alloc (.cells #[.string ⟨#[97]⟩, .int .i64 2, .bool true] 68)).alloc (.cells #[.string ⟨#[116]⟩, .slice (some ⟨w.heap.size, 0, none⟩) 1 1, .int .i64 1] 31)).alloc (.cells #[.int .i64 2, .int .i64 1, .int .u64 0, .string ⟨#[]⟩] 36)).alloc (.cells #[.int .i64 8, .int .i64 0, .int .i64 0, .int .i64 0, .int .u64 0, .string ⟨#[]⟩] 65)).alloc (.cells #[.int .i64 0, .int .i64 0] 3)).alloc (.cells #[.int .i64 3, .string ⟨#[116]⟩, .slice (some ⟨w.heap.size + 1 + 1, 0, none⟩) 1 1, .int .i64 0, .int .i64 0, .int .i64 1, .int .i64 2, .slice (some ⟨w.heap.size + 1 + 1 + 1, 0, none⟩) 1 1, .slice (some ⟨w.heap.size + 1 + 1 + 1 + 1, 0, none⟩) 2 2, .int .i64 0, .bool false] 28)) = w6 at *
  obtain ⟨g, hg⟩ : ∃ g, w.heap.size = g := ⟨_, rfl⟩
  rw [hg] at BS BR1 BQ1 HC HR HQ
  (try rw [hg])
  clear hg
  refine (qkenc _ _ _ _ HQ.out).mono ?_; rintro e w7 ⟨rfl, b⟩
  replace L := hid (hnext L.out b)
  replace BS := hid (keepBlock BS.out b)
  replace BR1 := hid (keepBlock BR1.out b)
  replace BQ1 := hid (keepBlock BQ1.out b)
  replace HQ := hid (HQ.out.below b)
  replace HC := hid (HC.out.below b)
  replace HR := hid (HR.out.below b)
  clear b
  go_wp2_with fail
  refine (qkdec _).mono ?_; rintro e w8 ⟨a1, c1, a2, c2, a3, c3, rfl, hqd, b⟩
  replace L := hid (hnext L.out b)
  replace BS := hid (keepBlock BS.out b)
  replace BR1 := hid (keepBlock BR1.out b)
  replace BQ1 := hid (keepBlock BQ1.out b)
  replace HQ := hid (HQ.out.below b)
  replace HC := hid (HC.out.below b)
  replace HR := hid (HR.out.below b)
  clear b
  have HD := hid hqd
  clear hqd
  have b := hba w8 (.cells #[.int .i64 3, .string ⟨#[116]⟩, .slice a1 1 c1, .int .i64 0, .int .i64 0, .int .i64 1, .int .i64 2, .slice a2 1 c2, .slice a3 2 c3, .int .i64 0, .bool false] 28)
  replace L := hid (hnext L.out b)
  replace BS := hid (keepBlock BS.out b)
  replace BR1 := hid (keepBlock BR1.out b)
  replace BQ1 := hid (keepBlock BQ1.out b)
  replace HQ := hid (HQ.out.below b)
  replace HC := hid (HC.out.below b)
  replace HR := hid (HR.out.below b)
  replace HD := hid (HD.out.below b)
  have BD := hid (heap_alloc_new w8 (.cells #[.int .i64 3, .string ⟨#[116]⟩, .slice a1 1 c1, .int .i64 0, .int .i64 0, .int .i64 1, .int .i64 2, .slice a2 1 c2, .slice a3 2 c3, .int .i64 0, .bool false] 28))
  clear b
  go_wp2_with fail
  obtain ⟨gd, hgd⟩ : ∃ gd, w8.heap.size = gd := ⟨_, rfl⟩
  rw [hgd] at BD
  (try rw [hgd])
  generalize w8.alloc (.cells #[.int .i64 3, .string ⟨#[116]⟩, .slice a1 1 c1, .int .i64 0, .int .i64 0, .int .i64 1, .int .i64 2, .slice a2 1 c2, .slice a3 2 c3, .int .i64 0, .bool false] 28) = w9 at *
  clear hgd
  refine (qkdec2 _).mono ?_; rintro e w10 ⟨z1, k1, z2, k2, z3, k3, rfl, b⟩
  replace L := hid (hnext L.out b)
  replace BS := hid (keepBlock BS.out b)
  replace BR1 := hid (keepBlock BR1.out b)
  replace BQ1 := hid (keepBlock BQ1.out b)
  replace HQ := hid (HQ.out.below b)
  replace HC := hid (HC.out.below b)
  replace HR := hid (HR.out.below b)
  replace HD := hid (HD.out.below b)
  replace BD := hid (keepBlock BD.out b)
  clear b
  have b := hba w10 (.cells #[.int .i64 0, .string ⟨#[]⟩, .slice z1 0 k1, .int .i64 0, .int .i64 0, .int .i64 0, .int .i64 0, .slice z2 0 k2, .slice z3 0 k3, .int .i64 0, .bool false] 28)
  replace L := hid (hnext L.out b)
  replace BS := hid (keepBlock BS.out b)
  replace BR1 := hid (keepBlock BR1.out b)
  replace BQ1 := hid (keepBlock BQ1.out b)
  replace HQ := hid (HQ.out.below b)
  replace HC := hid (HC.out.below b)
  replace HR := hid (HR.out.below b)
  replace HD := hid (HD.out.below b)
  replace BD := hid (keepBlock BD.out b)
  clear b
  have q0 : (w10.alloc (.cells #[.int .i64 0, .string ⟨#[]⟩, .slice z1 0 k1, .int .i64 0, .int .i64 0, .int .i64 0, .int .i64 0, .slice z2 0 k2, .slice z3 0 k3, .int .i64 0, .bool false] 28)).cell? ⟨g + 1 + 1 + 1 + 1 + 1, 0, none⟩ = some (.int .i64 3) := cell_of_row _ (g + 1 + 1 + 1 + 1 + 1) 0 _ _ _ BQ1.out
  have q1 : (w10.alloc (.cells #[.int .i64 0, .string ⟨#[]⟩, .slice z1 0 k1, .int .i64 0, .int .i64 0, .int .i64 0, .int .i64 0, .slice z2 0 k2, .slice z3 0 k3, .int .i64 0, .bool false] 28)).cell? ⟨g + 1 + 1 + 1 + 1 + 1, 1, none⟩ = some (.string ⟨#[116]⟩) := cell_of_row _ (g + 1 + 1 + 1 + 1 + 1) 1 _ _ _ BQ1.out
  have q2 : (w10.alloc (.cells #[.int .i64 0, .string ⟨#[]⟩, .slice z1 0 k1, .int .i64 0, .int .i64 0, .int .i64 0, .int .i64 0, .slice z2 0 k2, .slice z3 0 k3, .int .i64 0, .bool false] 28)).cell? ⟨g + 1 + 1 + 1 + 1 + 1, 2, none⟩ = some (.slice (some ⟨g + 1 + 1, 0, none⟩) 1 1) := cell_of_row _ (g + 1 + 1 + 1 + 1 + 1) 2 _ _ _ BQ1.out
  have q3 : (w10.alloc (.cells #[.int .i64 0, .string ⟨#[]⟩, .slice z1 0 k1, .int .i64 0, .int .i64 0, .int .i64 0, .int .i64 0, .slice z2 0 k2, .slice z3 0 k3, .int .i64 0, .bool false] 28)).cell? ⟨g + 1 + 1 + 1 + 1 + 1, 3, none⟩ = some (.int .i64 0) := cell_of_row _ (g + 1 + 1 + 1 + 1 + 1) 3 _ _ _ BQ1.out
  have q4 : (w10.alloc (.cells #[.int .i64 0, .string ⟨#[]⟩, .slice z1 0 k1, .int .i64 0, .int .i64 0, .int .i64 0, .int .i64 0, .slice z2 0 k2, .slice z3 0 k3, .int .i64 0, .bool false] 28)).cell? ⟨g + 1 + 1 + 1 + 1 + 1, 4, none⟩ = some (.int .i64 0) := cell_of_row _ (g + 1 + 1 + 1 + 1 + 1) 4 _ _ _ BQ1.out
  have q5 : (w10.alloc (.cells #[.int .i64 0, .string ⟨#[]⟩, .slice z1 0 k1, .int .i64 0, .int .i64 0, .int .i64 0, .int .i64 0, .slice z2 0 k2, .slice z3 0 k3, .int .i64 0, .bool false] 28)).cell? ⟨g + 1 + 1 + 1 + 1 + 1, 5, none⟩ = some (.int .i64 1) := cell_of_row _ (g + 1 + 1 + 1 + 1 + 1) 5 _ _ _ BQ1.out
  have q6 : (w10.alloc (.cells #[.int .i64 0, .string ⟨#[]⟩, .slice z1 0 k1, .int .i64 0, .int .i64 0, .int .i64 0, .int .i64 0, .slice z2 0 k2, .slice z3 0 k3, .int .i64 0, .bool false] 28)).cell? ⟨g + 1 + 1 + 1 + 1 + 1, 6, none⟩ = some (.int .i64 2) := cell_of_row _ (g + 1 + 1 + 1 + 1 + 1) 6 _ _ _ BQ1.out
  have q7 : (w10.alloc (.cells #[.int .i64 0, .string ⟨#[]⟩, .slice z1 0 k1, .int .i64 0, .int .i64 0, .int .i64 0, .int .i64 0, .slice z2 0 k2, .slice z3 0 k3, .int .i64 0, .bool false] 28)).cell? ⟨g + 1 + 1 + 1 + 1 + 1, 7, none⟩ = some (.slice (some ⟨g + 1 + 1 + 1, 0, none⟩) 1 1) := cell_of_row _ (g + 1 + 1 + 1 + 1 + 1) 7 _ _ _ BQ1.out
  have q8 : (w10.alloc (.cells #[.int .i64 0, .string ⟨#[]⟩, .slice z1 0 k1, .int .i64 0, .int .i64 0, .int .i64 0, .int .i64 0, .slice z2 0 k2, .slice z3 0 k3, .int .i64 0, .bool false] 28)).cell? ⟨g + 1 + 1 + 1 + 1 + 1, 8, none⟩ = some (.slice (some ⟨g + 1 + 1 + 1 + 1, 0, none⟩) 2 2) := cell_of_row _ (g + 1 + 1 + 1 + 1 + 1) 8 _ _ _ BQ1.out
  have q9 : (w10.alloc (.cells #[.int .i64 0, .string ⟨#[]⟩, .slice z1 0 k1, .int .i64 0, .int .i64 0, .int .i64 0, .int .i64 0, .slice z2 0 k2, .slice z3 0 k3, .int .i64 0, .bool false] 28)).cell? ⟨g + 1 + 1 + 1 + 1 + 1, 9, none⟩ = some (.int .i64 0) := cell_of_row _ (g + 1 + 1 + 1 + 1 + 1) 9 _ _ _ BQ1.out
  have q10 : (w10.alloc (.cells #[.int .i64 0, .string ⟨#[]⟩, .slice z1 0 k1, .int .i64 0, .int .i64 0, .int .i64 0, .int .i64 0, .slice z2 0 k2, .slice z3 0 k3, .int .i64 0, .bool false] 28)).cell? ⟨g + 1 + 1 + 1 + 1 + 1, 10, none⟩ = some (.bool false) := cell_of_row _ (g + 1 + 1 + 1 + 1 + 1) 10 _ _ _ BQ1.out
  go_wp2_with fail
  clear q0 q1 q2 q3 q4 q5 q6 q7 q8 q9 q10
  have b := hba (w10.alloc (.cells #[.int .i64 0, .string ⟨#[]⟩, .slice z1 0 k1, .int .i64 0, .int .i64 0, .int .i64 0, .int .i64 0, .slice z2 0 k2, .slice z3 0 k3, .int .i64 0, .bool false] 28)) (.cells #[.int .i64 3, .string ⟨#[116]⟩, .slice (some ⟨g + 1 + 1, 0, none⟩) 1 1, .int .i64 1, .int .i64 0, .int .i64 1, .int .i64 2, .slice (some ⟨g + 1 + 1 + 1, 0, none⟩) 1 1, .slice (some ⟨g + 1 + 1 + 1 + 1, 0, none⟩) 2 2, .int .i64 0, .bool false] 28)
  replace L := hid (hnext L.out b)
  replace BS := hid (keepBlock BS.out b)
  replace BR1 := hid (keepBlock BR1.out b)
  replace BQ1 := hid (keepBlock BQ1.out b)
  replace HQ := hid (HQ.out.below b)
  replace HC := hid (HC.out.below b)
  replace HR := hid (HR.out.below b)
  replace HD := hid (HD.out.below b)
  replace BD := hid (keepBlock BD.out b)
  have BB := hid (heap_alloc_new (w10.alloc (.cells #[.int .i64 0, .string ⟨#[]⟩, .slice z1 0 k1, .int .i64 0, .int .i64 0, .int .i64 0, .int .i64 0, .slice z2 0 k2, .slice z3 0 k3, .int .i64 0, .bool false] 28)) (.cells #[.int .i64 3, .string ⟨#[116]⟩, .slice (some ⟨g + 1 + 1, 0, none⟩) 1 1, .int .i64 1, .int .i64 0, .int .i64 1, .int .i64 2, .slice (some ⟨g + 1 + 1 + 1, 0, none⟩) 1 1, .slice (some ⟨g + 1 + 1 + 1 + 1, 0, none⟩) 2 2, .int .i64 0, .bool false] 28))
  have HX : Hid (QIn _ KqB _ _ _) := HQ
  rw [show (w10.alloc (.cells #[.int .i64 0, .string ⟨#[]⟩, .slice z1 0 k1, .int .i64 0, .int .i64 0, .int .i64 0, .int .i64 0, .slice z2 0 k2, .slice z3 0 k3, .int .i64 0, .bool false] 28)).heap.size = w10.heap.size + 1 by simp] at BB
  clear b
  generalize (w10.alloc (.cells #[.int .i64 0, .string ⟨#[]⟩, .slice z1 0 k1, .int .i64 0, .int .i64 0, .int .i64 0, .int .i64 0, .slice z2 0 k2, .slice z3 0 k3, .int .i64 0, .bool false] 28)).alloc (.cells #[.int .i64 3, .string ⟨#[116]⟩, .slice (some ⟨g + 1 + 1, 0, none⟩) 1 1, .int .i64 1, .int .i64 0, .int .i64 1, .int .i64 2, .slice (some ⟨g + 1 + 1 + 1, 0, none⟩) 1 1, .slice (some ⟨g + 1 + 1 + 1 + 1, 0, none⟩) 2 2, .int .i64 0, .bool false] 28) = w11 at *
  obtain ⟨gb, hgb⟩ : ∃ gb, w10.heap.size = gb := ⟨_, rfl⟩
  rw [hgb] at BB
  (try rw [hgb])
  clear hgb
  have s0 : w11.cell? ⟨g + 1, 0, none⟩ = some (.string ⟨#[116]⟩) := cell_of_row _ (g + 1) 0 _ _ _ BS.out
  have s1 : w11.cell? ⟨g + 1, 1, none⟩ = some (.slice (some ⟨g, 0, none⟩) 1 1) := cell_of_row _ (g + 1) 1 _ _ _ BS.out
  have s2 : w11.cell? ⟨g + 1, 2, none⟩ = some (.int .i64 1) := cell_of_row _ (g + 1) 2 _ _ _ BS.out
  have r0 : w11.cell? ⟨g + 1 + 1, 0, none⟩ = some (.int .i64 2) := cell_of_row _ (g + 1 + 1) 0 _ _ _ BR1.out
  have r1 : w11.cell? ⟨g + 1 + 1, 1, none⟩ = some (.int .i64 1) := cell_of_row _ (g + 1 + 1) 1 _ _ _ BR1.out
  have r2 : w11.cell? ⟨g + 1 + 1, 2, none⟩ = some (.int .u64 0) := cell_of_row _ (g + 1 + 1) 2 _ _ _ BR1.out
  have r3 : w11.cell? ⟨g + 1 + 1, 3, none⟩ = some (.string ⟨#[]⟩) := cell_of_row _ (g + 1 + 1) 3 _ _ _ BR1.out
  have q0 : w11.cell? ⟨g + 1 + 1 + 1 + 1 + 1, 0, none⟩ = some (.int .i64 3) := cell_of_row _ (g + 1 + 1 + 1 + 1 + 1) 0 _ _ _ BQ1.out
  have q1 : w11.cell? ⟨g + 1 + 1 + 1 + 1 + 1, 1, none⟩ = some (.string ⟨#[116]⟩) := cell_of_row _ (g + 1 + 1 + 1 + 1 + 1) 1 _ _ _ BQ1.out
  have q2 : w11.cell? ⟨g + 1 + 1 + 1 + 1 + 1, 2, none⟩ = some (.slice (some ⟨g + 1 + 1, 0, none⟩) 1 1) := cell_of_row _ (g + 1 + 1 + 1 + 1 + 1) 2 _ _ _ BQ1.out
  have q3 : w11.cell? ⟨g + 1 + 1 + 1 + 1 + 1, 3, none⟩ = some (.int .i64 0) := cell_of_row _ (g + 1 + 1 + 1 + 1 + 1) 3 _ _ _ BQ1.out
  have q4 : w11.cell? ⟨g + 1 + 1 + 1 + 1 + 1, 4, none⟩ = some (.int .i64 0) := cell_of_row _ (g + 1 + 1 + 1 + 1 + 1) 4 _ _ _ BQ1.out
  have q5 : w11.cell? ⟨g + 1 + 1 + 1 + 1 + 1, 5, none⟩ = some (.int .i64 1) := cell_of_row _ (g + 1 + 1 + 1 + 1 + 1) 5 _ _ _ BQ1.out
  have q6 : w11.cell? ⟨g + 1 + 1 + 1 + 1 + 1, 6, none⟩ = some (.int .i64 2) := cell_of_row _ (g + 1 + 1 + 1 + 1 + 1) 6 _ _ _ BQ1.out
  have q7 : w11.cell? ⟨g + 1 + 1 + 1 + 1 + 1, 7, none⟩ = some (.slice (some ⟨g + 1 + 1 + 1, 0, none⟩) 1 1) := cell_of_row _ (g + 1 + 1 + 1 + 1 + 1) 7 _ _ _ BQ1.out
  have q8 : w11.cell? ⟨g + 1 + 1 + 1 + 1 + 1, 8, none⟩ = some (.slice (some ⟨g + 1 + 1 + 1 + 1, 0, none⟩) 2 2) := cell_of_row _ (g + 1 + 1 + 1 + 1 + 1) 8 _ _ _ BQ1.out
  have q9 : w11.cell? ⟨g + 1 + 1 + 1 + 1 + 1, 9, none⟩ = some (.int .i64 0) := cell_of_row _ (g + 1 + 1 + 1 + 1 + 1) 9 _ _ _ BQ1.out
  have q10 : w11.cell? ⟨g + 1 + 1 + 1 + 1 + 1, 10, none⟩ = some (.bool false) := cell_of_row _ (g + 1 + 1 + 1 + 1 + 1) 10 _ _ _ BQ1.out
  have d0 : w11.cell? ⟨gd, 0, none⟩ = some (.int .i64 3) := cell_of_row _ (gd) 0 _ _ _ BD.out
  have d1 : w11.cell? ⟨gd, 1, none⟩ = some (.string ⟨#[116]⟩) := cell_of_row _ (gd) 1 _ _ _ BD.out
  have d2 : w11.cell? ⟨gd, 2, none⟩ = some (.slice a1 1 c1) := cell_of_row _ (gd) 2 _ _ _ BD.out
  have d3 : w11.cell? ⟨gd, 3, none⟩ = some (.int .i64 0) := cell_of_row _ (gd) 3 _ _ _ BD.out
  have d4 : w11.cell? ⟨gd, 4, none⟩ = some (.int .i64 0) := cell_of_row _ (gd) 4 _ _ _ BD.out
  have d5 : w11.cell? ⟨gd, 5, none⟩ = some (.int .i64 1) := cell_of_row _ (gd) 5 _ _ _ BD.out
  have d6 : w11.cell? ⟨gd, 6, none⟩ = some (.int .i64 2) := cell_of_row _ (gd) 6 _ _ _ BD.out
  have d7 : w11.cell? ⟨gd, 7, none⟩ = some (.slice a2 1 c2) := cell_of_row _ (gd) 7 _ _ _ BD.out
  have d8 : w11.cell? ⟨gd, 8, none⟩ = some (.slice a3 2 c3) := cell_of_row _ (gd) 8 _ _ _ BD.out
  have d9 : w11.cell? ⟨gd, 9, none⟩ = some (.int .i64 0) := cell_of_row _ (gd) 9 _ _ _ BD.out
  have d10 : w11.cell? ⟨gd, 10, none⟩ = some (.bool false) := cell_of_row _ (gd) 10 _ _ _ BD.out
  have e0 : w11.cell? ⟨gb + 1, 0, none⟩ = some (.int .i64 3) := cell_of_row _ (gb + 1) 0 _ _ _ BB.out
  have e1 : w11.cell? ⟨gb + 1, 1, none⟩ = some (.string ⟨#[116]⟩) := cell_of_row _ (gb + 1) 1 _ _ _ BB.out
  have e2 : w11.cell? ⟨gb + 1, 2, none⟩ = some (.slice (some ⟨g + 1 + 1, 0, none⟩) 1 1) := cell_of_row _ (gb + 1) 2 _ _ _ BB.out
  have e3 : w11.cell? ⟨gb + 1, 3, none⟩ = some (.int .i64 1) := cell_of_row _ (gb + 1) 3 _ _ _ BB.out
  have e4 : w11.cell? ⟨gb + 1, 4, none⟩ = some (.int .i64 0) := cell_of_row _ (gb + 1) 4 _ _ _ BB.out
  have e5 : w11.cell? ⟨gb + 1, 5, none⟩ = some (.int .i64 1) := cell_of_row _ (gb + 1) 5 _ _ _ BB.out
  have e6 : w11.cell? ⟨gb + 1, 6, none⟩ = some (.int .i64 2) := cell_of_row _ (gb + 1) 6 _ _ _ BB.out
  have e7 : w11.cell? ⟨gb + 1, 7, none⟩ = some (.slice (some ⟨g + 1 + 1 + 1, 0, none⟩) 1 1) := cell_of_row _ (gb + 1) 7 _ _ _ BB.out
  have e8 : w11.cell? ⟨gb + 1, 8, none⟩ = some (.slice (some ⟨g + 1 + 1 + 1 + 1, 0, none⟩) 2 2) := cell_of_row _ (gb + 1) 8 _ _ _ BB.out
  have e9 : w11.cell? ⟨gb + 1, 9, none⟩ = some (.int .i64 0) := cell_of_row _ (gb + 1) 9 _ _ _ BB.out
  have e10 : w11.cell? ⟨gb + 1, 10, none⟩ = some (.bool false) := cell_of_row _ (gb + 1) 10 _ _ _ BB.out
  obtain ⟨w20, hw20⟩ : ∃ w20, (w11).drew = w20 := ⟨_, rfl⟩
  have hd20 : Below (w11).heap.size (w11) w20 := hw20 ▸ (Below.refl _ _).drew
  have mk20 : ∀ W, Below w20.heap.size w20 W → Below w20.heap.size w20 W ∧ W.cell? ⟨g + 1, 0, none⟩ = some (.string ⟨#[116]⟩) ∧ W.cell? ⟨g + 1, 1, none⟩ = some (.slice (some ⟨g, 0, none⟩) 1 1) ∧ W.cell? ⟨g + 1, 2, none⟩ = some (.int .i64 1) ∧ W.cell? ⟨g + 1 + 1, 0, none⟩ = some (.int .i64 2) ∧ W.cell? ⟨g + 1 + 1, 1, none⟩ = some (.int .i64 1) ∧ W.cell? ⟨g + 1 + 1, 2, none⟩ = some (.int .u64 0) ∧ W.cell? ⟨g + 1 + 1, 3, none⟩ = some (.string ⟨#[]⟩) ∧ W.cell? ⟨g + 1 + 1 + 1 + 1 + 1, 0, none⟩ = some (.int .i64 3) ∧ W.cell? ⟨g + 1 + 1 + 1 + 1 + 1, 1, none⟩ = some (.string ⟨#[116]⟩) ∧ W.cell? ⟨g + 1 + 1 + 1 + 1 + 1, 2, none⟩ = some (.slice (some ⟨g + 1 + 1, 0, none⟩) 1 1) ∧ W.cell? ⟨g + 1 + 1 + 1 + 1 + 1, 3, none⟩ = some (.int .i64 0) ∧ W.cell? ⟨g + 1 + 1 + 1 + 1 + 1, 4, none⟩ = some (.int .i64 0) ∧ W.cell? ⟨g + 1 + 1 + 1 + 1 + 1, 5, none⟩ = some (.int .i64 1) ∧ W.cell? ⟨g + 1 + 1 + 1 + 1 + 1, 6, none⟩ = some (.int .i64 2) ∧ W.cell? ⟨g + 1 + 1 + 1 + 1 + 1, 7, none⟩ = some (.slice (some ⟨g + 1 + 1 + 1, 0, none⟩) 1 1) ∧ W.cell? ⟨g + 1 + 1 + 1 + 1 + 1, 8, none⟩ = some (.slice (some ⟨g + 1 + 1 + 1 + 1, 0, none⟩) 2 2) ∧ W.cell? ⟨g + 1 + 1 + 1 + 1 + 1, 9, none⟩ = some (.int .i64 0) ∧ W.cell? ⟨g + 1 + 1 + 1 + 1 + 1, 10, none⟩ = some (.bool false) ∧ W.cell? ⟨gd, 0, none⟩ = some (.int .i64 3) ∧ W.cell? ⟨gd, 1, none⟩ = some (.string ⟨#[116]⟩) ∧ W.cell? ⟨gd, 2, none⟩ = some (.slice a1 1 c1) ∧ W.cell? ⟨gd, 3, none⟩ = some (.int .i64 0) ∧ W.cell? ⟨gd, 4, none⟩ = some (.int .i64 0) ∧ W.cell? ⟨gd, 5, none⟩ = some (.int .i64 1) ∧ W.cell? ⟨gd, 6, none⟩ = some (.int .i64 2) ∧ W.cell? ⟨gd, 7, none⟩ = some (.slice a2 1 c2) ∧ W.cell? ⟨gd, 8, none⟩ = some (.slice a3 2 c3) ∧ W.cell? ⟨gd, 9, none⟩ = some (.int .i64 0) ∧ W.cell? ⟨gd, 10, none⟩ = some (.bool false) ∧ W.cell? ⟨gb + 1, 0, none⟩ = some (.int .i64 3) ∧ W.cell? ⟨gb + 1, 1, none⟩ = some (.string ⟨#[116]⟩) ∧ W.cell? ⟨gb + 1, 2, none⟩ = some (.slice (some ⟨g + 1 + 1, 0, none⟩) 1 1) ∧ W.cell? ⟨gb + 1, 3, none⟩ = some (.int .i64 1) ∧ W.cell? ⟨gb + 1, 4, none⟩ = some (.int .i64 0) ∧ W.cell? ⟨gb + 1, 5, none⟩ = some (.int .i64 1) ∧ W.cell? ⟨gb + 1, 6, none⟩ = some (.int .i64 2) ∧ W.cell? ⟨gb + 1, 7, none⟩ = some (.slice (some ⟨g + 1 + 1 + 1, 0, none⟩) 1 1) ∧ W.cell? ⟨gb + 1, 8, none⟩ = some (.slice (some ⟨g + 1 + 1 + 1 + 1, 0, none⟩) 2 2) ∧ W.cell? ⟨gb + 1, 9, none⟩ = some (.int .i64 0) ∧ W.cell? ⟨gb + 1, 10, none⟩ = some (.bool false) := fun W h => ⟨h, hkeep (hkeep s0 hd20) h, hkeep (hkeep s1 hd20) h, hkeep (hkeep s2 hd20) h, hkeep (hkeep r0 hd20) h, hkeep (hkeep r1 hd20) h, hkeep (hkeep r2 hd20) h, hkeep (hkeep r3 hd20) h, hkeep (hkeep q0 hd20) h, hkeep (hkeep q1 hd20) h, hkeep (hkeep q2 hd20) h, hkeep (hkeep q3 hd20) h, hkeep (hkeep q4 hd20) h, hkeep (hkeep q5 hd20) h, hkeep (hkeep q6 hd20) h, hkeep (hkeep q7 hd20) h, hkeep (hkeep q8 hd20) h, hkeep (hkeep q9 hd20) h, hkeep (hkeep q10 hd20) h, hkeep (hkeep d0 hd20) h, hkeep (hkeep d1 hd20) h, hkeep (hkeep d2 hd20) h, hkeep (hkeep d3 hd20) h, hkeep (hkeep d4 hd20) h, hkeep (hkeep d5 hd20) h, hkeep (hkeep d6 hd20) h, hkeep (hkeep d7 hd20) h, hkeep (hkeep d8 hd20) h, hkeep (hkeep d9 hd20) h, hkeep (hkeep d10 hd20) h, hkeep (hkeep e0 hd20) h, hkeep (hkeep e1 hd20) h, hkeep (hkeep e2 hd20) h, hkeep (hkeep e3 hd20) h, hkeep (hkeep e4 hd20) h, hkeep (hkeep e5 hd20) h, hkeep (hkeep e6 hd20) h, hkeep (hkeep e7 hd20) h, hkeep (hkeep e8 hd20) h, hkeep (hkeep e9 hd20) h, hkeep (hkeep e10 hd20) h⟩
  clear s0 s1 s2 r0 r1 r2 r3 q0 q1 q2 q3 q4 q5 q6 q7 q8 q9 q10 d0 d1 d2 d3 d4 d5 d6 d7 d8 d9 d10 e0 e1 e2 e3 e4 e5 e6 e7 e8 e9 e10
  have L20 := hid (hnext L.out hd20)
  replace HQ := hid (HQ.out.below hd20)
  replace HX := hid (HX.out.below hd20)
  replace HC := hid (HC.out.below hd20)
  replace HR := hid (HR.out.below hd20)
  replace HD := hid (HD.out.below hd20)
  clear L BS BR1 BQ1 BD BB hd20
  refine wp_region_held_drew (S := (fun W => Below w20.heap.size w20 W ∧ W.cell? ⟨g + 1, 0, none⟩ = some (.string ⟨#[116]⟩) ∧ W.cell? ⟨g + 1, 1, none⟩ = some (.slice (some ⟨g, 0, none⟩) 1 1) ∧ W.cell? ⟨g + 1, 2, none⟩ = some (.int .i64 1) ∧ W.cell? ⟨g + 1 + 1, 0, none⟩ = some (.int .i64 2) ∧ W.cell? ⟨g + 1 + 1, 1, none⟩ = some (.int .i64 1) ∧ W.cell? ⟨g + 1 + 1, 2, none⟩ = some (.int .u64 0) ∧ W.cell? ⟨g + 1 + 1, 3, none⟩ = some (.string ⟨#[]⟩) ∧ W.cell? ⟨g + 1 + 1 + 1 + 1 + 1, 0, none⟩ = some (.int .i64 3) ∧ W.cell? ⟨g + 1 + 1 + 1 + 1 + 1, 1, none⟩ = some (.string ⟨#[116]⟩) ∧ W.cell? ⟨g + 1 + 1 + 1 + 1 + 1, 2, none⟩ = some (.slice (some ⟨g + 1 + 1, 0, none⟩) 1 1) ∧ W.cell? ⟨g + 1 + 1 + 1 + 1 + 1, 3, none⟩ = some (.int .i64 0) ∧ W.cell? ⟨g + 1 + 1 + 1 + 1 + 1, 4, none⟩ = some (.int .i64 0) ∧ W.cell? ⟨g + 1 + 1 + 1 + 1 + 1, 5, none⟩ = some (.int .i64 1) ∧ W.cell? ⟨g + 1 + 1 + 1 + 1 + 1, 6, none⟩ = some (.int .i64 2) ∧ W.cell? ⟨g + 1 + 1 + 1 + 1 + 1, 7, none⟩ = some (.slice (some ⟨g + 1 + 1 + 1, 0, none⟩) 1 1) ∧ W.cell? ⟨g + 1 + 1 + 1 + 1 + 1, 8, none⟩ = some (.slice (some ⟨g + 1 + 1 + 1 + 1, 0, none⟩) 2 2) ∧ W.cell? ⟨g + 1 + 1 + 1 + 1 + 1, 9, none⟩ = some (.int .i64 0) ∧ W.cell? ⟨g + 1 + 1 + 1 + 1 + 1, 10, none⟩ = some (.bool false) ∧ W.cell? ⟨gd, 0, none⟩ = some (.int .i64 3) ∧ W.cell? ⟨gd, 1, none⟩ = some (.string ⟨#[116]⟩) ∧ W.cell? ⟨gd, 2, none⟩ = some (.slice a1 1 c1) ∧ W.cell? ⟨gd, 3, none⟩ = some (.int .i64 0) ∧ W.cell? ⟨gd, 4, none⟩ = some (.int .i64 0) ∧ W.cell? ⟨gd, 5, none⟩ = some (.int .i64 1) ∧ W.cell? ⟨gd, 6, none⟩ = some (.int .i64 2) ∧ W.cell? ⟨gd, 7, none⟩ = some (.slice a2 1 c2) ∧ W.cell? ⟨gd, 8, none⟩ = some (.slice a3 2 c3) ∧ W.cell? ⟨gd, 9, none⟩ = some (.int .i64 0) ∧ W.cell? ⟨gd, 10, none⟩ = some (.bool false) ∧ W.cell? ⟨gb + 1, 0, none⟩ = some (.int .i64 3) ∧ W.cell? ⟨gb + 1, 1, none⟩ = some (.string ⟨#[116]⟩) ∧ W.cell? ⟨gb + 1, 2, none⟩ = some (.slice (some ⟨g + 1 + 1, 0, none⟩) 1 1) ∧ W.cell? ⟨gb + 1, 3, none⟩ = some (.int .i64 1) ∧ W.cell? ⟨gb + 1, 4, none⟩ = some (.int .i64 0) ∧ W.cell? ⟨gb + 1, 5, none⟩ = some (.int .i64 1) ∧ W.cell? ⟨gb + 1, 6, none⟩ = some (.int .i64 2) ∧ W.cell? ⟨gb + 1, 7, none⟩ = some (.slice (some ⟨g + 1 + 1 + 1, 0, none⟩) 1 1) ∧ W.cell? ⟨gb + 1, 8, none⟩ = some (.slice (some ⟨g + 1 + 1 + 1 + 1, 0, none⟩) 2 2) ∧ W.cell? ⟨gb + 1, 9, none⟩ = some (.int .i64 0) ∧ W.cell? ⟨gb + 1, 10, none⟩ = some (.bool false))) (by kernel_rfl) (by rw [hw20]; exact mk20 _ (Below.refl _ _)) (fun hS20 => ?_)
  rw [hw20] at hS20 ⊢
  clear hw20
  refine wT 0 hS20 ?_
  refine wT 1 hS20 ?_
  refine wpAnyH_ready (rs := [2]) (by kernel_rfl) (by simp) ?_
  refine wC (fun K hK => ?_) AllReadyH.nil
  go_simp
  refine (qkright _ _ _ _ _ (HQ.out.below hS20.1) (HC.out.below hS20.1)).mono ?_; rintro e w21 ⟨rfl, hb21⟩
  go_wp2_with fail
  refine hK.out _ _ (mk20 _ (hnext hS20.1 hb21)) (fun hS21 => ?_)
  clear hK K
  (try simp only [Act.put, List.setIfInBounds_toArray, List.set_cons_zero, List.set_cons_succ])
  clear hb21 hS20
  refine wT 3 hS21 ?_
  refine wT 4 hS21 ?_
  refine wT 5 hS21 ?_
  refine wpAnyH_ready (rs := [6]) (by kernel_rfl) (by simp) ?_
  refine wC (fun K hK => ?_) AllReadyH.nil
  go_simp
  refine (qkbad _ _ _ _ _ (HX.out.below hS21.1) (HC.out.below hS21.1)).mono ?_; rintro e w22 ⟨rfl, hb22⟩
  go_wp2_with fail
  refine hK.out _ _ (mk20 _ (hnext hS21.1 hb22)) (fun hS22 => ?_)
  clear hK K
  (try simp only [Act.put, List.setIfInBounds_toArray, List.set_cons_zero, List.set_cons_succ])
  clear hb22 hS21
  refine wT 7 hS22 ?_
  refine wT 8 hS22 ?_
  refine wT 9 hS22 ?_
  refine wT 10 hS22 ?_
  refine wT 11 hS22 ?_
  refine wpAnyH_ready (rs := [12]) (by kernel_rfl) (by simp) ?_
  refine wC (fun K hK => ?_) AllReadyH.nil
  go_simp
  refine (qkpass _ _ _ _ _ (HQ.out.below hS22.1) (HR.out.below hS22.1).1).mono ?_; rintro e w23 ⟨rfl, hb23⟩
  go_wp2_with fail
  refine hK.out _ _ (mk20 _ (hnext hS22.1 hb23)) (fun hS23 => ?_)
  clear hK K
  (try simp only [Act.put, List.setIfInBounds_toArray, List.set_cons_zero, List.set_cons_succ])
  clear hb23 hS22
  refine wT 13 hS23 ?_
  refine wT 14 hS23 ?_
  refine wT 15 hS23 ?_
  refine wT 16 hS23 ?_
  refine wpAnyH_ready (rs := [17]) (by kernel_rfl) (by simp) ?_
  refine wC (fun K hK => ?_) AllReadyH.nil
  go_simp
  refine hK.out _ _ (mk20 _ (hS23.1.alloc hS23.1.size _)) (fun hS24 => ?_)
  clear hK K
  (try simp only [Act.put, List.setIfInBounds_toArray, List.set_cons_zero, List.set_cons_succ])
  have HN := hid (qknul_new w23)
  generalize World.alloc w23 (.cells #[.int .i64 0, .int .i64 0, .int .u64 0, .string ⟨#[]⟩] 36) = w24 at *
  refine wpAnyH_ready (rs := [18]) (by kernel_rfl) (by simp) ?_
  refine wC (fun K hK => ?_) AllReadyH.nil
  go_simp
  refine (qknul _ _ _ _ _ (HQ.out.below hS24.1) HN.out).mono ?_; rintro e w25 ⟨rfl, hb25⟩
  go_wp2_with fail
  refine hK.out _ _ (mk20 _ (hnext hS24.1 hb25)) (fun hS25 => ?_)
  clear hK K
  (try simp only [Act.put, List.setIfInBounds_toArray, List.set_cons_zero, List.set_cons_succ])
  replace HN := hid (HN.out.below hb25)
  clear hb25 hS24
  refine wT 19 hS25 ?_
  refine wT 20 hS25 ?_
  refine wT 21 hS25 ?_
  refine wT 22 hS25 ?_
  refine wpAnyH_ready (rs := [23]) (by kernel_rfl) (by simp) ?_
  refine wC (fun K hK => ?_) AllReadyH.nil
  go_simp
  refine (qkzero _).mono ?_; rintro e w26 ⟨rfl, hb26⟩
  go_wp2_with fail
  refine hK.out _ _ (mk20 _ (hnext hS25.1 hb26)) (fun hS26 => ?_)
  clear hK K
  (try simp only [Act.put, List.setIfInBounds_toArray, List.set_cons_zero, List.set_cons_succ])
  replace HN := hid (HN.out.below hb26)
  clear hb26 hS25
  refine wT 24 hS26 ?_
  refine wT 25 hS26 ?_
  refine wT 26 hS26 ?_
  refine wT 27 hS26 ?_
  refine wT 29 hS26 ?_
  refine wT 30 hS26 ?_
  refine wT 31 hS26 ?_
  refine wT 32 hS26 ?_
  refine wT 33 hS26 ?_
  refine wT 34 hS26 ?_
  refine wpAnyH_ready (rs := [28, 35]) (by kernel_rfl) (by simp) ?_
  refine wC (fun K hK => ?_) (wC (fun K hK => ?_) AllReadyH.nil)
  · go_simp
    refine (qkproj _ _ _ _ _ (HQ.out.below hS26.1) (HR.out.below hS26.1)).mono ?_; rintro e w27 ⟨pa, pc, rfl, hp, hb27⟩
    have HP := hid hp
    clear hp
    go_wp2_with fail
    refine hK.out _ _ (mk20 _ (hnext hS26.1 hb27)) (fun hS27 => ?_)
    clear hK K
    (try simp only [Act.put, List.setIfInBounds_toArray, List.set_cons_zero, List.set_cons_succ])
    replace HN := hid (HN.out.below hb27)
    clear hb27 hS26
    refine wpAnyH_ready (rs := [35]) (by kernel_rfl) (by simp) ?_
    refine wC (fun K hK => ?_) AllReadyH.nil
    go_simp
    refine hK.out _ _ (mk20 _ (hS27.1.alloc hS27.1.size _)) (fun hS28 => ?_)
    clear hK K
    (try simp only [Act.put, List.setIfInBounds_toArray, List.set_cons_zero, List.set_cons_succ])
    replace HN := hid (HN.out.below (hba w27 (.cells #[.int .i64 2, .int .i64 1, .int .u64 0, .string ⟨#[]⟩, .int .i64 2, .int .i64 1, .int .u64 0, .string ⟨#[]⟩] 36)))
    replace HP := hid (HP.out.below (hba w27 (.cells #[.int .i64 2, .int .i64 1, .int .u64 0, .string ⟨#[]⟩, .int .i64 2, .int .i64 1, .int .u64 0, .string ⟨#[]⟩] 36)))
    have HT := hid (qktwo_new w27)
    generalize World.alloc w27 (.cells #[.int .i64 2, .int .i64 1, .int .u64 0, .string ⟨#[]⟩, .int .i64 2, .int .i64 1, .int .u64 0, .string ⟨#[]⟩] 36) = w28 at *
    refine wpAnyH_ready (rs := [36]) (by kernel_rfl) (by simp) ?_
    refine wC (fun K hK => ?_) AllReadyH.nil
    go_simp
    refine (qkrows _ _ _ HP.out HT.out).mono ?_; rintro e w29 ⟨rfl, hb29⟩
    go_wp2_with fail
    refine hK.out _ _ (mk20 _ (hnext hS28.1 hb29)) (fun hS29 => ?_)
    clear hK K
    (try simp only [Act.put, List.setIfInBounds_toArray, List.set_cons_zero, List.set_cons_succ])
    replace HN := hid (HN.out.below hb29)
    replace HP := hid (HP.out.below hb29)
    replace HT := hid (HT.out.below hb29)
    clear hb29 hS28
    refine wT 37 hS29 ?_
    refine wT 38 hS29 ?_
    refine wT 39 hS29 ?_
    refine wT 40 hS29 ?_
    refine wpAnyH_ready (rs := [41]) (by kernel_rfl) (by simp) ?_
    refine wC (fun K hK => ?_) AllReadyH.nil
    go_simp
    refine (qsame_same KqQ _ _ _ _ _ _ _ (HD.out.below hS29.1) (HQ.out.below hS29.1) (by decide) (by decide) (by decide)).mono ?_; rintro e w30 ⟨rfl, hb30⟩
    go_wp2_with fail
    refine hK.out _ _ (mk20 _ (hnext hS29.1 hb30)) (fun hS30 => ?_)
    clear hK K
    (try simp only [Act.put, List.setIfInBounds_toArray, List.set_cons_zero, List.set_cons_succ])
    replace HN := hid (HN.out.below hb30)
    replace HP := hid (HP.out.below hb30)
    replace HT := hid (HT.out.below hb30)
    clear hb30 hS29
    refine wT 42 hS30 ?_
    refine wT 43 hS30 ?_
    refine wT 44 hS30 ?_
    refine wT 45 hS30 ?_
    refine wT 46 hS30 ?_
    refine wT 47 hS30 ?_
    refine wT 48 hS30 ?_
    refine wT 49 hS30 ?_
    refine wT 50 hS30 ?_
    refine wT 51 hS30 ?_
    refine wT 52 hS30 ?_
    refine wT 53 hS30 ?_
    refine wpAnyH_ready (rs := [54]) (by kernel_rfl) (by simp) ?_
    refine wC (fun K hK => ?_) AllReadyH.nil
    go_simp
    refine (qsame_t KqQ 1 (by decide) _ _ _ _ _ _ _ (HQ.out.below hS30.1) (HX.out.below hS30.1)).mono ?_; rintro e w31 ⟨rfl, hb31⟩
    go_wp2_with fail
    refine hK.out _ _ (mk20 _ (hnext hS30.1 hb31)) (fun hS31 => ?_)
    clear hK K
    (try simp only [Act.put, List.setIfInBounds_toArray, List.set_cons_zero, List.set_cons_succ])
    replace HN := hid (HN.out.below hb31)
    replace HP := hid (HP.out.below hb31)
    replace HT := hid (HT.out.below hb31)
    clear hb31 hS30
    refine wT 55 hS31 ?_
    refine wT 56 hS31 ?_
    refine wT 57 hS31 ?_
    refine wpAnyH_done (by kernel_rfl) ?_ _
    go_wp2_with fail
    go_ret
    exact ⟨rfl, hnext L20.out hS31.1⟩
  · go_simp
    refine hK.out _ _ (mk20 _ (hS26.1.alloc hS26.1.size _)) (fun hS27 => ?_)
    clear hK K
    (try simp only [Act.put, List.setIfInBounds_toArray, List.set_cons_zero, List.set_cons_succ])
    replace HN := hid (HN.out.below (hba w26 (.cells #[.int .i64 2, .int .i64 1, .int .u64 0, .string ⟨#[]⟩, .int .i64 2, .int .i64 1, .int .u64 0, .string ⟨#[]⟩] 36)))
    have HT := hid (qktwo_new w26)
    generalize World.alloc w26 (.cells #[.int .i64 2, .int .i64 1, .int .u64 0, .string ⟨#[]⟩, .int .i64 2, .int .i64 1, .int .u64 0, .string ⟨#[]⟩] 36) = w27 at *
    refine wpAnyH_ready (rs := [28]) (by kernel_rfl) (by simp) ?_
    refine wC (fun K hK => ?_) AllReadyH.nil
    go_simp
    refine (qkproj _ _ _ _ _ (HQ.out.below hS27.1) (HR.out.below hS27.1)).mono ?_; rintro e w28 ⟨pa, pc, rfl, hp, hb28⟩
    have HP := hid hp
    clear hp
    go_wp2_with fail
    refine hK.out _ _ (mk20 _ (hnext hS27.1 hb28)) (fun hS28 => ?_)
    clear hK K
    (try simp only [Act.put, List.setIfInBounds_toArray, List.set_cons_zero, List.set_cons_succ])
    replace HN := hid (HN.out.below hb28)
    replace HT := hid (HT.out.below hb28)
    clear hb28 hS27
    refine wpAnyH_ready (rs := [36]) (by kernel_rfl) (by simp) ?_
    refine wC (fun K hK => ?_) AllReadyH.nil
    go_simp
    refine (qkrows _ _ _ HP.out HT.out).mono ?_; rintro e w29 ⟨rfl, hb29⟩
    go_wp2_with fail
    refine hK.out _ _ (mk20 _ (hnext hS28.1 hb29)) (fun hS29 => ?_)
    clear hK K
    (try simp only [Act.put, List.setIfInBounds_toArray, List.set_cons_zero, List.set_cons_succ])
    replace HN := hid (HN.out.below hb29)
    replace HT := hid (HT.out.below hb29)
    replace HP := hid (HP.out.below hb29)
    clear hb29 hS28
    refine wT 37 hS29 ?_
    refine wT 38 hS29 ?_
    refine wT 39 hS29 ?_
    refine wT 40 hS29 ?_
    refine wpAnyH_ready (rs := [41]) (by kernel_rfl) (by simp) ?_
    refine wC (fun K hK => ?_) AllReadyH.nil
    go_simp
    refine (qsame_same KqQ _ _ _ _ _ _ _ (HD.out.below hS29.1) (HQ.out.below hS29.1) (by decide) (by decide) (by decide)).mono ?_; rintro e w30 ⟨rfl, hb30⟩
    go_wp2_with fail
    refine hK.out _ _ (mk20 _ (hnext hS29.1 hb30)) (fun hS30 => ?_)
    clear hK K
    (try simp only [Act.put, List.setIfInBounds_toArray, List.set_cons_zero, List.set_cons_succ])
    replace HN := hid (HN.out.below hb30)
    replace HT := hid (HT.out.below hb30)
    replace HP := hid (HP.out.below hb30)
    clear hb30 hS29
    refine wT 42 hS30 ?_
    refine wT 43 hS30 ?_
    refine wT 44 hS30 ?_
    refine wT 45 hS30 ?_
    refine wT 46 hS30 ?_
    refine wT 47 hS30 ?_
    refine wT 48 hS30 ?_
    refine wT 49 hS30 ?_
    refine wT 50 hS30 ?_
    refine wT 51 hS30 ?_
    refine wT 52 hS30 ?_
    refine wT 53 hS30 ?_
    refine wpAnyH_ready (rs := [54]) (by kernel_rfl) (by simp) ?_
    refine wC (fun K hK => ?_) AllReadyH.nil
    go_simp
    refine (qsame_t KqQ 1 (by decide) _ _ _ _ _ _ _ (HQ.out.below hS30.1) (HX.out.below hS30.1)).mono ?_; rintro e w31 ⟨rfl, hb31⟩
    go_wp2_with fail
    refine hK.out _ _ (mk20 _ (hnext hS30.1 hb31)) (fun hS31 => ?_)
    clear hK K
    (try simp only [Act.put, List.setIfInBounds_toArray, List.set_cons_zero, List.set_cons_succ])
    replace HN := hid (HN.out.below hb31)
    replace HT := hid (HT.out.below hb31)
    replace HP := hid (HP.out.below hb31)
    clear hb31 hS30
    refine wT 55 hS31 ?_
    refine wT 56 hS31 ?_
    refine wT 57 hS31 ?_
    refine wpAnyH_done (by kernel_rfl) ?_ _
    go_wp2_with fail
    go_ret
    exact ⟨rfl, hnext L20.out hS31.1⟩
end Go.Proofs.Ytmcneelapghfcaa
