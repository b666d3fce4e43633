/-
  Decode of the reference; fixed calls; what comes in: contracts and lemmas. Condition: a text that is decoded has at most 1000000 bytes.
-/
import Derived.Test.YtmgafcblbbbanaaScY
import Derived.Test.YtmgafcblbbbanaaScE
import Derived.Test.YtmgafcblbbbanaaRo
import Derived.Lib.SmallJoins
import Derived.Deep.SlicePairs
import Derived.Deep.Strs

namespace Go.Proofs.Ytmgafcblbbbanaa
open Go.RowKit

theorem Sc.encode_ne {t : Sc.S} (h : Sc.right t = true) : Sc.encode t ≠ [] := by
  unfold Sc.encode Sc.headB Cd.text
  rw [if_pos h]
  intro e
  have h1 := congrArg List.length e
  have h2 := (Cd.enc_length t.name.size).1
  simp only [List.length_append, List.length_nil] at h1
  omega
/-- columns stay where they lay, though an older block is written -/
theorem CsAt.set {w : World} {g o : Nat} {u v : Value} {l : List Sc.C} (h : CsAt w v l) (hg : ∀ adr n cap, v = .slice (some adr) n cap → adr.block ≠ g) : CsAt (w.setCell ⟨g, o, none⟩ u) v l := by
  obtain ⟨adr, cap, rfl, h1, h2, hc⟩ := h
  refine ⟨adr, cap, rfl, h1, h2, fun k hk => ?_⟩
  obtain ⟨g', off, rfl, q0, q1, q2⟩ := hc k hk
  have hne : g' ≠ g := hg _ _ _ rfl
  have keep : ∀ o' x, w.cell? ⟨g', o', none⟩ = some x → (w.setCell ⟨g, o, none⟩ u).cell? ⟨g', o', none⟩ = some x := fun o' x hx => Upd.cell hx (Upd.set g o w u) hne
  exact ⟨g', off, rfl, keep _ _ q0, keep _ _ q1, keep _ _ q2⟩
set_option maxRecDepth 100000 in
set_option maxHeartbeats 6400000 in
theorem decodeR_any (b : ByteArray) (hb : b.size ≤ 1000000) (w : World) : Calls Try.prog 29 #[.string b] w (DecP b w) := by
  go_enter Try.func29, Try.ntmps29
  go_wp2_with fail
  have hZ0 := BS.new w ⟨#[]⟩ (.slice none 0 0) 0
  have hL0 := hba w (.cells #[.string ⟨#[]⟩, .slice none 0 0, .int .i64 0] 24)
  obtain ⟨w1, hw1⟩ : ∃ w1, w.alloc (.cells #[.string ⟨#[]⟩, .slice none 0 0, .int .i64 0] 24) = w1 := ⟨_, rfl⟩
  rw [hw1] at hZ0 hL0 ⊢
  clear hw1
  refine (newX_any b _).mono ?_; rintro e w2 ⟨rfl, hw2⟩
  have R0 := newX_rfx b w1
  have hba1 := hba w1 (.cells #[.string b, .int .i64 0, .int .i64 0] 73)
  rw [← hw2] at R0 hba1
  have hZ1 := hZ0.keep hba1
  have hL1 := hnext hL0 hba1
  have hzl : w.heap.size < w1.heap.size := hZ0.cells.2.2.2
  generalize w1.heap.size = g at R0 hzl ⊢
  have hzg : w.heap.size ≠ g := by omega
  have hlt2 : w.heap.size < w2.heap.size := hZ1.cells.2.2.2
  clear hw2 hba1 hZ0 hL0
  go_wp2_with fail
  refine (read_any b hb g w2 R0).mono ?_; rintro e w3 ⟨s, v, rfl, hcs, hsok, hu, hfin⟩
  have hZ3 := hZ1.upd hu hzg
  have hL3 := Upd.below hL1 hu (Nat.le_of_lt hzl) hL1.size
  have hO3 := hcs
  clear hZ1 hL1 hu R0
  obtain ⟨adr, cap, rfl⟩ := (CsAt.own hO3).slc
  have HOK := hid hsok
  have HFIN := hid hfin
  have HO3 := hid hO3
  have HW2 : Hid (w.heap.size < w2.heap.size) := hlt2
  clear hcs hsok hfin hO3
  obtain ⟨nm, cs, ks⟩ := s
  unfold sv
  simp only at HO3 HFIN ⊢
  by_cases hb0 : b.size = 0
  · have hbe : b.toList.isEmpty = true := by rw [ByteArray.toList_eq, List.eq_nil_of_length_eq_zero (show b.data.toList.length = 0 by simpa using hb0)]; rfl
    have hbe2 : b.toList = [] := by rw [ByteArray.toList_eq]; exact List.eq_nil_of_length_eq_zero (by simpa using hb0)
    have HNO : Hid (∀ t, Sc.right t = true → b ≠ bstr (Sc.encode t)) := fun t ht e => by
      rw [e] at hb0
      exact Sc.encode_ne ht (List.eq_nil_of_length_eq_zero hb0)
    clear hb0
    obtain ⟨z0, z1, z2, zl⟩ := hZ3.cells
    have hL5 := hnext hL3 (hba w3 (.cells #[.string nm, .slice adr cs.length cap, .int .i64 ks] 24))
    have L5 := hid hL5
    have y0 := frozen_of_row w3 w.heap.size 0 _ _ hZ3
    have y1 := frozen_of_row w3 w.heap.size 1 _ _ hZ3
    have y2 := frozen_of_row w3 w.heap.size 2 _ _ hZ3
    have hzn : w.heap.size ≠ w3.heap.size := by omega
    clear hL5
    go_wp2_with fail
    have hLF := (((hL3.setCell (p := ⟨w.heap.size, 0, none⟩) (Nat.le_refl _) (.string ⟨#[]⟩)).setCell (p := ⟨w.heap.size, 1, none⟩) (Nat.le_refl _) (.slice none 0 0)).setCell (p := ⟨w.heap.size, 2, none⟩) (Nat.le_refl _) (.int .i64 0)).alloc (by simp; omega) (.cells #[.string nm, .slice adr cs.length cap, .int .i64 ks] 24)
    exact bodyPost_ret (v := .tuple #[.agg #[.string ⟨#[]⟩, .slice none 0 0, .int .i64 0], .int .i64 7]) (by simp [results, Try.results29, go_sem, z0, z1, z2, zl]) rfl
      ⟨⟨⟨#[]⟩, [], 0⟩, _, 7, rfl, CsAt.nil _, ⟨by decide, fun c hc => absurd hc List.not_mem_nil⟩, hLF, .inr ⟨rfl, rfl, HNO.out⟩⟩
  · have hbe : b.toList.isEmpty = false := by
      rw [ByteArray.toList_eq]
      cases e : b.data.toList with
      | nil => exact absurd (by have := congrArg List.length e; simpa using this) hb0
      | cons a l => rfl
    have hbe2 : (b.toList = []) = False := eq_false (by
      rw [ByteArray.toList_eq]
      intro e
      exact hb0 (by have := congrArg List.length e; simpa using this))
    go_wp2_with fail
    have hS5 := BS.new w3 nm (.slice adr cs.length cap) ks
    have hba3 := hba w3 (.cells #[.string nm, .slice adr cs.length cap, .int .i64 ks] 24)
    have hZ5 := hZ3.keep hba3
    have hL5 := hnext hL3 hba3
    have hO5 := HO3.out.alloc (.cells #[.string nm, .slice adr cs.length cap, .int .i64 ks] 24)
    have hzs : w.heap.size < w3.heap.size := hZ3.cells.2.2.2
    obtain ⟨sb, hsb⟩ : ∃ sb, w3.heap.size = sb := ⟨_, rfl⟩
    rw [hsb] at hS5 hzs
    rw [hsb]
    generalize w3.alloc (.cells #[.string nm, .slice adr cs.length cap, .int .i64 ks] 24) = w5 at *
    have hszn : sb ≠ w.heap.size := by omega
    have hzsn : w.heap.size ≠ sb := by omega
    clear hba3 hZ3 hL3 hsb HO3
    have henc := hid (encodeR_any ⟨nm, cs, ks⟩ (.slice adr cs.length cap) w5 (CsAt.own hO5) HOK.out)
    have HO5 := hid hO5
    clear hO5
    unfold sv at henc
    refine (henc.out).mono ?_; rintro e w6 ⟨rfl, hb6⟩
    have hZ6 := hZ5.keep hb6
    have hS6 := hS5.keep hb6
    have O6 := hid (HO5.out.kept (row := none) ⟨hb6.os, hb6.tape, hb6.output, hb6.size, fun i hi _ => hb6.block i hi⟩ (by cases adr <;> simp [Value.ownBlock]))
    have L5 := hid (hnext hL5 hb6)
    clear hb6 hZ5 hS5 HO5 hL5 henc
    obtain ⟨s0, s1, s2, sl⟩ := hS6.cells
    obtain ⟨z0, z1, z2, zl⟩ := hZ6.cells
    have y0 := frozen_of_row w6 w.heap.size 0 _ _ hZ6
    have y1 := frozen_of_row w6 w.heap.size 1 _ _ hZ6
    have y2 := frozen_of_row w6 w.heap.size 2 _ _ hZ6
    by_cases heq : bstr (Sc.encode ⟨nm, cs, ks⟩) = b
    · have hq : ((bstr (Sc.encode ⟨nm, cs, ks⟩)).toList == b.toList) = true := by rw [bytes_beq]; exact decide_eq_true heq
      have HR : Hid (Sc.right ⟨nm, cs, ks⟩ = true) := by
        show _ = _
        cases hr : Sc.right ⟨nm, cs, ks⟩ with
        | true => rfl
        | false =>
          rw [Sc.encode_no hr] at heq
          exact absurd (by rw [← heq]; rfl) hb0
      have HEQ := hid heq.symm
      obtain ⟨E, hE⟩ : ∃ E, bstr (Sc.encode ⟨nm, cs, ks⟩) = E := ⟨_, rfl⟩
      rw [hE] at hq ⊢
      have HE := hid hE
      clear heq hE hb0
      go_wp2_with fail
      have hLF := ((L5.out.setCell (p := ⟨w.heap.size, 0, none⟩) (Nat.le_refl _) (.string nm)).setCell (p := ⟨w.heap.size, 1, none⟩) (Nat.le_refl _) (.slice adr cs.length cap)).setCell (p := ⟨w.heap.size, 2, none⟩) (Nat.le_refl _) (.int .i64 ks)
      have hOF := own_upd (own_upd (own_upd O6.out (Upd.set w.heap.size 0 _ (.string nm)) HW2.out) (Upd.set w.heap.size 1 _ (.slice adr cs.length cap)) HW2.out) (Upd.set w.heap.size 2 _ (.int .i64 ks)) HW2.out
      exact bodyPost_ret (v := .tuple #[.agg #[.string nm, .slice adr cs.length cap, .int .i64 ks], .int .i64 0]) (by simp [results, Try.results29, go_sem, z0, z1, z2]) rfl
        ⟨⟨nm, cs, ks⟩, _, 0, rfl, CsAt.own hOF, HOK.out, hLF, .inl ⟨rfl, HR.out, HEQ.out⟩⟩
    · have hq : ((bstr (Sc.encode ⟨nm, cs, ks⟩)).toList == b.toList) = false := by rw [bytes_beq]; exact decide_eq_false heq
      have HNO : Hid (∀ t, Sc.right t = true → b ≠ bstr (Sc.encode t)) := fun t ht e => heq (by rw [HFIN.out t ht e]; exact e.symm)
      obtain ⟨E, hE⟩ : ∃ E, bstr (Sc.encode ⟨nm, cs, ks⟩) = E := ⟨_, rfl⟩
      rw [hE] at hq ⊢
      have HE := hid hE
      clear heq hE hb0
      go_wp2_with fail
      have hLF := ((L5.out.setCell (p := ⟨w.heap.size, 0, none⟩) (Nat.le_refl _) (.string ⟨#[]⟩)).setCell (p := ⟨w.heap.size, 1, none⟩) (Nat.le_refl _) (.slice none 0 0)).setCell (p := ⟨w.heap.size, 2, none⟩) (Nat.le_refl _) (.int .i64 0)
      exact bodyPost_ret (v := .tuple #[.agg #[.string ⟨#[]⟩, .slice none 0 0, .int .i64 0], .int .i64 7]) (by simp [results, Try.results29, go_sem, z0, z1, z2]) rfl
        ⟨⟨⟨#[]⟩, [], 0⟩, _, 7, rfl, CsAt.nil _, ⟨by decide, fun c hc => absurd hc List.not_mem_nil⟩, hLF, .inr ⟨rfl, rfl, HNO.out⟩⟩
end Go.Proofs.Ytmgafcblbbbanaa

namespace Go.Proofs.Ytmgafcblbbbanaa
open Go.RowKit

def PC : List Sc.C := [⟨⟨#[105, 100]⟩, 2, true⟩, ⟨⟨#[110, 97, 109, 101]⟩, 5, false⟩]
def PS : Sc.S := ⟨⟨#[112, 101, 111, 112, 108, 101]⟩, PC, 1⟩
def MC : List Sc.C := [⟨⟨#[105, 100]⟩, 2, true⟩, ⟨⟨#[110, 97, 109, 101]⟩, 5, false⟩, ⟨⟨#[115, 105, 122, 101]⟩, 3, false⟩]
def MS : Sc.S := ⟨⟨#[112, 101, 111, 112, 108, 101]⟩, MC, 1⟩
def RL : List Cd.V := [⟨2, 7, 0, ⟨#[]⟩⟩, ⟨0, 0, 0, ⟨#[]⟩⟩]
def WL : List Cd.V := [⟨2, 7, 0, ⟨#[]⟩⟩, ⟨0, 0, 0, ⟨#[]⟩⟩, ⟨0, 0, 0, ⟨#[]⟩⟩]
theorem P_right : Sc.right PS = true := by decide +kernel
theorem M_right : Sc.right MS = true := by decide +kernel
theorem Z_right : Sc.right ⟨⟨#[]⟩, [], 0⟩ = false := by decide +kernel
theorem P_name : Sc.nameB ⟨#[97, 95, 49]⟩ = true := by decide +kernel
theorem P_noname : Sc.nameB ⟨#[49, 97]⟩ = false := by decide +kernel
theorem P_fits : Sc.fits PS RL = 0 := by decide +kernel
theorem M_fits : Sc.fits MS RL = 10 := by decide +kernel
theorem Z_fits : Sc.fits ⟨⟨#[]⟩, [], 0⟩ [] = 11 := by decide +kernel
theorem M_widen : Sc.widen MS RL = (WL, 0) := by decide +kernel
theorem P_key : Sc.key PS RL = RL.take 1 := by decide +kernel
theorem P_ext : Sc.extends PS MS = true := by decide +kernel
theorem P_noext : Sc.extends MS PS = false := by decide +kernel
theorem P_same : Sc.same PS PS = true := by decide +kernel
theorem P_none (t : Sc.S) (h : Sc.right t = true) : (⟨#[97]⟩ : ByteArray) ≠ bstr (Sc.encode t) := by
  intro e
  have h1 : (⟨#[97]⟩ : ByteArray).size = (Sc.encode t).length := by rw [e]; rfl
  have h2 : (Sc.encode t).length ≥ 2 := by
    unfold Sc.encode Sc.headB
    rw [if_pos h]
    have h3 := (Cd.enc_length t.cols.length).1
    have h4 := (Cd.enc_length t.keys.toNat).1
    simp only [List.length_append]
    omega
  have h5 : (⟨#[97]⟩ : ByteArray).size = 1 := rfl
  omega
/-- 'people()' -/
theorem people_any (w : World) : Calls Try.prog 30 #[] w fun e w' => ∃ v, e = .returned (.agg #[.string ⟨#[112, 101, 111, 112, 108, 101]⟩, v, .int .i64 1]) ∧ w'.ownsRow w.heap.size 49 3 v 2 (ccells PC) ∧ Below w.heap.size w w' := by
  go_enter Try.func30, Try.ntmps30
  go_wp2
  have hs : (w.alloc (.cells #[.string ⟨#[112, 101, 111, 112, 108, 101]⟩, .slice (some ⟨w.heap.size + 1, 0, none⟩) 2 2, .int .i64 1] 24)).heap.size = w.heap.size + 1 := by simp
  refine bodyPost_ret (v := .agg #[.string ⟨#[112, 101, 111, 112, 108, 101]⟩, .slice (some ⟨w.heap.size + 1, 0, none⟩) 2 2, .int .i64 1]) (by simp [results, Try.results30, go_sem]) rfl ⟨_, rfl, ⟨rfl, .inr ⟨w.heap.size + 1, 2, (ccells PC).toArray, rfl, Nat.le_succ _, ?_, Nat.le_refl _, by decide, rfl, rfl⟩⟩, hnext (hba w _) (hba _ _)⟩
  have h := heap_alloc_new (w.alloc (.cells #[.string ⟨#[112, 101, 111, 112, 108, 101]⟩, .slice (some ⟨w.heap.size + 1, 0, none⟩) 2 2, .int .i64 1] 24)) (.cells (ccells PC).toArray 49)
  rw [hs] at h
  exact h
/-- whether a schema and a row ask little -/
def lightB (s : Sc.S) (l : List Cd.V) : Bool := decide (s.cols.length ≤ 20) && (decide (s.name.size ≤ 100) && (decide (l.length ≤ 30) && ((s.cols.all fun c => decide (c.name.size ≤ 100)) && l.all fun v => decide (v.s.size ≤ 4200))))
theorem lightB_cols {s : Sc.S} {l : List Cd.V} {k : Nat} (hk : k < s.cols.length) (h : 100 < s.cols[k].name.size) : lightB s l = false := by
  have h1 : (s.cols.all fun c => decide (c.name.size ≤ 100)) = false := by
    rw [List.all_eq_false]
    exact ⟨s.cols[k], List.getElem_mem hk, by simp; omega⟩
  unfold lightB
  rw [h1]
  simp
theorem lightB_row {s : Sc.S} {l : List Cd.V} {k : Nat} (hk : k < l.length) (h : 4200 < l[k].s.size) : lightB s l = false := by
  have h1 : (l.all fun v => decide (v.s.size ≤ 4200)) = false := by
    rw [List.all_eq_false]
    exact ⟨l[k], List.getElem_mem hk, by simp; omega⟩
  unfold lightB
  rw [h1]
  simp
def upto {α : Type} (p : α → Bool) (l : List α) (k : Nat) : Bool := (l.take k).all p
theorem upto_next {α : Type} {p : α → Bool} {l : List α} {k : Nat} (hk : k < l.length) (h : upto p l k = true) (h0 : p l[k] = true) : upto p l (k + 1) = true := by
  unfold upto at *
  rw [List.take_succ_eq_append_getElem hk, List.all_append, h]
  simp [h0]
theorem upto_all {α : Type} {p : α → Bool} {l : List α} (h : upto p l l.length = true) : l.all p = true := by
  unfold upto at h
  rw [List.take_length] at h
  exact h
set_option maxRecDepth 100000 in
set_option maxHeartbeats 6400000 in
theorem light_any (s : Sc.S) (v : Value) (l : List Cd.V) (u : Value) (w : World) (h : CsAt w v s.cols) (hu : VsAt w u l) :
    Calls Try.prog 9 #[sv s v, u] w fun e w' => e = .returned (.bool (lightB s l)) ∧ Below w.heap.size w w' := by
  obtain ⟨adr, cap, rfl, hc1, hc2, hc⟩ := h
  obtain ⟨adr2, cap2, rfl, hd⟩ := hu
  have HC := hid hc
  have HD := hid hd
  unfold maxLen at hc2
  clear hc hd
  have hcolno := hid (fun k hk h => lightB_cols (s := s) (l := l) (k := k) hk h)
  have hrowno := hid (fun k hk h => lightB_row (s := s) (l := l) (k := k) hk h)
  have hL : Hid (lightB s l = (decide (s.cols.length ≤ 20) && (decide (s.name.size ≤ 100) && (decide (l.length ≤ 30) && ((s.cols.all fun c => decide (c.name.size ≤ 100)) && l.all fun v => decide (v.s.size ≤ 4200)))))) := rfl
  unfold sv
  obtain ⟨nm, cs, ks⟩ := s
  simp only at hc1 HC hcolno hrowno hL ⊢
  generalize lightB ⟨nm, cs, ks⟩ l = R at *
  have hB := hid (hba w (.cells #[.string nm, .slice adr cs.length cap, .int .i64 ks] 24))
  have hS := hid (BS.new w nm (.slice adr cs.length cap) ks)
  by_cases h1 : cs.length ≤ 20 ∧ nm.size ≤ 100 ∧ l.length ≤ 30
  · obtain ⟨h1, h2, h3⟩ := h1
    have h1' : ¬ (20 : Int) < (cs.length : Int) := by omega
    have h2' : ¬ (100 : Int) < (nm.size : Int) := by omega
    have h3' : ¬ (30 : Int) < (l.length : Int) := by omega
    have hL2 : Hid (R = ((cs.all fun c => decide (c.name.size ≤ 100)) && l.all fun v => decide (v.s.size ≤ 4200))) := by show _ = _; rw [hL.out, decide_eq_true h1, decide_eq_true h2, decide_eq_true h3]; rfl
    clear hL
    go_enter Try.func9, Try.ntmps9
    go_wp2_with fail
    have hS1 := hS.out
    have hB1 := hB.out
    generalize w.alloc (.cells #[.string nm, .slice adr cs.length cap, .int .i64 ks] 24) = w1 at *
    obtain ⟨s0, s1, s2, sl⟩ := hS1.cells
    have HB1 := hid hB1
    go_loop [5] (fun q => ∃ k : Nat, k ≤ cs.length ∧ q = .int .i64 (k : Int) ∧ Hid (upto (fun c : Sc.C => decide (c.name.size ≤ 100)) cs k = true)) (fun q => cs.length - (intOf q).toNat)
    case atStart => exact ⟨0, by omega, rfl, rfl⟩
    case round =>
      obtain ⟨k, hk, rfl, hup⟩ := hrel
      have hk0 : (0 : Int) ≤ (k : Int) := by omega
      by_cases hlk : k < cs.length
      · have hlk' : (k : Int) < (cs.length : Int) := by omega
        obtain ⟨g, off, rfl, q0, _⟩ := HC.out k hlk
        replace q0 := hkeep q0 HB1.out
        have HNO := hid (hcolno.out k hlk)
        have HYES := hid (fun h => upto_next hlk hup.out h)
        generalize cs[k] = c at q0 HNO HYES
        by_cases hc : 100 < c.name.size
        · have hc' : (100 : Int) < (c.name.size : Int) := by omega
          have HR := hid (HNO.out hc)
          clear HNO HYES
          go_wp2_with fail
          go_ret
          rw [HR.out]
          exact ⟨rfl, HB1.out⟩
        · have hc' : ¬ (100 : Int) < (c.name.size : Int) := by omega
          have HT := hid (HYES.out (decide_eq_true (by omega)))
          clear HNO HYES
          go_wp2_with fail
          go_round
          case rel => exact ⟨k + 1, hlk, by go_num, HT⟩
          case measure => simp [intOf]; omega
      · obtain rfl : k = cs.length := by omega
        have HA := hid (upto_all hup.out)
        go_wp2_with fail
        go_loop [6] (fun q => ∃ k : Nat, k ≤ l.length ∧ q = .int .i64 (k : Int) ∧ Hid (upto (fun v : Cd.V => decide (v.s.size ≤ 4200)) l k = true)) (fun q => l.length - (intOf q).toNat)
        case atStart => exact ⟨0, by omega, rfl, rfl⟩
        case round =>
          obtain ⟨j, hj, rfl, hup2⟩ := hrel
          have hj0 : (0 : Int) ≤ (j : Int) := by omega
          by_cases hlj : j < l.length
          · have hlj' : (j : Int) < (l.length : Int) := by omega
            obtain ⟨g2, off2, rfl, _, _, _, p3⟩ := HD.out j hlj
            replace p3 := hkeep p3 HB1.out
            have HNO := hid (hrowno.out j hlj)
            have HYES := hid (fun h => upto_next hlj hup2.out h)
            generalize l[j] = x at p3 HNO HYES
            by_cases hx : 4200 < x.s.size
            · have hx' : (4200 : Int) < (x.s.size : Int) := by omega
              have HR := hid (HNO.out hx)
              clear HNO HYES
              go_wp2_with fail
              go_ret
              rw [HR.out]
              exact ⟨rfl, HB1.out⟩
            · have hx' : ¬ (4200 : Int) < (x.s.size : Int) := by omega
              have HT := hid (HYES.out (decide_eq_true (by omega)))
              clear HNO HYES
              go_wp2_with fail
              go_round
              case rel => exact ⟨j + 1, hlj, by go_num, HT⟩
              case measure => simp [intOf]; omega
          · obtain rfl : j = l.length := by omega
            have HR : Hid (R = true) := by show _ = _; rw [hL2.out, HA.out, upto_all hup2.out]; rfl
            go_wp2_with fail
            go_ret
            rw [HR.out]
            exact ⟨rfl, HB1.out⟩
  · have HR : Hid (R = false) := by
      show _ = _
      rw [hL.out]
      by_cases a1 : cs.length ≤ 20
      · by_cases a2 : nm.size ≤ 100
        · have a3 : ¬ l.length ≤ 30 := fun a3 => h1 ⟨a1, a2, a3⟩
          rw [decide_eq_false a3]; simp
        · rw [decide_eq_false a2]; simp
      · rw [decide_eq_false a1]; simp
    have hor : (20 : Int) < (cs.length : Int) ∨ (¬ (20 : Int) < (cs.length : Int) ∧ ((100 : Int) < (nm.size : Int) ∨ (¬ (100 : Int) < (nm.size : Int) ∧ (30 : Int) < (l.length : Int)))) := by omega
    clear h1 hL
    rcases hor with h | ⟨h, h | ⟨h', h⟩⟩
    all_goals
      go_enter Try.func9, Try.ntmps9
      go_wp2_with fail
      go_ret
      rw [HR.out]
      exact ⟨rfl, hB.out⟩
/-- what a light schema and row are -/
theorem lightB_yes {s : Sc.S} {l : List Cd.V} (h : lightB s l = true) : s.cols.length ≤ 20 ∧ s.name.size ≤ 100 ∧ l.length ≤ 30 ∧ (∀ c ∈ s.cols, c.name.size ≤ 100) ∧ ∀ v ∈ l, v.s.size ≤ 4200 := by
  unfold lightB at h
  simp only [Bool.and_eq_true, decide_eq_true_eq, List.all_eq_true] at h
  exact ⟨h.1, h.2.1, h.2.2.1, h.2.2.2.1, h.2.2.2.2⟩
theorem sok_light {s : Sc.S} {l : List Cd.V} (h : lightB s l = true) : Sok s := by
  obtain ⟨_, h2, _, h4, _⟩ := lightB_yes h
  exact ⟨by unfold maxLen; omega, fun c hc => by have := h4 c hc; unfold maxLen; omega⟩
end Go.Proofs.Ytmgafcblbbbanaa

namespace Go.Proofs.Ytmgafcblbbbanaa
open Go.RowKit

theorem RL_new (w : World) (g : Nat) (hg : g = w.heap.size) : VsAt (w.alloc (.cells #[.int .i64 2, .int .i64 7, .int .u64 0, .string ⟨#[]⟩, .int .i64 0, .int .i64 0, .int .u64 0, .string ⟨#[]⟩] 46)) (.slice (some ⟨g, 0, none⟩) 2 2) RL := by
  subst hg
  have h := heap_alloc_new w (.cells #[.int .i64 2, .int .i64 7, .int .u64 0, .string ⟨#[]⟩, .int .i64 0, .int .i64 0, .int .u64 0, .string ⟨#[]⟩] 46)
  refine ⟨_, 2, rfl, fun k hk => ⟨w.heap.size, 0, rfl, ?_⟩⟩
  have hk' : k = 0 ∨ k = 1 := by have : RL.length = 2 := rfl; omega
  rcases hk' with rfl | rfl
  · exact ⟨cell_of_row _ _ 0 _ _ _ h, cell_of_row _ _ 1 _ _ _ h, cell_of_row _ _ 2 _ _ _ h, cell_of_row _ _ 3 _ _ _ h⟩
  · exact ⟨cell_of_row _ _ 4 _ _ _ h, cell_of_row _ _ 5 _ _ _ h, cell_of_row _ _ 6 _ _ _ h, cell_of_row _ _ 7 _ _ _ h⟩
theorem P_ok : Sok PS := ⟨by decide, fun c hc => by
  have : c = ⟨⟨#[105, 100]⟩, 2, true⟩ ∨ c = ⟨⟨#[110, 97, 109, 101]⟩, 5, false⟩ := by simpa [PS, PC] using hc
  rcases this with rfl | rfl <;> decide⟩
theorem M_ok : Sok MS := ⟨by decide, fun c hc => by
  have : c = ⟨⟨#[105, 100]⟩, 2, true⟩ ∨ c = ⟨⟨#[110, 97, 109, 101]⟩, 5, false⟩ ∨ c = ⟨⟨#[115, 105, 122, 101]⟩, 3, false⟩ := by simpa [MS, MC] using hc
  rcases this with rfl | rfl | rfl <;> decide⟩
theorem R_ok : Rok RL := fun x hx => by
  have : x = ⟨2, 7, 0, ⟨#[]⟩⟩ ∨ x = ⟨0, 0, 0, ⟨#[]⟩⟩ := by simpa [RL] using hx
  rcases this with rfl | rfl <;> decide
theorem P_enc : (bstr (Sc.encode PS)).size ≤ 1000000 := by decide +kernel
theorem own_keep {w w' : World} {B e size n : Nat} {v : Value} {xs : List Value} (h : w.ownsRow B e size v n xs) (hb : Below w.heap.size w w') : w'.ownsRow B e size v n xs :=
  h.kept (row := none) ⟨hb.os, hb.tape, hb.output, hb.size, fun i hi _ => hb.block i hi⟩ (Classical.em _)
theorem blocks_apart {a b : Option Nat} {m : Nat} (ha : ∀ q, a = some q → q < m) (hb : ∀ q, b = some q → m ≤ q) : a = none ∨ a ≠ b := by
  cases a with
  | none => exact .inl rfl
  | some q => exact .inr (fun e => by have h1 := ha q rfl; have h2 := hb q e.symm; omega)
theorem own_ne_box {w : World} {B g n : Nat} {v u : Value} {xs : List Value} {s : ByteArray} {k : Int} (h : w.ownsRow B 49 3 v n xs) (hb : BS w g s u k) : v.ownBlock ≠ some g := by
  rcases h.2 with ⟨rfl, _⟩ | ⟨g', cap, cur, rfl, _, hg, _⟩
  · simp [Value.ownBlock]
  · intro e
    cases e
    have := hg.symm.trans hb
    injection this with this
    injection this with _ h2 _
    exact absurd h2 (by decide)
set_option maxRecDepth 100000 in
set_option maxHeartbeats 12800000 in
theorem known_any (w : World) : Calls Try.prog 10 #[] w fun e w' => e = .returned (.bool true) ∧ Below w.heap.size w w' := by
  go_enter Try.func10, Try.ntmps10
  go_wp2_with fail
  refine (people_any _).mono ?_; rintro e w1 ⟨v1, rfl, own1, b1⟩
  obtain ⟨adr1, cap1, rfl⟩ := (CsAt.own (l := PC) own1).slc' (m := 2) rfl
  have C1 := hid own1
  have L1 := hid b1
  clear own1 b1
  go_wp2_with fail
  have S1 := BS.new w1 ⟨#[112, 101, 111, 112, 108, 101]⟩ (.slice adr1 2 cap1) 1
  have hb1 := hba w1 (.cells #[.string ⟨#[112, 101, 111, 112, 108, 101]⟩, .slice adr1 2 cap1, .int .i64 1] 24)
  have C2 := hid (own_keep C1.out hb1)
  have L2 := hid (hnext L1.out hb1)
  obtain ⟨g1, hg1⟩ : ∃ g1, w1.heap.size = g1 := ⟨_, rfl⟩
  rw [hg1] at S1 ⊢
  generalize w1.alloc (.cells #[.string ⟨#[112, 101, 111, 112, 108, 101]⟩, .slice adr1 2 cap1, .int .i64 1] 24) = w2 at *
  clear C1 L1 hb1 hg1
  refine (people_any _).mono ?_; rintro e w3 ⟨v2, rfl, own2, b2⟩
  obtain ⟨adr2, cap2, rfl⟩ := (CsAt.own (l := PC) own2).slc' (m := 2) rfl
  have S3 := S1.keep b2
  have C3 := hid (own_keep C2.out b2)
  have CL := hid (fun q hq => (C2.out.lt q hq).2)
  have L3 := hid (hnext L2.out b2)
  have hg12 : g1 < w2.heap.size := S1.cells.2.2.2
  have hg13 : g1 < w3.heap.size := S3.cells.2.2.2
  have hw23' : w2.heap.size ≤ w3.heap.size := b2.size
  have hw23 := hid hw23'
  have S4 := BS.new w3 ⟨#[112, 101, 111, 112, 108, 101]⟩ (.slice adr2 2 cap2) 1
  have hb3 := hba w3 (.cells #[.string ⟨#[112, 101, 111, 112, 108, 101]⟩, .slice adr2 2 cap2, .int .i64 1] 24)
  have HS4 := hid S4
  have HS34 := hid (S3.keep hb3)
  have C4 := hid (own_keep C3.out hb3)
  have L4 := hid (hnext L3.out hb3)
  have O4 := hid (own2.alloc (.cells #[.string ⟨#[112, 101, 111, 112, 108, 101]⟩, .slice adr2 2 cap2, .int .i64 1] 24))
  have OL : Hid (∀ q, (Value.slice adr2 2 cap2).ownBlock = some q → q < w3.heap.size) := fun q hq => (own2.lt q hq).2
  have OG : Hid (∀ q, (Value.slice adr2 2 cap2).ownBlock = some q → w2.heap.size ≤ q) := fun q hq => (own2.lt q hq).1
  have LW : Hid (w.heap.size ≤ w2.heap.size) := L2.out.size
  have HG12 := hid hg12
  have HB : Hid (w2.heap.size ≤ (w3.alloc (.cells #[.string ⟨#[112, 101, 111, 112, 108, 101]⟩, .slice adr2 2 cap2, .int .i64 1] 24)).heap.size) := by show _ ≤ _; simp; omega
  clear own2 b2 S1 S3 C2 C3 L2 L3 hb3 S4 hg12 hw23'
  go_wp2_with (at_builtin; refine append_col _ rfl _ _ rfl w2.heap.size _ PC rfl O4.out ⟨#[115, 105, 122, 101]⟩ 3 false _ (by first | rfl | (simp; done)) rfl (by decide) HB.out ?_; intro v5 w5 own5 gr5; have O5 := hid own5; have S5 := HS4.out.grown gr5 (fun e => by have := OL.out _ e.symm; omega); have S35 := hid (HS34.out.grown gr5 (fun e => by have := OG.out _ e.symm; have := HG12.out; omega)); have G5 := hid gr5; have C5 := hid (C4.out.kept gr5 (blocks_apart CL.out OG.out)); have L5 := hid (L4.out.grown gr5 L4.out.size (fun q hq => by have := OG.out q hq; have := LW.out; omega)); clear own5 gr5; obtain ⟨adr5, cap5, rfl⟩ := (CsAt.own O5.out).slc' (m := 3) rfl; obtain ⟨x0, x1, x2, xl⟩ := S5.cells; have fx := frozen_of_row w5 w3.heap.size 1 _ _ S5)
  have hbox2 : w3.heap.size < w5.heap.size := xl
  have hg1 : g1 < w5.heap.size := S35.out.cells.2.2.2
  have N5 := own_ne_box O5.out S5
  obtain ⟨g2, hg2⟩ : ∃ g2, w3.heap.size = g2 := ⟨_, rfl⟩
  have CL2 := hid (fun q hq => Nat.lt_of_lt_of_le (CL.out q hq) hw23.out)
  rw [hg2] at S5 N5 hbox2 hg13 CL2 ⊢
  have S6 := S5.setV (.slice adr5 3 cap5)
  have S36 := S35.out.setO (r := g2) (o := 1) (u := .slice adr5 3 cap5) (by omega)
  have O6 := O5.out.kept (row := some g2) (Upd.set g2 1 w5 (.slice adr5 3 cap5)) (.inr N5)
  have C6 := C5.out.kept (row := some g2) (Upd.set g2 1 w5 (.slice adr5 3 cap5)) (blocks_apart CL2.out (fun q hq => by cases hq; exact Nat.le_refl _))
  have L6 := L5.out.setCell (p := ⟨g2, 1, none⟩) (by have := LW.out; have := hw23.out; show _ ≤ g2; omega) (.slice adr5 3 cap5)
  have hsz : (w5.setCell ⟨g2, 1, none⟩ (.slice adr5 3 cap5)).heap.size = w5.heap.size := by simp
  rw [← hsz]
  clear S5 S35 O5 C5 L5 N5 hg2 CL CL2 hbox2 x0 x1 x2 xl fx G5 HS4 HS34 C4 L4 O4 OL OG LW HG12 HB
  generalize w5.setCell ⟨g2, 1, none⟩ (.slice adr5 3 cap5) = w6 at *
  clear hsz
  have R7 := RL_new w6 w6.heap.size rfl
  have hb6 := hba w6 (.cells #[.int .i64 2, .int .i64 7, .int .u64 0, .string ⟨#[]⟩, .int .i64 0, .int .i64 0, .int .u64 0, .string ⟨#[]⟩] 46)
  have S7 := S6.keep hb6
  have S37 := S36.keep hb6
  have O7 := own_keep O6 hb6
  have C7 := own_keep C6 hb6
  have L7 := hnext L6 hb6
  clear S6 S36 O6 C6 L6 hb6
  generalize w6.heap.size = gr at R7 ⊢
  generalize w6.alloc (.cells #[.int .i64 2, .int .i64 7, .int .u64 0, .string ⟨#[]⟩, .int .i64 0, .int .i64 0, .int .u64 0, .string ⟨#[]⟩] 46) = w7 at *
  have RR7 : RsAt w7 (.slice (some ⟨gr, 0, none⟩) 2 2) RL := ⟨R7, _, 2, rfl, Nat.le_refl _, by decide, fun e => by cases e⟩
  have hw : Calls Try.prog 21 #[.agg #[.string ⟨#[112, 101, 111, 112, 108, 101]⟩, .slice adr5 3 cap5, .int .i64 1], .slice (some ⟨gr, 0, none⟩) 2 2] w7 (WidenP (WL, 0) w7) := by
    have := widen_any MS (.slice adr5 3 cap5) RL (.slice (some ⟨gr, 0, none⟩) 2 2) w7 (CsAt.own (l := MC) O7) M_ok RR7 R_ok
    rw [M_widen] at this
    exact this
  refine hw.mono ?_; rintro e w8 ⟨⟨vw, rfl, ownw⟩, b8⟩
  obtain ⟨adrw, capw, rfl⟩ : ∃ adr cap, vw = .slice adr 3 cap := (VsAt.own ownw).len
  have S8 := S7.keep b8
  have S38 := S37.keep b8
  have O8 := hid (own_keep O7 b8)
  have C8 := hid (own_keep C7 b8)
  have R8 := hid (RR7.below b8)
  have L8 := hid (hnext L7 b8)
  clear hw ownw b8 S7 S37 O7 C7 R7 RR7 L7
  obtain ⟨s0, s1, s2, sl⟩ := S38.cells
  go_wp2_with fail
  have he : Calls Try.prog 19 #[.agg #[.string ⟨#[112, 101, 111, 112, 108, 101]⟩, .slice adr1 2 cap1, .int .i64 1]] w8 (fun e w' => e = .returned (.string (bstr (Sc.encode PS))) ∧ Below w8.heap.size w8 w') :=
    encode_any PS (.slice adr1 2 cap1) w8 (CsAt.own (l := PC) C8.out) P_ok
  refine he.mono ?_; rintro e w9 ⟨rfl, b9⟩
  have S9 := S8.keep b9
  have S39 := S38.keep b9
  have O9 := hid (own_keep O8.out b9)
  have C9 := hid (own_keep C8.out b9)
  have R9 := hid (R8.out.below b9)
  have L9 := hid (hnext L8.out b9)
  clear he b9 S8 S38 O8 C8 R8 L8 s0 s1 s2 sl
  go_wp2_with fail
  refine (decode_any _ P_enc _).mono ?_; rintro e wA ⟨sd, vd, ed, rfl, cd, _, bA, hd⟩
  obtain ⟨rfl, rfl⟩ : PS = sd ∧ 0 = ed := by
    rcases hd with ⟨h1, h2, h3⟩ | ⟨h1, h2, h3⟩
    · exact ⟨Sc.encode_inj P_right h2 (bstr_inj h3), h1.symm⟩
    · exact absurd rfl (h3 PS P_right)
  obtain ⟨adrd, capd, rfl⟩ := cd.slc' (m := 2) rfl
  have SA := S9.keep bA
  have S3A := S39.keep bA
  have OA := hid (own_keep O9.out bA)
  have CA := hid (own_keep C9.out bA)
  have RA := hid (R9.out.below bA)
  have LA := hid (hnext L9.out bA)
  have DA := hid cd
  clear hd bA cd S9 S39 O9 C9 R9 L9
  unfold sv PS
  dsimp only
  go_wp2_with fail
  have hbA := hba wA (.cells #[.string ⟨#[112, 101, 111, 112, 108, 101]⟩, .slice adrd 2 capd, .int .i64 1] 24)
  have D0 := BS.new wA ⟨#[112, 101, 111, 112, 108, 101]⟩ (.slice adrd 2 capd) 1
  have SB := SA.keep hbA
  have S3B := S3A.keep hbA
  have OB := hid (own_keep OA.out hbA)
  have CB := hid (own_keep CA.out hbA)
  have RB := hid (RA.out.below hbA)
  have LB := hid (hnext LA.out hbA)
  have DB := hid (DA.out.below hbA)
  obtain ⟨gd, hgd⟩ : ∃ gd, wA.heap.size = gd := ⟨_, rfl⟩
  rw [hgd] at D0 ⊢
  generalize wA.alloc (.cells #[.string ⟨#[112, 101, 111, 112, 108, 101]⟩, .slice adrd 2 capd, .int .i64 1] 24) = wB at *
  clear hbA SA S3A OA CA RA LA DA hgd
  refine (decode_any ⟨#[97]⟩ (by decide) _).mono ?_; rintro e wC ⟨sz, vz, ez, rfl, cz, _, bC, hz⟩
  obtain ⟨rfl, rfl⟩ : (⟨⟨#[]⟩, [], 0⟩ : Sc.S) = sz ∧ 7 = ez := by
    rcases hz with ⟨h1, h2, h3⟩ | ⟨h1, h2, h3⟩
    · exact absurd h3 (P_none sz h2)
    · exact ⟨h2.symm, h1.symm⟩
  obtain ⟨adrz, capz, rfl⟩ := cz.slc' (m := 0) rfl
  have SC := SB.keep bC
  have S3C := S3B.keep bC
  have DC := D0.keep bC
  have OC := hid (own_keep OB.out bC)
  have CC := hid (own_keep CB.out bC)
  have RC := hid (RB.out.below bC)
  have LC := hid (hnext LB.out bC)
  have DDC := hid (DB.out.below bC)
  clear hz bC cz SB S3B D0 OB CB RB LB DB
  unfold sv
  dsimp only
  go_wp2_with fail
  have hbC := hba wC (.cells #[.string ⟨#[]⟩, .slice adrz 0 capz, .int .i64 0] 24)
  have SD := SC.keep hbC
  have S3D := S3C.keep hbC
  have DD := DC.keep hbC
  have OD := hid (own_keep OC.out hbC)
  have CD := hid (own_keep CC.out hbC)
  have RD := hid (RC.out.below hbC)
  have LD := hid (hnext LC.out hbC)
  have DDD := hid (DDC.out.below hbC)
  generalize wC.alloc (.cells #[.string ⟨#[]⟩, .slice adrz 0 capz, .int .i64 0] 24) = wD at *
  clear hbC SC S3C DC OC CC RC LC DDC
  obtain ⟨a0, a1, a2, al⟩ := S3D.cells
  obtain ⟨b0, b1, b2, bl⟩ := SD.cells
  obtain ⟨d0, d1, d2, dl⟩ := DD.cells
  obtain ⟨w20, hw20⟩ : ∃ w20, (wD).drew = w20 := ⟨_, rfl⟩
  have hd20 : Below (wD).heap.size (wD) w20 := hw20 ▸ (Below.refl _ _).drew
  have mk20 : ∀ W, Below w20.heap.size w20 W → Below w20.heap.size w20 W ∧ W.cell? ⟨g1, 0, none⟩ = some (.string ⟨#[112, 101, 111, 112, 108, 101]⟩) ∧ W.cell? ⟨g1, 1, none⟩ = some (.slice adr1 2 cap1) ∧ W.cell? ⟨g1, 2, none⟩ = some (.int .i64 1) ∧ W.cell? ⟨g2, 0, none⟩ = some (.string ⟨#[112, 101, 111, 112, 108, 101]⟩) ∧ W.cell? ⟨g2, 1, none⟩ = some (.slice adr5 3 cap5) ∧ W.cell? ⟨g2, 2, none⟩ = some (.int .i64 1) ∧ W.cell? ⟨gd, 0, none⟩ = some (.string ⟨#[112, 101, 111, 112, 108, 101]⟩) ∧ W.cell? ⟨gd, 1, none⟩ = some (.slice adrd 2 capd) ∧ W.cell? ⟨gd, 2, none⟩ = some (.int .i64 1) := fun W h => ⟨h, hkeep (hkeep a0 hd20) h, hkeep (hkeep a1 hd20) h, hkeep (hkeep a2 hd20) h, hkeep (hkeep b0 hd20) h, hkeep (hkeep b1 hd20) h, hkeep (hkeep b2 hd20) h, hkeep (hkeep d0 hd20) h, hkeep (hkeep d1 hd20) h, hkeep (hkeep d2 hd20) h⟩
  have C1 := hid (CsAt.own (l := PC) (own_keep CD.out hd20))
  have C2 := hid (CsAt.own (l := MC) (own_keep OD.out hd20))
  have C3 := hid (DDD.out.below hd20)
  have R1 := hid (RD.out.below hd20)
  have L20 := hid (hnext LD.out hd20)
  clear a0 a1 a2 al b0 b1 b2 bl d0 d1 d2 dl S3D SD DD OD CD RD LD DDD hd20
  have hRight : Hid (∀ W, CsAt W (.slice adr1 2 cap1) PC → Calls Try.prog 11 #[.agg #[.string ⟨#[112, 101, 111, 112, 108, 101]⟩, .slice adr1 2 cap1, .int .i64 1]] W fun e w' => e = .returned (.bool true) ∧ Below W.heap.size W w') := fun W h => by
    have := right_sc PS _ W h P_ok; rw [P_right] at this; exact this
  have hN1 : Hid (∀ W, Calls Try.prog 13 #[.string ⟨#[97, 95, 49]⟩] W fun e w' => e = .returned (.bool true) ∧ Below W.heap.size W w') := fun W => by
    have := name_any ⟨#[97, 95, 49]⟩ (by decide) W; rw [P_name] at this; exact this
  have hN2 : Hid (∀ W, Calls Try.prog 13 #[.string ⟨#[49, 97]⟩] W fun e w' => e = .returned (.bool false) ∧ Below W.heap.size W w') := fun W => by
    have := name_any ⟨#[49, 97]⟩ (by decide) W; rw [P_noname] at this; exact this
  have hF1 : Hid (∀ W, CsAt W (.slice adr1 2 cap1) PC → RsAt W (.slice (some ⟨gr, 0, none⟩) 2 2) RL → Calls Try.prog 23 #[.agg #[.string ⟨#[112, 101, 111, 112, 108, 101]⟩, .slice adr1 2 cap1, .int .i64 1], .slice (some ⟨gr, 0, none⟩) 2 2] W fun e w' => e = .returned (.int .i64 0) ∧ Below W.heap.size W w') := fun W h h2 => by
    have := fits_any PS _ RL _ W h P_ok h2.1 (by decide) R_ok; rw [P_fits] at this; exact this
  have hF2 : Hid (∀ W, CsAt W (.slice adr5 3 cap5) MC → RsAt W (.slice (some ⟨gr, 0, none⟩) 2 2) RL → Calls Try.prog 23 #[.agg #[.string ⟨#[112, 101, 111, 112, 108, 101]⟩, .slice adr5 3 cap5, .int .i64 1], .slice (some ⟨gr, 0, none⟩) 2 2] W fun e w' => e = .returned (.int .i64 10) ∧ Below W.heap.size W w') := fun W h h2 => by
    have := fits_any MS _ RL _ W h M_ok h2.1 (by decide) R_ok; rw [M_fits] at this; exact this
  have hF3 : Hid (∀ W, Calls Try.prog 23 #[.agg #[.string ⟨#[]⟩, .slice none 0 0, .int .i64 0], .slice none 0 0] W fun e w' => e = .returned (.int .i64 11) ∧ Below W.heap.size W w') := fun W => by
    have := fits_any ⟨⟨#[]⟩, [], 0⟩ _ [] _ W (CsAt.nil W) ⟨by decide, fun c hc => absurd hc List.not_mem_nil⟩ (RsAt.nil W).1 (by decide) (fun x hx => absurd hx List.not_mem_nil); rw [Z_fits] at this; exact this
  have hKey : Hid (∀ W, CsAt W (.slice adr1 2 cap1) PC → RsAt W (.slice (some ⟨gr, 0, none⟩) 2 2) RL → Calls Try.prog 26 #[.agg #[.string ⟨#[112, 101, 111, 112, 108, 101]⟩, .slice adr1 2 cap1, .int .i64 1], .slice (some ⟨gr, 0, none⟩) 2 2] W (KeyP (RL.take 1) W)) := fun W h h2 => by
    have := key_any PS _ RL _ W h P_ok h2 R_ok; rw [P_key] at this; exact this
  have hRows : Hid (∀ W v, VsAt W v (RL.take 1) → RsAt W (.slice (some ⟨gr, 0, none⟩) 2 2) RL → Calls Try.prog 25 #[v, .slice (some ⟨gr, 0, none⟩) 1 2] W fun e w' => e = .returned (.bool true) ∧ Below W.heap.size W w') := fun W v h h2 => by
    have := rows_any v _ (RL.take 1) (RL.take 1) W h (h2.1.take 1 (by decide) 2) (by decide) (by decide); rw [decide_eq_true rfl] at this; exact this
  have hE1 : Hid (∀ W, CsAt W (.slice adr1 2 cap1) PC → CsAt W (.slice adr5 3 cap5) MC → Calls Try.prog 15 #[.agg #[.string ⟨#[112, 101, 111, 112, 108, 101]⟩, .slice adr1 2 cap1, .int .i64 1], .agg #[.string ⟨#[112, 101, 111, 112, 108, 101]⟩, .slice adr5 3 cap5, .int .i64 1]] W fun e w' => e = .returned (.bool true) ∧ Below W.heap.size W w') := fun W h h2 => by
    have := extends_any PS MS _ _ W h h2 P_ok M_ok; rw [P_ext] at this; exact this
  have hE2 : Hid (∀ W, CsAt W (.slice adr1 2 cap1) PC → CsAt W (.slice adr5 3 cap5) MC → Calls Try.prog 15 #[.agg #[.string ⟨#[112, 101, 111, 112, 108, 101]⟩, .slice adr5 3 cap5, .int .i64 1], .agg #[.string ⟨#[112, 101, 111, 112, 108, 101]⟩, .slice adr1 2 cap1, .int .i64 1]] W fun e w' => e = .returned (.bool false) ∧ Below W.heap.size W w') := fun W h h2 => by
    have := extends_any MS PS _ _ W h2 h M_ok P_ok; rw [P_noext] at this; exact this
  have hS : Hid (∀ W, CsAt W (.slice adrd 2 capd) PC → CsAt W (.slice adr1 2 cap1) PC → Calls Try.prog 17 #[.agg #[.string ⟨#[112, 101, 111, 112, 108, 101]⟩, .slice adrd 2 capd, .int .i64 1], .agg #[.string ⟨#[112, 101, 111, 112, 108, 101]⟩, .slice adr1 2 cap1, .int .i64 1]] W fun e w' => e = .returned (.bool true) ∧ Below W.heap.size W w') := fun W h h2 => by
    have := same_any PS PS _ _ W h h2; rw [P_same] at this; exact this
  refine wp_region_held_drew (S := (fun W => Below w20.heap.size w20 W ∧ W.cell? ⟨g1, 0, none⟩ = some (.string ⟨#[112, 101, 111, 112, 108, 101]⟩) ∧ W.cell? ⟨g1, 1, none⟩ = some (.slice adr1 2 cap1) ∧ W.cell? ⟨g1, 2, none⟩ = some (.int .i64 1) ∧ W.cell? ⟨g2, 0, none⟩ = some (.string ⟨#[112, 101, 111, 112, 108, 101]⟩) ∧ W.cell? ⟨g2, 1, none⟩ = some (.slice adr5 3 cap5) ∧ W.cell? ⟨g2, 2, none⟩ = some (.int .i64 1) ∧ W.cell? ⟨gd, 0, none⟩ = some (.string ⟨#[112, 101, 111, 112, 108, 101]⟩) ∧ W.cell? ⟨gd, 1, none⟩ = some (.slice adrd 2 capd) ∧ W.cell? ⟨gd, 2, none⟩ = some (.int .i64 1))) (by kernel_rfl) (by rw [hw20]; exact mk20 _ (Below.refl _ _)) (fun hS20 => ?_)
  rw [hw20] at hS20 ⊢
  clear hw20
  refine wpAnyH_take (i := 0) (oi := ({ dst := some 37, op := Op.load 24 (Operand.tmp 1), type := 24, pos := "law.go:25", after := #[], guard := none } : Oper)) (v := ?_) rfl (by kernel_rfl) (by kernel_rfl) (by kernel_rfl) (fun _ _ _ h => h) (Or.inl ⟨by rfl, ?_⟩) hS20 ?_
  rotate_left
  · intro w hSw; (try dsimp only at hSw); go_simp; (try with_reducible rfl)
  simp only [Act.put, List.setIfInBounds_toArray, List.set_cons_zero, List.set_cons_succ]
  refine wpAnyH_ready (rs := [1]) (by kernel_rfl) (by simp) ?_
  refine AllReadyH.cons (o := ({ dst := some 38, op := Op.call { callee := Callee.value (Operand.func 11), args := #[Operand.tmp 37], argTypes := #[24] }, type := 4, pos := "law.go:25", after := #[{ on := 0, ground := Ground.data }], guard := none } : Oper)) rfl (fun K hK => ?_) AllReadyH.nil
  go_simp
  refine (hRight.out _ (C1.out.below hS20.1)).mono ?_; rintro e w21 ⟨rfl, hb21⟩
  go_wp2_with fail
  refine hK.out _ _ (mk20 _ (hnext hS20.1 hb21)) (fun hS21 => ?_)
  clear hK K
  (try simp only [Act.put, List.setIfInBounds_toArray, List.set_cons_zero, List.set_cons_succ])
  clear hb21 hS20
  refine wpAnyH_take (i := 2) (oi := ({ dst := some 39, op := Op.move (Operand.tmp 38), type := 4, pos := "law.go:25", after := #[{ on := 1, ground := Ground.data }, { on := 1, ground := Ground.chain }], guard := none } : Oper)) (v := ?_) rfl (by kernel_rfl) (by kernel_rfl) (by kernel_rfl) (fun _ _ _ h => h) (Or.inl ⟨by rfl, ?_⟩) hS21 ?_
  rotate_left
  · intro w hSw; (try dsimp only at hSw); go_simp; (try with_reducible rfl)
  simp only [Act.put, List.setIfInBounds_toArray, List.set_cons_zero, List.set_cons_succ]
  refine wpAnyH_ready (rs := [3]) (by kernel_rfl) (by simp) ?_
  refine AllReadyH.cons (o := ({ dst := some 40, op := Op.call { callee := Callee.value (Operand.func 13), args := #[Operand.const (Value.string { data := #[97, 95, 49] })], argTypes := #[9] }, type := 4, pos := "law.go:25", after := #[{ on := 2, ground := Ground.chain }, { on := 2, ground := Ground.guard }], guard := some (2, true) } : Oper)) rfl (fun K hK => ?_) AllReadyH.nil
  go_simp
  refine (hN1.out _).mono ?_; rintro e w22 ⟨rfl, hb22⟩
  go_wp2_with fail
  refine hK.out _ _ (mk20 _ (hnext hS21.1 hb22)) (fun hS22 => ?_)
  clear hK K
  (try simp only [Act.put, List.setIfInBounds_toArray, List.set_cons_zero, List.set_cons_succ])
  clear hb22 hS21
  refine wpAnyH_take (i := 4) (oi := ({ dst := some 41, op := Op.pick (Operand.tmp 39) (Operand.tmp 40) (Operand.const (Value.bool false)), type := 4, pos := "law.go:25", after := #[{ on := 2, ground := Ground.data }, { on := 3, ground := Ground.data }], guard := none } : Oper)) (v := ?_) rfl (by kernel_rfl) (by kernel_rfl) (by kernel_rfl) (fun _ _ _ h => h) (Or.inl ⟨by rfl, ?_⟩) hS22 ?_
  rotate_left
  · intro w hSw; (try dsimp only at hSw); go_simp; (try with_reducible rfl)
  simp only [Act.put, List.setIfInBounds_toArray, List.set_cons_zero, List.set_cons_succ]
  refine wpAnyH_take (i := 5) (oi := ({ dst := some 42, op := Op.move (Operand.tmp 41), type := 4, pos := "law.go:25", after := #[{ on := 4, ground := Ground.data }, { on := 3, ground := Ground.chain }], guard := none } : Oper)) (v := ?_) rfl (by kernel_rfl) (by kernel_rfl) (by kernel_rfl) (fun _ _ _ h => h) (Or.inl ⟨by rfl, ?_⟩) hS22 ?_
  rotate_left
  · intro w hSw; (try dsimp only at hSw); go_simp; (try with_reducible rfl)
  simp only [Act.put, List.setIfInBounds_toArray, List.set_cons_zero, List.set_cons_succ]
  refine wpAnyH_ready (rs := [6]) (by kernel_rfl) (by simp) ?_
  refine AllReadyH.cons (o := ({ dst := some 43, op := Op.call { callee := Callee.value (Operand.func 13), args := #[Operand.const (Value.string { data := #[49, 97] })], argTypes := #[9] }, type := 4, pos := "law.go:25", after := #[{ on := 5, ground := Ground.chain }, { on := 5, ground := Ground.guard }], guard := some (5, true) } : Oper)) rfl (fun K hK => ?_) AllReadyH.nil
  go_simp
  refine (hN2.out _).mono ?_; rintro e w23 ⟨rfl, hb23⟩
  go_wp2_with fail
  refine hK.out _ _ (mk20 _ (hnext hS22.1 hb23)) (fun hS23 => ?_)
  clear hK K
  (try simp only [Act.put, List.setIfInBounds_toArray, List.set_cons_zero, List.set_cons_succ])
  clear hb23 hS22
  refine wpAnyH_take (i := 7) (oi := ({ dst := some 44, op := Op.unOp UnOp.not 4 (Operand.tmp 43), type := 4, pos := "law.go:25", after := #[{ on := 6, ground := Ground.data }, { on := 5, ground := Ground.guard }], guard := some (5, true) } : Oper)) (v := ?_) rfl (by kernel_rfl) (by kernel_rfl) (by kernel_rfl) (fun _ _ _ h => h) (Or.inl ⟨by rfl, ?_⟩) hS23 ?_
  rotate_left
  · intro w hSw; (try dsimp only at hSw); go_simp; (try with_reducible rfl)
  simp only [Act.put, List.setIfInBounds_toArray, List.set_cons_zero, List.set_cons_succ]
  refine wpAnyH_take (i := 8) (oi := ({ dst := some 45, op := Op.pick (Operand.tmp 42) (Operand.tmp 44) (Operand.const (Value.bool false)), type := 4, pos := "law.go:25", after := #[{ on := 5, ground := Ground.data }, { on := 7, ground := Ground.data }], guard := none } : Oper)) (v := ?_) rfl (by kernel_rfl) (by kernel_rfl) (by kernel_rfl) (fun _ _ _ h => h) (Or.inl ⟨by rfl, ?_⟩) hS23 ?_
  rotate_left
  · intro w hSw; (try dsimp only at hSw); go_simp; (try with_reducible rfl)
  simp only [Act.put, List.setIfInBounds_toArray, List.set_cons_zero, List.set_cons_succ]
  refine wpAnyH_take (i := 9) (oi := ({ dst := some 46, op := Op.move (Operand.tmp 45), type := 4, pos := "law.go:25", after := #[{ on := 8, ground := Ground.data }, { on := 6, ground := Ground.chain }], guard := none } : Oper)) (v := ?_) rfl (by kernel_rfl) (by kernel_rfl) (by kernel_rfl) (fun _ _ _ h => h) (Or.inl ⟨by rfl, ?_⟩) hS23 ?_
  rotate_left
  · intro w hSw; (try dsimp only at hSw); go_simp; (try with_reducible rfl)
  simp only [Act.put, List.setIfInBounds_toArray, List.set_cons_zero, List.set_cons_succ]
  refine wpAnyH_take (i := 10) (oi := ({ dst := some 47, op := Op.load 24 (Operand.tmp 1), type := 24, pos := "law.go:25", after := #[{ on := 9, ground := Ground.guard }], guard := some (9, true) } : Oper)) (v := ?_) rfl (by kernel_rfl) (by kernel_rfl) (by kernel_rfl) (fun _ _ _ h => h) (Or.inl ⟨by rfl, ?_⟩) hS23 ?_
  rotate_left
  · intro w hSw; (try dsimp only at hSw); go_simp; (try with_reducible rfl)
  simp only [Act.put, List.setIfInBounds_toArray, List.set_cons_zero, List.set_cons_succ]
  refine wpAnyH_take (i := 11) (oi := ({ dst := some 48, op := Op.move (Operand.tmp 3), type := 32, pos := "law.go:25", after := #[{ on := 9, ground := Ground.guard }], guard := some (9, true) } : Oper)) (v := ?_) rfl (by kernel_rfl) (by kernel_rfl) (by kernel_rfl) (fun _ _ _ h => h) (Or.inl ⟨by rfl, ?_⟩) hS23 ?_
  rotate_left
  · intro w hSw; (try dsimp only at hSw); go_simp; (try with_reducible rfl)
  simp only [Act.put, List.setIfInBounds_toArray, List.set_cons_zero, List.set_cons_succ]
  refine wpAnyH_ready (rs := [12]) (by kernel_rfl) (by simp) ?_
  refine AllReadyH.cons (o := ({ dst := some 49, op := Op.call { callee := Callee.value (Operand.func 23), args := #[Operand.tmp 47, Operand.tmp 48], argTypes := #[24, 32] }, type := 33, pos := "law.go:25", after := #[{ on := 10, ground := Ground.data }, { on := 11, ground := Ground.data }, { on := 9, ground := Ground.chain }, { on := 9, ground := Ground.guard }], guard := some (9, true) } : Oper)) rfl (fun K hK => ?_) AllReadyH.nil
  go_simp
  refine (hF1.out _ (C1.out.below hS23.1) (R1.out.below hS23.1)).mono ?_; rintro e w24 ⟨rfl, hb24⟩
  go_wp2_with fail
  refine hK.out _ _ (mk20 _ (hnext hS23.1 hb24)) (fun hS24 => ?_)
  clear hK K
  (try simp only [Act.put, List.setIfInBounds_toArray, List.set_cons_zero, List.set_cons_succ])
  clear hb24 hS23
  refine wpAnyH_take (i := 13) (oi := ({ dst := some 50, op := Op.binOp BinOp.eql 33 (Operand.tmp 49) (Operand.const (Value.int IntKind.i64 0)) 33, type := 4, pos := "law.go:25", after := #[{ on := 12, ground := Ground.data }, { on := 9, ground := Ground.guard }], guard := some (9, true) } : Oper)) (v := ?_) rfl (by kernel_rfl) (by kernel_rfl) (by kernel_rfl) (fun _ _ _ h => h) (Or.inl ⟨by rfl, ?_⟩) hS24 ?_
  rotate_left
  · intro w hSw; (try dsimp only at hSw); go_simp; (try with_reducible rfl)
  simp only [Act.put, List.setIfInBounds_toArray, List.set_cons_zero, List.set_cons_succ]
  refine wpAnyH_take (i := 14) (oi := ({ dst := some 51, op := Op.pick (Operand.tmp 46) (Operand.tmp 50) (Operand.const (Value.bool false)), type := 4, pos := "law.go:25", after := #[{ on := 9, ground := Ground.data }, { on := 13, ground := Ground.data }], guard := none } : Oper)) (v := ?_) rfl (by kernel_rfl) (by kernel_rfl) (by kernel_rfl) (fun _ _ _ h => h) (Or.inl ⟨by rfl, ?_⟩) hS24 ?_
  rotate_left
  · intro w hSw; (try dsimp only at hSw); go_simp; (try with_reducible rfl)
  simp only [Act.put, List.setIfInBounds_toArray, List.set_cons_zero, List.set_cons_succ]
  refine wpAnyH_take (i := 15) (oi := ({ dst := some 52, op := Op.move (Operand.tmp 51), type := 4, pos := "law.go:25", after := #[{ on := 14, ground := Ground.data }, { on := 12, ground := Ground.chain }], guard := none } : Oper)) (v := ?_) rfl (by kernel_rfl) (by kernel_rfl) (by kernel_rfl) (fun _ _ _ h => h) (Or.inl ⟨by rfl, ?_⟩) hS24 ?_
  rotate_left
  · intro w hSw; (try dsimp only at hSw); go_simp; (try with_reducible rfl)
  simp only [Act.put, List.setIfInBounds_toArray, List.set_cons_zero, List.set_cons_succ]
  refine wpAnyH_take (i := 16) (oi := ({ dst := some 53, op := Op.load 24 (Operand.tmp 2), type := 24, pos := "law.go:25", after := #[{ on := 15, ground := Ground.guard }], guard := some (15, true) } : Oper)) (v := ?_) rfl (by kernel_rfl) (by kernel_rfl) (by kernel_rfl) (fun _ _ _ h => h) (Or.inl ⟨by rfl, ?_⟩) hS24 ?_
  rotate_left
  · intro w hSw; (try dsimp only at hSw); go_simp; (try with_reducible rfl)
  simp only [Act.put, List.setIfInBounds_toArray, List.set_cons_zero, List.set_cons_succ]
  refine wpAnyH_take (i := 17) (oi := ({ dst := some 54, op := Op.move (Operand.tmp 3), type := 32, pos := "law.go:25", after := #[{ on := 15, ground := Ground.guard }], guard := some (15, true) } : Oper)) (v := ?_) rfl (by kernel_rfl) (by kernel_rfl) (by kernel_rfl) (fun _ _ _ h => h) (Or.inl ⟨by rfl, ?_⟩) hS24 ?_
  rotate_left
  · intro w hSw; (try dsimp only at hSw); go_simp; (try with_reducible rfl)
  simp only [Act.put, List.setIfInBounds_toArray, List.set_cons_zero, List.set_cons_succ]
  refine wpAnyH_ready (rs := [18]) (by kernel_rfl) (by simp) ?_
  refine AllReadyH.cons (o := ({ dst := some 55, op := Op.call { callee := Callee.value (Operand.func 23), args := #[Operand.tmp 53, Operand.tmp 54], argTypes := #[24, 32] }, type := 33, pos := "law.go:25", after := #[{ on := 16, ground := Ground.data }, { on := 17, ground := Ground.data }, { on := 15, ground := Ground.chain }, { on := 15, ground := Ground.guard }], guard := some (15, true) } : Oper)) rfl (fun K hK => ?_) AllReadyH.nil
  go_simp
  refine (hF2.out _ (C2.out.below hS24.1) (R1.out.below hS24.1)).mono ?_; rintro e w25 ⟨rfl, hb25⟩
  go_wp2_with fail
  refine hK.out _ _ (mk20 _ (hnext hS24.1 hb25)) (fun hS25 => ?_)
  clear hK K
  (try simp only [Act.put, List.setIfInBounds_toArray, List.set_cons_zero, List.set_cons_succ])
  clear hb25 hS24
  refine wpAnyH_take (i := 19) (oi := ({ dst := some 56, op := Op.binOp BinOp.eql 33 (Operand.tmp 55) (Operand.const (Value.int IntKind.i64 10)) 33, type := 4, pos := "law.go:25", after := #[{ on := 18, ground := Ground.data }, { on := 15, ground := Ground.guard }], guard := some (15, true) } : Oper)) (v := ?_) rfl (by kernel_rfl) (by kernel_rfl) (by kernel_rfl) (fun _ _ _ h => h) (Or.inl ⟨by rfl, ?_⟩) hS25 ?_
  rotate_left
  · intro w hSw; (try dsimp only at hSw); go_simp; (try with_reducible rfl)
  simp only [Act.put, List.setIfInBounds_toArray, List.set_cons_zero, List.set_cons_succ]
  refine wpAnyH_take (i := 20) (oi := ({ dst := some 57, op := Op.pick (Operand.tmp 52) (Operand.tmp 56) (Operand.const (Value.bool false)), type := 4, pos := "law.go:25", after := #[{ on := 15, ground := Ground.data }, { on := 19, ground := Ground.data }], guard := none } : Oper)) (v := ?_) rfl (by kernel_rfl) (by kernel_rfl) (by kernel_rfl) (fun _ _ _ h => h) (Or.inl ⟨by rfl, ?_⟩) hS25 ?_
  rotate_left
  · intro w hSw; (try dsimp only at hSw); go_simp; (try with_reducible rfl)
  simp only [Act.put, List.setIfInBounds_toArray, List.set_cons_zero, List.set_cons_succ]
  refine wpAnyH_take (i := 21) (oi := ({ dst := some 58, op := Op.move (Operand.tmp 57), type := 4, pos := "law.go:25", after := #[{ on := 20, ground := Ground.data }, { on := 18, ground := Ground.chain }], guard := none } : Oper)) (v := ?_) rfl (by kernel_rfl) (by kernel_rfl) (by kernel_rfl) (fun _ _ _ h => h) (Or.inl ⟨by rfl, ?_⟩) hS25 ?_
  rotate_left
  · intro w hSw; (try dsimp only at hSw); go_simp; (try with_reducible rfl)
  simp only [Act.put, List.setIfInBounds_toArray, List.set_cons_zero, List.set_cons_succ]
  refine wpAnyH_take (i := 22) (oi := ({ dst := some 59, op := Op.build 24 #[], type := 24, pos := "law.go:25", after := #[{ on := 21, ground := Ground.guard }], guard := some (21, true) } : Oper)) (v := ?_) rfl (by kernel_rfl) (by kernel_rfl) (by kernel_rfl) (fun _ _ _ h => h) (Or.inl ⟨by rfl, ?_⟩) hS25 ?_
  rotate_left
  · intro w hSw; (try dsimp only at hSw); go_simp; (try with_reducible rfl)
  simp only [Act.put, List.setIfInBounds_toArray, List.set_cons_zero, List.set_cons_succ]
  refine wpAnyH_ready (rs := [23]) (by kernel_rfl) (by simp) ?_
  refine AllReadyH.cons (o := ({ dst := some 60, op := Op.call { callee := Callee.value (Operand.func 23), args := #[Operand.tmp 59, Operand.const (Value.slice none 0 0)], argTypes := #[24, 32] }, type := 33, pos := "law.go:25", after := #[{ on := 22, ground := Ground.data }, { on := 21, ground := Ground.chain }, { on := 21, ground := Ground.guard }], guard := some (21, true) } : Oper)) rfl (fun K hK => ?_) AllReadyH.nil
  go_simp
  refine (hF3.out _).mono ?_; rintro e w26 ⟨rfl, hb26⟩
  go_wp2_with fail
  refine hK.out _ _ (mk20 _ (hnext hS25.1 hb26)) (fun hS26 => ?_)
  clear hK K
  (try simp only [Act.put, List.setIfInBounds_toArray, List.set_cons_zero, List.set_cons_succ])
  clear hb26 hS25
  refine wpAnyH_take (i := 24) (oi := ({ dst := some 61, op := Op.binOp BinOp.eql 33 (Operand.tmp 60) (Operand.const (Value.int IntKind.i64 11)) 33, type := 4, pos := "law.go:25", after := #[{ on := 23, ground := Ground.data }, { on := 21, ground := Ground.guard }], guard := some (21, true) } : Oper)) (v := ?_) rfl (by kernel_rfl) (by kernel_rfl) (by kernel_rfl) (fun _ _ _ h => h) (Or.inl ⟨by rfl, ?_⟩) hS26 ?_
  rotate_left
  · intro w hSw; (try dsimp only at hSw); go_simp; (try with_reducible rfl)
  simp only [Act.put, List.setIfInBounds_toArray, List.set_cons_zero, List.set_cons_succ]
  refine wpAnyH_take (i := 25) (oi := ({ dst := some 62, op := Op.pick (Operand.tmp 58) (Operand.tmp 61) (Operand.const (Value.bool false)), type := 4, pos := "law.go:25", after := #[{ on := 21, ground := Ground.data }, { on := 24, ground := Ground.data }], guard := none } : Oper)) (v := ?_) rfl (by kernel_rfl) (by kernel_rfl) (by kernel_rfl) (fun _ _ _ h => h) (Or.inl ⟨by rfl, ?_⟩) hS26 ?_
  rotate_left
  · intro w hSw; (try dsimp only at hSw); go_simp; (try with_reducible rfl)
  simp only [Act.put, List.setIfInBounds_toArray, List.set_cons_zero, List.set_cons_succ]
  refine wpAnyH_take (i := 26) (oi := ({ dst := some 63, op := Op.move (Operand.tmp 62), type := 4, pos := "law.go:25", after := #[{ on := 25, ground := Ground.data }, { on := 23, ground := Ground.chain }], guard := none } : Oper)) (v := ?_) rfl (by kernel_rfl) (by kernel_rfl) (by kernel_rfl) (fun _ _ _ h => h) (Or.inl ⟨by rfl, ?_⟩) hS26 ?_
  rotate_left
  · intro w hSw; (try dsimp only at hSw); go_simp; (try with_reducible rfl)
  simp only [Act.put, List.setIfInBounds_toArray, List.set_cons_zero, List.set_cons_succ]
  refine wpAnyH_take (i := 27) (oi := ({ dst := some 64, op := Op.load 24 (Operand.tmp 1), type := 24, pos := "law.go:25", after := #[{ on := 26, ground := Ground.guard }], guard := some (26, true) } : Oper)) (v := ?_) rfl (by kernel_rfl) (by kernel_rfl) (by kernel_rfl) (fun _ _ _ h => h) (Or.inl ⟨by rfl, ?_⟩) hS26 ?_
  rotate_left
  · intro w hSw; (try dsimp only at hSw); go_simp; (try with_reducible rfl)
  simp only [Act.put, List.setIfInBounds_toArray, List.set_cons_zero, List.set_cons_succ]
  refine wpAnyH_take (i := 28) (oi := ({ dst := some 65, op := Op.move (Operand.tmp 3), type := 32, pos := "law.go:25", after := #[{ on := 26, ground := Ground.guard }], guard := some (26, true) } : Oper)) (v := ?_) rfl (by kernel_rfl) (by kernel_rfl) (by kernel_rfl) (fun _ _ _ h => h) (Or.inl ⟨by rfl, ?_⟩) hS26 ?_
  rotate_left
  · intro w hSw; (try dsimp only at hSw); go_simp; (try with_reducible rfl)
  simp only [Act.put, List.setIfInBounds_toArray, List.set_cons_zero, List.set_cons_succ]
  refine wpAnyH_take (i := 30) (oi := ({ dst := some 67, op := Op.move (Operand.tmp 3), type := 32, pos := "law.go:25", after := #[{ on := 26, ground := Ground.guard }], guard := some (26, true) } : Oper)) (v := ?_) rfl (by kernel_rfl) (by kernel_rfl) (by kernel_rfl) (fun _ _ _ h => h) (Or.inl ⟨by rfl, ?_⟩) hS26 ?_
  rotate_left
  · intro w hSw; (try dsimp only at hSw); go_simp; (try with_reducible rfl)
  simp only [Act.put, List.setIfInBounds_toArray, List.set_cons_zero, List.set_cons_succ]
  refine wpAnyH_take (i := 31) (oi := ({ dst := some 68, op := Op.slice 32 (Operand.tmp 67) none (some (Operand.const (Value.int IntKind.i64 1))) none, type := 32, pos := "law.go:25", after := #[{ on := 30, ground := Ground.data }, { on := 26, ground := Ground.guard }], guard := some (26, true) } : Oper)) (v := ?_) rfl (by kernel_rfl) (by kernel_rfl) (by kernel_rfl) (fun _ _ _ h => h) (Or.inl ⟨by rfl, ?_⟩) hS26 ?_
  rotate_left
  · intro w hSw; (try dsimp only at hSw); go_simp; (try with_reducible rfl)
  simp only [Act.put, List.setIfInBounds_toArray, List.set_cons_zero, List.set_cons_succ]
  refine wpAnyH_ready (rs := [29]) (by kernel_rfl) (by simp) ?_
  refine AllReadyH.cons (o := ({ dst := some 66, op := Op.call { callee := Callee.value (Operand.func 26), args := #[Operand.tmp 64, Operand.tmp 65], argTypes := #[24, 32] }, type := 32, pos := "law.go:25", after := #[{ on := 27, ground := Ground.data }, { on := 28, ground := Ground.data }, { on := 26, ground := Ground.chain }, { on := 26, ground := Ground.guard }], guard := some (26, true) } : Oper)) rfl (fun K hK => ?_) AllReadyH.nil
  go_simp
  refine (hKey.out _ (C1.out.below hS26.1) (R1.out.below hS26.1)).mono ?_; rintro e w27 ⟨⟨vk, rfl, ok⟩, hb27⟩
  have VK := hid (VsAt.own ok)
  obtain ⟨adrk, capk, rfl⟩ : ∃ adr cap, vk = .slice adr 1 cap := (VsAt.own ok).len
  clear ok
  go_wp2_with fail
  refine hK.out _ _ (mk20 _ (hnext hS26.1 hb27)) (fun hS27 => ?_)
  clear hK K
  (try simp only [Act.put, List.setIfInBounds_toArray, List.set_cons_zero, List.set_cons_succ])
  clear hb27 hS26
  refine wpAnyH_ready (rs := [32]) (by kernel_rfl) (by simp) ?_
  refine AllReadyH.cons (o := ({ dst := some 69, op := Op.call { callee := Callee.value (Operand.func 25), args := #[Operand.tmp 66, Operand.tmp 68], argTypes := #[32, 32] }, type := 4, pos := "law.go:25", after := #[{ on := 29, ground := Ground.data }, { on := 31, ground := Ground.data }, { on := 29, ground := Ground.chain }, { on := 26, ground := Ground.guard }], guard := some (26, true) } : Oper)) rfl (fun K hK => ?_) AllReadyH.nil
  go_simp
  refine (hRows.out _ _ VK.out (R1.out.below hS27.1)).mono ?_; rintro e w28 ⟨rfl, hb28⟩
  go_wp2_with fail
  refine hK.out _ _ (mk20 _ (hnext hS27.1 hb28)) (fun hS28 => ?_)
  clear hK K
  (try simp only [Act.put, List.setIfInBounds_toArray, List.set_cons_zero, List.set_cons_succ])
  clear hb28 hS27
  refine wpAnyH_take (i := 33) (oi := ({ dst := some 70, op := Op.pick (Operand.tmp 63) (Operand.tmp 69) (Operand.const (Value.bool false)), type := 4, pos := "law.go:25", after := #[{ on := 26, ground := Ground.data }, { on := 32, ground := Ground.data }], guard := none } : Oper)) (v := ?_) rfl (by kernel_rfl) (by kernel_rfl) (by kernel_rfl) (fun _ _ _ h => h) (Or.inl ⟨by rfl, ?_⟩) hS28 ?_
  rotate_left
  · intro w hSw; (try dsimp only at hSw); go_simp; (try with_reducible rfl)
  simp only [Act.put, List.setIfInBounds_toArray, List.set_cons_zero, List.set_cons_succ]
  refine wpAnyH_take (i := 34) (oi := ({ dst := some 71, op := Op.move (Operand.tmp 70), type := 4, pos := "law.go:25", after := #[{ on := 33, ground := Ground.data }, { on := 32, ground := Ground.chain }], guard := none } : Oper)) (v := ?_) rfl (by kernel_rfl) (by kernel_rfl) (by kernel_rfl) (fun _ _ _ h => h) (Or.inl ⟨by rfl, ?_⟩) hS28 ?_
  rotate_left
  · intro w hSw; (try dsimp only at hSw); go_simp; (try with_reducible rfl)
  simp only [Act.put, List.setIfInBounds_toArray, List.set_cons_zero, List.set_cons_succ]
  refine wpAnyH_take (i := 35) (oi := ({ dst := some 72, op := Op.move (Operand.tmp 4), type := 32, pos := "law.go:25", after := #[{ on := 34, ground := Ground.guard }], guard := some (34, true) } : Oper)) (v := ?_) rfl (by kernel_rfl) (by kernel_rfl) (by kernel_rfl) (fun _ _ _ h => h) (Or.inl ⟨by rfl, ?_⟩) hS28 ?_
  rotate_left
  · intro w hSw; (try dsimp only at hSw); go_simp; (try with_reducible rfl)
  simp only [Act.put, List.setIfInBounds_toArray, List.set_cons_zero, List.set_cons_succ]
  refine wpAnyH_take (i := 36) (oi := ({ dst := some 73, op := Op.call { callee := Callee.builtin Builtin.len, args := #[Operand.tmp 72], argTypes := #[32] }, type := 3, pos := "law.go:25", after := #[{ on := 35, ground := Ground.data }, { on := 34, ground := Ground.guard }], guard := some (34, true) } : Oper)) (v := ?_) rfl (by kernel_rfl) (by kernel_rfl) (by kernel_rfl) (fun _ _ _ h => h) (Or.inl ⟨by rfl, ?_⟩) hS28 ?_
  rotate_left
  · intro w hSw; (try dsimp only at hSw); go_simp; (try with_reducible rfl)
  simp only [Act.put, List.setIfInBounds_toArray, List.set_cons_zero, List.set_cons_succ]
  refine wpAnyH_take (i := 37) (oi := ({ dst := some 74, op := Op.binOp BinOp.eql 3 (Operand.tmp 73) (Operand.const (Value.int IntKind.i64 3)) 3, type := 4, pos := "law.go:25", after := #[{ on := 36, ground := Ground.data }, { on := 34, ground := Ground.guard }], guard := some (34, true) } : Oper)) (v := ?_) rfl (by kernel_rfl) (by kernel_rfl) (by kernel_rfl) (fun _ _ _ h => h) (Or.inl ⟨by rfl, ?_⟩) hS28 ?_
  rotate_left
  · intro w hSw; (try dsimp only at hSw); go_simp; (try with_reducible rfl)
  simp only [Act.put, List.setIfInBounds_toArray, List.set_cons_zero, List.set_cons_succ]
  refine wpAnyH_take (i := 38) (oi := ({ dst := some 75, op := Op.pick (Operand.tmp 71) (Operand.tmp 74) (Operand.const (Value.bool false)), type := 4, pos := "law.go:25", after := #[{ on := 34, ground := Ground.data }, { on := 37, ground := Ground.data }], guard := none } : Oper)) (v := ?_) rfl (by kernel_rfl) (by kernel_rfl) (by kernel_rfl) (fun _ _ _ h => h) (Or.inl ⟨by rfl, ?_⟩) hS28 ?_
  rotate_left
  · intro w hSw; (try dsimp only at hSw); go_simp; (try with_reducible rfl)
  simp only [Act.put, List.setIfInBounds_toArray, List.set_cons_zero, List.set_cons_succ]
  refine wpAnyH_take (i := 39) (oi := ({ dst := some 76, op := Op.move (Operand.tmp 75), type := 4, pos := "law.go:25", after := #[{ on := 38, ground := Ground.data }, { on := 34, ground := Ground.chain }], guard := none } : Oper)) (v := ?_) rfl (by kernel_rfl) (by kernel_rfl) (by kernel_rfl) (fun _ _ _ h => h) (Or.inl ⟨by rfl, ?_⟩) hS28 ?_
  rotate_left
  · intro w hSw; (try dsimp only at hSw); go_simp; (try with_reducible rfl)
  simp only [Act.put, List.setIfInBounds_toArray, List.set_cons_zero, List.set_cons_succ]
  refine wpAnyH_take (i := 40) (oi := ({ dst := some 77, op := Op.move (Operand.tmp 5), type := 33, pos := "law.go:25", after := #[{ on := 39, ground := Ground.guard }], guard := some (39, true) } : Oper)) (v := ?_) rfl (by kernel_rfl) (by kernel_rfl) (by kernel_rfl) (fun _ _ _ h => h) (Or.inl ⟨by rfl, ?_⟩) hS28 ?_
  rotate_left
  · intro w hSw; (try dsimp only at hSw); go_simp; (try with_reducible rfl)
  simp only [Act.put, List.setIfInBounds_toArray, List.set_cons_zero, List.set_cons_succ]
  refine wpAnyH_take (i := 41) (oi := ({ dst := some 78, op := Op.binOp BinOp.eql 33 (Operand.tmp 77) (Operand.const (Value.int IntKind.i64 0)) 33, type := 4, pos := "law.go:25", after := #[{ on := 40, ground := Ground.data }, { on := 39, ground := Ground.guard }], guard := some (39, true) } : Oper)) (v := ?_) rfl (by kernel_rfl) (by kernel_rfl) (by kernel_rfl) (fun _ _ _ h => h) (Or.inl ⟨by rfl, ?_⟩) hS28 ?_
  rotate_left
  · intro w hSw; (try dsimp only at hSw); go_simp; (try with_reducible rfl)
  simp only [Act.put, List.setIfInBounds_toArray, List.set_cons_zero, List.set_cons_succ]
  refine wpAnyH_take (i := 42) (oi := ({ dst := some 79, op := Op.pick (Operand.tmp 76) (Operand.tmp 78) (Operand.const (Value.bool false)), type := 4, pos := "law.go:25", after := #[{ on := 39, ground := Ground.data }, { on := 41, ground := Ground.data }], guard := none } : Oper)) (v := ?_) rfl (by kernel_rfl) (by kernel_rfl) (by kernel_rfl) (fun _ _ _ h => h) (Or.inl ⟨by rfl, ?_⟩) hS28 ?_
  rotate_left
  · intro w hSw; (try dsimp only at hSw); go_simp; (try with_reducible rfl)
  simp only [Act.put, List.setIfInBounds_toArray, List.set_cons_zero, List.set_cons_succ]
  refine wpAnyH_take (i := 43) (oi := ({ dst := some 80, op := Op.move (Operand.tmp 79), type := 4, pos := "law.go:25", after := #[{ on := 42, ground := Ground.data }, { on := 39, ground := Ground.chain }], guard := none } : Oper)) (v := ?_) rfl (by kernel_rfl) (by kernel_rfl) (by kernel_rfl) (fun _ _ _ h => h) (Or.inl ⟨by rfl, ?_⟩) hS28 ?_
  rotate_left
  · intro w hSw; (try dsimp only at hSw); go_simp; (try with_reducible rfl)
  simp only [Act.put, List.setIfInBounds_toArray, List.set_cons_zero, List.set_cons_succ]
  refine wpAnyH_take (i := 44) (oi := ({ dst := some 81, op := Op.load 24 (Operand.tmp 1), type := 24, pos := "law.go:25", after := #[{ on := 43, ground := Ground.guard }], guard := some (43, true) } : Oper)) (v := ?_) rfl (by kernel_rfl) (by kernel_rfl) (by kernel_rfl) (fun _ _ _ h => h) (Or.inl ⟨by rfl, ?_⟩) hS28 ?_
  rotate_left
  · intro w hSw; (try dsimp only at hSw); go_simp; (try with_reducible rfl)
  simp only [Act.put, List.setIfInBounds_toArray, List.set_cons_zero, List.set_cons_succ]
  refine wpAnyH_take (i := 45) (oi := ({ dst := some 82, op := Op.load 24 (Operand.tmp 2), type := 24, pos := "law.go:25", after := #[{ on := 43, ground := Ground.guard }], guard := some (43, true) } : Oper)) (v := ?_) rfl (by kernel_rfl) (by kernel_rfl) (by kernel_rfl) (fun _ _ _ h => h) (Or.inl ⟨by rfl, ?_⟩) hS28 ?_
  rotate_left
  · intro w hSw; (try dsimp only at hSw); go_simp; (try with_reducible rfl)
  simp only [Act.put, List.setIfInBounds_toArray, List.set_cons_zero, List.set_cons_succ]
  refine wpAnyH_ready (rs := [46]) (by kernel_rfl) (by simp) ?_
  refine AllReadyH.cons (o := ({ dst := some 83, op := Op.call { callee := Callee.value (Operand.func 15), args := #[Operand.tmp 81, Operand.tmp 82], argTypes := #[24, 24] }, type := 4, pos := "law.go:25", after := #[{ on := 44, ground := Ground.data }, { on := 45, ground := Ground.data }, { on := 43, ground := Ground.chain }, { on := 43, ground := Ground.guard }], guard := some (43, true) } : Oper)) rfl (fun K hK => ?_) AllReadyH.nil
  go_simp
  refine (hE1.out _ (C1.out.below hS28.1) (C2.out.below hS28.1)).mono ?_; rintro e w29 ⟨rfl, hb29⟩
  go_wp2_with fail
  refine hK.out _ _ (mk20 _ (hnext hS28.1 hb29)) (fun hS29 => ?_)
  clear hK K
  (try simp only [Act.put, List.setIfInBounds_toArray, List.set_cons_zero, List.set_cons_succ])
  clear hb29 hS28
  refine wpAnyH_take (i := 47) (oi := ({ dst := some 84, op := Op.pick (Operand.tmp 80) (Operand.tmp 83) (Operand.const (Value.bool false)), type := 4, pos := "law.go:25", after := #[{ on := 43, ground := Ground.data }, { on := 46, ground := Ground.data }], guard := none } : Oper)) (v := ?_) rfl (by kernel_rfl) (by kernel_rfl) (by kernel_rfl) (fun _ _ _ h => h) (Or.inl ⟨by rfl, ?_⟩) hS29 ?_
  rotate_left
  · intro w hSw; (try dsimp only at hSw); go_simp; (try with_reducible rfl)
  simp only [Act.put, List.setIfInBounds_toArray, List.set_cons_zero, List.set_cons_succ]
  refine wpAnyH_take (i := 48) (oi := ({ dst := some 85, op := Op.move (Operand.tmp 84), type := 4, pos := "law.go:25", after := #[{ on := 47, ground := Ground.data }, { on := 46, ground := Ground.chain }], guard := none } : Oper)) (v := ?_) rfl (by kernel_rfl) (by kernel_rfl) (by kernel_rfl) (fun _ _ _ h => h) (Or.inl ⟨by rfl, ?_⟩) hS29 ?_
  rotate_left
  · intro w hSw; (try dsimp only at hSw); go_simp; (try with_reducible rfl)
  simp only [Act.put, List.setIfInBounds_toArray, List.set_cons_zero, List.set_cons_succ]
  refine wpAnyH_take (i := 49) (oi := ({ dst := some 86, op := Op.load 24 (Operand.tmp 2), type := 24, pos := "law.go:25", after := #[{ on := 48, ground := Ground.guard }], guard := some (48, true) } : Oper)) (v := ?_) rfl (by kernel_rfl) (by kernel_rfl) (by kernel_rfl) (fun _ _ _ h => h) (Or.inl ⟨by rfl, ?_⟩) hS29 ?_
  rotate_left
  · intro w hSw; (try dsimp only at hSw); go_simp; (try with_reducible rfl)
  simp only [Act.put, List.setIfInBounds_toArray, List.set_cons_zero, List.set_cons_succ]
  refine wpAnyH_take (i := 50) (oi := ({ dst := some 87, op := Op.load 24 (Operand.tmp 1), type := 24, pos := "law.go:25", after := #[{ on := 48, ground := Ground.guard }], guard := some (48, true) } : Oper)) (v := ?_) rfl (by kernel_rfl) (by kernel_rfl) (by kernel_rfl) (fun _ _ _ h => h) (Or.inl ⟨by rfl, ?_⟩) hS29 ?_
  rotate_left
  · intro w hSw; (try dsimp only at hSw); go_simp; (try with_reducible rfl)
  simp only [Act.put, List.setIfInBounds_toArray, List.set_cons_zero, List.set_cons_succ]
  refine wpAnyH_ready (rs := [51]) (by kernel_rfl) (by simp) ?_
  refine AllReadyH.cons (o := ({ dst := some 88, op := Op.call { callee := Callee.value (Operand.func 15), args := #[Operand.tmp 86, Operand.tmp 87], argTypes := #[24, 24] }, type := 4, pos := "law.go:25", after := #[{ on := 49, ground := Ground.data }, { on := 50, ground := Ground.data }, { on := 48, ground := Ground.chain }, { on := 48, ground := Ground.guard }], guard := some (48, true) } : Oper)) rfl (fun K hK => ?_) AllReadyH.nil
  go_simp
  refine (hE2.out _ (C1.out.below hS29.1) (C2.out.below hS29.1)).mono ?_; rintro e w30 ⟨rfl, hb30⟩
  go_wp2_with fail
  refine hK.out _ _ (mk20 _ (hnext hS29.1 hb30)) (fun hS30 => ?_)
  clear hK K
  (try simp only [Act.put, List.setIfInBounds_toArray, List.set_cons_zero, List.set_cons_succ])
  clear hb30 hS29
  refine wpAnyH_take (i := 52) (oi := ({ dst := some 89, op := Op.unOp UnOp.not 4 (Operand.tmp 88), type := 4, pos := "law.go:25", after := #[{ on := 51, ground := Ground.data }, { on := 48, ground := Ground.guard }], guard := some (48, true) } : Oper)) (v := ?_) rfl (by kernel_rfl) (by kernel_rfl) (by kernel_rfl) (fun _ _ _ h => h) (Or.inl ⟨by rfl, ?_⟩) hS30 ?_
  rotate_left
  · intro w hSw; (try dsimp only at hSw); go_simp; (try with_reducible rfl)
  simp only [Act.put, List.setIfInBounds_toArray, List.set_cons_zero, List.set_cons_succ]
  refine wpAnyH_take (i := 53) (oi := ({ dst := some 90, op := Op.pick (Operand.tmp 85) (Operand.tmp 89) (Operand.const (Value.bool false)), type := 4, pos := "law.go:25", after := #[{ on := 48, ground := Ground.data }, { on := 52, ground := Ground.data }], guard := none } : Oper)) (v := ?_) rfl (by kernel_rfl) (by kernel_rfl) (by kernel_rfl) (fun _ _ _ h => h) (Or.inl ⟨by rfl, ?_⟩) hS30 ?_
  rotate_left
  · intro w hSw; (try dsimp only at hSw); go_simp; (try with_reducible rfl)
  simp only [Act.put, List.setIfInBounds_toArray, List.set_cons_zero, List.set_cons_succ]
  refine wpAnyH_take (i := 54) (oi := ({ dst := some 91, op := Op.move (Operand.tmp 90), type := 4, pos := "law.go:25", after := #[{ on := 53, ground := Ground.data }, { on := 51, ground := Ground.chain }], guard := none } : Oper)) (v := ?_) rfl (by kernel_rfl) (by kernel_rfl) (by kernel_rfl) (fun _ _ _ h => h) (Or.inl ⟨by rfl, ?_⟩) hS30 ?_
  rotate_left
  · intro w hSw; (try dsimp only at hSw); go_simp; (try with_reducible rfl)
  simp only [Act.put, List.setIfInBounds_toArray, List.set_cons_zero, List.set_cons_succ]
  refine wpAnyH_take (i := 55) (oi := ({ dst := some 92, op := Op.load 24 (Operand.tmp 6), type := 24, pos := "law.go:25", after := #[{ on := 54, ground := Ground.guard }], guard := some (54, true) } : Oper)) (v := ?_) rfl (by kernel_rfl) (by kernel_rfl) (by kernel_rfl) (fun _ _ _ h => h) (Or.inl ⟨by rfl, ?_⟩) hS30 ?_
  rotate_left
  · intro w hSw; (try dsimp only at hSw); go_simp; (try with_reducible rfl)
  simp only [Act.put, List.setIfInBounds_toArray, List.set_cons_zero, List.set_cons_succ]
  refine wpAnyH_take (i := 56) (oi := ({ dst := some 93, op := Op.load 24 (Operand.tmp 1), type := 24, pos := "law.go:25", after := #[{ on := 54, ground := Ground.guard }], guard := some (54, true) } : Oper)) (v := ?_) rfl (by kernel_rfl) (by kernel_rfl) (by kernel_rfl) (fun _ _ _ h => h) (Or.inl ⟨by rfl, ?_⟩) hS30 ?_
  rotate_left
  · intro w hSw; (try dsimp only at hSw); go_simp; (try with_reducible rfl)
  simp only [Act.put, List.setIfInBounds_toArray, List.set_cons_zero, List.set_cons_succ]
  refine wpAnyH_ready (rs := [57]) (by kernel_rfl) (by simp) ?_
  refine AllReadyH.cons (o := ({ dst := some 94, op := Op.call { callee := Callee.value (Operand.func 17), args := #[Operand.tmp 92, Operand.tmp 93], argTypes := #[24, 24] }, type := 4, pos := "law.go:25", after := #[{ on := 55, ground := Ground.data }, { on := 56, ground := Ground.data }, { on := 54, ground := Ground.chain }, { on := 54, ground := Ground.guard }], guard := some (54, true) } : Oper)) rfl (fun K hK => ?_) AllReadyH.nil
  go_simp
  refine (hS.out _ (C3.out.below hS30.1) (C1.out.below hS30.1)).mono ?_; rintro e w31 ⟨rfl, hb31⟩
  go_wp2_with fail
  refine hK.out _ _ (mk20 _ (hnext hS30.1 hb31)) (fun hS31 => ?_)
  clear hK K
  (try simp only [Act.put, List.setIfInBounds_toArray, List.set_cons_zero, List.set_cons_succ])
  clear hb31 hS30
  refine wpAnyH_take (i := 58) (oi := ({ dst := some 95, op := Op.pick (Operand.tmp 91) (Operand.tmp 94) (Operand.const (Value.bool false)), type := 4, pos := "law.go:25", after := #[{ on := 54, ground := Ground.data }, { on := 57, ground := Ground.data }], guard := none } : Oper)) (v := ?_) rfl (by kernel_rfl) (by kernel_rfl) (by kernel_rfl) (fun _ _ _ h => h) (Or.inl ⟨by rfl, ?_⟩) hS31 ?_
  rotate_left
  · intro w hSw; (try dsimp only at hSw); go_simp; (try with_reducible rfl)
  simp only [Act.put, List.setIfInBounds_toArray, List.set_cons_zero, List.set_cons_succ]
  refine wpAnyH_take (i := 59) (oi := ({ dst := some 96, op := Op.move (Operand.tmp 95), type := 4, pos := "law.go:25", after := #[{ on := 58, ground := Ground.data }, { on := 57, ground := Ground.chain }], guard := none } : Oper)) (v := ?_) rfl (by kernel_rfl) (by kernel_rfl) (by kernel_rfl) (fun _ _ _ h => h) (Or.inl ⟨by rfl, ?_⟩) hS31 ?_
  rotate_left
  · intro w hSw; (try dsimp only at hSw); go_simp; (try with_reducible rfl)
  simp only [Act.put, List.setIfInBounds_toArray, List.set_cons_zero, List.set_cons_succ]
  refine wpAnyH_take (i := 60) (oi := ({ dst := some 97, op := Op.move (Operand.tmp 7), type := 33, pos := "law.go:25", after := #[{ on := 59, ground := Ground.guard }], guard := some (59, true) } : Oper)) (v := ?_) rfl (by kernel_rfl) (by kernel_rfl) (by kernel_rfl) (fun _ _ _ h => h) (Or.inl ⟨by rfl, ?_⟩) hS31 ?_
  rotate_left
  · intro w hSw; (try dsimp only at hSw); go_simp; (try with_reducible rfl)
  simp only [Act.put, List.setIfInBounds_toArray, List.set_cons_zero, List.set_cons_succ]
  refine wpAnyH_take (i := 61) (oi := ({ dst := some 98, op := Op.binOp BinOp.eql 33 (Operand.tmp 97) (Operand.const (Value.int IntKind.i64 0)) 33, type := 4, pos := "law.go:25", after := #[{ on := 60, ground := Ground.data }, { on := 59, ground := Ground.guard }], guard := some (59, true) } : Oper)) (v := ?_) rfl (by kernel_rfl) (by kernel_rfl) (by kernel_rfl) (fun _ _ _ h => h) (Or.inl ⟨by rfl, ?_⟩) hS31 ?_
  rotate_left
  · intro w hSw; (try dsimp only at hSw); go_simp; (try with_reducible rfl)
  simp only [Act.put, List.setIfInBounds_toArray, List.set_cons_zero, List.set_cons_succ]
  refine wpAnyH_take (i := 62) (oi := ({ dst := some 99, op := Op.pick (Operand.tmp 96) (Operand.tmp 98) (Operand.const (Value.bool false)), type := 4, pos := "law.go:25", after := #[{ on := 59, ground := Ground.data }, { on := 61, ground := Ground.data }], guard := none } : Oper)) (v := ?_) rfl (by kernel_rfl) (by kernel_rfl) (by kernel_rfl) (fun _ _ _ h => h) (Or.inl ⟨by rfl, ?_⟩) hS31 ?_
  rotate_left
  · intro w hSw; (try dsimp only at hSw); go_simp; (try with_reducible rfl)
  simp only [Act.put, List.setIfInBounds_toArray, List.set_cons_zero, List.set_cons_succ]
  refine wpAnyH_take (i := 63) (oi := ({ dst := some 100, op := Op.move (Operand.tmp 99), type := 4, pos := "law.go:25", after := #[{ on := 62, ground := Ground.data }, { on := 59, ground := Ground.chain }], guard := none } : Oper)) (v := ?_) rfl (by kernel_rfl) (by kernel_rfl) (by kernel_rfl) (fun _ _ _ h => h) (Or.inl ⟨by rfl, ?_⟩) hS31 ?_
  rotate_left
  · intro w hSw; (try dsimp only at hSw); go_simp; (try with_reducible rfl)
  simp only [Act.put, List.setIfInBounds_toArray, List.set_cons_zero, List.set_cons_succ]
  refine wpAnyH_take (i := 64) (oi := ({ dst := some 101, op := Op.move (Operand.tmp 9), type := 33, pos := "law.go:25", after := #[{ on := 63, ground := Ground.guard }], guard := some (63, true) } : Oper)) (v := ?_) rfl (by kernel_rfl) (by kernel_rfl) (by kernel_rfl) (fun _ _ _ h => h) (Or.inl ⟨by rfl, ?_⟩) hS31 ?_
  rotate_left
  · intro w hSw; (try dsimp only at hSw); go_simp; (try with_reducible rfl)
  simp only [Act.put, List.setIfInBounds_toArray, List.set_cons_zero, List.set_cons_succ]
  refine wpAnyH_take (i := 65) (oi := ({ dst := some 102, op := Op.binOp BinOp.eql 33 (Operand.tmp 101) (Operand.const (Value.int IntKind.i64 7)) 33, type := 4, pos := "law.go:25", after := #[{ on := 64, ground := Ground.data }, { on := 63, ground := Ground.guard }], guard := some (63, true) } : Oper)) (v := ?_) rfl (by kernel_rfl) (by kernel_rfl) (by kernel_rfl) (fun _ _ _ h => h) (Or.inl ⟨by rfl, ?_⟩) hS31 ?_
  rotate_left
  · intro w hSw; (try dsimp only at hSw); go_simp; (try with_reducible rfl)
  simp only [Act.put, List.setIfInBounds_toArray, List.set_cons_zero, List.set_cons_succ]
  refine wpAnyH_take (i := 66) (oi := ({ dst := some 103, op := Op.pick (Operand.tmp 100) (Operand.tmp 102) (Operand.const (Value.bool false)), type := 4, pos := "law.go:25", after := #[{ on := 63, ground := Ground.data }, { on := 65, ground := Ground.data }], guard := none } : Oper)) (v := ?_) rfl (by kernel_rfl) (by kernel_rfl) (by kernel_rfl) (fun _ _ _ h => h) (Or.inl ⟨by rfl, ?_⟩) hS31 ?_
  rotate_left
  · intro w hSw; (try dsimp only at hSw); go_simp; (try with_reducible rfl)
  simp only [Act.put, List.setIfInBounds_toArray, List.set_cons_zero, List.set_cons_succ]
  refine wpAnyH_take (i := 67) (oi := ({ dst := some 0, op := Op.assign (Operand.tmp 103), type := 4, pos := "law.go:25", after := ([{ on := 66, ground := Ground.data }, { on := 63, ground := Ground.chain }, { on := 0, ground := Ground.phase }, { on := 1, ground := Ground.phase }, { on := 2, ground := Ground.phase }, { on := 3, ground := Ground.phase }, { on := 4, ground := Ground.phase }, { on := 5, ground := Ground.phase }, { on := 6, ground := Ground.phase }, { on := 7, ground := Ground.phase }, { on := 8, ground := Ground.phase }, { on := 9, ground := Ground.phase }, { on := 10, ground := Ground.phase }, { on := 11, ground := Ground.phase }, { on := 12, ground := Ground.phase }, { on := 13, ground := Ground.phase }, { on := 14, ground := Ground.phase }, { on := 15, ground := Ground.phase }, { on := 16, ground := Ground.phase }, { on := 17, ground := Ground.phase }, { on := 18, ground := Ground.phase }, { on := 19, ground := Ground.phase }, { on := 20, ground := Ground.phase }, { on := 21, ground := Ground.phase }, { on := 22, ground := Ground.phase }, { on := 23, ground := Ground.phase }, { on := 24, ground := Ground.phase }, { on := 25, ground := Ground.phase }, { on := 26, ground := Ground.phase }, { on := 27, ground := Ground.phase }, { on := 28, ground := Ground.phase }, { on := 29, ground := Ground.phase }, { on := 30, ground := Ground.phase }, { on := 31, ground := Ground.phase }].append [{ on := 32, ground := Ground.phase }, { on := 33, ground := Ground.phase }, { on := 34, ground := Ground.phase }, { on := 35, ground := Ground.phase }, { on := 36, ground := Ground.phase }, { on := 37, ground := Ground.phase }, { on := 38, ground := Ground.phase }, { on := 39, ground := Ground.phase }, { on := 40, ground := Ground.phase }, { on := 41, ground := Ground.phase }, { on := 42, ground := Ground.phase }, { on := 43, ground := Ground.phase }, { on := 44, ground := Ground.phase }, { on := 45, ground := Ground.phase }, { on := 46, ground := Ground.phase }, { on := 47, ground := Ground.phase }, { on := 48, ground := Ground.phase }, { on := 49, ground := Ground.phase }, { on := 50, ground := Ground.phase }, { on := 51, ground := Ground.phase }, { on := 52, ground := Ground.phase }, { on := 53, ground := Ground.phase }, { on := 54, ground := Ground.phase }, { on := 55, ground := Ground.phase }, { on := 56, ground := Ground.phase }, { on := 57, ground := Ground.phase }, { on := 58, ground := Ground.phase }, { on := 59, ground := Ground.phase }, { on := 60, ground := Ground.phase }, { on := 61, ground := Ground.phase }, { on := 62, ground := Ground.phase }, { on := 63, ground := Ground.phase }, { on := 64, ground := Ground.phase }, { on := 65, ground := Ground.phase }, { on := 66, ground := Ground.phase }]).toArray, guard := none } : Oper)) (v := ?_) rfl (by kernel_rfl) (by kernel_rfl) (by kernel_rfl) (fun _ _ _ h => h) (Or.inl ⟨by rfl, ?_⟩) hS31 ?_
  rotate_left
  · intro w hSw; (try dsimp only at hSw); go_simp; (try with_reducible rfl)
  simp only [Act.put, List.setIfInBounds_toArray, List.set_cons_zero]
  refine wpAnyH_done (by kernel_rfl) ?_ _
  go_wp2_with fail
  go_ret
  exact ⟨rfl, hnext L20.out hS31.1⟩
end Go.Proofs.Ytmgafcblbbbanaa

namespace Go.Proofs.Ytmgafcblbbbanaa
open Go.ChangeShapes Go.WideShapes Go.Joins Go.Deep

theorem cellsSchema : Try.prog.cellsOf 24 = 3 := by kernel_rfl
theorem cellsColumn : Try.prog.cellsOf 49 = 3 := by kernel_rfl
theorem cellsB : Try.prog.cellsOf 4 = 1 := by kernel_rfl
theorem cellsCs : Try.prog.cellsOf 22 = 1 := by kernel_rfl
theorem list3 {α : Type} {cs : List α} (h : cs.length = 3) : ∃ c0 c1 c2, cs = [c0, c1, c2] := by
  match cs, h with
  | [c0, c1, c2], _ => exact ⟨c0, c1, c2, rfl⟩
instance : Inhabited Sc.C := ⟨⟨⟨#[]⟩, 0, false⟩⟩
/-- columns that come in -/
theorem open_cols {H : Type} {enc : TypeId × Value → H} {W : World} {base : Nat} {sp : Nat → Bool} {hd : Bool} {v : Value} {x : DataW H × List MemPlace} {fuel : Nat} (hf : DataW.trod enc Try.prog W base sp hd fuel 22 [v] = some x) :
    ∃ l : List Sc.C, CsAt W v l ∧ ∀ c ∈ l, c.name.size ≤ maxLen ∧ (Lit.int .i64 c.kind).wf = true := by
  rcases open_slice Try.underlying22 hf with ⟨e, _⟩ | ⟨a', len, cap, m, n, D, Pl, e, hb, hl, hc, hm, _, hx⟩
  · simp at e
    subst e
    exact ⟨[], CsAt.nil _, fun c hc => absurd hc List.not_mem_nil⟩
  · simp at e
    subst e
    have hlm : len ≤ m := by rw [hm]; split <;> omega
    have each : ∀ i, i < len → ∃ s : Sc.C, (s.name.size ≤ maxLen ∧ (Lit.int .i64 s.kind).wf = true) ∧ W.cell? (a'.add (i * 3)) = some (.string s.name) ∧ W.cell? (a'.add (i * 3 + 1)) = some (.int .i64 s.kind) ∧ W.cell? (a'.add (i * 3 + 2)) = some (.bool s.need) := by
      intro i hi
      obtain ⟨cs', h1, h2⟩ := hx i (by omega)
      rw [cellsColumn] at h1
      obtain ⟨_, hlen, hcell⟩ := World.cells?_some h1
      obtain ⟨c0, c1, c2, rfl⟩ := list3 hlen
      obtain ⟨y0, y1, y2, k, _, _, g0, g1, g2⟩ := trod_struct3 Try.underlying49 h2
      simp [cellsI, cellsB, cellsS] at g0 g1 g2
      obtain ⟨k0, e0, _, w0⟩ := DataW.trod_string Try.underlying9 g0
      obtain ⟨k1, e1, _, w1⟩ := DataW.trod_int Try.underlying3 g1
      obtain ⟨k2, e2, _⟩ := DataW.trod_bool Try.underlying4 g2
      simp at e0 e1 e2
      subst e0 e1 e2
      have q0 := hcell 0 (by omega)
      have q1 := hcell 1 (by omega)
      have q2 := hcell 2 (by omega)
      rw [add_add] at q0 q1 q2
      exact ⟨⟨k0, k1, k2⟩, ⟨w0, w1⟩, by simpa using q0, by simpa using q1, by simpa using q2⟩
    have hmax : len ≤ maxLen := by omega
    obtain ⟨S, hS⟩ := choose_lt each
    refine ⟨(List.range len).map S, ⟨some a', cap, by simp, by simpa using hl, hc, fun k hk => ?_⟩, fun x hx => ?_⟩
    · have hk' : k < len := by simpa using hk
      obtain ⟨bb, off, spot⟩ := a'
      obtain ⟨_, q0, q1, q2⟩ := hS k hk'
      have g0 := (hS 0 (by omega)).2.1
      have hs : spot = none := World.cell?_spot (a := ⟨bb, off, spot⟩) (by simpa [Addr.add] using g0)
      subst hs
      rw [add_plain] at q0 q1 q2
      have hg : ((List.range len).map S)[k] = S k := by simp
      rw [hg]
      exact ⟨bb, off, rfl, q0, by rw [Nat.add_assoc]; exact q1, by rw [Nat.add_assoc]; exact q2⟩
    · obtain ⟨i, hi, rfl⟩ := List.mem_map.1 hx
      exact (hS i (List.mem_range.1 hi)).1
/-- a schema that comes in -/
def SchemaIn (W : World) (s : Sc.S) (u : Value) : Prop := CsAt W u s.cols ∧ Sok s
theorem open_schema {H : Type} {enc : TypeId × Value → H} {W : World} {base b0 : Nat} {sp : Nat → Bool} {hd : Bool} {r : Reach} {v : Value} {d : DataW H} {p : List MemPlace} (hv : Value.okWide Try.prog W r b0 24 v) (h : DataW.Trod enc Try.prog W base sp hd 24 v d p) :
    ∃ (s : Sc.S) (u : Value), v = sv s u ∧ SchemaIn W s u := by
  obtain ⟨v0, v1, v2, y0, y1, y2, n, rfl, _, _, h0, h1, h2⟩ := open_agg3 Try.underlying24 (by kernel_rfl) cellsSchema hv h
  obtain ⟨nm, e0, _, w0⟩ := DataW.trod_string Try.underlying9 h0
  obtain ⟨ks, e2, _, _⟩ := DataW.trod_int Try.underlying3 h2
  simp at e0 e2
  subst e0 e2
  obtain ⟨l, hl, hl2⟩ := open_cols h1
  exact ⟨⟨nm, l, ks⟩, v1, rfl, hl, w0, fun c hc => (hl2 c hc).1⟩
end Go.Proofs.Ytmgafcblbbbanaa
