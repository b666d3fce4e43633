/-
  SchemaBack answers true at any schema and text. No condition.
-/
import Derived.Test.YtmgafcblbbbanaaLrd
namespace Go.Proofs.Ytmgafcblbbbanaa
open Go.RowKit

theorem text_len (s : ByteArray) (h : s.size ≤ 100) : (Cd.text s).length ≤ 110 := by
  unfold Cd.text
  have h1 := (Cd.enc_length s.size).2
  have h2 : s.data.toList.length = s.size := by simp
  rw [List.length_append]; omega
theorem cols_len : ∀ l : List Sc.C, (∀ c ∈ l, c.name.size ≤ 100) → (l.flatMap Sc.colB).length ≤ 130 * l.length := by
  intro l
  induction l with
  | nil => intro _; simp
  | cons c l ih =>
    intro h
    have h1 := text_len c.name (h c (by simp))
    have h2 := (Cd.enc_length c.kind.toNat).2
    have h3 := (Cd.enc_length (if c.need = true then 1 else 0)).2
    have h4 := ih (fun x hx => h x (by simp [hx]))
    have h5 : (Sc.colB c).length ≤ 130 := by
      unfold Sc.colB
      simp only [List.length_append]
      omega
    rw [List.flatMap_cons, List.length_append, List.length_cons]
    omega
theorem encode_len {s : Sc.S} {l : List Cd.V} (h : lightB s l = true) : (bstr (Sc.encode s)).size ≤ 1000000 := by
  obtain ⟨a1, a2, _, a4, _⟩ := lightB_yes h
  rw [bstr_size]
  unfold Sc.encode
  split
  · have h1 := cols_len s.cols a4
    have h2 := text_len s.name a2
    have h3 := (Cd.enc_length s.keys.toNat).2
    have h4 := (Cd.enc_length s.cols.length).2
    unfold Sc.headB
    simp only [List.length_append]
    omega
  · simp
set_option maxRecDepth 100000 in
set_option maxHeartbeats 12800000 in
theorem schemaBack_walk (s : Sc.S) (v : Value) (b : ByteArray) (w : World) (hs : SchemaIn w s v) (hb0 : b.size ≤ maxLen) :
    Calls Try.prog 6 #[sv s v, .string b] w fun e w' => e = .returned (.bool true) ∧ Below w.heap.size w w' := by
  obtain ⟨ca, za⟩ := hs
  have HCA := hid ca
  have hl := hid (fun W h => light_any s v [] (.slice none 0 0) W h (RsAt.nil W).1)
  obtain ⟨adr, cap, rfl⟩ := ca.slc
  have c1 := hid (fun W h => encode_any s (.slice adr s.cols.length cap) W h za)
  have c2 := hid (fun W h => right_sc s (.slice adr s.cols.length cap) W h za)
  have hlen := hid (fun h => encode_len (s := s) (l := []) h)
  have hdec := hid (fun h W => decode_any (bstr (Sc.encode s)) h W)
  have hself : Hid (Sc.same s s = true) := same_self s
  have hsame := hid (fun W u h h' => sameR_any s s (.slice adr s.cols.length cap) u W h h')
  have hinj : Hid (∀ t, Sc.right s = true → Sc.right t = true → bstr (Sc.encode s) = bstr (Sc.encode t) → s = t) := fun t h1 h2 h3 => Sc.encode_inj h1 h2 (bstr_inj h3)
  have hemp : Hid (Sc.right s = false → bstr (Sc.encode s) = ⟨#[]⟩) := fun h => by rw [Sc.encode_no h]; rfl
  have hne : Hid (∀ t, Sc.right t = true → (⟨#[]⟩ : ByteArray) ≠ bstr (Sc.encode t)) := fun t h e => Sc.encode_ne h (List.eq_nil_of_length_eq_zero (by have := congrArg ByteArray.size e; exact this.symm))
  clear ca za
  unfold maxLen at hb0
  have S0 := hid (BS.new w s.name (.slice adr s.cols.length cap) s.keys)
  have L0 := hid (hba w (.cells #[.string s.name, .slice adr s.cols.length cap, .int .i64 s.keys] 24))
  unfold sv at hl c1 c2 hsame ⊢
  cases hli : lightB s []
  · rw [hli] at hl
    clear hli hlen
    go_enter Try.func6, Try.ntmps6
    go_wp2_with fail
    refine (hl.out _ (HCA.out.below L0.out)).mono ?_; rintro e w1 ⟨rfl, b1⟩
    have LZ := hid (hnext L0.out b1)
    go_wp2_with fail
    refine (known_any _).mono ?_; rintro e wZ ⟨rfl, bZ⟩
    go_wp2
    go_ret
    exact ⟨rfl, hnext LZ.out bZ⟩
  rw [hli] at hl
  have HLEN := hid (hlen.out hli)
  clear hli hlen
  by_cases h : b.size ≤ 1000
  · have h2 : ¬ (1000 : Int) < b.size := by omega
    have hb6 : b.size ≤ 1000000 := by omega
    cases hr : Sc.right s
    · skip
      have hrf := hid hr
      rw [hr] at c2
      clear hr
      go_enter Try.func6, Try.ntmps6
      go_wp2_with fail
      refine (hl.out _ (HCA.out.below L0.out)).mono ?_; rintro e w1 ⟨rfl, b1⟩
      have S1 := S0.out.keep b1
      have L1 := hid (hnext L0.out b1)
      clear b1 S0
      obtain ⟨s0, s1, s2, sl⟩ := S1.cells
      go_wp2_with fail
      refine (c1.out _ (HCA.out.below L1.out)).mono ?_; rintro e w2 ⟨rfl, b2⟩
      have S2 := S1.keep b2
      have L2 := hid (hnext L1.out b2)
      clear b2 S1 s0 s1 s2 sl
      go_wp2_with fail
      refine (hdec.out HLEN.out _).mono ?_; rintro e w3 ⟨t, vt, et, rfl, ct, zt, b3, ht⟩
      obtain ⟨rfl, rfl⟩ : (⟨⟨#[]⟩, [], 0⟩ : Sc.S) = t ∧ 7 = et := by
        rcases ht with ⟨a1, a2, a3⟩ | ⟨a1, a2, a3⟩
        · exact absurd ((hemp.out hrf.out).symm.trans a3) (hne.out t a2)
        · exact ⟨a2.symm, a1.symm⟩
      obtain ⟨adrt, capt, rfl⟩ := ct.slc' (m := 0) rfl
      have S3 := S2.keep b3
      have C3 := hid ct
      have L3 := hid (hnext L2.out b3)
      clear ht zt b3 ct S2
      unfold sv
      dsimp only
      go_wp2_with fail
      have hb3 := hba w3 (.cells #[.string ⟨#[]⟩, .slice adrt 0 capt, .int .i64 0] 24)
      have T4 := BS.new w3 ⟨#[]⟩ (.slice adrt 0 capt) 0
      have S4 := S3.keep hb3
      have C4 := hid (C3.out.below hb3)
      have L4 := hid (hnext L3.out hb3)
      obtain ⟨g1, hg1⟩ : ∃ g1, w3.heap.size = g1 := ⟨_, rfl⟩
      rw [hg1] at T4 ⊢
      generalize w3.alloc (.cells #[.string ⟨#[]⟩, .slice adrt 0 capt, .int .i64 0] 24) = w4 at *
      clear hb3 hg1 S3 C3 L3
      refine (decode_any b hb6 _).mono ?_; rintro e w5 ⟨u, vu, eu, rfl, cu, zu, b5, hu⟩
      obtain ⟨adru, capu, rfl⟩ := cu.slc
      have S5 := S4.keep b5
      have T5 := T4.keep b5
      have C5 := hid (C4.out.below b5)
      have D5 := hid cu
      have ZU := hid zu
      have HU := hid hu
      have L5 := hid (hnext L4.out b5)
      clear hu zu b5 cu S4 T4 C4 L4
      obtain ⟨un, uc, uk⟩ := u
      unfold sv
      simp only at D5 ZU HU ⊢
      obtain ⟨a0, a1, a2, al⟩ := S5.cells
      obtain ⟨d0, d1, d2, dl⟩ := T5.cells
      go_wp2_with fail
      have hb5 := hba w5 (.cells #[.string un, .slice adru uc.length capu, .int .i64 uk] 24)
      have U6 := BS.new w5 un (.slice adru uc.length capu) uk
      have S6 := S5.keep hb5
      have T6 := T5.keep hb5
      have C6 := hid (C5.out.below hb5)
      have D6 := hid (D5.out.below hb5)
      have L6 := hid (hnext L5.out hb5)
      obtain ⟨g2, hg2⟩ : ∃ g2, w5.heap.size = g2 := ⟨_, rfl⟩
      rw [hg2] at U6 ⊢
      generalize w5.alloc (.cells #[.string un, .slice adru uc.length capu, .int .i64 uk] 24) = w6 at *
      clear hb5 hg2 S5 T5 C5 D5 L5 a0 a1 a2 al d0 d1 d2 dl
      refine (c2.out _ (HCA.out.below L6.out)).mono ?_; rintro e w7 ⟨rfl, b7⟩
      have S7 := S6.keep b7
      have T7 := T6.keep b7
      have U7 := U6.keep b7
      have C7 := hid (C6.out.below b7)
      have D7 := hid (D6.out.below b7)
      have L7 := hid (hnext L6.out b7)
      clear b7 S6 T6 U6 C6 D6 L6
      obtain ⟨a0, a1, a2, al⟩ := S7.cells
      obtain ⟨d0, d1, d2, dl⟩ := T7.cells
      obtain ⟨u0, u1, u2, ul⟩ := U7.cells
      have D8 := D7
      have L8 := L7
      rcases HU.out with ⟨rfl, x2, x3⟩ | ⟨rfl, x2, x3⟩
      · have HE : Hid (b = bstr (Sc.encode ⟨un, uc, uk⟩)) := x3
        have henc := hid (encode_any ⟨un, uc, uk⟩ (.slice adru uc.length capu) w7 D8.out ZU.out)
        unfold sv at henc
        simp only at henc
        rw [← HE.out] at henc
        clear x2 x3 HU
        go_wp2_with fail
        refine (henc.out).mono ?_; rintro e w9 ⟨rfl, b9⟩
        have LZ := hid (hnext L8.out b9)
        clear b9
        go_wp2_with fail
        refine (known_any _).mono ?_; rintro e wZ ⟨rfl, bZ⟩
        go_wp2
        go_ret
        exact ⟨rfl, hnext LZ.out bZ⟩
      · clear x2 x3 HU
        have LZ := L8
        go_wp2_with fail
        refine (known_any _).mono ?_; rintro e wZ ⟨rfl, bZ⟩
        go_wp2
        go_ret
        exact ⟨rfl, hnext LZ.out bZ⟩
    · skip
      have hrt := hid hr
      rw [hr] at c2
      clear hr
      go_enter Try.func6, Try.ntmps6
      go_wp2_with fail
      refine (hl.out _ (HCA.out.below L0.out)).mono ?_; rintro e w1 ⟨rfl, b1⟩
      have S1 := S0.out.keep b1
      have L1 := hid (hnext L0.out b1)
      clear b1 S0
      obtain ⟨s0, s1, s2, sl⟩ := S1.cells
      go_wp2_with fail
      refine (c1.out _ (HCA.out.below L1.out)).mono ?_; rintro e w2 ⟨rfl, b2⟩
      have S2 := S1.keep b2
      have L2 := hid (hnext L1.out b2)
      clear b2 S1 s0 s1 s2 sl
      go_wp2_with fail
      refine (hdec.out HLEN.out _).mono ?_; rintro e w3 ⟨t, vt, et, rfl, ct, zt, b3, ht⟩
      obtain ⟨rfl, rfl⟩ : s = t ∧ 0 = et := by
        rcases ht with ⟨a1, a2, a3⟩ | ⟨a1, a2, a3⟩
        · exact ⟨hinj.out t hrt.out a2 a3, a1.symm⟩
        · exact absurd rfl (a3 s hrt.out)
      obtain ⟨adrt, capt, rfl⟩ := ct.slc' (m := s.cols.length) rfl
      have S3 := S2.keep b3
      have C3 := hid ct
      have L3 := hid (hnext L2.out b3)
      clear ht zt b3 ct S2
      unfold sv
      dsimp only
      go_wp2_with fail
      have hb3 := hba w3 (.cells #[.string s.name, .slice adrt s.cols.length capt, .int .i64 s.keys] 24)
      have T4 := BS.new w3 s.name (.slice adrt s.cols.length capt) s.keys
      have S4 := S3.keep hb3
      have C4 := hid (C3.out.below hb3)
      have L4 := hid (hnext L3.out hb3)
      obtain ⟨g1, hg1⟩ : ∃ g1, w3.heap.size = g1 := ⟨_, rfl⟩
      rw [hg1] at T4 ⊢
      generalize w3.alloc (.cells #[.string s.name, .slice adrt s.cols.length capt, .int .i64 s.keys] 24) = w4 at *
      clear hb3 hg1 S3 C3 L3
      refine (decode_any b hb6 _).mono ?_; rintro e w5 ⟨u, vu, eu, rfl, cu, zu, b5, hu⟩
      obtain ⟨adru, capu, rfl⟩ := cu.slc
      have S5 := S4.keep b5
      have T5 := T4.keep b5
      have C5 := hid (C4.out.below b5)
      have D5 := hid cu
      have ZU := hid zu
      have HU := hid hu
      have L5 := hid (hnext L4.out b5)
      clear hu zu b5 cu S4 T4 C4 L4
      obtain ⟨un, uc, uk⟩ := u
      unfold sv
      simp only at D5 ZU HU ⊢
      obtain ⟨a0, a1, a2, al⟩ := S5.cells
      obtain ⟨d0, d1, d2, dl⟩ := T5.cells
      go_wp2_with fail
      have hb5 := hba w5 (.cells #[.string un, .slice adru uc.length capu, .int .i64 uk] 24)
      have U6 := BS.new w5 un (.slice adru uc.length capu) uk
      have S6 := S5.keep hb5
      have T6 := T5.keep hb5
      have C6 := hid (C5.out.below hb5)
      have D6 := hid (D5.out.below hb5)
      have L6 := hid (hnext L5.out hb5)
      obtain ⟨g2, hg2⟩ : ∃ g2, w5.heap.size = g2 := ⟨_, rfl⟩
      rw [hg2] at U6 ⊢
      generalize w5.alloc (.cells #[.string un, .slice adru uc.length capu, .int .i64 uk] 24) = w6 at *
      clear hb5 hg2 S5 T5 C5 D5 L5 a0 a1 a2 al d0 d1 d2 dl
      refine (c2.out _ (HCA.out.below L6.out)).mono ?_; rintro e w7 ⟨rfl, b7⟩
      have S7 := S6.keep b7
      have T7 := T6.keep b7
      have U7 := U6.keep b7
      have C7 := hid (C6.out.below b7)
      have D7 := hid (D6.out.below b7)
      have L7 := hid (hnext L6.out b7)
      clear b7 S6 T6 U6 C6 D6 L6
      obtain ⟨a0, a1, a2, al⟩ := S7.cells
      obtain ⟨d0, d1, d2, dl⟩ := T7.cells
      obtain ⟨u0, u1, u2, ul⟩ := U7.cells
      go_wp2_with fail
      refine (hsame.out _ _ (HCA.out.below L7.out) C7.out).mono ?_; rintro e w8 ⟨rfl, b8⟩
      rw [hself.out]
      have U8 := U7.keep b8
      have D8 := hid (D7.out.below b8)
      have L8 := hid (hnext L7.out b8)
      clear b8 S7 T7 U7 C7 D7 L7 a0 a1 a2 al d0 d1 d2 dl u0 u1 u2 ul
      obtain ⟨u0, u1, u2, ul⟩ := U8.cells
      rcases HU.out with ⟨rfl, x2, x3⟩ | ⟨rfl, x2, x3⟩
      · have HE : Hid (b = bstr (Sc.encode ⟨un, uc, uk⟩)) := x3
        have henc := hid (encode_any ⟨un, uc, uk⟩ (.slice adru uc.length capu) w8 D8.out ZU.out)
        unfold sv at henc
        simp only at henc
        rw [← HE.out] at henc
        clear x2 x3 HU
        go_wp2_with fail
        refine (henc.out).mono ?_; rintro e w9 ⟨rfl, b9⟩
        have LZ := hid (hnext L8.out b9)
        clear b9
        go_wp2_with fail
        refine (known_any _).mono ?_; rintro e wZ ⟨rfl, bZ⟩
        go_wp2
        go_ret
        exact ⟨rfl, hnext LZ.out bZ⟩
      · clear x2 x3 HU
        have LZ := L8
        go_wp2_with fail
        refine (known_any _).mono ?_; rintro e wZ ⟨rfl, bZ⟩
        go_wp2
        go_ret
        exact ⟨rfl, hnext LZ.out bZ⟩
  · have h' : (1000 : Int) < b.size := by omega
    go_enter Try.func6, Try.ntmps6
    go_wp2_with fail
    refine (hl.out _ (HCA.out.below L0.out)).mono ?_; rintro e w1 ⟨rfl, b1⟩
    have LZ := hid (hnext L0.out b1)
    go_wp2_with fail
    refine (known_any _).mono ?_; rintro e wZ ⟨rfl, bZ⟩
    go_wp2
    go_ret
    exact ⟨rfl, hnext LZ.out bZ⟩
end Go.Proofs.Ytmgafcblbbbanaa
