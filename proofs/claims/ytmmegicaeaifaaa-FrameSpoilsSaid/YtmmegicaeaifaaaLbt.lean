/-
  FrameSpoils answers true at any transaction, place and byte. No condition.
-/
import Derived.Test.YtmmegicaeaifaaaGl
namespace Go.Proofs.Ytmmegicaeaifaaa
open Go.RowKit Fr

theorem u8_of {n : Int} (h : (Lit.int .u8 n).wf = true) : ∃ c : UInt8, n = (c.toNat : Int) := by
  have hx : 0 ≤ n ∧ n ≤ 255 := by simpa [Lit.wf, IntKind.min, IntKind.max, IntKind.signed, IntKind.bits] using h
  refine ⟨UInt8.ofNat n.toNat, ?_⟩
  rw [UInt8.toNat_ofNat']
  omega
theorem u16_of {n : Int} (h : (Lit.int .u16 n).wf = true) : 0 ≤ n ∧ n ≤ 65535 := by simpa [Lit.wf, IntKind.min, IntKind.max, IntKind.signed, IntKind.bits] using h
theorem xor_ne (a b : UInt8) (h : b ≠ 0) : a ^^^ b ≠ a := by
  intro e
  apply h
  have : a ^^^ (a ^^^ b) = a ^^^ a := by rw [e]
  simpa [← UInt8.xor_assoc] using this
theorem byte_xor (a b : UInt8) : bits .xor .u8 (a.toNat : Int) (b.toNat : Int) = ((a ^^^ b).toNat : Int) := by
  rw [UInt8.toNat_xor]; exact u8_xor_nat _ _ a.toNat_lt b.toNat_lt
theorem spoil_list (F : List UInt8) (k : Nat) (c : UInt8) : (bstr F).extract 0 k ++ bstr [c] ++ (bstr F).extract (k + 1) (bstr F).size = bstr (F.take k ++ [c] ++ F.drop (k + 1)) := by
  have e1 : (bstr F).extract 0 k = bstr (F.take k) := extract_bstr (bstr F) k
  have e2 : (bstr F).extract (k + 1) (bstr F).size = bstr (F.drop (k + 1)) := ba_eq (extract_drop (bstr F) (k + 1))
  rw [e1, e2, bstr_append, bstr_append]
theorem spoil_cut (F : List UInt8) (k : Nat) : (bstr F).extract 0 k = bstr (F.take k) := extract_bstr (bstr F) k
theorem bstr_get (F : List UInt8) (k : Nat) (hk : k < (bstr F).size) : (bstr F)[k] = F[k]'hk := rfl
theorem spoil_facts (t : Tx) (hbt : body t ≠ []) (k : Nat) (h4 : 4 ≤ k) (hk : k < (bstr (frame t)).size) : Hid (∀ W, Calls Try.prog 21 #[.string ((bstr (frame t)).extract 0 k)] W fun e w' => e = .returned (.tuple #[.string ⟨#[]⟩, .int .i64 0, .int .i64 8]) ∧ Below W.heap.size W w') ∧
    Hid (∀ (c : UInt8), c ≠ (bstr (frame t))[k] → ∀ W, Calls Try.prog 21 #[.string ((bstr (frame t)).extract 0 k ++ bstr [c] ++ (bstr (frame t)).extract (k + 1) (bstr (frame t)).size)] W fun e w' => e = .returned (.tuple #[.string ⟨#[]⟩, .int .i64 0, .int .i64 9]) ∧ Below W.heap.size W w') := by
  have hf := frame_fr hbt
  have hsz : (body t).length ≤ 100000 := body_size t
  have hkl : k < (frame t).length := hk
  have hkf : k < (body t).length + 8 := by rw [hf, fr_len] at hkl; exact hkl
  constructor
  · intro W
    have hz : (bstr ((fr (body t)).take k)).size ≤ 1000000 := by rw [bstr_size, List.length_take, fr_len]; omega
    have := fnext_any (bstr ((fr (body t)).take k)) hz W
    rw [next_cut hsz h4 hkf] at this
    rw [spoil_cut, hf]
    exact this
  · intro c hc W
    rw [bstr_get] at hc
    have hc' : c ≠ (fr (body t))[k]'(by rw [fr_len]; exact hkf) := fun h => hc (h.trans (getElem_congr_coll hf.symm))
    have hbn := next_bent hsz h4 hkf hc'
    have hz : (bstr ((fr (body t)).take k ++ [c] ++ (fr (body t)).drop (k + 1))).size ≤ 1000000 := by rw [bstr_size]; simp only [List.length_append, List.length_take, List.length_drop, fr_len, List.length_cons, List.length_nil]; omega
    have := fnext_any (bstr ((fr (body t)).take k ++ [c] ++ (fr (body t)).drop (k + 1))) hz W
    rw [hbn] at this
    rw [spoil_list, hf]
    exact this
set_option maxRecDepth 100000 in
set_option maxHeartbeats 12800000 in
theorem frameSpoils_walk (t : Tx) (u : Value) (n m : Int) (w : World) (ht : TIn w t u) (hn : (Lit.int .u16 n).wf = true) (hm : (Lit.int .u8 m).wf = true) :
    Calls Try.prog 6 #[tv t u, .int .u16 n, .int .u8 m] w fun e w' => e = .returned (.bool true) ∧ Below w.heap.size w w' := by
  obtain ⟨hv, hk⟩ := ht
  have BX := hid (BT.new w t u)
  have L := hid (hba w (.cells #[.int .i64 t.seq, .int .i64 t.time, u] 24))
  have HV := hid (hv.below (hba w (.cells #[.int .i64 t.seq, .int .i64 t.time, u] 24)))
  have KT := hid hk
  obtain ⟨adr, cap, rfl⟩ := hv.slc
  have cl := fun W (h : HsAt W (.slice adr t.cs.length cap) t.cs) => flight_full t _ W h hk
  have ce := fun W (h : HsAt W (.slice adr t.cs.length cap) t.cs) => fencode_any t _ W h hk
  have cb := fun W (h : HsAt W (.slice adr t.cs.length cap) t.cs) => fbody_any t _ W h hk
  have cr := fun W (h : HsAt W (.slice adr t.cs.length cap) t.cs) => fright_any t _ W h hk
  unfold tv at cl ce cb cr
  have CL := hid cl
  have CE := hid ce
  have CB := hid cb
  have CR := hid cr
  clear hv hk cl ce cb cr
  unfold tv
  obtain ⟨n0, n1⟩ := u16_of hn
  obtain ⟨b, rfl⟩ := u8_of hm
  by_cases hbt : body t = []
  · have hs := CE.out
    rw [frame_no hbt] at hs
    replace CE := hid hs
    have q1 : ((bstr []).toList == []) = true := by rw [empty_eq]; exact decide_eq_true rfl
    have q2 : (bstr []).toList.isEmpty = true := by rw [empty_eq']; exact decide_eq_true rfl
    have q3 : ((bstr []).size : Int) < 8 := by decide
    clear hs hbt
    generalize bstr [] = S at *
    obtain ⟨s0, s1, s2, _, _, _, _⟩ := BX.out.cells
    go_enter Try.func6, Try.ntmps6
    go_wp2_with fail
    refine (CL.out _ HV.out).mono ?_; rintro e w1 ⟨⟨z, rfl, hz⟩, b⟩
    have HZ := hid hz
    clear hz s0 s1 s2
    replace L := hid (hnext L.out b)
    replace BX := hid (BX.out.keep b)
    replace HV := hid (HV.out.below b)
    clear b
    cases z with
    | false =>
      go_wp2_with fail
      refine (known_any _).mono ?_; rintro e w2 ⟨rfl, b⟩
      go_wp2
      go_ret
      exact ⟨rfl, hnext L.out b⟩
    | true =>
      obtain ⟨s0, s1, s2, _, _, _, _⟩ := BX.out.cells
      go_wp2_with fail
      refine (CE.out _ HV.out).mono ?_; rintro e w2 ⟨rfl, b⟩
      replace L := hid (hnext L.out b)
      replace BX := hid (BX.out.keep b)
      replace HV := hid (HV.out.below b)
      clear b
      clear s0 s1 s2
      go_wp2_with fail
      refine (known_any _).mono ?_; rintro e w3 ⟨rfl, b⟩
      go_wp2
      go_ret
      exact ⟨rfl, hnext L.out b⟩
  have hf := frame_fr hbt
  have hsz : (body t).length ≤ 100000 := body_size t
  have hsl : (bstr (frame t)).size = (body t).length + 8 := by rw [bstr_size, hf, fr_len]
  have hB := fun k h4 hk => spoil_facts t hbt k h4 hk
  have q1 : ((bstr (frame t)).toList == []) = false := by rw [empty_eq]; exact decide_eq_false (fun h => hbt (frame_nil.1 h))
  have q2 : (bstr (frame t)).toList.isEmpty = false := by rw [empty_eq']; exact decide_eq_false (fun h => hbt (frame_nil.1 h))
  have q3 : ¬ ((bstr (frame t)).size : Int) < 8 := by omega
  have q4 : (bstr (frame t)).size ≤ 100008 := by omega
  generalize bstr (frame t) = S at *
  obtain ⟨M, hM⟩ : ∃ M : Int, M = (S.size : Int) - 4 := ⟨_, rfl⟩
  have hM4 : 4 ≤ M := by omega
  obtain ⟨r, hr, hrM⟩ : ∃ r : Nat, n % M = (r : Int) ∧ (r : Int) < M := ⟨(n % M).toNat, by have := Int.emod_nonneg n (show M ≠ 0 by omega); omega, by have := Int.emod_lt_of_pos n (show 0 < M by omega); omega⟩
  obtain ⟨k, hkr⟩ : ∃ k : Nat, k = 4 + r := ⟨_, rfl⟩
  have hkS : k < S.size := by omega
  obtain ⟨CC, CB2⟩ := hB k (by omega) hkS
  have m0 : IntKind.i64.wrap ((S.size : Int) - 4) = M := by rw [IntKind.wrap_i64]; omega
  have m1 : ¬ M = 0 := by omega
  have m1' : (M == 0) = false := by rw [beq_eq_false_iff_ne]; omega
  have m2 : Int.tmod n M = (r : Int) := by rw [Int.tmod_eq_emod_of_nonneg n0]; exact hr
  have m2' : n % M = (r : Int) := hr
  have m2'' : IntKind.i64.wrap (r : Int) = (r : Int) := by rw [IntKind.wrap_i64]; omega
  have m3 : IntKind.i64.wrap (4 + (r : Int)) = (k : Int) := by rw [IntKind.wrap_i64]; omega
  have m4 : IntKind.i64.wrap n = n := by rw [IntKind.wrap_i64]; omega
  have m5 : (k : Int) ≤ (S.size : Int) := by omega
  have m6 : (0 : Int) ≤ (k : Int) := by omega
  have m7 : (k : Int).toNat = k := Int.toNat_natCast _
  clear hf hsz hbt hB hsl hM hM4 hkr hr hrM
  by_cases hb0 : b = 0
  · subst hb0
    obtain ⟨s0, s1, s2, _, _, _, _⟩ := BX.out.cells
    go_enter Try.func6, Try.ntmps6
    go_wp2_with fail
    refine (CL.out _ HV.out).mono ?_; rintro e w1 ⟨⟨z, rfl, hz⟩, b⟩
    have HZ := hid hz
    clear hz s0 s1 s2
    replace L := hid (hnext L.out b)
    replace BX := hid (BX.out.keep b)
    replace HV := hid (HV.out.below b)
    clear b
    cases z with
    | false =>
      go_wp2_with fail
      refine (known_any _).mono ?_; rintro e w2 ⟨rfl, b⟩
      go_wp2
      go_ret
      exact ⟨rfl, hnext L.out b⟩
    | true =>
      obtain ⟨s0, s1, s2, _, _, _, _⟩ := BX.out.cells
      go_wp2_with fail
      refine (CE.out _ HV.out).mono ?_; rintro e w2 ⟨rfl, b⟩
      replace L := hid (hnext L.out b)
      replace BX := hid (BX.out.keep b)
      replace HV := hid (HV.out.below b)
      clear b
      clear s0 s1 s2
      go_wp2_with fail
      refine (CC.out _).mono ?_; rintro e w3 ⟨rfl, b⟩
      replace L := hid (hnext L.out b)
      replace BX := hid (BX.out.keep b)
      replace HV := hid (HV.out.below b)
      clear b
      go_wp2_with fail
      refine (known_any _).mono ?_; rintro e w4 ⟨rfl, b⟩
      go_wp2
      go_ret
      exact ⟨rfl, hnext L.out b⟩
  · have hb1 : ((b.toNat : Int) == 0) = false := by rw [beq_eq_false_iff_ne]; intro e; exact hb0 (UInt8.toNat_inj.1 (by simpa using e))
    obtain ⟨s0, s1, s2, _, _, _, _⟩ := BX.out.cells
    go_enter Try.func6, Try.ntmps6
    go_wp2_with fail
    refine (CL.out _ HV.out).mono ?_; rintro e w1 ⟨⟨z, rfl, hz⟩, b⟩
    have HZ := hid hz
    clear hz s0 s1 s2
    replace L := hid (hnext L.out b)
    replace BX := hid (BX.out.keep b)
    replace HV := hid (HV.out.below b)
    clear b
    cases z with
    | false =>
      go_wp2_with fail
      refine (known_any _).mono ?_; rintro e w2 ⟨rfl, b⟩
      go_wp2
      go_ret
      exact ⟨rfl, hnext L.out b⟩
    | true =>
      obtain ⟨s0, s1, s2, _, _, _, _⟩ := BX.out.cells
      go_wp2_with fail
      refine (CE.out _ HV.out).mono ?_; rintro e w2 ⟨rfl, b⟩
      replace L := hid (hnext L.out b)
      replace BX := hid (BX.out.keep b)
      replace HV := hid (HV.out.below b)
      clear b
      clear s0 s1 s2
      go_wp2_with fail
      refine (CC.out _).mono ?_; rintro e w3 ⟨rfl, b⟩
      replace L := hid (hnext L.out b)
      replace BX := hid (BX.out.keep b)
      replace HV := hid (HV.out.below b)
      clear b
      go_wp2_with fail
      obtain ⟨c, hx, hbent⟩ : ∃ c : UInt8, bits .xor .u8 (S[k].toNat : Int) (b.toNat : Int) = (c.toNat : Int) ∧ Hid (∀ W, Calls Try.prog 21 #[.string (S.extract 0 k ++ bstr [c] ++ S.extract (k + 1) S.size)] W fun e w' => e = .returned (.tuple #[.string ⟨#[]⟩, .int .i64 0, .int .i64 9]) ∧ Below W.heap.size W w') :=
        ⟨S[k] ^^^ b, byte_xor _ _, fun W => CB2.out _ (xor_ne _ _ hb0) W⟩
      have hsc := run_string_cell (P := Try.prog) 51 9 5 c Try.underlying51 Try.underlying5 Try.underlying9
      have h1c : (bstr [c]).size = 1 := rfl
      have hk0 : k ≤ S.size := by omega
      have hk1 : k + 1 ≤ S.size := by omega
      have hk2 : (k : Int) + 1 ≤ (S.size : Int) := by omega
      have hk3 : (k : Int) < (S.size : Int) := by omega
      have hw1 : IntKind.i64.wrap ((k : Int) + 1) = (k : Int) + 1 := IntWalk.i64_in _ (by omega)
      have hw2 : (0 : Int) ≤ (k : Int) + 1 := by omega
      have hw3 : ((k : Int) + 1).toNat = k + 1 := by omega
      go_region_with (first | (go_at_call 21; refine (hbent.out _).mono ?_; rintro e w7 ⟨rfl, hB3⟩; have hB4 := hid ((L.out.alloc L.out.size (.cells #[.int .u8 (c.toNat : Int)] 5)).drew.trans (hB3.mono (by have := L.out.size; simp; omega))); clear hB3))
      clear hw1 hw2 hw3 hx hsc h1c
      go_wp2_with fail
      refine (known_any _).mono ?_; rintro e w8 ⟨rfl, b⟩
      go_wp2
      go_ret
      exact ⟨rfl, hnext hB4.out b⟩
end Go.Proofs.Ytmmegicaeaifaaa
