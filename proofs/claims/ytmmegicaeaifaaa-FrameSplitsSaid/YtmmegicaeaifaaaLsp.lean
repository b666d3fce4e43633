/-
  FrameSplits answers true at any transactions and any bytes. No condition.
-/
import Derived.Test.YtmmegicaeaifaaaGl
namespace Go.Proofs.Ytmmegicaeaifaaa
open Go.RowKit Fr

theorem frames_len (Bs : List (List UInt8)) (h : ∀ B ∈ Bs, B.length ≤ 100000) : (Bs.flatMap fr).length ≤ Bs.length * 100008 := by
  induction Bs with
  | nil => exact Nat.zero_le _
  | cons B Bs ih =>
    have a := h B (List.mem_cons_self ..)
    have b := ih (fun x hx => h x (List.mem_cons_of_mem _ hx))
    rw [List.flatMap_cons, List.length_append, List.length_cons, fr_len]; omega
set_option maxRecDepth 100000 in
set_option maxHeartbeats 12800000 in
theorem frameSplits_walk (v : Value) (l : List Tx) (tail : ByteArray) (w : World) (hl : l.length ≤ maxLen ∧ TsAt w v l ∧ ∀ x ∈ l, Hok x.cs) (_ : tail.size ≤ maxLen) :
    Calls Try.prog 7 #[v, .string tail] w fun e w' => e = .returned (.bool true) ∧ Below w.heap.size w w' := by
  obtain ⟨_, hv, hk⟩ := hl
  by_cases h1 : 8 < l.length
  · have h1' : (8 : Int) < (l.length : Int) := by omega
    obtain ⟨adr, cap, rfl, _⟩ := hv
    clear h1
    go_enter Try.func7, Try.ntmps7
    go_wp2_with fail
    refine (known_any _).mono ?_; rintro e w9 ⟨rfl, b9⟩
    go_wp2
    go_ret
    exact ⟨rfl, b9⟩
  have h1' : ¬ (8 : Int) < (l.length : Int) := by omega
  by_cases h2 : 500 < tail.size
  · have h2' : (500 : Int) < (tail.size : Int) := by omega
    obtain ⟨adr, cap, rfl, _⟩ := hv
    clear h1 h2
    go_enter Try.func7, Try.ntmps7
    go_wp2_with fail
    refine (known_any _).mono ?_; rintro e w9 ⟨rfl, b9⟩
    go_wp2
    go_ret
    exact ⟨rfl, b9⟩
  have h2' : ¬ (500 : Int) < (tail.size : Int) := by omega
  obtain ⟨adr, cap, rfl, hc⟩ := hv
  have HC := hid hc
  have HK := hid hk
  clear hc hk
  go_enter Try.func7, Try.ntmps7
  go_wp2_with fail
  go_loopw [7, 6, 5] (fun i m s wr => ∃ (k : Nat) (Bs : List (List UInt8)), k ≤ l.length ∧ Bs.length ≤ k ∧ (∀ B ∈ Bs, B.length ≤ 100000) ∧ i = .int .i64 (k : Int) ∧ m = .int .i64 (Bs.length : Int) ∧ s = .string (bstr (Bs.flatMap fr)) ∧ Below w.heap.size w wr) (fun i _ _ _ => l.length - (intOf i).toNat)
  case atStart => exact ⟨0, [], by omega, by simp, fun B hB => absurd hB List.not_mem_nil, rfl, rfl, rfl, Below.refl _ _⟩
  case round =>
    obtain ⟨k, Bs, hk, hBk, hBs, rfl, rfl, rfl, hbel⟩ := hrel
    obtain ⟨w4, rfl⟩ : ∃ w4 : World, w4 = wr := ⟨_, rfl⟩
    have hk0 : (0 : Int) ≤ (k : Int) := by omega
    have HBS := hid hBs
    clear hBs
    by_cases hkl : k < l.length
    · have hkl' : (k : Int) < (l.length : Int) := by omega
      obtain ⟨g, off, u, rfl, q0, q1, q2, hu⟩ := HC.out k hkl
      have hkx := HK.out _ (List.getElem_mem hkl)
      generalize l[k] = x at q0 q1 q2 hu hkx
      obtain ⟨ua, uc, rfl⟩ := hu.slc
      have cl := fun W (h : HsAt W (.slice ua x.cs.length uc) x.cs) => flight_full x _ W h hkx
      have ce := fun W (h : HsAt W (.slice ua x.cs.length uc) x.cs) => fencode_any x _ W h hkx
      have cr := fun W (h : HsAt W (.slice ua x.cs.length uc) x.cs) => fright_any x _ W h hkx
      unfold tv at cl ce cr
      have CL := hid cl
      have CE := hid ce
      have CR := hid cr
      have L := hid hbel
      have HU := hid (hu.below hbel)
      have Q0 := hid (hkeep q0 hbel)
      have Q1 := hid (hkeep q1 hbel)
      have Q2 := hid (hkeep q2 hbel)
      clear cl ce cr hkx hu hbel q0 q1 q2
      have hSz : (bstr (Bs.flatMap fr)).size ≤ 900000 := by have := frames_len Bs HBS.out; rw [bstr_size]; omega
      generalize hS : bstr (Bs.flatMap fr) = S at *
      have HS := hid hS
      clear hS
      have q0 := Q0.out
      have q1 := Q1.out
      have q2 := Q2.out
      go_wp2_with fail
      refine (CL.out _ HU.out).mono ?_; rintro e w5 ⟨⟨z, rfl, hz⟩, b⟩
      have HZ := hid hz
      clear hz q0 q1 q2
      replace L := hid (hnext L.out b)
      replace HU := hid (HU.out.below b)
      replace Q0 := hid (hkeep Q0.out b)
      replace Q1 := hid (hkeep Q1.out b)
      replace Q2 := hid (hkeep Q2.out b)
      clear b
      cases z with
      | false =>
        go_wp2_with fail
        go_roundw
        case rel => exact ⟨k + 1, Bs, by omega, by omega, HBS.out, by first | rfl | go_num, by first | rfl | go_num, by rw [HS.out], L.out⟩
        case measure => simp [intOf]; omega
      | true =>
        have q0 := Q0.out
        have q1 := Q1.out
        have q2 := Q2.out
        go_wp2_with fail
        refine (CR.out _ HU.out).mono ?_; rintro e w6 ⟨rfl, b⟩
        replace L := hid (hnext L.out b)
        replace HU := hid (HU.out.below b)
        replace Q0 := hid (hkeep Q0.out b)
        replace Q1 := hid (hkeep Q1.out b)
        replace Q2 := hid (hkeep Q2.out b)
        clear q0 q1 q2
        clear b
        cases hR : txB x with
        | false =>
          go_wp2_with fail
          go_roundw
          case rel => exact ⟨k + 1, Bs, by omega, by omega, HBS.out, by first | rfl | go_num, by first | rfl | go_num, by rw [HS.out], L.out⟩
          case measure => simp [intOf]; omega
        | true =>
          have hbx := HZ.out (by first | rfl | trivial) hR
          have p1 : ((bstr (frame x)).toList == []) = false := by rw [empty_eq]; exact decide_eq_false (fun h => hbx (frame_nil.1 h))
          have p2 : (bstr (frame x)).toList.isEmpty = false := by rw [empty_eq']; exact decide_eq_false (fun h => hbx (frame_nil.1 h))
          have hlx := body_size x
          have hfx := frame_fr hbx
          have hfz := frame_size x
          have hadd : ¬ 9223372036854775807 < S.size + (bstr (frame x)).size := by omega
          generalize hF : bstr (frame x) = F at *
          have HF := hid hF
          have HLX := hid hlx
          have HFX := hid hfx
          clear hbx hlx hfx hF
          have q0 := Q0.out
          have q1 := Q1.out
          have q2 := Q2.out
          go_wp2_with fail
          refine (CE.out _ HU.out).mono ?_; rintro e w7 ⟨rfl, b⟩
          replace L := hid (hnext L.out b)
          replace HU := hid (HU.out.below b)
          replace Q0 := hid (hkeep Q0.out b)
          replace Q1 := hid (hkeep Q1.out b)
          replace Q2 := hid (hkeep Q2.out b)
          clear q0 q1 q2
          clear b
          have q0 := Q0.out
          have q1 := Q1.out
          have q2 := Q2.out
          go_wp2_with fail
          refine (CE.out _ HU.out).mono ?_; rintro e w8 ⟨rfl, b⟩
          replace L := hid (hnext L.out b)
          replace HU := hid (HU.out.below b)
          replace Q0 := hid (hkeep Q0.out b)
          replace Q1 := hid (hkeep Q1.out b)
          replace Q2 := hid (hkeep Q2.out b)
          clear q0 q1 q2
          clear b
          go_wp2_with fail
          go_roundw
          case rel =>
            refine ⟨k + 1, Bs ++ [body x], by omega, by rw [List.length_append]; simp only [List.length_cons, List.length_nil]; omega, fun B hB => ?_, by first | rfl | go_num, ?_, ?_, L.out⟩
            · rcases List.mem_append.1 hB with h | h
              · exact HBS.out B h
              · rw [List.mem_singleton.1 h]; exact HLX.out
            · rw [List.length_append]; first | rfl | go_num
            · rw [← HS.out, ← HF.out, HFX.out, bstr_append, List.flatMap_append, List.flatMap_cons, List.flatMap_nil, List.append_nil]
          case measure => simp [intOf]; omega
    · obtain rfl : k = l.length := by omega
      clear hkl
      have L := hid hbel
      clear hbel
      have hfl := frames_len Bs HBS.out
      have hsA := split_frames ⟨#[]⟩ Bs HBS.out
      have hsB := split_frames tail Bs HBS.out
      rw [split_none] at hsA
      have e1 : bstr (Bs.flatMap fr ++ (⟨#[]⟩ : ByteArray).data.toList) = bstr (Bs.flatMap fr) := by rw [show (⟨#[]⟩ : ByteArray).data.toList = [] from rfl, List.append_nil]
      have e2 : bstr (Bs.flatMap fr ++ tail.data.toList) = bstr (Bs.flatMap fr) ++ tail := by rw [← bstr_append, bstr_of]
      rw [e1, List.append_nil, Nat.add_zero, ← bstr_size] at hsA
      rw [e2, ← bstr_size] at hsB
      have hlA : (Bs.map bstr).length = Bs.length := List.length_map ..
      have hsz : (bstr (Bs.flatMap fr)).size ≤ 900000 := by rw [bstr_size]; omega
      have hlR := splitR_len tail
      generalize bstr (Bs.flatMap fr) = S at *
      generalize Bs.map bstr = A at *
      generalize hn : Bs.length = n at *
      have ca := fun W => fsplit_any S (by omega) W
      have cb := fun W => fsplit_any (S ++ tail) (by rw [ByteArray.size_append]; omega) W
      unfold SplitP at ca cb
      rw [hsA] at ca
      rw [hsB] at cb
      have hN : (A ++ (splitR tail).1).length = n + (splitR tail).1.length := by rw [List.length_append, hlA]
      have hT : (A ++ (splitR tail).1).take n = A := by rw [← hlA]; exact List.take_left
      generalize splitR tail = R at *
      obtain ⟨R1, y, zz⟩ := R
      simp only at ca cb hN hT hlR
      have CA := hid ca
      have CB := hid cb
      have HT := hid hT
      have HA := hid hlA
      have m1 : ¬ ((A ++ R1).length : Int) < (n : Int) := by omega
      have m2 : ¬ ((S.size + y : Nat) : Int) < (S.size : Int) := by omega
      have m1' : (n : Int) ≤ ((A ++ R1).length : Int) := by omega
      have m2' : (S.size : Int) ≤ ((S.size + y : Nat) : Int) := by omega
      have hn8 : n ≤ 8 := by omega
      have hNmax : (A ++ R1).length ≤ 1000000 := by omega
      have hadd : ¬ 9223372036854775807 < S.size + tail.size := by omega
      generalize S.size + y = sy at *
      generalize hBB : A ++ R1 = BB at *
      clear hsA hsB e1 e2 ca cb hT hN hfl hsz hlR hBB
      go_wp2_with fail
      refine (CA.out _).mono ?_; rintro e w5 ⟨va, rfl, ho, b⟩
      replace L := hid (hnext L.out b)
      obtain ⟨a1, c1, rfl⟩ := ho.at.slc
      have SA := hid ho.at
      rw [hlA] at SA ⊢
      clear ho b
      go_wp2_with fail
      refine (CB.out _).mono ?_; rintro e w6 ⟨vb, rfl, ho, b⟩
      replace L := hid (hnext L.out b)
      replace SA := hid (SA.out.below b)
      have SB := hid ho.at
      rcases ho.2 with ⟨rfl, hz⟩ | ⟨g, cap2, cur, rfl, _, _, hcap, _, _, _⟩
      · obtain rfl : n = 0 := by omega
        have hm : BB = [] := List.length_eq_zero_iff.1 hz
        subst hm
        clear b ho hz
        go_wp2_with fail
        have ct := ftexts_any _ _ A [] _ SA.out SB.out (by omega) (by decide)
        rw [List.length_eq_zero_iff.1 HA.out] at ct
        rw [decide_eq_true (rfl : ([] : List ByteArray) = [])] at ct
        refine ct.mono ?_; rintro e w7 ⟨rfl, b⟩
        replace L := hid (hnext L.out b)
        clear b ct
        go_wp2_with fail
        refine (known_any _).mono ?_; rintro e w8 ⟨rfl, b⟩
        go_wp2
        go_ret
        exact ⟨rfl, hnext L.out b⟩
      · have hc1 : (n : Int) ≤ (cap2 : Int) := by omega
        have hc2 : (0 : Int) ≤ (n : Int) := by omega
        have hc3 : (n : Int).toNat = n := Int.toNat_natCast _
        clear b ho
        go_wp2_with fail
        have ct := ftexts_any _ _ A (BB.take n) _ SA.out (SB.out.take n (by omega) cap2) (by omega) (by rw [List.length_take]; omega)
        rw [HT.out, decide_eq_true (rfl : A = A)] at ct
        refine ct.mono ?_; rintro e w7 ⟨rfl, b⟩
        replace L := hid (hnext L.out b)
        clear b ct
        go_wp2_with fail
        refine (known_any _).mono ?_; rintro e w8 ⟨rfl, b⟩
        go_wp2
        go_ret
        exact ⟨rfl, hnext L.out b⟩
end Go.Proofs.Ytmmegicaeaifaaa
