/-
  CodeFew answers true at any number and text. No condition.
-/
import Derived.Test.YtanmomlkdfnakaaZig
namespace Go.Proofs.Ytanmomlkdfnakaa
open Go.RowKit

theorem Cd.uintR_small {l t : List UInt8} {n : Nat} (hn : n < 18446744073709551616) (h : l = Cd.enc n ++ t) : Cd.uintR l 0 = .ok (n, (Cd.enc n).length) := by
  have := (Cd.uint_back (l := l) (t := t) (i := 0) hn (by simpa using h)).1
  simpa using this
set_option maxRecDepth 100000 in
set_option maxHeartbeats 800000 in
theorem codeFew_walk (n0 : Int) (s : ByteArray) (hn0 : (Lit.int .u64 n0).wf = true) (hs : s.size ≤ maxLen) (w : World) :
    Calls Try.prog 7 #[.int .u64 n0, .string s] w fun e w' => e = .returned (.bool true) ∧ Below w.heap.size w w' := by
  obtain ⟨n, rfl, hn⟩ := u64_of hn0
  unfold maxLen at hs
  by_cases h : s.size ≤ 100
  · have c1 := hid (fun W => uint_any n hn W)
    have hA : Hid ((bstr (Cd.enc n) ++ s).data.toList = Cd.enc n ++ s.data.toList) := by show _ = _; rw [ByteArray.data_append]; simp [bstr]
    have hl := Cd.enc_length n
    have hAs : (bstr (Cd.enc n)).size = (Cd.enc n).length := bstr_size _
    have hb0 := Cd.u64_bound hn
    have hAt : (bstr (Cd.enc n) ++ s).size = (Cd.enc n).length + s.size := by rw [ByteArray.size_append, bstr_size]
    have hU := hid (Cd.uintR_small hn hA.out)
    have hE : Hid (Cd.enc n = Cd.encF 9 n) := rfl
    generalize hAA : bstr (Cd.enc n) = A at *
    have HAA := hid hAA
    clear hAA hn0 hA
    go_enter Try.func7, Try.ntmps7
    go_wp2_with fail
    refine (c1.out _).mono ?_; rintro e w1 ⟨rfl, b1⟩
    go_wp2_with fail
    go_loop [6, 7] (fun i j => ∃ k m f : Nat, i = .int .i64 (k : Int) ∧ j = .int .u64 (m : Int) ∧ m < 18446744073709551616 ∧ m < 2 * 128 ^ f ∧ 1 ≤ k ∧ k ≤ 11 ∧ k + (Cd.encF f m).length = (Cd.enc n).length + 1) (fun _ j => (intOf j).toNat)
    case atStart => exact ⟨1, n, 9, rfl, rfl, hn, hb0, by omega, by omega, by rw [hE.out]; omega⟩
    case round =>
      obtain ⟨k, m, f, rfl, rfl, hm, hmf, hk1, hk2, hkl⟩ := hrel
      by_cases hm128 : 128 ≤ m
      · obtain ⟨f', rfl, hlt, he⟩ := Cd.enc_next hm128 hmf
        have hm' : (128 : Int) ≤ m := by omega
        have hl2 := (Cd.encF_length f' (m / 128)).1
        rw [he, List.length_cons] at hkl
        go_wp2
        go_round
        case rel => exact ⟨k + 1, m / 128, f', by go_num, by go_num, by omega, hlt, by omega, by omega, by omega⟩
        case measure => simp [intOf]; omega
      · rw [Cd.encF_small f (by omega)] at hkl
        have hkk : (A.size : Int) = (k : Int) := by simp at hkl; omega
        have hm' : ¬ (128 : Int) ≤ m := by omega
        go_wp2_with fail
        refine (new_any _ _).mono ?_; rintro e w2 ⟨rfl, hw2⟩
        have R0 := new_rdr (A ++ s) w1
        rw [← hw2] at R0
        have b2 := hba w1 (.cells #[.string (A ++ s), .int .i64 0, .int .i64 0] 60)
        rw [← hw2] at b2
        have hg0 := b1.size
        clear hw2
        generalize w1.heap.size = g at *
        have hG := hid hg0
        have hU2 := top_ok (z := 0) hU.out
        have hmu := hid (mUint g (A ++ s) 0 0 w2 R0 (by omega) (by omega))
        rw [hU2] at hmu
        have hleft := hid (fun W h => left_any g (A ++ s) (Cd.enc n).length 0 W h (by omega) (by omega))
        rw [show (A ++ s).size - (Cd.enc n).length = s.size by omega] at hleft
        have herr := hid (fun W h => err_any g (A ++ s) (Cd.enc n).length 0 W h)
        clear hU2 hmf hm hg0 hE hb0 R0
        go_wp2_with fail
        refine (hmu.out).mono ?_; rintro e w3 ⟨rfl, u3, R3, _⟩
        go_wp2_with fail
        refine (hleft.out _ R3).mono ?_; rintro e w4 ⟨rfl, b4⟩
        have R4 := R3.keep b4
        go_wp2_with fail
        refine (herr.out _ R4).mono ?_; rintro e w5 ⟨rfl, rfl⟩
        go_wp2_with fail
        refine (known_any _).mono ?_; rintro e w6 ⟨rfl, b6⟩
        go_wp2
        go_ret
        refine ⟨rfl, ?_⟩
        have A1 : Below w.heap.size w w2 := b1.trans (b2.mono hG.out)
        have A2 := A1.size
        have A3 := A1.grown u3 A2 (fun q hq => by cases hq; exact hG.out)
        exact hnext (hnext A3 b4) b6
  · have h' : (100 : Int) < s.size := by omega
    go_enter Try.func7, Try.ntmps7
    go_wp2_with fail
    refine (known_any _).mono ?_; rintro e w3 ⟨rfl, b3⟩
    go_wp2
    go_ret
    exact ⟨rfl, b3⟩
end Go.Proofs.Ytanmomlkdfnakaa
