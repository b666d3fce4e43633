/-
  CrcTells answers true, whatever the text and the sum: the walk. No condition but that the text's length is an int.
-/
import Derived.Test.YtfockiaommiohaaKnown
namespace Go.Proofs.Ytfockiaommiohaa
open Go.RowKit

theorem u32_of {n : Int} (h : (Lit.int .u32 n).wf = true) : ∃ x : BitVec 32, n = (x.toNat : Int) := by
  have hx : 0 ≤ n ∧ n ≤ 4294967295 := by simpa [Lit.wf, IntKind.min, IntKind.max, IntKind.signed, IntKind.bits] using h
  refine ⟨BitVec.ofNat 32 n.toNat, ?_⟩
  rw [BitVec.toNat_ofNat]
  omega

set_option maxHeartbeats 800000 in
theorem crcTells_walk (s : ByteArray) (n : Int) (hs : s.size ≤ maxLen) (hn : (Lit.int .u32 n).wf = true) (w : World) :
    Calls Try.prog 3 #[.string s, .int .u32 n] w fun e w' => e = .returned (.bool true) ∧ Below w.heap.size w w' := by
  obtain ⟨x, rfl⟩ := u32_of hn
  unfold maxLen at hs
  by_cases h : s.size ≤ 3000
  · have hs2 : s.size ≤ 100000000 := by omega
    go_enter Try.func3, Try.ntmps3
    go_wp2_with fail
    refine (take_any s _ hs2).mono ?_; rintro e w1 ⟨rfl, hb1⟩
    go_wp2_with fail
    refine (takeR_any s _ hs2).mono ?_; rintro e w2 ⟨rfl, hb2⟩
    go_wp2_with fail
    refine (of_any s _ hs).mono ?_; rintro e w3 ⟨rfl, hb3⟩
    go_wp2_with fail
    refine (ofR_any s _ hs).mono ?_; rintro e w4 ⟨rfl, rfl⟩
    go_wp2_with fail
    refine (more_any x s _ hs).mono ?_; rintro e w5 ⟨rfl, hb5⟩
    go_wp2_with fail
    refine (moreR_any x s _ hs).mono ?_; rintro e w6 ⟨rfl, rfl⟩
    go_wp2_with fail
    refine (put_any s _ hs2).mono ?_; rintro e w7 ⟨rfl, hb7⟩
    go_wp2_with fail
    refine (putR_any s _ hs2).mono ?_; rintro e w8 ⟨rfl, hb8⟩
    go_wp2_with fail
    refine (known_any _).mono ?_; rintro e w9 ⟨rfl, hb9⟩
    go_wp2
    go_ret
    refine ⟨by simp, ?_⟩
    have g2 := hb1.trans (hb2.mono hb1.size)
    have g3 := g2.trans (hb3.mono g2.size)
    have g5 := g3.trans (hb5.mono g3.size)
    have g7 := g5.trans (hb7.mono g5.size)
    have g8 := g7.trans (hb8.mono g7.size)
    exact g8.trans (hb9.mono g8.size)
  · have hs2 : (3000 : Int) < s.size := by omega
    go_enter Try.func3, Try.ntmps3
    go_wp2_with fail
    refine (known_any _).mono ?_; rintro e w9 ⟨rfl, hb9⟩
    go_wp2
    go_ret
    exact ⟨rfl, hb9⟩
end Go.Proofs.Ytfockiaommiohaa
