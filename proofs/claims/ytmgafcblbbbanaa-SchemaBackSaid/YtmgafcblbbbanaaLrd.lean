/-
  SchemaReads answers true at any text. No condition.
-/
import Derived.Test.YtmgafcblbbbanaaSm
namespace Go.Proofs.Ytmgafcblbbbanaa
open Go.RowKit

theorem same_self (s : Sc.S) : Sc.same s s = true := by unfold Sc.same; simp
set_option maxRecDepth 100000 in
set_option maxHeartbeats 6400000 in
theorem schemaReads_walk (b : ByteArray) (hb0 : b.size ≤ maxLen) (w : World) :
    Calls Try.prog 5 #[.string b] w fun e w' => e = .returned (.bool true) ∧ Below w.heap.size w w' := by
  unfold maxLen at hb0
  by_cases h : b.size ≤ 1000
  · have h2 : ¬ (1000 : Int) < b.size := by omega
    go_enter Try.func5, Try.ntmps5
    go_wp2_with fail
    refine (decode_any b (by omega) _).mono ?_; rintro e w1 ⟨s, v, er, rfl, c1, _, b1, h1⟩
    obtain ⟨adr, cap, rfl⟩ := c1.slc
    have C1 := hid c1
    have H1 := hid h1
    have L1 := hid b1
    clear c1 h1 b1
    obtain ⟨nm, cs, ks⟩ := s
    unfold sv
    simp only at C1 H1 ⊢
    go_wp2_with fail
    have hb2 := hba w1 (.cells #[.string nm, .slice adr cs.length cap, .int .i64 ks] 24)
    have S2 := BS.new w1 nm (.slice adr cs.length cap) ks
    have C2 := hid (C1.out.below hb2)
    have L2 := hid (hnext L1.out hb2)
    obtain ⟨g1, hg1⟩ : ∃ g1, w1.heap.size = g1 := ⟨_, rfl⟩
    rw [hg1] at S2 ⊢
    generalize w1.alloc (.cells #[.string nm, .slice adr cs.length cap, .int .i64 ks] 24) = w2 at *
    clear hb2 hg1 C1 L1
    refine (decodeR_any b (by omega) _).mono ?_; rintro e w3 ⟨s', v', er', rfl, c3, _, b3, h3⟩
    obtain ⟨rfl, rfl⟩ : (⟨nm, cs, ks⟩ : Sc.S) = s' ∧ er = er' := by
      rcases H1.out with ⟨a1, a2, a3⟩ | ⟨a1, a2, a3⟩
      · rcases h3 with ⟨b1, b2, b3⟩ | ⟨b1, b2, b3⟩
        · exact ⟨Sc.encode_inj a2 b2 (bstr_inj (a3.symm.trans b3)), by rw [a1, b1]⟩
        · exact absurd a3 (b3 _ a2)
      · rcases h3 with ⟨b1, b2, b3⟩ | ⟨b1, b2, b3⟩
        · exact absurd b3 (a3 _ b2)
        · exact ⟨by rw [a2, b2], by rw [a1, b1]⟩
    obtain ⟨adr', cap', rfl⟩ := c3.slc
    have S3 := S2.keep b3
    have C3 := hid (C2.out.below b3)
    have D3 := hid c3
    have L3 := hid (hnext L2.out b3)
    clear h3 H1 b3 c3 S2 C2 L2
    unfold sv
    simp only at D3 ⊢
    obtain ⟨a0, a1, a2, al⟩ := S3.cells
    go_wp2_with fail
    have hb4 := hba w3 (.cells #[.string nm, .slice adr' cs.length cap', .int .i64 ks] 24)
    have hs : Calls Try.prog 18 #[.agg #[.string nm, .slice adr cs.length cap, .int .i64 ks], .agg #[.string nm, .slice adr' cs.length cap', .int .i64 ks]] (w3.alloc (.cells #[.string nm, .slice adr' cs.length cap', .int .i64 ks] 24)) (fun e w' => e = .returned (.bool true) ∧ Below (w3.alloc (.cells #[.string nm, .slice adr' cs.length cap', .int .i64 ks] 24)).heap.size (w3.alloc (.cells #[.string nm, .slice adr' cs.length cap', .int .i64 ks] 24)) w') := by
      have := sameR_any ⟨nm, cs, ks⟩ ⟨nm, cs, ks⟩ (.slice adr cs.length cap) (.slice adr' cs.length cap') _ (C3.out.below hb4) (D3.out.below hb4)
      rw [same_self] at this
      exact this
    refine hs.mono ?_; rintro e w5 ⟨rfl, b5⟩
    have L5 := hid (hnext (hnext L3.out hb4) b5)
    clear hs hb4 b5 C3 D3 L3 S3 a0 a1 a2 al
    go_wp2_with fail
    refine (known_any _).mono ?_; rintro e w6 ⟨rfl, b6⟩
    go_wp2
    go_ret
    exact ⟨rfl, hnext L5.out b6⟩
  · have h' : (1000 : Int) < b.size := by omega
    go_enter Try.func5, Try.ntmps5
    go_wp2_with fail
    refine (known_any _).mono ?_; rintro e w3 ⟨rfl, b3⟩
    go_wp2
    go_ret
    exact ⟨rfl, b3⟩
end Go.Proofs.Ytmgafcblbbbanaa
