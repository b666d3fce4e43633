/-
  What the laws of frames need, plainly. No condition.
-/
import Derived.Test.YtmmegicaeaifaaaGk
import Derived.Test.YtmmegicaeaifaaaGh
import Derived.Test.YtmmegicaeaifaaaOp
namespace Go.Proofs.Ytmmegicaeaifaaa
open Go.RowKit Fr

namespace Fr
theorem splitF_len {s : ByteArray} : ∀ (f i : Nat) (l : List ByteArray), i ≤ s.size → (splitF s f i l).1.length + i ≤ l.length + (splitF s f i l).2.1 ∧ (splitF s f i l).2.1 ≤ s.size := by
  intro f
  induction f with
  | zero => intro i l h; exact ⟨Nat.le_refl _, h⟩
  | succ f ih =>
    intro i l h
    by_cases h0 : s.size ≤ i
    · rw [split_end h0]; exact ⟨Nat.le_refl _, h⟩
    · by_cases h1 : (nextR (s.extract i s.size)).2.2 ≠ 0
      · rw [split_bad h0 h1]; exact ⟨Nat.le_refl _, h⟩
      · rw [split_next h0 h1]
        rcases next_ways (s.extract i s.size) with ⟨h2, _⟩ | ⟨_, h2, h3, _⟩
        · exact absurd h2 h1
        · have hs : (s.extract i s.size).size ≤ s.size - i := by
            rw [ByteArray.size_extract]; omega
          have := ih (i + (nextR (s.extract i s.size)).2.1) (l ++ [(nextR (s.extract i s.size)).1]) (by omega)
          rw [List.length_append] at this
          simp only [List.length_cons, List.length_nil] at this
          omega
theorem splitR_len (s : ByteArray) : (splitR s).1.length ≤ (splitR s).2.1 ∧ (splitR s).2.1 ≤ s.size := by
  have := splitF_len (s := s) (s.size + 1) 0 [] (Nat.zero_le _)
  unfold splitR
  simpa using this
theorem frame_size (t : Tx) : (bstr (frame t)).size ≤ 100008 := by
  rw [bstr_size]
  by_cases h : body t = []
  · rw [frame_no h]; exact Nat.zero_le _
  · rw [frame_fr h, fr_len]; have := body_size t; omega
theorem frame_nil {t : Tx} : frame t = [] ↔ body t = [] := by
  constructor
  · intro h
    refine Classical.byContradiction fun hb => ?_
    rw [frame_fr hb] at h
    have := congrArg List.length h
    rw [fr_len] at this
    simp at this
  · exact frame_no
end Fr
/-- what both Decodes leave is the same -/
theorem dec_pair {b : ByteArray} {t u : Tx} {e f : Int} (hk : Hok t.cs) (hk' : Hok u.cs) (h : (e = 0 ∧ body t ≠ [] ∧ b = bstr (body t)) ∨ (e = 7 ∧ t = noT ∧ ∀ t', Hok t'.cs → body t' ≠ [] → b ≠ bstr (body t')))
    (h' : (f = 0 ∧ body u ≠ [] ∧ b = bstr (body u)) ∨ (f = 7 ∧ u = noT ∧ ∀ t', Hok t'.cs → body t' ≠ [] → b ≠ bstr (body t'))) : t = u ∧ e = f := by
  rcases h with ⟨h1, h2, h3⟩ | ⟨h1, h2, h3⟩
  · rcases h' with ⟨g1, g2, g3⟩ | ⟨_, _, g3⟩
    · have a := decR_body (fun c hc => (hk.2 c hc).1) h2 h3
      have d := decR_body (fun c hc => (hk'.2 c hc).1) g2 g3
      rw [a] at d
      injection d with d _
      exact ⟨d, by rw [h1, g1]⟩
    · exact absurd h3 (g3 t hk h2)
  · rcases h' with ⟨_, g2, g3⟩ | ⟨g1, g2, _⟩
    · exact absurd g3 (h3 u hk' g2)
    · exact ⟨by rw [h2, g2], by rw [h1, g1]⟩
theorem SsAt.take {w : World} {adr : Option Addr} {n cap : Nat} {l : List ByteArray} (h : SsAt w (.slice adr n cap) l) (m : Nat) (hm : m ≤ l.length) (cap' : Nat) : SsAt w (.slice adr m cap') (l.take m) := by
  obtain ⟨adr', cap'', e, hc⟩ := h
  cases e
  refine ⟨adr, cap', by rw [List.length_take, Nat.min_eq_left hm], fun k hk => ?_⟩
  have hk' : k < l.length := by rw [List.length_take] at hk; omega
  have hg : (l.take m)[k] = l[k] := List.getElem_take ..
  rw [hg]
  exact hc k hk'
end Go.Proofs.Ytmmegicaeaifaaa
