/-
  Texts, values and rows: what is written is read as it was. No program in sight. No condition.
-/
import Derived.Test.YtmgafcblbbbanaaCdL
import Derived.Test.YtmgafcblbbbanaaCdR
namespace Go.Proofs.Ytmgafcblbbbanaa
namespace Cd

theorem drop_len {l a r : List UInt8} {i : Nat} (h : l.drop i = a ++ r) : a ≠ [] → i + a.length ≤ l.length := by
  intro ha
  have := congrArg List.length h
  rw [List.length_drop, List.length_append] at this
  have : 0 < a.length := List.length_pos_iff.2 ha
  omega
theorem drop_more {l a r : List UInt8} {i : Nat} (h : l.drop i = a ++ r) : l.drop (i + a.length) = r := by
  rw [← List.drop_drop, h, List.drop_left]
theorem text_back {s : ByteArray} {t : ByteArray} {r : List UInt8} {i most : Nat} (ht : t.size ≤ most) (hm : most < 18446744073709551616) (h : s.data.toList.drop i = text t ++ r) :
    textR s most i = .ok (t, i + (text t).length) ∧ s.data.toList.drop (i + (text t).length) = r := by
  refine ⟨?_, drop_more h⟩
  unfold text at h ⊢
  rw [List.append_assoc] at h
  obtain ⟨a, b⟩ := uint_back (by omega) h
  have e1 : t.data.toList.length = t.size := by simp
  have hl := congrArg List.length b
  rw [List.length_drop, List.length_append, e1] at hl
  have e2 : s.data.toList.length = s.size := by simp
  unfold textR
  rw [a]
  simp only
  have hs : i + (enc t.size).length + t.size ≤ s.size ∨ t.size = 0 ∧ s.size < i + (enc t.size).length := by omega
  have hs2 : i + (enc t.size).length ≤ s.size := by
    have h1 := drop_len h (by intro e; have := (enc_length t.size).1; rw [e] at this; simp at this)
    omega
  rw [if_neg (by omega), if_neg (by omega)]
  have e3 : s.extract (i + (enc t.size).length) (i + (enc t.size).length + t.size) = t := by
    apply ByteArray.ext
    apply Array.toList_inj.1
    rw [ByteArray.data_extract, Array.toList_extract]
    show List.take _ (List.drop _ _) = _
    rw [b, Nat.add_sub_cancel_left, ← e1, List.take_left]
  rw [e3, List.length_append, e1]
  congr 2
  omega
end Cd
end Go.Proofs.Ytmgafcblbbbanaa
