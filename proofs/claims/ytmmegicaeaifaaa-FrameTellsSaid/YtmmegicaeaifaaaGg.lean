/-
  Frames plainly: what is read of one, of one that is cut off or has another byte, and of frames one behind the other. No condition.
-/
import Derived.Test.YtmmegicaeaifaaaGe
namespace Go.Proofs.Ytmmegicaeaifaaa
open Go.RowKit Fr

namespace Fr
theorem val_four {n : Nat} (h : n < 4294967296) : val (four n) = n := by
  unfold val four
  simp only [List.foldl_cons, List.foldl_nil, UInt8.toNat_ofNat']
  omega
theorem four_len (n : Nat) : (four n).length = 4 := rfl
theorem ext_list (s : ByteArray) (a b : Nat) : (s.extract a b).data.toList = (s.data.toList.drop a).take (b - a) := by
  rw [ByteArray.data_extract, Array.toList_extract, List.extract_eq_take_drop]
/-- the frame of a body -/
def fr (B : List UInt8) : List UInt8 := four B.length ++ Crc.put B
theorem fr_len (B : List UInt8) : (fr B).length = B.length + 8 := by unfold fr; rw [List.length_append, Crc.put_length, four_len]; omega
theorem frame_fr {t : Tx} (h : body t ≠ []) : frame t = fr (body t) := by unfold frame; rw [if_neg h]; rfl
theorem lenR_four {n : Nat} {r : List UInt8} (h : n < 4294967296) : lenR (bstr (four n ++ r)) = n := by
  unfold lenR
  rw [bstr_toList, List.take_append_of_le_length (by rw [four_len]; omega), List.take_of_length_le (by rw [four_len]; omega), val_four h]
/-- a frame's body is read, whatever stands behind -/
theorem next_frame {B r : List UInt8} (h : B.length ≤ 100000) : nextR (bstr (fr B ++ r)) = (bstr B, B.length + 8, 0) := by
  have hs : (bstr (fr B ++ r)).size = B.length + 8 + r.length := by rw [bstr_size, List.length_append, fr_len]
  have hl : lenR (bstr (fr B ++ r)) = B.length := by unfold fr; rw [List.append_assoc]; exact lenR_four (by omega)
  have he : ((bstr (fr B ++ r)).extract 4 (lenR (bstr (fr B ++ r)) + 8)).data.toList = Crc.put B := by
    rw [hl, ext_list, bstr_toList]
    unfold fr
    rw [List.append_assoc, List.drop_left' (four_len _), List.take_append_of_le_length (by rw [Crc.put_length]; omega), List.take_of_length_le (by rw [Crc.put_length]; omega)]
  rw [frm_ok (by omega) (by omega) (by omega) (by rw [he, Crc.take_put]), he, Crc.take_put, hl]
/-- a frame that is cut off is short -/
theorem next_cut {B : List UInt8} {k : Nat} (h : B.length ≤ 100000) (h4 : 4 ≤ k) (hk : k < B.length + 8) : nextR (bstr ((fr B).take k)) = (⟨#[]⟩, 0, 8) := by
  have hs : (bstr ((fr B).take k)).size = k := by rw [bstr_size, List.length_take, fr_len]; omega
  have hl : lenR (bstr ((fr B).take k)) = B.length := by
    have : (fr B).take k = four B.length ++ (Crc.put B).take (k - 4) := by
      unfold fr
      rw [List.take_append, List.take_of_length_le (by rw [four_len]; omega), four_len]
    rw [this]
    exact lenR_four (by omega)
  exact frm_cut (by omega) (by omega) (by omega)
/-- a frame with another byte behind the length has a wrong sum -/
theorem next_bent {B : List UInt8} {k : Nat} {c : UInt8} (h : B.length ≤ 100000) (h4 : 4 ≤ k) (hk : k < B.length + 8) (hc : c ≠ (fr B)[k]'(by rw [fr_len]; exact hk)) : nextR (bstr ((fr B).take k ++ [c] ++ (fr B).drop (k + 1))) = (⟨#[]⟩, 0, 9) := by
  have e1 : (fr B).take k = four B.length ++ (Crc.put B).take (k - 4) := by
    unfold fr
    rw [List.take_append, List.take_of_length_le (by rw [four_len]; omega), four_len]
  have e2 : (fr B).drop (k + 1) = (Crc.put B).drop (k - 4 + 1) := by
    unfold fr
    rw [List.drop_append, List.drop_of_length_le (by rw [four_len]; omega), four_len, List.nil_append]
    congr 1; omega
  have e3 : (fr B)[k]'(by rw [fr_len]; exact hk) = (Crc.put B)[k - 4]'(by rw [Crc.put_length]; omega) := by
    unfold fr
    rw [List.getElem_append_right (by rw [four_len]; omega)]
    simp only [four_len]
  rw [e3] at hc
  have hb := Crc.take_bent B (k - 4) (by omega) c hc
  rw [e1, e2, List.append_assoc, List.append_assoc, ← List.append_assoc ((Crc.put B).take _)]
  have hlen : ((Crc.put B).take (k - 4) ++ [c] ++ (Crc.put B).drop (k - 4 + 1)).length = B.length + 4 := by
    simp only [List.length_append, List.length_take, List.length_drop, Crc.put_length, List.length_cons, List.length_nil]; omega
  generalize (Crc.put B).take (k - 4) ++ [c] ++ (Crc.put B).drop (k - 4 + 1) = X at hb hlen
  have hs : (bstr (four B.length ++ X)).size = B.length + 8 := by rw [bstr_size, List.length_append, four_len]; omega
  have hl : lenR (bstr (four B.length ++ X)) = B.length := lenR_four (by omega)
  have he : ((bstr (four B.length ++ X)).extract 4 (lenR (bstr (four B.length ++ X)) + 8)).data.toList = X := by
    rw [hl, ext_list, bstr_toList, List.drop_left' (four_len _), List.take_of_length_le (by omega)]
  exact frm_crc (by omega) (by omega) (by omega) (by rw [he]; exact hb)
theorem ext_take (s : ByteArray) (n : Nat) : s.extract 4 (n + 8 - 4) = bstr ((s.extract 4 (n + 8)).data.toList.take (n + 4 - 4)) := by
  apply ByteArray.ext
  apply Array.ext'
  have h1 := ext_list s 4 (n + 8 - 4)
  have h2 := ext_list s 4 (n + 8)
  have h3 := bstr_toList ((s.extract 4 (n + 8)).data.toList.take (n + 4 - 4))
  refine h1.trans (Eq.trans ?_ h3.symm)
  rw [h2, List.take_take, Nat.min_eq_left (by omega)]
  congr 1
/-- what is taken stands in it -/
theorem next_one {s : ByteArray} (h : (nextR s).2.2 = 0) : (nextR s).2.1 = (nextR s).1.size + 8 ∧ (nextR s).2.1 ≤ s.size ∧ s.extract 4 ((nextR s).2.1 - 4) = (nextR s).1 := by
  by_cases h0 : s.size < 4
  · rw [frm_short h0] at h; cases h
  · by_cases h1 : 100000 < lenR s
    · rw [frm_big h0 h1] at h; cases h
    · by_cases h2 : s.size < lenR s + 8
      · rw [frm_cut h0 h1 h2] at h; cases h
      · cases h3 : (Crc.take (s.extract 4 (lenR s + 8)).data.toList).2 with
        | false => rw [frm_crc h0 h1 h2 h3] at h; cases h
        | true =>
          rw [frm_ok h0 h1 h2 h3]
          have hl : (s.extract 4 (lenR s + 8)).data.toList.length = lenR s + 4 := by
            rw [ext_list, List.length_take, List.length_drop]
            have : s.data.toList.length = s.size := by simp
            omega
          rcases Crc.take_cases (s.extract 4 (lenR s + 8)).data.toList with ⟨e, _⟩ | ⟨e, _, _⟩
          · rw [e] at h3; cases h3
          · rw [e]
            show lenR s + 8 = (bstr _).size + 8 ∧ lenR s + 8 ≤ s.size ∧ s.extract 4 (lenR s + 8 - 4) = bstr _
            rw [hl]
            refine ⟨by rw [bstr_size, List.length_take, hl]; omega, by omega, ?_⟩
            exact ext_take s (lenR s)
/-- more steps than bytes are left say no more -/
theorem split_fuel {s : ByteArray} : ∀ (f f' i : Nat) (l : List ByteArray), s.size < f + i → s.size < f' + i → splitF s f i l = splitF s f' i l := by
  intro f
  induction f with
  | zero => intro f' i l h h'; rw [split_end (by omega), split_end (by omega)]
  | succ f ih =>
    intro f' i l h h'
    by_cases h0 : s.size ≤ i
    · rw [split_end h0, split_end h0]
    · cases f' with
      | zero => omega
      | succ f' =>
        by_cases h1 : (nextR (s.extract i s.size)).2.2 ≠ 0
        · rw [split_bad h0 h1, split_bad h0 h1]
        · rw [split_next h0 h1, split_next h0 h1]
          rcases next_ways (s.extract i s.size) with ⟨h2, _⟩ | ⟨_, h2, _⟩
          · exact absurd h2 h1
          · exact ih _ _ _ (by omega) (by omega)
theorem ext_shift {F : List UInt8} {s : ByteArray} (i : Nat) : (bstr (F ++ s.data.toList)).extract (F.length + i) (bstr (F ++ s.data.toList)).size = s.extract i s.size := by
  apply ByteArray.ext
  apply Array.ext'
  have hs : (bstr (F ++ s.data.toList)).size = F.length + s.size := by rw [bstr_size, List.length_append]; simp
  rw [ext_list, ext_list, bstr_toList, hs, ← List.drop_drop, List.drop_left]
  congr 1; omega
/-- behind what was taken all is as if it were not there -/
theorem split_shift {F : List UInt8} {s : ByteArray} (P : List ByteArray) : ∀ (f i : Nat) (l : List ByteArray), splitF (bstr (F ++ s.data.toList)) f (F.length + i) (P ++ l) = (P ++ (splitF s f i l).1, F.length + (splitF s f i l).2.1, (splitF s f i l).2.2) := by
  have hs : (bstr (F ++ s.data.toList)).size = F.length + s.size := by rw [bstr_size, List.length_append]; simp
  intro f
  induction f with
  | zero => intro i l; rfl
  | succ f ih =>
    intro i l
    by_cases h0 : s.size ≤ i
    · rw [split_end h0, split_end (by omega)]
    · by_cases h1 : (nextR (s.extract i s.size)).2.2 ≠ 0
      · rw [split_bad h0 h1, split_bad (by omega) (by rw [ext_shift]; exact h1), ext_shift]
      · rw [split_next h0 h1, split_next (by omega) (by rw [ext_shift]; exact h1), ext_shift, Nat.add_assoc, List.append_assoc]
        exact ih _ _
/-- a frame that is taken, and what stands behind it -/
theorem split_frame {B : List UInt8} {s : ByteArray} (h : B.length ≤ 100000) : splitR (bstr (fr B ++ s.data.toList)) = (bstr B :: (splitR s).1, (fr B).length + (splitR s).2.1, (splitR s).2.2) := by
  have hs : (bstr (fr B ++ s.data.toList)).size = (fr B).length + s.size := by rw [bstr_size, List.length_append]; simp
  have e0 : (bstr (fr B ++ s.data.toList)).extract 0 (bstr (fr B ++ s.data.toList)).size = bstr (fr B ++ s.data.toList) := by
    apply ByteArray.ext
    apply Array.ext'
    rw [ext_list, List.drop_zero, List.take_of_length_le (by simp)]
  unfold splitR
  have hn := next_frame (B := B) (r := s.data.toList) h
  rw [split_next (by rw [hs, fr_len]; omega) (by rw [e0, hn]; exact fun h => h rfl), e0, hn]
  have := split_shift (F := fr B) (s := s) [bstr B] (bstr (fr B ++ s.data.toList)).size 0 []
  show splitF _ _ (0 + (B.length + 8)) ([] ++ [bstr B]) = _
  rw [← fr_len, Nat.zero_add, List.nil_append]
  rw [Nat.add_zero, List.append_nil] at this
  rw [this, split_fuel _ (s.size + 1) 0 [] (by rw [hs, fr_len]; omega) (by omega)]
  rfl
/-- frames, one behind the other -/
theorem split_frames (s : ByteArray) : ∀ Bs : List (List UInt8), (∀ B ∈ Bs, B.length ≤ 100000) → splitR (bstr (Bs.flatMap fr ++ s.data.toList)) = (Bs.map bstr ++ (splitR s).1, (Bs.flatMap fr).length + (splitR s).2.1, (splitR s).2.2) := by
  intro Bs
  induction Bs with
  | nil =>
    intro _
    have : bstr (([] : List (List UInt8)).flatMap fr ++ s.data.toList) = s := by apply ByteArray.ext; apply Array.ext'; rw [bstr_toList]; rfl
    rw [this]
    simp
  | cons B Bs ih =>
    intro h
    have e := ih (fun B hB => h B (List.mem_cons_of_mem _ hB))
    have := split_frame (B := B) (s := bstr (Bs.flatMap fr ++ s.data.toList)) (h B (List.mem_cons_self ..))
    rw [bstr_toList, e] at this
    rw [List.flatMap_cons, List.append_assoc, this, List.map_cons, List.length_append]
    show (_, _, _) = (_, _, _)
    rw [Nat.add_assoc]
    rfl
theorem split_none : splitR ⟨#[]⟩ = ([], 0, 0) := rfl
end Fr
end Go.Proofs.Ytmmegicaeaifaaa
