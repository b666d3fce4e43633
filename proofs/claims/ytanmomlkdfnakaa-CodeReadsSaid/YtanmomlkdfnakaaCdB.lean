/-
  Texts, values and rows: what is written is read as it was. No program in sight. No condition.
-/
import Derived.Test.YtanmomlkdfnakaaCdL
import Derived.Test.YtanmomlkdfnakaaCdR
namespace Go.Proofs.Ytanmomlkdfnakaa
namespace Cd

theorem value_of {k n : Int} {b : Nat} {s : ByteArray} (h : Va.right k n b s = true) : value k n b s = UInt8.ofNat k.toNat :: (if k = 1 then [UInt8.ofNat n.toNat] else if k = 2 then enc (zig n) else if k = 3 then eight b else if k = 4 ∨ k = 5 then text s else []) := by
  unfold value; rw [if_pos h]
theorem rawR_0 {s : ByteArray} {i : Nat} (h : s.data.toList[i]? = some 0) : rawR s i = .ok (⟨0, 0, 0, ⟨#[]⟩⟩, i + 1) := by unfold rawR nextR; rw [h]; rfl
theorem rawR_1 {s : ByteArray} {i : Nat} {c : UInt8} (h : s.data.toList[i]? = some 1) (h2 : s.data.toList[i + 1]? = some c) : rawR s i = .ok (⟨1, (c.toNat : Int), 0, ⟨#[]⟩⟩, i + 2) := by
  have e : nextR s.data.toList (i + 1) = .ok (c.toNat, i + 2) := by unfold nextR; rw [h2]
  have e0 : rawR s i = match nextR s.data.toList (i + 1) with | .error e => .error e | .ok (n, m) => .ok (⟨1, (n : Int), 0, ⟨#[]⟩⟩, m) := by unfold rawR; rw [show nextR s.data.toList i = .ok (1, i + 1) by unfold nextR; rw [h]; rfl]; rfl
  rw [e0, e]
theorem rawR_2 {s : ByteArray} {i : Nat} (h : s.data.toList[i]? = some 2) : rawR s i = match intR s.data.toList (i + 1) with | .error e => .error e | .ok (n, m) => .ok (⟨2, n, 0, ⟨#[]⟩⟩, m) := by unfold rawR nextR; rw [h]; rfl
theorem rawR_3 {s : ByteArray} {i : Nat} (h : s.data.toList[i]? = some 3) : rawR s i = match bitsF s.data.toList 8 0 (i + 1) with | .error e => .error e | .ok (b, m) => .ok (⟨3, 0, b, ⟨#[]⟩⟩, m) := by unfold rawR nextR; rw [h]; rfl
theorem rawR_4 {s : ByteArray} {i : Nat} (h : s.data.toList[i]? = some 4) : rawR s i = match textR s 4096 (i + 1) with | .error e => .error e | .ok (t, m) => .ok (⟨4, 0, 0, t⟩, m) := by unfold rawR nextR; rw [h]; rfl
theorem rawR_5 {s : ByteArray} {i : Nat} (h : s.data.toList[i]? = some 5) : rawR s i = match textR s 4096 (i + 1) with | .error e => .error e | .ok (t, m) => .ok (⟨5, 0, 0, t⟩, m) := by unfold rawR nextR; rw [h]; rfl
theorem right_full {k n : Int} {b : Nat} {s : ByteArray} (h : Va.right k n b s = true) : (k = 0 ∧ n = 0 ∧ b = 0 ∧ s = ⟨#[]⟩) ∨ (k = 1 ∧ (n = 0 ∨ n = 1) ∧ b = 0 ∧ s = ⟨#[]⟩) ∨ (k = 2 ∧ b = 0 ∧ s = ⟨#[]⟩) ∨ (k = 3 ∧ n = 0 ∧ s = ⟨#[]⟩) ∨ ((k = 4 ∨ k = 5) ∧ n = 0 ∧ b = 0 ∧ s.size ≤ 4096) := by
  unfold Va.right at h
  by_cases h0 : k = 0
  · subst h0; simp at h; exact .inl ⟨rfl, h.1.1, h.1.2, h.2⟩
  by_cases h1 : k = 1
  · subst h1; simp at h; exact .inr (.inl ⟨rfl, h.1.1, h.1.2, h.2⟩)
  by_cases h2 : k = 2
  · subst h2; simp at h; exact .inr (.inr (.inl ⟨rfl, h.1, h.2⟩))
  by_cases h3 : k = 3
  · subst h3; simp at h; exact .inr (.inr (.inr (.inl ⟨rfl, h.1.1, h.1.2⟩)))
  by_cases h4 : k = 4 ∨ k = 5
  · rw [if_neg h0, if_neg h1, if_neg h2, if_neg h3, if_pos h4] at h
    simp at h
    exact .inr (.inr (.inr (.inr ⟨h4, h.1.1, h.1.2, h.2⟩)))
  · rw [if_neg h0, if_neg h1, if_neg h2, if_neg h3, if_neg h4] at h
    cases h
theorem drop_len {l a r : List UInt8} {i : Nat} (h : l.drop i = a ++ r) : a ≠ [] → i + a.length ≤ l.length := by
  intro ha
  have := congrArg List.length h
  rw [List.length_drop, List.length_append] at this
  have : 0 < a.length := List.length_pos_iff.2 ha
  omega
theorem drop_more {l a r : List UInt8} {i : Nat} (h : l.drop i = a ++ r) : l.drop (i + a.length) = r := by
  rw [← List.drop_drop, h, List.drop_left]
theorem text_back {s : ByteArray} {t : ByteArray} {r : List UInt8} {i most : Nat} (ht : t.size ≤ most) (hm : most < 18446744073709551616) (h : s.data.toList.drop i = text t ++ r) :
    textR s most i = .ok (t, i + (text t).length) ∧ s.data.toList.drop (i + (text t).length) = r := by
  refine ⟨?_, drop_more h⟩
  unfold text at h ⊢
  rw [List.append_assoc] at h
  obtain ⟨a, b⟩ := uint_back (by omega) h
  have e1 : t.data.toList.length = t.size := by simp
  have hl := congrArg List.length b
  rw [List.length_drop, List.length_append, e1] at hl
  have e2 : s.data.toList.length = s.size := by simp
  unfold textR
  rw [a]
  simp only
  have hs : i + (enc t.size).length + t.size ≤ s.size ∨ t.size = 0 ∧ s.size < i + (enc t.size).length := by omega
  have hs2 : i + (enc t.size).length ≤ s.size := by
    have h1 := drop_len h (by intro e; have := (enc_length t.size).1; rw [e] at this; simp at this)
    omega
  rw [if_neg (by omega), if_neg (by omega)]
  have e3 : s.extract (i + (enc t.size).length) (i + (enc t.size).length + t.size) = t := by
    apply ByteArray.ext
    apply Array.toList_inj.1
    rw [ByteArray.data_extract, Array.toList_extract]
    show List.take _ (List.drop _ _) = _
    rw [b, Nat.add_sub_cancel_left, ← e1, List.take_left]
  rw [e3, List.length_append, e1]
  congr 2
  omega
theorem bits_back (l r : List UInt8) (b : Nat) (f : Nat) : ∀ i acc, l.drop i = low f b ++ r → bitsF l f acc i = .ok (acc * 256 ^ f + b % 256 ^ f, i + f) := by
  induction f with
  | zero => intro i acc h; simp [bitsF]; omega
  | succ f ih =>
    intro i acc h
    obtain ⟨h1, h2⟩ := get_drop (show l.drop i = UInt8.ofNat (b / 256 ^ f) :: (low f b ++ r) from h)
    unfold bitsF
    rw [h1]
    simp only
    rw [ih (i + 1) _ h2]
    have hc : (UInt8.ofNat (b / 256 ^ f)).toNat = b / 256 ^ f % 256 := by rw [UInt8.toNat_ofNat']
    rw [hc]
    have e := Nat.mod_mul (x := b) (a := 256 ^ f) (b := 256)
    rw [Nat.pow_succ, e]
    congr 2
    · rw [Nat.add_mul, Nat.mul_comm 256 acc, Nat.mul_assoc, Nat.mul_comm 256 (256 ^ f), Nat.mul_comm (256 ^ f) (b / 256 ^ f % 256)]
      omega
    · omega
theorem eight_back {l r : List UInt8} {b i : Nat} (hb : b < 18446744073709551616) (h : l.drop i = eight b ++ r) : bitsF l 8 0 i = .ok (b, i + 8) := by
  rw [bits_back l r b 8 i 0 h, Nat.mod_eq_of_lt (Nat.lt_of_lt_of_le hb (by decide))]
  simp
theorem value_back {s : ByteArray} {v : V} {r : List UInt8} {i : Nat} (hr : v.right = true) (hv : Vok v) (h : s.data.toList.drop i = v.bytes ++ r) :
    valueR s i = .ok (v, i + v.bytes.length) ∧ s.data.toList.drop (i + v.bytes.length) = r := by
  refine ⟨?_, drop_more h⟩
  obtain ⟨k, n, b, t⟩ := v
  obtain ⟨⟨n0, n1⟩, hb, ht⟩ := hv
  unfold V.bytes at h ⊢
  have hr2 : Va.right k n b t = true := hr
  have hraw : rawR s i = .ok (⟨k, n, b, t⟩, i + (value k n b t).length) := by
    rcases right_full hr2 with ⟨rfl, rfl, rfl, rfl⟩ | ⟨rfl, hn, rfl, rfl⟩ | ⟨rfl, rfl, rfl⟩ | ⟨rfl, rfl, rfl⟩ | ⟨rfl | rfl, rfl, rfl, ht2⟩
    · have hv : value 0 0 0 ⟨#[]⟩ = [0] := by rw [value_of hr2]; rfl
      rw [hv] at h ⊢
      rw [rawR_0 (get_drop h).1]; rfl
    · have hv : value 1 n 0 ⟨#[]⟩ = [1, UInt8.ofNat n.toNat] := by rw [value_of hr2]; rfl
      rw [hv] at h ⊢
      obtain ⟨g0, g1⟩ := get_drop h
      rw [rawR_1 g0 (get_drop g1).1]
      rcases hn with rfl | rfl <;> rfl
    · have hv : value 2 n 0 ⟨#[]⟩ = 2 :: enc (zig n) := by rw [value_of hr2]; rfl
      rw [hv] at h ⊢
      obtain ⟨g0, g1⟩ := get_drop h
      rw [rawR_2 g0, (int_back n0 n1 g1).1]
      simp only [List.length_cons]
      congr 2
      omega
    · have hv : value 3 0 b ⟨#[]⟩ = 3 :: eight b := by rw [value_of hr2]; rfl
      rw [hv] at h ⊢
      obtain ⟨g0, g1⟩ := get_drop h
      rw [rawR_3 g0, eight_back hb g1]
      simp only [List.length_cons, show (eight b).length = 8 from low_length 8 b]
    · have hv : value 4 0 0 t = 4 :: text t := by rw [value_of hr2]; rfl
      rw [hv] at h ⊢
      obtain ⟨g0, g1⟩ := get_drop h
      rw [rawR_4 g0, (text_back ht2 (by decide) g1).1]
      simp only [List.length_cons]
      congr 2
      omega
    · have hv : value 5 0 0 t = 5 :: text t := by rw [value_of hr2]; rfl
      rw [hv] at h ⊢
      obtain ⟨g0, g1⟩ := get_drop h
      rw [rawR_5 g0, (text_back ht2 (by decide) g1).1]
      simp only [List.length_cons]
      congr 2
      omega
  unfold valueR
  rw [hraw]
  simp only [hr, if_true]
theorem row_back {s : ByteArray} {l : List V} {r : List UInt8} {i : Nat} (hr : l.all V.right = true) (hv : ∀ x ∈ l, Vok x) (hl : l.length ≤ 1000) (h : s.data.toList.drop i = row l ++ r) :
    rowR s i = .ok (l, i + (row l).length) ∧ s.data.toList.drop (i + (row l).length) = r := by
  refine ⟨?_, drop_more h⟩
  rw [row_yes l hr] at h ⊢
  rw [List.append_assoc] at h
  obtain ⟨a, b⟩ := uint_back (by omega) h
  have key : ∀ (l : List V) (i : Nat), l.all V.right = true → (∀ x ∈ l, Vok x) → s.data.toList.drop i = l.flatMap V.bytes ++ r → rowF s l.length i = .ok (l, i + (l.flatMap V.bytes).length) := by
    intro l
    induction l with
    | nil => intro i _ _ _; rfl
    | cons v l ih =>
      intro i h1 h2 h3
      rw [List.all_cons, Bool.and_eq_true] at h1
      rw [List.flatMap_cons, List.append_assoc] at h3
      obtain ⟨q1, q2⟩ := value_back h1.1 (h2 v List.mem_cons_self) h3
      have q3 := ih _ h1.2 (fun x hx => h2 x (List.mem_cons_of_mem _ hx)) q2
      show rowF s (l.length + 1) i = _
      unfold rowF
      rw [q1]
      simp only
      rw [q3]
      simp only [List.flatMap_cons, List.length_append, Nat.add_assoc]
  unfold rowR
  rw [a]
  simp only
  rw [if_neg (by omega), key l _ hr hv b]
  simp only [List.length_append, Nat.add_assoc]
end Cd
end Go.Proofs.Ytanmomlkdfnakaa
