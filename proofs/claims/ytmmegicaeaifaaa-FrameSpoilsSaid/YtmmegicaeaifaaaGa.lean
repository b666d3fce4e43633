/-
  How a transaction is read, plainly; a right transaction's body is read as it. No condition.
-/
import Derived.Test.YtmmegicaeaifaaaFz
import Derived.Test.YtmmegicaeaifaaaFx
namespace Go.Proofs.Ytmmegicaeaifaaa
open Go.RowKit Fr

namespace Fr
/-- so many changes, read one behind the other, as long as nothing is wrong and there are at most 100 -/
noncomputable def loopR (s : ByteArray) : Nat → List Ch → Nat → Int → List Ch × Nat × Int
  | 0, l, i, er => (l, i, er)
  | n + 1, l, i, er => if er = 0 ∧ l.length ≤ 100 then loopR s n (l ++ [(chR s i er).1]) (chR s i er).2.1 (chR s i er).2.2 else (l, i, er)
/-- what is read of a body, and what was wrong -/
noncomputable def decR (s : ByteArray) : Tx × Int :=
  let p := Cd.top 0 (Cd.uintR s.data.toList) 0 0
  let q := Cd.top 0 (Cd.uintR s.data.toList) p.2.1 p.2.2
  let r := Cd.top 0 (Cd.uintR s.data.toList) q.2.1 q.2.2
  let x := loopR s (clamp r.1).toNat [] r.2.1 r.2.2
  (⟨clamp p.1, clamp q.1, x.1⟩, x.2.2)
theorem loopR_stop {s : ByteArray} {n : Nat} {l : List Ch} {i : Nat} {er : Int} (h : ¬ (er = 0 ∧ l.length ≤ 100)) : loopR s n l i er = (l, i, er) := by
  cases n with
  | zero => rfl
  | succ n => unfold loopR; rw [if_neg h]
theorem loopR_next {s : ByteArray} {n : Nat} {l : List Ch} {i : Nat} (h : l.length ≤ 100) : loopR s (n + 1) l i 0 = loopR s n (l ++ [(chR s i 0).1]) (chR s i 0).2.1 (chR s i 0).2.2 := by
  rw [loopR, if_pos ⟨rfl, h⟩]
theorem clamp_id {n : Int} (h0 : 0 ≤ n) (h1 : n ≤ 1099511627776) : clamp n.toNat = n := by unfold clamp; omega
theorem top_uint_back {l t : List UInt8} {i n : Nat} (hn : n < 18446744073709551616) (h : l.drop i = Cd.enc n ++ t) : Cd.top 0 (Cd.uintR l) i 0 = (n, i + (Cd.enc n).length, 0) ∧ l.drop (i + (Cd.enc n).length) = t := by
  obtain ⟨a, b⟩ := Cd.uint_back hn h
  exact ⟨top_ok a, b⟩
theorem top_text_back {s t : ByteArray} {r : List UInt8} {i : Nat} (ht : t.size ≤ 1000000) (h : s.data.toList.drop i = Cd.text t ++ r) : Cd.top ⟨#[]⟩ (Cd.textR s 1000000) i 0 = (t, i + (Cd.text t).length, 0) ∧ s.data.toList.drop (i + (Cd.text t).length) = r := by
  exact ⟨top_ok (Cd.text_back ht (by decide) h).1, (Cd.text_back ht (by decide) h).2⟩
theorem top_row_back {s : ByteArray} {l : List Cd.V} {r : List UInt8} {i : Nat} (hr : l.all Cd.V.right = true) (hv : ∀ x ∈ l, Vok x) (hl : l.length ≤ 1000) (h : s.data.toList.drop i = Cd.row l ++ r) : Cd.top [] (Cd.rowR s) i 0 = (l, i + (Cd.row l).length, 0) ∧ s.data.toList.drop (i + (Cd.row l).length) = r := by
  exact ⟨top_ok (Cd.row_back hr hv hl h).1, (Cd.row_back hr hv hl h).2⟩
theorem chR_back {s : ByteArray} {c : Ch} {r : List UInt8} {i : Nat} (h : chB c = true) (hk : Chk c) (hd : s.data.toList.drop i = chL c ++ r) : chR s i 0 = (c, i + (chL c).length, 0) ∧ s.data.toList.drop (i + (chL c).length) = r := by
  obtain ⟨n1, n2, n3, n4, n5, n6, n7, n8⟩ := ch_nums h
  refine ⟨?_, Cd.drop_more hd⟩
  by_cases h3 : c.op = 3
  · have ht : tabB c = true := by
      rcases chB_ways h with ⟨_, h⟩ | ⟨e, _⟩ | ⟨e, _⟩
      · exact h
      · omega
      · omega
    obtain ⟨t1, t2, t3, t4, t5⟩ := tabB_iff.1 ht
    rw [chL_tab h3, List.append_assoc] at hd
    obtain ⟨a1, a2⟩ := top_uint_back (by decide) hd
    have hsz : (bstr (Sc.encode c.df)).size ≤ 1000000 := by have := encode_len c.df; rw [bstr_size]; omega
    obtain ⟨b1, b2⟩ := top_text_back hsz a2
    have hdd : dec (bstr (Sc.encode c.df)) = c.df := dec_yes t1 rfl
    unfold chR
    simp only [a1]
    rw [if_pos (show clamp 3 = 3 from rfl)]
    simp only [b1, hdd]
    rw [chL_tab h3, List.length_append, ← Nat.add_assoc]
    obtain ⟨op, tb, row, fr, to, df⟩ := c
    simp only at h3 t2 t3 t4 t5
    subst h3 t2 t3 t4 t5
    rfl
  · have hp : putB c 16 = true ∨ putB c 8 = true := by
      rcases chB_ways h with ⟨e, _⟩ | ⟨_, h⟩ | ⟨_, h⟩
      · exact absurd e h3
      · exact .inl h
      · exact .inr h
    have hq : c.row.all Cd.V.right = true ∧ c.df = noS := by
      rcases hp with h | h
      · obtain ⟨_, ⟨a, _⟩, _, b⟩ := putB_iff.1 h; exact ⟨a, b⟩
      · obtain ⟨_, ⟨a, _⟩, _, b⟩ := putB_iff.1 h; exact ⟨a, b⟩
    have hL := chL_put h3
    rw [hL] at hd
    simp only [List.append_assoc] at hd
    obtain ⟨a1, a2⟩ := top_uint_back (n := c.op.toNat) (by omega) hd
    obtain ⟨b1, b2⟩ := top_text_back (t := c.table) (by omega) a2
    obtain ⟨d1, d2⟩ := top_row_back hq.1 hk.2.2.2.2.1 (by omega) b2
    obtain ⟨e1, e2⟩ := top_uint_back (n := c.fr.toNat) (by omega) d2
    obtain ⟨f1, f2⟩ := top_uint_back (n := c.to.toNat) (by omega) e2
    unfold chR
    simp only [a1]
    rw [clamp_id (by omega) (by omega), if_neg h3]
    simp only [b1, d1, e1, f1]
    rw [clamp_id n3 n5, clamp_id n4 n6, hL]
    simp only [List.length_append, ← Nat.add_assoc]
    obtain ⟨op, tb, row, fr, to, df⟩ := c
    have hdf : df = noS := hq.2
    subst hdf
    rfl
theorem loopR_back {s : ByteArray} (cs : List Ch) : (∀ c ∈ cs, chB c = true ∧ Chk c) → ∀ (l : List Ch) (r : List UInt8) (i : Nat), l.length + cs.length ≤ 100 → s.data.toList.drop i = cs.flatMap chL ++ r → ∃ j, loopR s cs.length l i 0 = (l ++ cs, j, 0) := by
  induction cs with
  | nil => intro _ l r i _ _; exact ⟨i, by rw [List.append_nil]; rfl⟩
  | cons c cs ih =>
    intro hc l r i hl hd
    rw [List.flatMap_cons, List.append_assoc] at hd
    obtain ⟨a1, a2⟩ := chR_back (hc c (List.mem_cons_self ..)).1 (hc c (List.mem_cons_self ..)).2 hd
    rw [List.length_cons] at hl ⊢
    rw [loopR_next (by omega), a1]
    obtain ⟨j, hj⟩ := ih (fun x hx => hc x (List.mem_cons_of_mem _ hx)) (l ++ [c]) r _ (by simp; omega) a2
    exact ⟨j, by rw [hj, List.append_assoc]; rfl⟩
/-- a right transaction's body is read as it -/
theorem decR_back {s : ByteArray} {t : Tx} (h : txB t = true) (hk : ∀ c ∈ t.cs, Chk c) (hs : s.data.toList = bodyL t) : decR s = (t, 0) := by
  obtain ⟨ha, hh⟩ := txB_iff.1 h
  obtain ⟨e1, e2, e3, e4, e5⟩ := headB_iff.1 hh
  have hd : s.data.toList.drop 0 = Cd.enc t.seq.toNat ++ (Cd.enc t.time.toNat ++ (Cd.enc t.cs.length ++ (t.cs.flatMap chL ++ []))) := by
    rw [List.drop_zero, hs]
    unfold bodyL headL
    simp only [List.append_assoc, List.append_nil]
  obtain ⟨a1, a2⟩ := top_uint_back (n := t.seq.toNat) (by omega) hd
  obtain ⟨b1, b2⟩ := top_uint_back (n := t.time.toNat) (by omega) a2
  obtain ⟨c1, c2⟩ := top_uint_back (n := t.cs.length) (by omega) b2
  obtain ⟨j, hj⟩ := loopR_back t.cs (fun c hc => ⟨ha c hc, hk c hc⟩) [] [] _ (by simp; omega) c2
  unfold decR
  simp only [a1, b1, c1]
  rw [clamp_id (by omega) (by omega), clamp_id e3 (by omega), show (clamp t.cs.length).toNat = t.cs.length by unfold clamp; omega, hj]
  rfl
theorem body_full {t : Tx} (h : body t ≠ []) : txB t = true ∧ body t = bodyL t := by
  unfold body at h ⊢
  split
  · rename_i ht
    rw [if_pos ht] at h
    split
    · rename_i h2; rw [if_pos h2] at h; exact absurd rfl h
    · exact ⟨ht, rfl⟩
  · rename_i ht
    rw [if_neg ht] at h
    exact absurd rfl h
/-- bytes that are a body are read -/
theorem decR_body {b : ByteArray} {t : Tx} (hk : ∀ c ∈ t.cs, Chk c) (h : body t ≠ []) (hb : b = bstr (body t)) : decR b = (t, 0) := by
  obtain ⟨h1, h2⟩ := body_full h
  exact decR_back h1 hk (by rw [hb, bstr_toList, h2])
theorem sok_dec (b : ByteArray) : Sok (dec b) := by
  unfold dec
  split
  · rename_i h
    have := (Classical.choose_spec h).1
    refine ⟨by have := (Sc.right_head this).1; unfold maxLen; omega, fun c hc => by have := (Sc.right_cols this c hc).1; unfold maxLen; omega⟩
  · exact ⟨by show (ByteArray.mk #[]).size ≤ maxLen; decide, fun c hc => absurd hc List.not_mem_nil⟩
theorem top_row_ok (s : ByteArray) (i : Nat) (er : Int) : (∀ x ∈ (Cd.top [] (Cd.rowR s) i er).1, Vok x) ∧ (Cd.top [] (Cd.rowR s) i er).1.length ≤ 1000 := by
  unfold Cd.top
  split
  · exact ⟨fun x hx => absurd hx List.not_mem_nil, Nat.zero_le _⟩
  · cases h : Cd.rowR s i with
    | error x => exact ⟨fun x hx => absurd hx List.not_mem_nil, Nat.zero_le _⟩
    | ok p =>
      obtain ⟨l, j⟩ := p
      obtain ⟨_, h2, h3, _⟩ := Cd.row_inv h
      exact ⟨h2, h3⟩
theorem chR_ok (s : ByteArray) (i : Nat) (er : Int) : Chk (chR s i er).1 ∧ (chR s i er).1.row.length ≤ 9223372036854775807 := by
  have hcl := clamp_range
  have ht : ∀ j e, (Cd.top ⟨#[]⟩ (Cd.textR s 1000000) j e).1.size ≤ maxLen := fun j e => by
    have := (top_text (s := s) (i := j) (er := e) (t := (Cd.top ⟨#[]⟩ (Cd.textR s 1000000) j e).1) (j := (Cd.top ⟨#[]⟩ (Cd.textR s 1000000) j e).2.1) (e := (Cd.top ⟨#[]⟩ (Cd.textR s 1000000) j e).2.2) rfl).1
    unfold maxLen; omega
  unfold chR
  simp only
  split
  · refine ⟨⟨⟨by show -9223372036854775808 ≤ (3 : Int); decide, by show (3 : Int) ≤ _; decide⟩, ⟨by show -9223372036854775808 ≤ (0 : Int); decide, by show (0 : Int) ≤ _; decide⟩, ⟨by show -9223372036854775808 ≤ (0 : Int); decide, by show (0 : Int) ≤ _; decide⟩, (sok_dec _).1, fun x hx => absurd hx List.not_mem_nil, sok_dec _⟩, Nat.zero_le _⟩
  · have hr := top_row_ok s
    refine ⟨⟨⟨?_, ?_⟩, ⟨?_, ?_⟩, ⟨?_, ?_⟩, ht _ _, (hr _ _).1, ⟨by show (ByteArray.mk #[]).size ≤ maxLen; decide, fun c hc => absurd hc List.not_mem_nil⟩⟩, Nat.le_trans (hr _ _).2 (by decide)⟩
    all_goals
      first
        | exact Int.le_trans (by decide) (hcl _).1
        | exact Int.le_trans (hcl _).2 (by decide)
end Fr
end Go.Proofs.Ytmmegicaeaifaaa
