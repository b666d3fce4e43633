/-
  What reading a schema's bytes comes to, plainly. No condition.
-/
import Derived.Test.YtmgafcblbbbanaaScB
import Derived.Test.YtmgafcblbbbanaaCdB
import Derived.Test.YtmgafcblbbbanaaCdK
import Derived.Test.YtmgafcblbbbanaaZig
namespace Go.Proofs.Ytmgafcblbbbanaa
namespace Sc

def need01 (c : C) : Nat := if c.need = true then 1 else 0
theorem col_back {b : ByteArray} {c : C} {r : List UInt8} {i : Nat} (hn : c.name.size ≤ 32) (h1 : 1 ≤ c.kind) (h2 : c.kind ≤ 5) (h : b.data.toList.drop i = colB c ++ r) :
    ∃ j1 j2 j3, Cd.textR b 1000000 i = .ok (c.name, j1) ∧ Cd.uintR b.data.toList j1 = .ok (c.kind.toNat, j2) ∧ Cd.uintR b.data.toList j2 = .ok (need01 c, j3) ∧ b.data.toList.drop j3 = r := by
  unfold colB at h
  rw [List.append_assoc, List.append_assoc] at h
  obtain ⟨a1, a2⟩ := Cd.text_back (most := 1000000) (by omega) (by decide) h
  obtain ⟨b1, b2⟩ := Cd.uint_back (by omega) a2
  obtain ⟨c1, c2⟩ := Cd.uint_back (by split <;> decide) b2
  exact ⟨_, _, _, a1, b1, c1, c2⟩
theorem read_head {b : ByteArray} {s : S} (hr : right s = true) (hb : b = bstr (encode s)) :
    ∃ j1 j2 j3, Cd.top ⟨#[]⟩ (Cd.textR b 1000000) 0 0 = (s.name, j1, 0) ∧ Cd.top 0 (Cd.uintR b.data.toList) j1 0 = (s.keys.toNat, j2, 0) ∧ Cd.top 0 (Cd.uintR b.data.toList) j2 0 = (s.cols.length, j3, 0) ∧ b.data.toList.drop j3 = s.cols.flatMap colB := by
  obtain ⟨z1, z2, z3, z4⟩ := right_head hr
  have h : b.data.toList.drop 0 = Cd.text s.name ++ (Cd.enc s.keys.toNat ++ (Cd.enc s.cols.length ++ s.cols.flatMap colB)) := by
    rw [hb, List.drop_zero]
    show encode s = _
    unfold encode headB
    rw [if_pos hr]
    simp only [List.append_assoc]
  obtain ⟨a1, a2⟩ := Cd.text_back (most := 1000000) (by omega) (by decide) h
  obtain ⟨b1, b2⟩ := Cd.uint_back (by omega) a2
  obtain ⟨c1, c2⟩ := Cd.uint_back (by omega) b2
  exact ⟨_, _, _, top_ok a1, top_ok b1, top_ok c1, c2⟩
theorem read_col {b : ByteArray} {s : S} (hr : right s = true) {k i : Nat} (hk : k < s.cols.length) (h : b.data.toList.drop i = (s.cols.drop k).flatMap colB) :
    ∃ j1 j2 j3, Cd.top ⟨#[]⟩ (Cd.textR b 1000000) i 0 = (s.cols[k].name, j1, 0) ∧ Cd.top 0 (Cd.uintR b.data.toList) j1 0 = (s.cols[k].kind.toNat, j2, 0) ∧ Cd.top 0 (Cd.uintR b.data.toList) j2 0 = (need01 s.cols[k], j3, 0) ∧
      b.data.toList.drop j3 = (s.cols.drop (k + 1)).flatMap colB ∧ 1 ≤ s.cols[k].kind ∧ s.cols[k].kind ≤ 5 := by
  obtain ⟨y1, y2, y3⟩ := right_col hr k hk
  rw [List.drop_eq_getElem_cons hk, List.flatMap_cons] at h
  obtain ⟨j1, j2, j3, a, b1, c, d⟩ := col_back y1 y2 y3 h
  exact ⟨j1, j2, j3, top_ok a, top_ok b1, top_ok c, d, y2, y3⟩
/-- how far bytes are read, were they a schema's -/
def ReadSt (b nm : ByteArray) (ks : Int) (cols : List C) (n j : Nat) (e : Int) : Prop :=
  ∀ s : S, right s = true → b = bstr (encode s) → nm = s.name ∧ ks = s.keys ∧ e = 0 ∧ cols.length ≤ s.cols.length ∧ cols = s.cols.take cols.length ∧ n = s.cols.length - cols.length ∧ b.data.toList.drop j = (s.cols.drop cols.length).flatMap colB
theorem ReadSt.start {b nm : ByteArray} {g g' : Nat → Nat} (hg : ∀ m, m ≤ 8 → g m = m) (hg' : ∀ m, m ≤ 16 → g' m = m) {j1 kn j2 n j3 : Nat} {e1 e2 e3 : Int} (h1 : Cd.top ⟨#[]⟩ (Cd.textR b 1000000) 0 0 = (nm, j1, e1))
    (h2 : Cd.top 0 (Cd.uintR b.data.toList) j1 e1 = (kn, j2, e2)) (h3 : Cd.top 0 (Cd.uintR b.data.toList) j2 e2 = (n, j3, e3)) : ReadSt b nm (g kn : Int) [] (g' n) j3 e3 := by
  intro s hr hb
  obtain ⟨z1, z2, z3, z4⟩ := right_head hr
  obtain ⟨i1, i2, i3, a1, a2, a3, a4⟩ := read_head hr hb
  have x1 := a1.symm.trans h1
  simp only [Prod.mk.injEq] at x1
  obtain ⟨rfl, rfl, rfl⟩ := x1
  have x2 := a2.symm.trans h2
  simp only [Prod.mk.injEq] at x2
  obtain ⟨rfl, rfl, rfl⟩ := x2
  have x3 := a3.symm.trans h3
  simp only [Prod.mk.injEq] at x3
  obtain ⟨rfl, rfl, rfl⟩ := x3
  refine ⟨rfl, ?_, rfl, Nat.zero_le _, by simp, ?_, by simpa using a4⟩
  · rw [hg _ (by omega)]; omega
  · rw [hg' _ z4]; simp
theorem ReadSt.next {b nm : ByteArray} {ks : Int} {cols : List C} {n j : Nat} (h : ReadSt b nm ks cols n j 0) (hn : 0 < n) {g : Nat → Nat} (hg : ∀ m, m ≤ 5 → g m = m) {d : Nat → Bool} (hd0 : d 0 = false) (hd1 : d 1 = true)
    {cn : ByteArray} {j1 kd j2 nd j3 : Nat} {e1 e2 e3 : Int} (h1 : Cd.top ⟨#[]⟩ (Cd.textR b 1000000) j 0 = (cn, j1, e1))
    (h2 : Cd.top 0 (Cd.uintR b.data.toList) j1 e1 = (kd, j2, e2)) (h3 : Cd.top 0 (Cd.uintR b.data.toList) j2 e2 = (nd, j3, e3)) : ReadSt b nm ks (cols ++ [⟨cn, (g kd : Int), d nd⟩]) (n - 1) j3 e3 := by
  intro s hr hb
  obtain ⟨q1, q2, _, q4, q5, q6, q7⟩ := h s hr hb
  have hk : cols.length < s.cols.length := by omega
  obtain ⟨i1, i2, i3, a1, a2, a3, a4, a5, a6⟩ := read_col hr hk q7
  have x1 := a1.symm.trans h1
  simp only [Prod.mk.injEq] at x1
  obtain ⟨rfl, rfl, rfl⟩ := x1
  have x2 := a2.symm.trans h2
  simp only [Prod.mk.injEq] at x2
  obtain ⟨rfl, rfl, rfl⟩ := x2
  have x3 := a3.symm.trans h3
  simp only [Prod.mk.injEq] at x3
  obtain ⟨rfl, rfl, rfl⟩ := x3
  have hc : (⟨s.cols[cols.length].name, (g s.cols[cols.length].kind.toNat : Int), d (need01 s.cols[cols.length])⟩ : C) = s.cols[cols.length] := by
    rw [hg _ (by omega), Int.toNat_of_nonneg (by omega)]
    unfold need01
    cases e : s.cols[cols.length].need with
    | false => rw [if_neg (by simp), hd0, ← e]
    | true => rw [if_pos rfl, hd1, ← e]
  rw [hc]
  have hl : (cols ++ [s.cols[cols.length]]).length = cols.length + 1 := by simp
  rw [hl]
  refine ⟨q1, q2, rfl, hk, ?_, by omega, a4⟩
  rw [List.take_succ_eq_append_getElem hk, ← q5]
theorem ReadSt.stop {b nm : ByteArray} {ks : Int} {cols : List C} {n j : Nat} {e : Int} (h : ReadSt b nm ks cols n j e) (hs : n = 0 ∨ e ≠ 0 ∨ 16 < cols.length) (s : S) (hr : right s = true) (hb : b = bstr (encode s)) : (⟨nm, cols, ks⟩ : S) = s ∧ e = 0 := by
  obtain ⟨q1, q2, q3, q4, q5, q6, q7⟩ := h s hr hb
  obtain ⟨_, _, _, z4⟩ := right_head hr
  have hl : cols.length = s.cols.length := by omega
  rw [hl, List.take_length] at q5
  subst q1 q2 q5
  exact ⟨rfl, q3⟩
theorem top_zero {α : Type} {z : α} {f : Nat → Cd.R α} {i j : Nat} {e : Int} {v : α} (h : Cd.top z f i e = (v, j, 0)) (he : ∀ x, f i = .error x → x ≠ 0) : e = 0 ∧ f i = .ok (v, j) := by
  unfold Cd.top at h
  split at h
  · cases h; omega
  · rename_i h0
    refine ⟨by omega, ?_⟩
    cases hf : f i with
    | error x => rw [hf] at h; cases h; exact absurd rfl (he 0 hf)
    | ok p =>
      obtain ⟨y, m⟩ := p
      rw [hf] at h
      cases h
      rfl
theorem cols_inj : ∀ (l r : List C), (∀ c ∈ l, c.name.size ≤ 32 ∧ 1 ≤ c.kind ∧ c.kind ≤ 5) → (∀ c ∈ r, c.name.size ≤ 32 ∧ 1 ≤ c.kind ∧ c.kind ≤ 5) → l.length = r.length → l.flatMap colB = r.flatMap colB → l = r := by
  intro l
  induction l with
  | nil => intro r _ _ hl _; cases r with
    | nil => rfl
    | cons _ _ => cases hl
  | cons c l ih =>
    intro r h1 h2 hl h
    cases r with
    | nil => cases hl
    | cons d r =>
      rw [List.flatMap_cons, List.flatMap_cons] at h
      obtain ⟨a1, a2, a3⟩ := h1 c (by simp)
      obtain ⟨b1, b2, b3⟩ := h2 d (by simp)
      have e1 : (bstr (colB c ++ l.flatMap colB)).data.toList.drop 0 = colB c ++ l.flatMap colB := by rw [List.drop_zero]; rfl
      have e2 : (bstr (colB c ++ l.flatMap colB)).data.toList.drop 0 = colB d ++ r.flatMap colB := by rw [List.drop_zero, h]; rfl
      obtain ⟨j1, j2, j3, p1, p2, p3, p4⟩ := col_back a1 a2 a3 e1
      obtain ⟨k1, k2, k3, q1, q2, q3, q4⟩ := col_back b1 b2 b3 e2
      rw [p1] at q1
      injection q1 with q1
      injection q1 with n1 q1
      subst q1
      rw [p2] at q2
      injection q2 with q2
      injection q2 with n2 q2
      subst q2
      rw [p3] at q3
      injection q3 with q3
      injection q3 with n3 q3
      subst q3
      have hcd : c = d := by
        obtain ⟨cn, ck, cd⟩ := c
        obtain ⟨dn, dk, dd⟩ := d
        simp only at n1 n2 a2 a3 b2 b3
        have : ck = dk := by omega
        subst n1 this
        cases cd <;> cases dd <;> first | rfl | (simp [need01] at n3)
      rw [hcd, ih r (fun x hx => h1 x (by simp [hx])) (fun x hx => h2 x (by simp [hx])) (by simpa using hl) (by rw [← p4, q4])]
theorem right_cols {s : S} (h : right s = true) : ∀ c ∈ s.cols, c.name.size ≤ 32 ∧ 1 ≤ c.kind ∧ c.kind ≤ 5 := by
  intro c hc
  obtain ⟨k, hk, rfl⟩ := List.mem_iff_getElem.1 hc
  exact right_col h k hk
theorem encode_inj {s t : S} (hs : right s = true) (ht : right t = true) (h : encode s = encode t) : s = t := by
  obtain ⟨j1, j2, j3, a1, a2, a3, a4⟩ := read_head (b := bstr (encode s)) hs rfl
  obtain ⟨k1, k2, k3, b1, b2, b3, b4⟩ := read_head (b := bstr (encode s)) ht (by rw [h])
  have x1 := a1.symm.trans b1
  simp only [Prod.mk.injEq] at x1
  obtain ⟨n1, rfl, _⟩ := x1
  have x2 := a2.symm.trans b2
  simp only [Prod.mk.injEq] at x2
  obtain ⟨n2, rfl, _⟩ := x2
  have x3 := a3.symm.trans b3
  simp only [Prod.mk.injEq] at x3
  obtain ⟨n3, rfl, _⟩ := x3
  have hc := cols_inj s.cols t.cols (right_cols hs) (right_cols ht) n3 (a4.symm.trans b4)
  obtain ⟨_, u1, _, _⟩ := right_head hs
  obtain ⟨_, v1, _, _⟩ := right_head ht
  obtain ⟨sn, sc, sk⟩ := s
  obtain ⟨tn, tc, tk⟩ := t
  simp only at n1 n2 hc u1 v1
  have : sk = tk := by omega
  subst n1 hc this
  rfl
end Sc
end Go.Proofs.Ytmgafcblbbbanaa
