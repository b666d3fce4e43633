/-
  Contracts and laws of the layers below, put together: ScD ScE ScK ScW ScC ScX ScY Sm. Conditions: where they are named.
-/
import Derived.Test.YtmmegicaeaifaaaFs
import Derived.Test.YtmmegicaeaifaaaFa
import Derived.Test.YtmmegicaeaifaaaFb
import Derived.Test.YtmmegicaeaifaaaFd
import Derived.Laws.AppendOwnNone
import Derived.Laws.CopyOwn
import Derived.Laws.MakeOwn
import Derived.Lib.SmallJoins
import Derived.Deep.SlicePairs
import Derived.Deep.Strs

namespace Go.Proofs.Ytmmegicaeaifaaa
namespace Sc

def need01 (c : C) : Nat := if c.need = true then 1 else 0
theorem col_back {b : ByteArray} {c : C} {r : List UInt8} {i : Nat} (hn : c.name.size ≤ 32) (h1 : 1 ≤ c.kind) (h2 : c.kind ≤ 5) (h : b.data.toList.drop i = colB c ++ r) :
    ∃ j1 j2 j3, Cd.textR b 1000000 i = .ok (c.name, j1) ∧ Cd.uintR b.data.toList j1 = .ok (c.kind.toNat, j2) ∧ Cd.uintR b.data.toList j2 = .ok (need01 c, j3) ∧ b.data.toList.drop j3 = r := by
  unfold colB at h
  rw [List.append_assoc, List.append_assoc] at h
  obtain ⟨a1, a2⟩ := Cd.text_back (most := 1000000) (by omega) (by decide) h
  obtain ⟨b1, b2⟩ := Cd.uint_back (by omega) a2
  obtain ⟨c1, c2⟩ := Cd.uint_back (by split <;> decide) b2
  exact ⟨_, _, _, a1, b1, c1, c2⟩
theorem read_head {b : ByteArray} {s : S} (hr : right s = true) (hb : b = bstr (encode s)) :
    ∃ j1 j2 j3, Cd.top ⟨#[]⟩ (Cd.textR b 1000000) 0 0 = (s.name, j1, 0) ∧ Cd.top 0 (Cd.uintR b.data.toList) j1 0 = (s.keys.toNat, j2, 0) ∧ Cd.top 0 (Cd.uintR b.data.toList) j2 0 = (s.cols.length, j3, 0) ∧ b.data.toList.drop j3 = s.cols.flatMap colB := by
  obtain ⟨z1, z2, z3, z4⟩ := right_head hr
  have h : b.data.toList.drop 0 = Cd.text s.name ++ (Cd.enc s.keys.toNat ++ (Cd.enc s.cols.length ++ s.cols.flatMap colB)) := by
    rw [hb, List.drop_zero]
    show encode s = _
    unfold encode headB
    rw [if_pos hr]
    simp only [List.append_assoc]
  obtain ⟨a1, a2⟩ := Cd.text_back (most := 1000000) (by omega) (by decide) h
  obtain ⟨b1, b2⟩ := Cd.uint_back (by omega) a2
  obtain ⟨c1, c2⟩ := Cd.uint_back (by omega) b2
  exact ⟨_, _, _, top_ok a1, top_ok b1, top_ok c1, c2⟩
theorem read_col {b : ByteArray} {s : S} (hr : right s = true) {k i : Nat} (hk : k < s.cols.length) (h : b.data.toList.drop i = (s.cols.drop k).flatMap colB) :
    ∃ j1 j2 j3, Cd.top ⟨#[]⟩ (Cd.textR b 1000000) i 0 = (s.cols[k].name, j1, 0) ∧ Cd.top 0 (Cd.uintR b.data.toList) j1 0 = (s.cols[k].kind.toNat, j2, 0) ∧ Cd.top 0 (Cd.uintR b.data.toList) j2 0 = (need01 s.cols[k], j3, 0) ∧
      b.data.toList.drop j3 = (s.cols.drop (k + 1)).flatMap colB ∧ 1 ≤ s.cols[k].kind ∧ s.cols[k].kind ≤ 5 := by
  obtain ⟨y1, y2, y3⟩ := right_col hr k hk
  rw [List.drop_eq_getElem_cons hk, List.flatMap_cons] at h
  obtain ⟨j1, j2, j3, a, b1, c, d⟩ := col_back y1 y2 y3 h
  exact ⟨j1, j2, j3, top_ok a, top_ok b1, top_ok c, d, y2, y3⟩
/-- how far bytes are read, were they a schema's -/
def ReadSt (b nm : ByteArray) (ks : Int) (cols : List C) (n j : Nat) (e : Int) : Prop :=
  ∀ s : S, right s = true → b = bstr (encode s) → nm = s.name ∧ ks = s.keys ∧ e = 0 ∧ cols.length ≤ s.cols.length ∧ cols = s.cols.take cols.length ∧ n = s.cols.length - cols.length ∧ b.data.toList.drop j = (s.cols.drop cols.length).flatMap colB
theorem ReadSt.start {b nm : ByteArray} {g g' : Nat → Nat} (hg : ∀ m, m ≤ 8 → g m = m) (hg' : ∀ m, m ≤ 16 → g' m = m) {j1 kn j2 n j3 : Nat} {e1 e2 e3 : Int} (h1 : Cd.top ⟨#[]⟩ (Cd.textR b 1000000) 0 0 = (nm, j1, e1))
    (h2 : Cd.top 0 (Cd.uintR b.data.toList) j1 e1 = (kn, j2, e2)) (h3 : Cd.top 0 (Cd.uintR b.data.toList) j2 e2 = (n, j3, e3)) : ReadSt b nm (g kn : Int) [] (g' n) j3 e3 := by
  intro s hr hb
  obtain ⟨z1, z2, z3, z4⟩ := right_head hr
  obtain ⟨i1, i2, i3, a1, a2, a3, a4⟩ := read_head hr hb
  have x1 := a1.symm.trans h1
  simp only [Prod.mk.injEq] at x1
  obtain ⟨rfl, rfl, rfl⟩ := x1
  have x2 := a2.symm.trans h2
  simp only [Prod.mk.injEq] at x2
  obtain ⟨rfl, rfl, rfl⟩ := x2
  have x3 := a3.symm.trans h3
  simp only [Prod.mk.injEq] at x3
  obtain ⟨rfl, rfl, rfl⟩ := x3
  refine ⟨rfl, ?_, rfl, Nat.zero_le _, by simp, ?_, by simpa using a4⟩
  · rw [hg _ (by omega)]; omega
  · rw [hg' _ z4]; simp
theorem ReadSt.next {b nm : ByteArray} {ks : Int} {cols : List C} {n j : Nat} (h : ReadSt b nm ks cols n j 0) (hn : 0 < n) {g : Nat → Nat} (hg : ∀ m, m ≤ 5 → g m = m) {d : Nat → Bool} (hd0 : d 0 = false) (hd1 : d 1 = true)
    {cn : ByteArray} {j1 kd j2 nd j3 : Nat} {e1 e2 e3 : Int} (h1 : Cd.top ⟨#[]⟩ (Cd.textR b 1000000) j 0 = (cn, j1, e1))
    (h2 : Cd.top 0 (Cd.uintR b.data.toList) j1 e1 = (kd, j2, e2)) (h3 : Cd.top 0 (Cd.uintR b.data.toList) j2 e2 = (nd, j3, e3)) : ReadSt b nm ks (cols ++ [⟨cn, (g kd : Int), d nd⟩]) (n - 1) j3 e3 := by
  intro s hr hb
  obtain ⟨q1, q2, _, q4, q5, q6, q7⟩ := h s hr hb
  have hk : cols.length < s.cols.length := by omega
  obtain ⟨i1, i2, i3, a1, a2, a3, a4, a5, a6⟩ := read_col hr hk q7
  have x1 := a1.symm.trans h1
  simp only [Prod.mk.injEq] at x1
  obtain ⟨rfl, rfl, rfl⟩ := x1
  have x2 := a2.symm.trans h2
  simp only [Prod.mk.injEq] at x2
  obtain ⟨rfl, rfl, rfl⟩ := x2
  have x3 := a3.symm.trans h3
  simp only [Prod.mk.injEq] at x3
  obtain ⟨rfl, rfl, rfl⟩ := x3
  have hc : (⟨s.cols[cols.length].name, (g s.cols[cols.length].kind.toNat : Int), d (need01 s.cols[cols.length])⟩ : C) = s.cols[cols.length] := by
    rw [hg _ (by omega), Int.toNat_of_nonneg (by omega)]
    unfold need01
    cases e : s.cols[cols.length].need with
    | false => rw [if_neg (by simp), hd0, ← e]
    | true => rw [if_pos rfl, hd1, ← e]
  rw [hc]
  have hl : (cols ++ [s.cols[cols.length]]).length = cols.length + 1 := by simp
  rw [hl]
  refine ⟨q1, q2, rfl, hk, ?_, by omega, a4⟩
  rw [List.take_succ_eq_append_getElem hk, ← q5]
theorem ReadSt.stop {b nm : ByteArray} {ks : Int} {cols : List C} {n j : Nat} {e : Int} (h : ReadSt b nm ks cols n j e) (hs : n = 0 ∨ e ≠ 0 ∨ 16 < cols.length) (s : S) (hr : right s = true) (hb : b = bstr (encode s)) : (⟨nm, cols, ks⟩ : S) = s ∧ e = 0 := by
  obtain ⟨q1, q2, q3, q4, q5, q6, q7⟩ := h s hr hb
  obtain ⟨_, _, _, z4⟩ := right_head hr
  have hl : cols.length = s.cols.length := by omega
  rw [hl, List.take_length] at q5
  subst q1 q2 q5
  exact ⟨rfl, q3⟩
theorem top_zero {α : Type} {z : α} {f : Nat → Cd.R α} {i j : Nat} {e : Int} {v : α} (h : Cd.top z f i e = (v, j, 0)) (he : ∀ x, f i = .error x → x ≠ 0) : e = 0 ∧ f i = .ok (v, j) := by
  unfold Cd.top at h
  split at h
  · cases h; omega
  · rename_i h0
    refine ⟨by omega, ?_⟩
    cases hf : f i with
    | error x => rw [hf] at h; cases h; exact absurd rfl (he 0 hf)
    | ok p =>
      obtain ⟨y, m⟩ := p
      rw [hf] at h
      cases h
      rfl
theorem cols_inj : ∀ (l r : List C), (∀ c ∈ l, c.name.size ≤ 32 ∧ 1 ≤ c.kind ∧ c.kind ≤ 5) → (∀ c ∈ r, c.name.size ≤ 32 ∧ 1 ≤ c.kind ∧ c.kind ≤ 5) → l.length = r.length → l.flatMap colB = r.flatMap colB → l = r := by
  intro l
  induction l with
  | nil => intro r _ _ hl _; cases r with
    | nil => rfl
    | cons _ _ => cases hl
  | cons c l ih =>
    intro r h1 h2 hl h
    cases r with
    | nil => cases hl
    | cons d r =>
      rw [List.flatMap_cons, List.flatMap_cons] at h
      obtain ⟨a1, a2, a3⟩ := h1 c (by simp)
      obtain ⟨b1, b2, b3⟩ := h2 d (by simp)
      have e1 : (bstr (colB c ++ l.flatMap colB)).data.toList.drop 0 = colB c ++ l.flatMap colB := by rw [List.drop_zero]; rfl
      have e2 : (bstr (colB c ++ l.flatMap colB)).data.toList.drop 0 = colB d ++ r.flatMap colB := by rw [List.drop_zero, h]; rfl
      obtain ⟨j1, j2, j3, p1, p2, p3, p4⟩ := col_back a1 a2 a3 e1
      obtain ⟨k1, k2, k3, q1, q2, q3, q4⟩ := col_back b1 b2 b3 e2
      rw [p1] at q1
      injection q1 with q1
      injection q1 with n1 q1
      subst q1
      rw [p2] at q2
      injection q2 with q2
      injection q2 with n2 q2
      subst q2
      rw [p3] at q3
      injection q3 with q3
      injection q3 with n3 q3
      subst q3
      have hcd : c = d := by
        obtain ⟨cn, ck, cd⟩ := c
        obtain ⟨dn, dk, dd⟩ := d
        simp only at n1 n2 a2 a3 b2 b3
        have : ck = dk := by omega
        subst n1 this
        cases cd <;> cases dd <;> first | rfl | (simp [need01] at n3)
      rw [hcd, ih r (fun x hx => h1 x (by simp [hx])) (fun x hx => h2 x (by simp [hx])) (by simpa using hl) (by rw [← p4, q4])]
theorem right_cols {s : S} (h : right s = true) : ∀ c ∈ s.cols, c.name.size ≤ 32 ∧ 1 ≤ c.kind ∧ c.kind ≤ 5 := by
  intro c hc
  obtain ⟨k, hk, rfl⟩ := List.mem_iff_getElem.1 hc
  exact right_col h k hk
theorem encode_inj {s t : S} (hs : right s = true) (ht : right t = true) (h : encode s = encode t) : s = t := by
  obtain ⟨j1, j2, j3, a1, a2, a3, a4⟩ := read_head (b := bstr (encode s)) hs rfl
  obtain ⟨k1, k2, k3, b1, b2, b3, b4⟩ := read_head (b := bstr (encode s)) ht (by rw [h])
  have x1 := a1.symm.trans b1
  simp only [Prod.mk.injEq] at x1
  obtain ⟨n1, rfl, _⟩ := x1
  have x2 := a2.symm.trans b2
  simp only [Prod.mk.injEq] at x2
  obtain ⟨n2, rfl, _⟩ := x2
  have x3 := a3.symm.trans b3
  simp only [Prod.mk.injEq] at x3
  obtain ⟨n3, rfl, _⟩ := x3
  have hc := cols_inj s.cols t.cols (right_cols hs) (right_cols ht) n3 (a4.symm.trans b4)
  obtain ⟨_, u1, _, _⟩ := right_head hs
  obtain ⟨_, v1, _, _⟩ := right_head ht
  obtain ⟨sn, sc, sk⟩ := s
  obtain ⟨tn, tc, tk⟩ := t
  simp only at n1 n2 hc u1 v1
  have : sk = tk := by omega
  subst n1 hc this
  rfl
end Sc
end Go.Proofs.Ytmmegicaeaifaaa

namespace Go.Proofs.Ytmmegicaeaifaaa
open Go.RowKit

/-- none of the first k columns behind asks for a value -/
def Sc.looseTo (n : Nat) (l : List Sc.C) (k : Nat) : Bool := ((l.drop n).take k).all fun c => !c.need
theorem Sc.looseTo_zero (n : Nat) (l : List Sc.C) : Sc.looseTo n l 0 = true := by unfold Sc.looseTo; simp
theorem Sc.looseTo_next {n k : Nat} {l : List Sc.C} (h : n + k < l.length) (h1 : Sc.looseTo n l k = true) (h0 : (l[n + k]).need = false) : Sc.looseTo n l (k + 1) = true := by
  unfold Sc.looseTo at *
  rw [List.take_succ_eq_append_getElem (by rw [List.length_drop]; omega), List.all_append, h1]
  simp [h0]
/-- how far the reference has come -/
def Sc.ExtTo (ac bc : List Sc.C) (k : Nat) : Prop := (k ≤ ac.length ∧ ac.take k = bc.take k) ∨ (ac.length ≤ k ∧ ac = bc.take ac.length ∧ Sc.looseTo ac.length bc (k - ac.length) = true)
theorem Sc.ExtTo.out {ac bc : List Sc.C} {k : Nat} (h : Sc.ExtTo ac bc k) (hk : ac.length ≤ k) : ac = bc.take ac.length ∧ Sc.looseTo ac.length bc (k - ac.length) = true := by
  rcases h with ⟨h1, h⟩ | ⟨_, h1, h2⟩
  · obtain rfl : k = ac.length := by omega
    rw [List.take_length] at h
    exact ⟨h, by rw [Nat.sub_self]; exact Sc.looseTo_zero _ _⟩
  · exact ⟨h1, h2⟩
theorem Sc.ExtTo.next {ac bc : List Sc.C} {k : Nat} (h : Sc.ExtTo ac bc k) (hk : ac.length ≤ k) (hb : k < bc.length) (h0 : bc[k].need = false) : Sc.ExtTo ac bc (k + 1) := by
  obtain ⟨h1, h2⟩ := h.out hk
  refine .inr ⟨by omega, h1, ?_⟩
  rw [show k + 1 - ac.length = (k - ac.length) + 1 by omega]
  have e : ac.length + (k - ac.length) = k := by omega
  exact Sc.looseTo_next (by omega) h2 (by simp only [e]; exact h0)
theorem Sc.take_ne {ac bc : List Sc.C} {k : Nat} (hk : k < ac.length) (hle : ac.length ≤ bc.length) (he : ac[k] ≠ bc[k]'(by omega)) : ac ≠ bc.take ac.length := by
  intro h
  apply he
  have h1 : (bc.take ac.length)[k]'(by rw [List.length_take]; omega) = bc[k]'(by omega) := List.getElem_take ..
  rw [← h1]
  congr 1
theorem CsAt.take {w : World} {adr : Option Addr} {cap : Nat} {l : List Sc.C} (h : CsAt w (.slice adr l.length cap) l) (n : Nat) (hn : n ≤ l.length) : CsAt w (.slice adr n cap) (l.take n) := by
  obtain ⟨adr', cap', e, h1, h2, hc⟩ := h
  cases e
  have hl : (l.take n).length = n := by rw [List.length_take]; omega
  refine ⟨adr, cap, by rw [hl], by omega, h2, fun k hk => ?_⟩
  have hk' : k < l.length := by omega
  have hg : (l.take n)[k] = l[k] := List.getElem_take ..
  rw [hg]
  exact hc k hk'
end Go.Proofs.Ytmmegicaeaifaaa

namespace Go.Proofs.Ytmmegicaeaifaaa
open Go.RowKit

/-- a row's key -/
def Sc.key (s : Sc.S) (l : List Cd.V) : List Cd.V := if Sc.fits s l = 0 then l.take s.keys.toNat else []
/-- a row's cells at a place -/
theorem VsAt.at {w : World} {adr : Option Addr} {cap n : Nat} {l : List Cd.V} (h : VsAt w (.slice adr n cap) l) (hl : 0 < l.length) : n = l.length ∧ ∃ g off, adr = some ⟨g, off, none⟩ ∧ ∀ j u, (vcells l)[j]? = some u → w.cell? ⟨g, off + j, none⟩ = some u := by
  obtain ⟨adr', cap', e, hc⟩ := h
  cases e
  refine ⟨rfl, ?_⟩
  obtain ⟨g, off, rfl, _⟩ := hc 0 hl
  refine ⟨g, off, rfl, fun j u hj => ?_⟩
  have hjl : j < l.length * 4 := by
    have := (List.getElem?_eq_some_iff.1 hj).1
    rw [vcells_length] at this; exact this
  obtain ⟨q, r, rfl, hr⟩ : ∃ q r, j = q * 4 + r ∧ r < 4 := ⟨j / 4, j % 4, by omega, by omega⟩
  have hq : q < l.length := by omega
  obtain ⟨g', off', e, q0, q1, q2, q3⟩ := hc q hq
  cases e
  obtain ⟨g0, g1, g2, g3⟩ := vcells_get (List.getElem?_eq_getElem hq)
  have hr' : r = 0 ∨ r = 1 ∨ r = 2 ∨ r = 3 := by omega
  rcases hr' with rfl | rfl | rfl | rfl
  · rw [Nat.add_zero] at hj ⊢
    rw [g0] at hj; cases hj; exact q0
  · rw [g1] at hj; cases hj; rw [← Nat.add_assoc]; exact q1
  · rw [g2] at hj; cases hj; rw [← Nat.add_assoc]; exact q2
  · rw [g3] at hj; cases hj; rw [← Nat.add_assoc]; exact q3
theorem VsAt.take {w : World} {adr : Option Addr} {cap : Nat} {l : List Cd.V} (h : VsAt w (.slice adr l.length cap) l) (n : Nat) (hn : n ≤ l.length) (cap' : Nat) : VsAt w (.slice adr n cap') (l.take n) := by
  obtain ⟨adr', cap'', e, hc⟩ := h
  cases e
  refine ⟨adr, cap', by rw [List.length_take, Nat.min_eq_left hn], fun k hk => ?_⟩
  have hk' : k < l.length := by rw [List.length_take] at hk; omega
  have hg : (l.take n)[k] = l[k] := List.getElem_take ..
  rw [hg]
  exact hc k hk'
/-- a row in memory, with what its slice may hold -/
def RsAt (w : World) (v : Value) (l : List Cd.V) : Prop := VsAt w v l ∧ ∃ adr cap, v = .slice adr l.length cap ∧ l.length ≤ cap ∧ cap ≤ maxLen ∧ (adr = none → cap = 0)
theorem RsAt.below {w w' : World} {v : Value} {l : List Cd.V} (h : RsAt w v l) (hb : Below w.heap.size w w') : RsAt w' v l := ⟨h.1.below hb, h.2⟩
theorem RsAt.len {w : World} {v : Value} {l : List Cd.V} (h : RsAt w v l) : l.length ≤ maxLen := by
  obtain ⟨_, _, _, _, h1, h2, _⟩ := h
  exact Nat.le_trans h1 h2
theorem RsAt.own {w : World} {B : Nat} {v : Value} {l : List Cd.V} (h : w.ownsRow B 59 4 v l.length (vcells l)) : RsAt w v l := by
  refine ⟨VsAt.own h, ?_⟩
  rcases h.2 with ⟨rfl, hn⟩ | ⟨g, cap, cur, rfl, _, _, h1, h2, _⟩
  · exact ⟨none, 0, by rw [hn], by omega, by decide, fun _ => rfl⟩
  · exact ⟨_, cap, rfl, h1, h2, fun e => by cases e⟩
theorem RsAt.nil (w : World) : RsAt w (.slice none 0 0) [] := ⟨⟨none, 0, rfl, fun k hk => absurd hk (Nat.not_lt_zero k)⟩, none, 0, rfl, Nat.le_refl _, by decide, fun _ => rfl⟩
end Go.Proofs.Ytmmegicaeaifaaa

namespace Go.Proofs.Ytmmegicaeaifaaa
open Go.RowKit

/-- a block that holds just these values -/
def BR (w : World) (g : Nat) (l : List Cd.V) : Prop := w.heap[g]? = some (.cells (vcells l).toArray 59 (0, 0))
theorem BR.keep {w w' : World} {g : Nat} {l : List Cd.V} (h : BR w g l) (hb : Below w.heap.size w w') : BR w' g l := keepBlock h hb
theorem BR.own {w : World} {g B : Nat} {l : List Cd.V} (h : BR w g l) (hB : B ≤ g) (hl : l.length ≤ maxLen) : w.ownsRow B 59 4 (.slice (some ⟨g, 0, none⟩) l.length l.length) l.length (vcells l) :=
  ⟨vcells_length l, .inr ⟨g, l.length, (vcells l).toArray, rfl, hB, h, Nat.le_refl _, hl, by simp [vcells_length], by simp only; rw [List.take_of_length_le (by rw [vcells_length]; exact Nat.le_refl _)]⟩⟩
theorem own_base {w : World} {B B' e size n : Nat} {v : Value} {xs : List Value} (h : w.ownsRow B e size v n xs) (hB : B' ≤ B) : w.ownsRow B' e size v n xs := by
  refine ⟨h.1, ?_⟩
  rcases h.2 with hn | ⟨g, cap, cur, rfl, hb, rest⟩
  · exact .inl hn
  · exact .inr ⟨g, cap, cur, rfl, Nat.le_trans hB hb, rest⟩
end Go.Proofs.Ytmmegicaeaifaaa

namespace Go.Proofs.Ytmmegicaeaifaaa
open Go.RowKit

theorem Try.infoColumn : (Try.prog.info? 88).map (fun i => (i.zero, i.size, i.bytes)) = some (some (.agg #[.string ⟨#[]⟩, .int .i64 0, .bool false]), 3, 32) := by kernel_rfl
/-- the columns' cells, one behind the other -/
def ccells (l : List Sc.C) : List Value := l.flatMap fun c => [.string c.name, .int .i64 c.kind, .bool c.need]
theorem ccells_append (l r : List Sc.C) : ccells (l ++ r) = ccells l ++ ccells r := by simp [ccells]
theorem ccells_get {l : List Sc.C} {j : Nat} {s : Sc.C} (h : l[j]? = some s) : (ccells l)[j * 3]? = some (.string s.name) ∧ (ccells l)[j * 3 + 1]? = some (.int .i64 s.kind) ∧ (ccells l)[j * 3 + 2]? = some (.bool s.need) := by
  induction l generalizing j with
  | nil => simp at h
  | cons x l ih =>
    show (_ :: _ :: _ :: ccells l)[j * 3]? = _ ∧ (_ :: _ :: _ :: ccells l)[j * 3 + 1]? = _ ∧ (_ :: _ :: _ :: ccells l)[j * 3 + 2]? = _
    cases j with
    | zero => simp at h; subst h; exact ⟨rfl, rfl, rfl⟩
    | succ j =>
      simp only [List.getElem?_cons_succ] at h
      rw [show (j + 1) * 3 = j * 3 + 1 + 1 + 1 from by omega, show j * 3 + 1 + 1 + 1 + 1 = (j * 3 + 1) + 1 + 1 + 1 from by omega, show j * 3 + 1 + 1 + 1 + 2 = (j * 3 + 2) + 1 + 1 + 1 from by omega]
      simp only [List.getElem?_cons_succ]
      exact ih h
theorem ccells_one_cell (l : List Sc.C) : ∀ u ∈ ccells l, u.oneCell' = true := by
  intro u hu
  obtain ⟨s, _, hs⟩ := List.mem_flatMap.1 hu
  simp at hs
  rcases hs with rfl | rfl | rfl <;> rfl
theorem CsAt.own {w : World} {B : Nat} {v : Value} {l : List Sc.C} (h : w.ownsRow B 88 3 v l.length (ccells l)) : CsAt w v l := by
  rcases h.2 with ⟨rfl, hn⟩ | ⟨g, cap, cur, rfl, hB, hg, hn, hm, hs, ht⟩
  · exact ⟨none, 0, by rw [hn], by omega, by decide, fun k hk => by omega⟩
  · refine ⟨_, cap, rfl, hn, hm, fun k hk => ⟨g, 0, rfl, ?_⟩⟩
    have hc : ∀ i u, (ccells l)[i]? = some u → w.cell? ⟨g, 0 + i, none⟩ = some u := by
      intro i u hi
      rw [Nat.zero_add, cell_of_row w g i cur _ (0, 0) hg]
      rw [← ht, List.getElem?_take] at hi
      split at hi
      · simpa using hi
      · cases hi
    obtain ⟨g0, g1, g2⟩ := ccells_get (List.getElem?_eq_getElem hk)
    exact ⟨hc _ _ g0, by rw [Nat.add_assoc]; exact hc _ _ g1, by rw [Nat.add_assoc]; exact hc _ _ g2⟩
theorem cell_three (w : World) (a b c : Value) (t : TypeId) {g : Nat} (hg : g = w.heap.size) : ∀ j u, [a, b, c][j]? = some u → (w.alloc (.cells #[a, b, c] t)).cell? ((⟨g, 0, none⟩ : Addr).add j) = some u := by
  subst hg
  intro j u hj
  have hadd : (⟨w.heap.size, 0, none⟩ : Addr).add j = ⟨w.heap.size, j, none⟩ := by unfold Addr.add; split <;> simp_all
  rw [hadd, cell_of_row (w.alloc (.cells #[a, b, c] t)) w.heap.size j #[a, b, c] t (0, 0) (heap_alloc_new w _)]
  simpa using hj
/-- 'append(cols, c)', out of the call's own, c in a block that has just been laid -/
theorem append_col (u : World) {ops : Array Oper} {rest : List Oper} {o : Oper} {a : Act} {Q : Exit → Act → World → Prop} (hgd : o.guard = none) (s x : Operand)
    (ho : o.op = .call { callee := .builtin .append, args := #[s, x], argTypes := #[28, 28] })
    (B : Nat) (v : Value) (l : List Sc.C) (hs : a.eval s = v) (hown : u.ownsRow B 88 3 v l.length (ccells l)) (n : ByteArray) (k : Int) (d : Bool) (g : Nat) (hgz : g = u.heap.size) (hx : a.eval x = .slice (some ⟨g, 0, none⟩) 1 1)
    (hlen : l.length ≤ 1000000) (hB : B ≤ u.heap.size)
    (hK : ∀ v' w', w'.ownsRow B 88 3 v' (l ++ [(⟨n, k, d⟩ : Sc.C)]).length (ccells (l ++ [(⟨n, k, d⟩ : Sc.C)])) → u.grownBy w' v.ownBlock → wpList Try.prog ops Q rest (a.put o.dst v') w') :
    wpList Try.prog ops Q (o :: rest) a (u.alloc (.cells #[.string n, .int .i64 k, .bool d] 88)) := by
  obtain ⟨i0, hi, hz0, hz1, hz2⟩ := info_parts Try.infoColumn
  refine wpList_append_own _ hgd s x 28 ho B 88 i0 (.agg #[.string ⟨#[]⟩, .int .i64 0, .bool false]) 3 32 Try.underlying28 hi hz0 hz1 hz2 rfl (by decide) v l.length (ccells l) hs (hown.alloc _) ⟨g, 0, none⟩ 1 1 (ccells [(⟨n, k, d⟩ : Sc.C)]) hx rfl (cell_three u _ _ _ _ hgz) (ccells_one_cell _) ?_ ?_ ?_ ?_
  · unfold maxLen; omega
  · omega
  · simp; omega
  · intro v' w' hown' hgrow _
    refine hK v' w' (by rw [ccells_append, List.length_append]; exact hown') ?_
    refine ⟨hgrow.os, hgrow.tape, hgrow.output, Nat.le_trans (by simp) hgrow.size, fun k hk hne => ?_⟩
    rw [hgrow.block k (by simp; omega) hne]
    exact Below.heap_alloc u _ k hk
/-- 'min(n, m)' of two numbers that are not below 0 -/
theorem min_u64 (w : World) {ops : Array Oper} {rest : List Oper} {o : Oper} {a : Act} {Q : Exit → Act → World → Prop} (hg : o.guard = none) (x y : Operand) (ts : Array TypeId) (ho : o.op = .call { callee := .builtin .min, args := #[x, y], argTypes := ts })
    (n m : Nat) (M : Int) (hM : M = (m : Int)) (hx : a.eval x = .int .u64 (n : Int)) (hy : a.eval y = .int .u64 M) (hK : ∀ p : Nat, p ≤ m → Hid (p = min n m) → wpList Try.prog ops Q rest (a.put o.dst (.int .u64 (p : Int))) w) : wpList Try.prog ops Q (o :: rest) a w := by
  subst hM
  refine wpList_plain hg fun K hKK => ?_
  have hm : (if (m : Int) < (n : Int) then (m : Int) else (n : Int)) = ((min n m : Nat) : Int) := by split <;> omega
  have h2 : wpList Try.prog ops Q rest (a.put o.dst (.int .u64 (if (m : Int) < (n : Int) then (m : Int) else (n : Int)))) w := by
    rw [hm]; exact hK (min n m) (Nat.min_le_right _ _) rfl
  unfold Oper.wp
  simp [execOp, ho, resolve, invoke, builtin, hx, hy]
  exact hKK _ _ h2
theorem BS.upd {w w' : World} {g g0 : Nat} {n : ByteArray} {v : Value} {k : Int} (h : BS w g0 n v k) (hu : Upd g w w') (hne : g0 ≠ g) : BS w' g0 n v k := by
  show w'.heap[g0]? = _
  rw [hu.block g0 h.cells.2.2.2 (by simpa using hne)]; exact h
theorem BC.upd {w w' : World} {g g0 : Nat} {c : Sc.C} (h : BC w g0 c) (hu : Upd g w w') (hne : g0 ≠ g) : BC w' g0 c := by
  show w'.heap[g0]? = _
  rw [hu.block g0 h.cells.2.2.2 (by simpa using hne)]; exact h
theorem BS.setV {w : World} {g : Nat} {n : ByteArray} {v : Value} {k : Int} (h : BS w g n v k) (u : Value) : BS (w.setCell ⟨g, 1, none⟩ u) g n u k := heap_setCell_same w g 1 _ _ u h
theorem BS.setO {w : World} {g r o : Nat} {n : ByteArray} {v u : Value} {k : Int} (h : BS w g n v k) (hne : r ≠ g) : BS (w.setCell ⟨r, o, none⟩ u) g n v k :=
  (heap_setCell_other w ⟨r, o, none⟩ g u (by simpa [eq_comm] using hne)).trans h
theorem BS.grown {w w' : World} {g : Nat} {r : Option Nat} {n : ByteArray} {v : Value} {k : Int} (h : BS w g n v k) (hg : w.grownBy w' r) (hne : some g ≠ r) : BS w' g n v k := by
  show w'.heap[g]? = _
  rw [hg.block g h.cells.2.2.2 hne]; exact h
theorem Rdr.grown {w w' : World} {g : Nat} {r : Option Nat} {s : ByteArray} {i : Nat} {e : Int} (h : Rdr w g s i e) (hg : w.grownBy w' r) (hne : some g ≠ r) : Rdr w' g s i e := by
  show w'.heap[g]? = _
  rw [hg.block g h.cells.2.2.2.2.2 hne]; exact h
/-- texts and numbers that are read -/
theorem top_text {s : ByteArray} {i j : Nat} {er e : Int} {t : ByteArray} (h : Cd.top ⟨#[]⟩ (Cd.textR s 1000000) i er = (t, j, e)) : t.size ≤ 1000000 ∧ (e = 0 → er = 0 ∧ i < s.size) := by
  unfold Cd.top at h
  split at h
  · cases h; exact ⟨by show 0 ≤ _; omega, fun h => absurd h (by assumption)⟩
  · rename_i h0
    cases hf : Cd.textR s 1000000 i with
    | error x =>
      rw [hf] at h
      cases h
      have := Cd.text_errs 1000000 s i _ hf
      exact ⟨by show 0 ≤ _; omega, fun h => by omega⟩
    | ok p =>
      obtain ⟨y, m⟩ := p
      rw [hf] at h
      cases h
      obtain ⟨q1, _, q2, q3⟩ := Cd.text_inv hf
      exact ⟨q1, fun _ => ⟨by omega, by omega⟩⟩
theorem top_uint {s : ByteArray} {i j : Nat} {er e : Int} {n : Nat} (h : Cd.top 0 (Cd.uintR s.data.toList) i er = (n, j, e)) : n < 18446744073709551616 ∧ (e = 0 → er = 0) := by
  unfold Cd.top at h
  split at h
  · cases h; exact ⟨by decide, fun h => absurd h (by assumption)⟩
  · rename_i h0
    cases hf : Cd.uintR s.data.toList i with
    | error x => rw [hf] at h; cases h; exact ⟨by decide, fun _ => by omega⟩
    | ok p =>
      obtain ⟨y, m⟩ := p
      rw [hf] at h
      cases h
      exact ⟨(Cd.uint_inv hf).1, fun _ => by omega⟩
/-- what Decode leaves -/
def DecP (b : ByteArray) (w : World) (e : Ending) (w' : World) : Prop :=
  ∃ (s : Sc.S) (v : Value) (er : Int), e = .returned (.tuple #[sv s v, .int .i64 er]) ∧ CsAt w' v s.cols ∧ w'.ownsRow w.heap.size 88 3 v s.cols.length (ccells s.cols) ∧ Sok s ∧ Below w.heap.size w w' ∧
    ((er = 0 ∧ Sc.right s = true ∧ b = bstr (Sc.encode s)) ∨ (er = 7 ∧ s = ⟨⟨#[]⟩, [], 0⟩ ∧ ∀ t, Sc.right t = true → b ≠ bstr (Sc.encode t)))
end Go.Proofs.Ytmmegicaeaifaaa

namespace Go.Proofs.Ytmmegicaeaifaaa
open Go.RowKit

theorem CsAt.nil (w : World) : CsAt w (.slice none 0 0) [] := ⟨none, 0, rfl, Nat.le_refl _, by decide, fun k hk => absurd hk (Nat.not_lt_zero k)⟩
theorem CsAt.slc {w : World} {v : Value} {l : List Sc.C} (h : CsAt w v l) : ∃ adr cap, v = .slice adr l.length cap := by
  obtain ⟨adr, cap, rfl, _⟩ := h; exact ⟨adr, cap, rfl⟩
theorem CsAt.slc' {w : World} {v : Value} {l : List Sc.C} (h : CsAt w v l) {m : Nat} (hm : l.length = m) : ∃ adr cap, v = .slice adr m cap := by
  subst hm; exact h.slc
theorem own_upd' {w w' : World} {g B e size : Nat} {v : Value} {n : Nat} {xs : List Value} (h : w.ownsRow B e size v n xs) (hu : Upd g w w') (hg : g < B) : w'.ownsRow B e size v n xs := own_upd h hu hg
set_option maxRecDepth 100000 in
set_option maxHeartbeats 12800000 in
theorem decode_any (b : ByteArray) (hb : b.size ≤ 1000000) (w : World) : Calls Try.prog 69 #[.string b] w (DecP b w) := by
  have hs9 : b.size ≤ 1000000000 := by omega
  go_enter Try.func69, Try.ntmps69
  go_wp2_with fail
  -- the reader
  have hZ0 := BS.new w ⟨#[]⟩ (.slice none 0 0) 0
  have hL0 := hba w (.cells #[.string ⟨#[]⟩, .slice none 0 0, .int .i64 0] 30)
  obtain ⟨w1, hw1⟩ : ∃ w1, w.alloc (.cells #[.string ⟨#[]⟩, .slice none 0 0, .int .i64 0] 30) = w1 := ⟨_, rfl⟩
  rw [hw1] at hZ0 hL0 ⊢
  clear hw1
  refine (new_any b _).mono ?_; rintro e w2 ⟨rfl, hw2⟩
  have R0 := new_rdr b w1
  have hba1 := hba w1 (.cells #[.string b, .int .i64 0, .int .i64 0] 95)
  rw [← hw2] at R0 hba1
  have hZ1 := hZ0.keep hba1
  have hL1 := hnext hL0 hba1
  have hzg : w.heap.size ≠ w1.heap.size := Nat.ne_of_lt hZ0.cells.2.2.2
  have hzl : w.heap.size < w1.heap.size := hZ0.cells.2.2.2
  generalize w1.heap.size = g at R0 hzg hzl ⊢
  clear hw2 hba1 hZ0 hL0
  -- its name, keys, columns
  obtain ⟨⟨nm, j1, e1⟩, hT1⟩ : ∃ t, Cd.top ⟨#[]⟩ (Cd.textR b 1000000) 0 0 = t := ⟨_, rfl⟩
  obtain ⟨⟨kn, j2, e2⟩, hT2⟩ : ∃ t, Cd.top 0 (Cd.uintR b.data.toList) j1 e1 = t := ⟨_, rfl⟩
  obtain ⟨⟨n0, j3, e3⟩, hT3⟩ : ∃ t, Cd.top 0 (Cd.uintR b.data.toList) j2 e2 = t := ⟨_, rfl⟩
  have m1 := hid (fun W h => mText g b 0 0 W h (Nat.zero_le _) hs9)
  rw [hT1] at m1
  have m2 := hid (fun W h hj => mUint g b j1 e1 W h hj hs9)
  rw [hT2] at m2
  have m3 := hid (fun W h hj => mUint g b j2 e2 W h hj hs9)
  rw [hT3] at m3
  have HT1 := hid hT1
  have HT2 := hid hT2
  have HT3 := hid hT3
  clear hT1 hT2 hT3
  have t1 := top_text HT1.out
  have t2 := top_uint HT2.out
  have t3 := top_uint HT3.out
  have hnm := t1.1
  have HPOS : Hid (e3 = 0 → 0 < b.size) := fun h => (t1.2 (t2.2 (t3.2 h))).2
  have hn64 : (n0 : Int) ≤ 18446744073709551615 := by have := t3.1; omega
  have HN64 := hid t3.1
  clear t1 t2 t3
  go_wp2_with fail
  refine (m1.out _ R0).mono ?_; rintro e w3 ⟨rfl, u3, R1, hj1⟩
  simp only at R1 hj1
  have hZ3 := hZ1.upd u3 hzg
  have HL3 := hid (Upd.below hL1 u3 (Nat.le_of_lt hzl) hL1.size)
  clear hZ1 hL1 u3 m1 R0
  dsimp only
  go_wp2_with fail
  refine (m2.out _ R1 hj1).mono ?_; rintro e w4 ⟨rfl, u4, R2, hj2⟩
  simp only at R2 hj2
  have hZ4 := hZ3.upd u4 hzg
  have HL4 := hid (Upd.below HL3.out u4 (Nat.le_of_lt hzl) HL3.out.size)
  clear hZ3 HL3 u4 m2 R1 hj1
  dsimp only
  go_wp2_with (with_reducible refine min_u64 _ rfl (.tmp 13) (.const (.int .u64 9)) _ rfl kn 9 9 rfl rfl rfl ?_; intro p hp9 hp)
  -- the schema that is made
  have hR0 : Hid (Sc.ReadSt b nm (p : Int) [] n0 j3 e3) := by
    have := Sc.ReadSt.start (g := fun m => min m 9) (g' := fun m => m) (fun m hm => Nat.min_eq_left (by omega)) (fun m _ => rfl) HT1.out HT2.out HT3.out
    rw [hp.out]; exact this
  have hS5 := BS.new w4 nm (.slice none 0 0) (p : Int)
  have hba4 := hba w4 (.cells #[.string nm, .slice none 0 0, .int .i64 (p : Int)] 30)
  have R3 := R2.keep hba4
  have hZ5 := hZ4.keep hba4
  have HL5 := hid (hnext HL4.out hba4)
  have hsg : g < w4.heap.size := R2.cells.2.2.2.2.2
  have hsz : w.heap.size < w4.heap.size := hZ4.cells.2.2.2
  obtain ⟨sb, hsb⟩ : ∃ sb, w4.heap.size = sb := ⟨_, rfl⟩
  rw [hsb] at hS5 hsg hsz
  rw [hsb]
  generalize w4.alloc (.cells #[.string nm, .slice none 0 0, .int .i64 (p : Int)] 30) = w5 at *
  have hsl : sb < w5.heap.size := hS5.cells.2.2.2
  have hgs : g ≠ sb := Nat.ne_of_lt hsg
  have hsgn : sb ≠ g := fun h => hgs h.symm
  have hzs : w.heap.size ≠ sb := Nat.ne_of_lt hsz
  have hszn : sb ≠ w.heap.size := fun h => hzs h.symm
  clear hba4 hZ4 HL4 R2 hsb HT1 HT2 HT3 hp
  refine (m3.out _ R3 hj2).mono ?_; rintro e w6 ⟨rfl, u6, R4, hj3⟩
  simp only at R4 hj3
  have hZ6 := hZ5.upd u6 hzg
  have hS6 := hS5.upd u6 hsgn
  have HL6 := hid (Upd.below HL5.out u6 (Nat.le_of_lt hzl) HL5.out.size)
  have hsl6 : sb < w6.heap.size := hS6.cells.2.2.2
  clear hZ5 HL5 u6 m3 R3 hS5 hsl hj2
  dsimp only
  go_wp2_with fail
  go_loopw [6] (fun q wr => ∃ (cols : List Sc.C) (n j : Nat) (er : Int) (v : Value), q = .int .u64 (n : Int) ∧ n < 18446744073709551616 ∧ Hid (Sc.ReadSt b nm (p : Int) cols n j er) ∧ (cols.length ≤ 17 ∧ ∀ c ∈ cols, c.name.size ≤ 1000000) ∧
      Rdr wr g b j er ∧ j ≤ b.size ∧ BS wr sb nm v (p : Int) ∧ wr.ownsRow (sb + 1) 88 3 v cols.length (ccells cols) ∧ BS wr w.heap.size ⟨#[]⟩ (.slice none 0 0) 0 ∧ Hid (Below w.heap.size w wr) ∧ Hid (er = 0 → 0 < b.size)) (fun q _ => (intOf q).toNat)
  case atStart => exact ⟨[], n0, j3, e3, _, rfl, HN64.out, hR0, ⟨by simp, fun c hc => absurd hc List.not_mem_nil⟩, R4, hj3, hS6, World.ownsRow_nil _ _ _ _, hZ6, HL6, HPOS⟩
  case round =>
    obtain ⟨cols, n, j, er, v, rfl, hn, hst, ⟨hcl, hcs⟩, hr, hj, hS, hO, hZ, hL, hpos⟩ := hrel
    clear R4 hS6 hZ6 HL6 HPOS hR0 hj3 hsl6
    obtain ⟨w7, rfl⟩ : ∃ w7 : World, w7 = wr := ⟨_, rfl⟩
    have hn0 : (0 : Int) ≤ (n : Int) := by omega
    have hn1 : (n : Int) ≤ 18446744073709551615 := by omega
    obtain ⟨s0, s1, s2, sl⟩ := hS.cells
    have f1 := frozen_of_row w7 sb 1 _ _ hS
    have HO := hid hO
    have HCS := hid hcs
    clear hO hcs
    obtain ⟨adr, cap, rfl, hcc1, hcc2⟩ : ∃ adr cap, v = .slice adr cols.length cap ∧ cols.length ≤ cap ∧ cap ≤ maxLen := by
      obtain ⟨adr, cap, e, h1, h2, _⟩ := CsAt.own HO.out
      exact ⟨adr, cap, e, h1, h2⟩
    have herr := hid (err_any g b j er w7 hr)
    by_cases hgo : 0 < n ∧ er = 0 ∧ cols.length ≤ 16
    · obtain ⟨hg1, rfl, hg3⟩ := hgo
      have hg1' : (0 : Int) < (n : Int) := by omega
      have hg3' : (cols.length : Int) ≤ 16 := by omega
      clear hn
      obtain ⟨⟨cn, i1, a1⟩, hT1⟩ : ∃ t, Cd.top ⟨#[]⟩ (Cd.textR b 1000000) j 0 = t := ⟨_, rfl⟩
      obtain ⟨⟨kd, i2, a2⟩, hT2⟩ : ∃ t, Cd.top 0 (Cd.uintR b.data.toList) i1 a1 = t := ⟨_, rfl⟩
      obtain ⟨⟨nd, i3, a3⟩, hT3⟩ : ∃ t, Cd.top 0 (Cd.uintR b.data.toList) i2 a2 = t := ⟨_, rfl⟩
      have m1 := hid (mText g b j 0 w7 hr hj hs9)
      rw [hT1] at m1
      have m2 := hid (fun W h hj => mUint g b i1 a1 W h hj hs9)
      rw [hT2] at m2
      have m3 := hid (fun W h hj => mUint g b i2 a2 W h hj hs9)
      rw [hT3] at m3
      have HNX := hid (hst.out.next hg1 (g := fun m => min m 6) (fun m hm => Nat.min_eq_left (by omega)) (d := fun m => decide (0 < m)) rfl rfl hT1 hT2 hT3)
      have hcn := (top_text hT1).1
      have HP3 : Hid (a3 = 0 → 0 < b.size) := fun _ => hpos.out rfl
      clear hT1 hT2 hT3 hst hpos
      go_wp2_with fail
      refine (herr.out).mono ?_; rintro e w8 ⟨rfl, rfl⟩
      go_wp2_with fail
      refine (m1.out).mono ?_; rintro e w9 ⟨rfl, u9, r9, hi1⟩
      simp only at r9 hi1
      have S9 := hS.upd u9 hsgn
      have Z9 := hZ.upd u9 hzg
      have O9 := hid (own_upd HO.out u9 (by omega))
      have L9 := hid (Upd.below hL.out u9 (Nat.le_of_lt hzl) hL.out.size)
      clear u9 hr hS hZ HO hL m1 s0 s1 s2 sl f1 herr
      dsimp only
      go_wp2_with fail
      refine (m2.out _ r9 hi1).mono ?_; rintro e wA ⟨rfl, uA, rA, hi2⟩
      simp only at rA hi2
      have SA := S9.upd uA hsgn
      have ZA := Z9.upd uA hzg
      have OA := hid (own_upd O9.out uA (by omega))
      have LA := hid (Upd.below L9.out uA (Nat.le_of_lt hzl) L9.out.size)
      clear uA r9 S9 Z9 O9 L9 m2 hi1
      dsimp only
      go_wp2_with (with_reducible refine min_u64 _ rfl (.tmp 37) (.const (.int .u64 6)) _ rfl kd 6 6 rfl rfl rfl ?_; intro pk hpk6 hpk)
      have hC := BC.new wA ⟨cn, (pk : Int), false⟩
      simp only at hC
      have hbaA := hba wA (.cells #[.string cn, .int .i64 (pk : Int), .bool false] 88)
      have rB := rA.keep hbaA
      have SB := SA.keep hbaA
      have ZB := ZA.keep hbaA
      have OB := hid (OA.out.alloc (.cells #[.string cn, .int .i64 (pk : Int), .bool false] 88))
      have LB := hid (hnext LA.out hbaA)
      have hcg : g < wA.heap.size := rA.cells.2.2.2.2.2
      have hcs : sb < wA.heap.size := SA.cells.2.2.2
      obtain ⟨cb, hcb⟩ : ∃ cb, wA.heap.size = cb := ⟨_, rfl⟩
      have HOL : Hid (∀ q, (Value.slice adr cols.length cap).ownBlock = some q → q < cb) := fun q hq => by rw [← hcb]; exact (OA.out.lt q hq).2
      rw [hcb] at hC hcg hcs
      rw [hcb]
      generalize wA.alloc (.cells #[.string cn, .int .i64 (pk : Int), .bool false] 88) = wB at *
      have hcgn : cb ≠ g := fun h => by omega
      have hcsn : cb ≠ sb := fun h => by omega
      have hczn : cb ≠ w.heap.size := fun h => by omega
      have hscn : sb ≠ cb := fun h => by omega
      clear hbaA rA SA ZA OA LA hcb
      refine (m3.out _ rB hi2).mono ?_; rintro e wC ⟨rfl, uC, rC, hi3⟩
      simp only at rC hi3
      have SC := SB.upd uC hsgn
      have ZC := ZB.upd uC hzg
      have CC := hC.upd uC hcgn
      have OC := hid (own_upd OB.out uC (by omega))
      have LC := hid (Upd.below LB.out uC (Nat.le_of_lt hzl) LB.out.size)
      clear uC rB SB ZB OB LB m3 hi2 hC
      dsimp only
      obtain ⟨d, hd⟩ : ∃ d, decide (0 < nd) = d := ⟨_, rfl⟩
      have hd2 : decide ((0 : Int) < (nd : Int)) = d := by rw [← hd]; congr 1; exact propext (by omega)
      rw [hd] at HNX
      have hC9 := CC.cells
      obtain ⟨c0, c1, c2, cl⟩ := CC.cells
      have fc := frozen_of_row wC cb 2 _ _ CC
      have SD := SC.setO (o := 2) (u := .bool d) hcsn
      have ZD := ZC.setO (o := 2) (u := .bool d) hczn
      have rD := rC.setO (o := 2) (.bool d) hcgn
      have OD := hid (OC.out.kept (row := some cb) (Upd.set cb 2 wC (.bool d)) (.inr (fun e => by have := HOL.out cb e; omega)))
      have LD := hid (LC.out.setCell (p := ⟨cb, 2, none⟩) (by show w.heap.size ≤ cb; omega) (.bool d))
      have hsl : sb + 1 ≤ (wC.setCell ⟨cb, 2, none⟩ (.bool d)).heap.size := SD.cells.2.2.2
      have HSL := hid hsl
      have HSD := hid SD
      have HZD := hid ZD
      have HRD := hid rD
      have HGS : Hid (g < sb + 1) := by show _ < _; omega
      have HZS : Hid (w.heap.size < sb + 1) := by show _ < _; omega
      obtain ⟨s0, s1, s2, sl⟩ := SC.cells
      clear hC9 SC ZC rC OC LC hsl SD ZD rD hcc1 hcc2
      go_wp2_with (at_builtin; refine append_col _ rfl _ _ rfl (sb + 1) _ cols rfl OD.out cn (pk : Int) d _ (by first | rfl | (simp; done)) rfl (by omega) HSL.out ?_; intro v6 w6 hown6 hgrow6; have hO6 := hid hown6; have hS6 := HSD.out.grown hgrow6 (fun e => by have := (OD.out.lt sb e.symm).1; omega); have hZ6 := hid (HZD.out.grown hgrow6 (fun e => by have := (OD.out.lt _ e.symm).1; have := HZS.out; omega)); have hr6 := hid (HRD.out.grown hgrow6 (fun e => by have := (OD.out.lt g e.symm).1; have := HGS.out; omega)); have hL6 := hid (LD.out.grown hgrow6 LD.out.size (fun q hq => by have := (OD.out.lt q hq).1; have := HZS.out; omega)); clear hown6 hgrow6; obtain ⟨adr6, cap6, rfl⟩ := (CsAt.own hO6.out).slc' (m := cols.length + 1) (by simp); obtain ⟨x0, x1, x2, xl⟩ := hS6.cells; have fx := frozen_of_row w6 sb 1 _ _ hS6)
      go_roundw
      case rel =>
        refine ⟨cols ++ [⟨cn, (pk : Int), d⟩], n - 1, i3, a3, _, int_eq (by omega), by omega, ?_, ⟨by simp; omega, ?_⟩, hr6.out.setO (o := 1) _ (fun h => hgs h.symm), hi3, hS6.setV _, own_upd' hO6.out (Upd.set sb 1 w6 _) (Nat.lt_succ_self _), hZ6.out.setO (o := 1) hszn, hL6.out.setCell (p := ⟨sb, 1, none⟩) (Nat.le_of_lt hsz) _, HP3⟩
        · show Sc.ReadSt _ _ _ _ _ _ _
          rw [hpk.out]
          exact HNX.out
        · intro c hc
          rcases List.mem_append.1 hc with hc | hc
          · exact HCS.out c hc
          · rw [List.mem_singleton.1 hc]; exact hcn
      case measure => simp [intOf]; omega
    · by_cases hn2 : n = 0
      · subst hn2
        by_cases he : er = 0
        · subst he
          have HSTOP : Hid (∀ t, Sc.right t = true → b = bstr (Sc.encode t) → (⟨nm, cols, (p : Int)⟩ : Sc.S) = t) := fun t ht hb => (hst.out.stop (.inl rfl) t ht hb).1
          clear hgo
          go_wp2_with fail
          refine (herr.out).mono ?_; rintro e w8 ⟨rfl, rfl⟩
          have henc := hid (encode_any ⟨nm, cols, (p : Int)⟩ (.slice adr cols.length cap) w7 (CsAt.own HO.out) ⟨by show nm.size ≤ maxLen; unfold maxLen; omega, fun c hc => by have := HCS.out c hc; unfold maxLen; omega⟩)
          unfold sv at henc
          go_wp2_with fail
          refine (henc.out).mono ?_; rintro e w9 ⟨rfl, hb9⟩
          have hZ9 := hZ.keep hb9
          have hS9 := hS.keep hb9
          have O9 := hid (HO.out.kept (row := none) ⟨hb9.os, hb9.tape, hb9.output, hb9.size, fun i hi _ => hb9.block i hi⟩ (by cases adr <;> simp [Value.ownBlock]))
          have L9 := hid (hnext hL.out hb9)
          clear hb9 hZ hS HO hL s0 s1 s2 sl f1 henc herr hr
          obtain ⟨s0, s1, s2, sl⟩ := hS9.cells
          obtain ⟨z0, z1, z2, zl⟩ := hZ9.cells
          have y0 := frozen_of_row w9 w.heap.size 0 _ _ hZ9
          have y1 := frozen_of_row w9 w.heap.size 1 _ _ hZ9
          have y2 := frozen_of_row w9 w.heap.size 2 _ _ hZ9
          by_cases heq : bstr (Sc.encode ⟨nm, cols, (p : Int)⟩) = b
          · have hq : ((bstr (Sc.encode ⟨nm, cols, (p : Int)⟩)).toList == b.toList) = true := by rw [bytes_beq]; exact decide_eq_true heq
            have HR : Hid (Sc.right ⟨nm, cols, (p : Int)⟩ = true) := by
              show _ = _
              cases hr : Sc.right ⟨nm, cols, (p : Int)⟩ with
              | true => rfl
              | false =>
                rw [Sc.encode_no hr] at heq
                have := hpos.out (by simp)
                rw [← heq] at this
                exact absurd this (by decide)
            have HEQ := hid heq.symm
            clear heq hpos hst
            obtain ⟨E, hE⟩ : ∃ E, bstr (Sc.encode ⟨nm, cols, (p : Int)⟩) = E := ⟨_, rfl⟩
            rw [hE] at hq ⊢
            have HE := hid hE
            clear hE
            go_wp2_with fail
            have hLF := ((L9.out.setCell (p := ⟨w.heap.size, 0, none⟩) (Nat.le_refl _) (.string nm)).setCell (p := ⟨w.heap.size, 1, none⟩) (Nat.le_refl _) (.slice adr cols.length cap)).setCell (p := ⟨w.heap.size, 2, none⟩) (Nat.le_refl _) (.int .i64 (p : Int))
            have hOF := own_upd (own_upd (own_upd O9.out (Upd.set w.heap.size 0 _ (.string nm)) (by omega)) (Upd.set w.heap.size 1 _ (.slice adr cols.length cap)) (by omega)) (Upd.set w.heap.size 2 _ (.int .i64 (p : Int))) (by omega)
            exact bodyPost_ret (v := .tuple #[.agg #[.string nm, .slice adr cols.length cap, .int .i64 (p : Int)], .int .i64 0]) (by simp [results, Try.results69, go_sem, z0, z1, z2]) rfl
              ⟨⟨nm, cols, (p : Int)⟩, _, 0, rfl, CsAt.own hOF, own_base hOF (by omega), ⟨by show nm.size ≤ maxLen; unfold maxLen; omega, fun c hc => by have := HCS.out c hc; unfold maxLen; omega⟩, hLF, .inl ⟨rfl, HR.out, HEQ.out⟩⟩
          · have hq : ((bstr (Sc.encode ⟨nm, cols, (p : Int)⟩)).toList == b.toList) = false := by rw [bytes_beq]; exact decide_eq_false heq
            have HNO : Hid (∀ t, Sc.right t = true → b ≠ bstr (Sc.encode t)) := fun t ht hb => heq (by rw [HSTOP.out t ht hb]; exact hb.symm)
            clear heq hpos hst HSTOP
            obtain ⟨E, hE⟩ : ∃ E, bstr (Sc.encode ⟨nm, cols, (p : Int)⟩) = E := ⟨_, rfl⟩
            rw [hE] at hq ⊢
            have HE := hid hE
            clear hE
            go_wp2_with fail
            have hLF := ((L9.out.setCell (p := ⟨w.heap.size, 0, none⟩) (Nat.le_refl _) (.string ⟨#[]⟩)).setCell (p := ⟨w.heap.size, 1, none⟩) (Nat.le_refl _) (.slice none 0 0)).setCell (p := ⟨w.heap.size, 2, none⟩) (Nat.le_refl _) (.int .i64 0)
            exact bodyPost_ret (v := .tuple #[.agg #[.string ⟨#[]⟩, .slice none 0 0, .int .i64 0], .int .i64 7]) (by simp [results, Try.results69, go_sem, z0, z1, z2]) rfl
              ⟨⟨⟨#[]⟩, [], 0⟩, _, 7, rfl, CsAt.nil _, World.ownsRow_nil _ _ _ _, ⟨by decide, fun c hc => absurd hc List.not_mem_nil⟩, hLF, .inr ⟨rfl, rfl, HNO.out⟩⟩
        · skip
          have HNO : Hid (∀ t, Sc.right t = true → b ≠ bstr (Sc.encode t)) := fun t ht hb => he ((hst.out.stop (.inr (.inl he)) t ht hb).2)
          have heq : (er == 0) = false := beq_eq_false_iff_ne.2 he
          have hne : (er != 0) = true := by rw [bne_iff_ne]; exact he
          clear hst hpos he hgo
          go_wp2_with fail
          refine (herr.out).mono ?_; rintro e w8 ⟨rfl, rfl⟩
          obtain ⟨z0, z1, z2, zl⟩ := hZ.cells
          have y0 := frozen_of_row w7 w.heap.size 0 _ _ hZ
          have y1 := frozen_of_row w7 w.heap.size 1 _ _ hZ
          have y2 := frozen_of_row w7 w.heap.size 2 _ _ hZ
          go_wp2_with fail
          have hLF := ((hL.out.setCell (p := ⟨w.heap.size, 0, none⟩) (Nat.le_refl _) (.string ⟨#[]⟩)).setCell (p := ⟨w.heap.size, 1, none⟩) (Nat.le_refl _) (.slice none 0 0)).setCell (p := ⟨w.heap.size, 2, none⟩) (Nat.le_refl _) (.int .i64 0)
          exact bodyPost_ret (v := .tuple #[.agg #[.string ⟨#[]⟩, .slice none 0 0, .int .i64 0], .int .i64 7]) (by simp [results, Try.results69, go_sem, z0, z1, z2]) rfl
            ⟨⟨⟨#[]⟩, [], 0⟩, _, 7, rfl, CsAt.nil _, World.ownsRow_nil _ _ _ _, ⟨by decide, fun c hc => absurd hc List.not_mem_nil⟩, hLF, .inr ⟨rfl, rfl, HNO.out⟩⟩
      · have hn3 : (0 : Int) < (n : Int) := by omega
        by_cases he : er = 0
        · subst he
          have hlen : 16 < cols.length := by
            by_cases h16 : cols.length ≤ 16
            · exact absurd ⟨by omega, rfl, h16⟩ hgo
            · omega
          have hlen' : (16 : Int) < (cols.length : Int) := by omega
          have HSTOP : Hid (∀ t, Sc.right t = true → b = bstr (Sc.encode t) → (⟨nm, cols, (p : Int)⟩ : Sc.S) = t) := fun t ht hb => (hst.out.stop (.inr (.inr hlen)) t ht hb).1
          clear hgo hn2
          go_wp2_with fail
          refine (herr.out).mono ?_; rintro e w7b ⟨rfl, rfl⟩
          go_wp2_with fail
          refine (herr.out).mono ?_; rintro e w8 ⟨rfl, rfl⟩
          have henc := hid (encode_any ⟨nm, cols, (p : Int)⟩ (.slice adr cols.length cap) w7 (CsAt.own HO.out) ⟨by show nm.size ≤ maxLen; unfold maxLen; omega, fun c hc => by have := HCS.out c hc; unfold maxLen; omega⟩)
          unfold sv at henc
          go_wp2_with fail
          refine (henc.out).mono ?_; rintro e w9 ⟨rfl, hb9⟩
          have hZ9 := hZ.keep hb9
          have hS9 := hS.keep hb9
          have O9 := hid (HO.out.kept (row := none) ⟨hb9.os, hb9.tape, hb9.output, hb9.size, fun i hi _ => hb9.block i hi⟩ (by cases adr <;> simp [Value.ownBlock]))
          have L9 := hid (hnext hL.out hb9)
          clear hb9 hZ hS HO hL s0 s1 s2 sl f1 henc herr hr
          obtain ⟨s0, s1, s2, sl⟩ := hS9.cells
          obtain ⟨z0, z1, z2, zl⟩ := hZ9.cells
          have y0 := frozen_of_row w9 w.heap.size 0 _ _ hZ9
          have y1 := frozen_of_row w9 w.heap.size 1 _ _ hZ9
          have y2 := frozen_of_row w9 w.heap.size 2 _ _ hZ9
          by_cases heq : bstr (Sc.encode ⟨nm, cols, (p : Int)⟩) = b
          · have hq : ((bstr (Sc.encode ⟨nm, cols, (p : Int)⟩)).toList == b.toList) = true := by rw [bytes_beq]; exact decide_eq_true heq
            have HR : Hid (Sc.right ⟨nm, cols, (p : Int)⟩ = true) := by
              show _ = _
              cases hr : Sc.right ⟨nm, cols, (p : Int)⟩ with
              | true => rfl
              | false =>
                rw [Sc.encode_no hr] at heq
                have := hpos.out (by simp)
                rw [← heq] at this
                exact absurd this (by decide)
            have HEQ := hid heq.symm
            clear heq hpos hst
            obtain ⟨E, hE⟩ : ∃ E, bstr (Sc.encode ⟨nm, cols, (p : Int)⟩) = E := ⟨_, rfl⟩
            rw [hE] at hq ⊢
            have HE := hid hE
            clear hE
            go_wp2_with fail
            have hLF := ((L9.out.setCell (p := ⟨w.heap.size, 0, none⟩) (Nat.le_refl _) (.string nm)).setCell (p := ⟨w.heap.size, 1, none⟩) (Nat.le_refl _) (.slice adr cols.length cap)).setCell (p := ⟨w.heap.size, 2, none⟩) (Nat.le_refl _) (.int .i64 (p : Int))
            have hOF := own_upd (own_upd (own_upd O9.out (Upd.set w.heap.size 0 _ (.string nm)) (by omega)) (Upd.set w.heap.size 1 _ (.slice adr cols.length cap)) (by omega)) (Upd.set w.heap.size 2 _ (.int .i64 (p : Int))) (by omega)
            exact bodyPost_ret (v := .tuple #[.agg #[.string nm, .slice adr cols.length cap, .int .i64 (p : Int)], .int .i64 0]) (by simp [results, Try.results69, go_sem, z0, z1, z2]) rfl
              ⟨⟨nm, cols, (p : Int)⟩, _, 0, rfl, CsAt.own hOF, own_base hOF (by omega), ⟨by show nm.size ≤ maxLen; unfold maxLen; omega, fun c hc => by have := HCS.out c hc; unfold maxLen; omega⟩, hLF, .inl ⟨rfl, HR.out, HEQ.out⟩⟩
          · have hq : ((bstr (Sc.encode ⟨nm, cols, (p : Int)⟩)).toList == b.toList) = false := by rw [bytes_beq]; exact decide_eq_false heq
            have HNO : Hid (∀ t, Sc.right t = true → b ≠ bstr (Sc.encode t)) := fun t ht hb => heq (by rw [HSTOP.out t ht hb]; exact hb.symm)
            clear heq hpos hst HSTOP
            obtain ⟨E, hE⟩ : ∃ E, bstr (Sc.encode ⟨nm, cols, (p : Int)⟩) = E := ⟨_, rfl⟩
            rw [hE] at hq ⊢
            have HE := hid hE
            clear hE
            go_wp2_with fail
            have hLF := ((L9.out.setCell (p := ⟨w.heap.size, 0, none⟩) (Nat.le_refl _) (.string ⟨#[]⟩)).setCell (p := ⟨w.heap.size, 1, none⟩) (Nat.le_refl _) (.slice none 0 0)).setCell (p := ⟨w.heap.size, 2, none⟩) (Nat.le_refl _) (.int .i64 0)
            exact bodyPost_ret (v := .tuple #[.agg #[.string ⟨#[]⟩, .slice none 0 0, .int .i64 0], .int .i64 7]) (by simp [results, Try.results69, go_sem, z0, z1, z2]) rfl
              ⟨⟨⟨#[]⟩, [], 0⟩, _, 7, rfl, CsAt.nil _, World.ownsRow_nil _ _ _ _, ⟨by decide, fun c hc => absurd hc List.not_mem_nil⟩, hLF, .inr ⟨rfl, rfl, HNO.out⟩⟩
        · skip
          have HNO : Hid (∀ t, Sc.right t = true → b ≠ bstr (Sc.encode t)) := fun t ht hb => he ((hst.out.stop (.inr (.inl he)) t ht hb).2)
          have heq : (er == 0) = false := beq_eq_false_iff_ne.2 he
          have hne : (er != 0) = true := by rw [bne_iff_ne]; exact he
          clear hst hpos he hgo
          clear hn2
          go_wp2_with fail
          refine (herr.out).mono ?_; rintro e w7b ⟨rfl, rfl⟩
          go_wp2_with fail
          refine (herr.out).mono ?_; rintro e w8 ⟨rfl, rfl⟩
          obtain ⟨z0, z1, z2, zl⟩ := hZ.cells
          have y0 := frozen_of_row w7 w.heap.size 0 _ _ hZ
          have y1 := frozen_of_row w7 w.heap.size 1 _ _ hZ
          have y2 := frozen_of_row w7 w.heap.size 2 _ _ hZ
          go_wp2_with fail
          have hLF := ((hL.out.setCell (p := ⟨w.heap.size, 0, none⟩) (Nat.le_refl _) (.string ⟨#[]⟩)).setCell (p := ⟨w.heap.size, 1, none⟩) (Nat.le_refl _) (.slice none 0 0)).setCell (p := ⟨w.heap.size, 2, none⟩) (Nat.le_refl _) (.int .i64 0)
          exact bodyPost_ret (v := .tuple #[.agg #[.string ⟨#[]⟩, .slice none 0 0, .int .i64 0], .int .i64 7]) (by simp [results, Try.results69, go_sem, z0, z1, z2]) rfl
            ⟨⟨⟨#[]⟩, [], 0⟩, _, 7, rfl, CsAt.nil _, World.ownsRow_nil _ _ _ _, ⟨by decide, fun c hc => absurd hc List.not_mem_nil⟩, hLF, .inr ⟨rfl, rfl, HNO.out⟩⟩
end Go.Proofs.Ytmmegicaeaifaaa

namespace Go.Proofs.Ytmmegicaeaifaaa
open Go.RowKit

theorem small_any (n : Nat) (w : World) : Calls Try.prog 107 #[.int .u64 (n : Int)] w fun e w' => ∃ p : Nat, e = .returned (.int .i64 (p : Int)) ∧ p ≤ 1000 ∧ Hid (p = min n 1000) ∧ w = w' := by
  by_cases h : 1000 < n
  · have h' : (1000 : Int) < (n : Int) := by omega
    go_enter Try.func107, Try.ntmps107
    go_wp2
    go_ret
    exact ⟨1000, rfl, Nat.le_refl _, by show _ = _; omega, rfl⟩
  · have h' : ¬ (1000 : Int) < (n : Int) := by omega
    have h0 : (0 : Int) ≤ (n : Int) := by omega
    go_enter Try.func107, Try.ntmps107
    go_wp2
    go_ret
    exact ⟨n, rfl, by omega, by show _ = _; omega, rfl⟩
theorem Rfx.grown {w w' : World} {g : Nat} {r : Option Nat} {s : ByteArray} {i : Nat} {e : Int} (h : Rfx w g s i e) (hg : w.grownBy w' r) (hne : some g ≠ r) : Rfx w' g s i e := by
  show w'.heap[g]? = _
  rw [hg.block g h.cells.2.2.2.2.2 hne]; exact h
theorem BS.setK {w : World} {g : Nat} {n : ByteArray} {v : Value} {k : Int} (h : BS w g n v k) (u : Int) : BS (w.setCell ⟨g, 2, none⟩ (.int .i64 u)) g n v u := heap_setCell_same w g 2 _ _ (.int .i64 u) h
theorem BC.setK {w : World} {g : Nat} {n : ByteArray} {k : Int} {d : Bool} (h : BC w g ⟨n, k, d⟩) (u : Int) : BC (w.setCell ⟨g, 1, none⟩ (.int .i64 u)) g ⟨n, u, d⟩ := heap_setCell_same w g 1 _ _ (.int .i64 u) h
theorem upd_grown {g : Nat} {w a b : World} {r : Option Nat} (h : Upd g w a) (hg : a.grownBy b r) (hr : ∀ q, r = some q → w.heap.size ≤ q) : Upd g w b :=
  ⟨hg.os.trans h.os, hg.tape.trans h.tape, hg.output.trans h.output, Nat.le_trans h.size hg.size, fun i hi hn => (hg.block i (Nat.lt_of_lt_of_le hi h.size) (fun e => by have := hr i e.symm; omega)).trans (h.block i hi hn)⟩
/-- what Read leaves -/
def ReadP (b : ByteArray) (g : Nat) (w : World) (e : Ending) (w' : World) : Prop :=
  ∃ (s : Sc.S) (v : Value), e = .returned (sv s v) ∧ w'.ownsRow w.heap.size 88 3 v s.cols.length (ccells s.cols) ∧ Sok s ∧ Upd g w w' ∧ ∀ t, Sc.right t = true → b = bstr (Sc.encode t) → s = t

set_option maxRecDepth 100000 in
set_option maxHeartbeats 12800000 in
theorem read_any (b : ByteArray) (hb : b.size ≤ 1000000) (g : Nat) (w : World) (hr0 : Rfx w g b 0 0) : Calls Try.prog 94 #[.pointer (some ⟨g, 0, none⟩)] w (ReadP b g w) := by
  have hs9 : b.size ≤ 1000000000 := by omega
  have hgw : g < w.heap.size := hr0.cells.2.2.2.2.2
  have hzg : w.heap.size ≠ g := by omega
  go_enter Try.func94, Try.ntmps94
  go_wp2_with fail
  have hZ1 := BS.new w ⟨#[]⟩ (.slice none 0 0) 0
  have hba0 := hba w (.cells #[.string ⟨#[]⟩, .slice none 0 0, .int .i64 0] 30)
  have R0 := hr0.keep hba0
  have HL1 := hid (Upd.of (g := g) hba0)
  obtain ⟨w1, hw1⟩ : ∃ w1, w.alloc (.cells #[.string ⟨#[]⟩, .slice none 0 0, .int .i64 0] 30) = w1 := ⟨_, rfl⟩
  rw [hw1] at hZ1 R0 HL1 ⊢
  clear hw1 hba0
  obtain ⟨⟨nm, j1, e1⟩, hT1⟩ : ∃ t, Cd.top ⟨#[]⟩ (Cd.textR b 1000000) 0 0 = t := ⟨_, rfl⟩
  obtain ⟨⟨kn, j2, e2⟩, hT2⟩ : ∃ t, Cd.top 0 (Cd.uintR b.data.toList) j1 e1 = t := ⟨_, rfl⟩
  obtain ⟨⟨n0, j3, e3⟩, hT3⟩ : ∃ t, Cd.top 0 (Cd.uintR b.data.toList) j2 e2 = t := ⟨_, rfl⟩
  have m1 := hid (fun W h => mTextX g b 0 0 W h (Nat.zero_le _) hs9)
  rw [hT1] at m1
  have m2 := hid (fun W h hj => mUintX g b j1 e1 W h hj hs9)
  rw [hT2] at m2
  have m3 := hid (fun W h hj => mUintX g b j2 e2 W h hj hs9)
  rw [hT3] at m3
  have HT1 := hid hT1
  have HT2 := hid hT2
  have HT3 := hid hT3
  clear hT1 hT2 hT3
  have hnm := (top_text HT1.out).1
  refine (m1.out _ R0).mono ?_; rintro e w3 ⟨rfl, u3, R1, hj1⟩
  simp only at R1 hj1
  have hZ3 := hZ1.upd u3 hzg
  have HL3 := hid (HL1.out.trans u3)
  clear hZ1 HL1 u3 m1 R0
  dsimp only
  go_wp2_with fail
  have hS5 := BS.new w3 nm (.slice none 0 0) 0
  have hba4 := hba w3 (.cells #[.string nm, .slice none 0 0, .int .i64 0] 30)
  have R3 := R1.keep hba4
  have hZ5 := hZ3.keep hba4
  have HL5 := hid (HL3.out.trans (Upd.of hba4))
  have hsg : g < w3.heap.size := R1.cells.2.2.2.2.2
  have hsz : w.heap.size < w3.heap.size := hZ3.cells.2.2.2
  obtain ⟨sb, hsb⟩ : ∃ sb, w3.heap.size = sb := ⟨_, rfl⟩
  rw [hsb] at hS5 hsg hsz
  rw [hsb]
  generalize w3.alloc (.cells #[.string nm, .slice none 0 0, .int .i64 0] 30) = w5 at *
  have hgs : g ≠ sb := Nat.ne_of_lt hsg
  have hsgn : sb ≠ g := fun h => hgs h.symm
  have hzs : w.heap.size ≠ sb := Nat.ne_of_lt hsz
  have hszn : sb ≠ w.heap.size := fun h => hzs h.symm
  clear hba4 hZ3 HL3 R1 hsb
  refine (m2.out _ R3 hj1).mono ?_; rintro e w6 ⟨rfl, u6, R4, hj2⟩
  simp only at R4 hj2
  have hZ6 := hZ5.upd u6 hzg
  have hS6 := hS5.upd u6 hsgn
  have HL6 := hid (HL5.out.trans u6)
  clear hZ5 HL5 u6 m2 R3 hS5 hj1
  dsimp only
  go_wp2_with fail
  refine (small_any kn _).mono ?_; rintro e w6b ⟨p, rfl, hp1, hp, rfl⟩
  obtain ⟨s0, s1, s2, sl⟩ := hS6.cells
  have f2 := frozen_of_row w6 sb 2 _ _ hS6
  go_wp2_with fail
  have R5 := R4.setO (o := 2) (.int .i64 (p : Int)) hsgn
  have hZ7 := hZ6.setO (o := 2) (u := .int .i64 (p : Int)) hszn
  have hS7 := hS6.setK (p : Int)
  have HL7 := hid (HL6.out.setNew (r := sb) (o := 2) (.int .i64 (p : Int)) (Nat.le_of_lt hsz))
  generalize w6.setCell ⟨sb, 2, none⟩ (.int .i64 (p : Int)) = w7 at *
  clear R4 hZ6 hS6 HL6 s0 s1 s2 sl f2
  refine (m3.out _ R5 hj2).mono ?_; rintro e w8 ⟨rfl, u8, R6, hj3⟩
  simp only at R6 hj3
  have hZ8 := hZ7.upd u8 hzg
  have hS8 := hS7.upd u8 hsgn
  have HL8 := hid (HL7.out.trans u8)
  clear hZ7 HL7 u8 m3 R5 hS7 hj2
  dsimp only
  go_wp2_with fail
  refine (small_any n0 _).mono ?_; rintro e w8b ⟨n, rfl, hn1, hn, rfl⟩
  have hR0 : Hid (Sc.ReadSt b nm (p : Int) [] n j3 e3) := by
    have := Sc.ReadSt.start (g := fun m => min m 1000) (g' := fun m => min m 1000) (fun m hm => Nat.min_eq_left (by omega)) (fun m hm => Nat.min_eq_left (by omega)) HT1.out HT2.out HT3.out
    rw [hp.out, hn.out]; exact this
  clear HT1 HT2 HT3 hp hn hr0
  go_wp2_with fail
  go_loopw [5] (fun q wr => ∃ (cols : List Sc.C) (k j : Nat) (er : Int) (v : Value), q = .int .i64 (k : Int) ∧ k ≤ n ∧ Hid (cols.length = k) ∧ Hid (Sc.ReadSt b nm (p : Int) cols (n - k) j er) ∧ (∀ c ∈ cols, c.name.size ≤ 1000000) ∧
      Rfx wr g b j er ∧ j ≤ b.size ∧ BS wr sb nm v (p : Int) ∧ wr.ownsRow (sb + 1) 88 3 v cols.length (ccells cols) ∧ BS wr w.heap.size ⟨#[]⟩ (.slice none 0 0) 0 ∧ Hid (Upd g w wr)) (fun q _ => n - (intOf q).toNat)
  case atStart => exact ⟨[], 0, j3, e3, _, rfl, by omega, rfl, hR0, fun c hc => absurd hc List.not_mem_nil, R6, hj3, hS8, World.ownsRow_nil _ _ _ _, hZ8, HL8⟩
  case round =>
    obtain ⟨cols, k, j, er, v, rfl, hk, hlen, hst, hcs, hr, hj, hS, hO, hZ, hL⟩ := hrel
    clear R6 hS8 hZ8 HL8 hR0 hj3
    obtain ⟨w9, rfl⟩ : ∃ w9 : World, w9 = wr := ⟨_, rfl⟩
    have hk0 : (0 : Int) ≤ (k : Int) := by omega
    obtain ⟨s0, s1, s2, sl⟩ := hS.cells
    have HO := hid hO
    have HCS := hid hcs
    clear hO hcs
    have hcl : cols.length ≤ 1000 := by have := hlen.out; omega
    obtain ⟨adr, cap, rfl⟩ := (CsAt.own HO.out).slc
    have c2 := hr.cells.2.2.1
    by_cases hgo : k < n ∧ er = 0
    · obtain ⟨hg1, rfl⟩ := hgo
      have hg1' : (k : Int) < (n : Int) := by omega
      obtain ⟨⟨cn, i1, a1⟩, hT1⟩ : ∃ t, Cd.top ⟨#[]⟩ (Cd.textR b 1000000) j 0 = t := ⟨_, rfl⟩
      obtain ⟨⟨kd, i2, a2⟩, hT2⟩ : ∃ t, Cd.top 0 (Cd.uintR b.data.toList) i1 a1 = t := ⟨_, rfl⟩
      obtain ⟨⟨nd, i3, a3⟩, hT3⟩ : ∃ t, Cd.top 0 (Cd.uintR b.data.toList) i2 a2 = t := ⟨_, rfl⟩
      have m1 := hid (mTextX g b j 0 w9 hr hj hs9)
      rw [hT1] at m1
      have m2 := hid (fun W h hj => mUintX g b i1 a1 W h hj hs9)
      rw [hT2] at m2
      have m3 := hid (fun W h hj => mUintX g b i2 a2 W h hj hs9)
      rw [hT3] at m3
      have HNX := hid (hst.out.next (by omega) (g := fun m => min m 1000) (fun m hm => Nat.min_eq_left (by omega)) (d := fun m => decide (m = 1)) rfl rfl hT1 hT2 hT3)
      have hcn := (top_text hT1).1
      clear hT1 hT2 hT3 hst
      go_wp2_with fail
      refine (m1.out).mono ?_; rintro e wA ⟨rfl, uA, rA, hi1⟩
      simp only at rA hi1
      have SA := hS.upd uA hsgn
      have ZA := hZ.upd uA hzg
      have OA := hid (own_upd HO.out uA (by omega))
      have LA := hid (hL.out.trans uA)
      clear uA hr hS hZ HO hL m1 s0 s1 s2 sl c2
      dsimp only
      go_wp2_with fail
      have hC := BC.new wA ⟨cn, 0, false⟩
      simp only at hC
      have hbaA := hba wA (.cells #[.string cn, .int .i64 0, .bool false] 88)
      have rB := rA.keep hbaA
      have SB := SA.keep hbaA
      have ZB := ZA.keep hbaA
      have OB := hid (OA.out.alloc (.cells #[.string cn, .int .i64 0, .bool false] 88))
      have LB := hid (LA.out.trans (Upd.of hbaA))
      have hcg : g < wA.heap.size := rA.cells.2.2.2.2.2
      have hcs : sb < wA.heap.size := SA.cells.2.2.2
      obtain ⟨cb, hcb⟩ : ∃ cb, wA.heap.size = cb := ⟨_, rfl⟩
      have HOL : Hid (∀ q, (Value.slice adr cols.length cap).ownBlock = some q → q < cb) := fun q hq => by rw [← hcb]; exact (OA.out.lt q hq).2
      rw [hcb] at hC hcg hcs
      rw [hcb]
      generalize wA.alloc (.cells #[.string cn, .int .i64 0, .bool false] 88) = wB at *
      have hcgn : cb ≠ g := fun h => by omega
      have hcsn : cb ≠ sb := fun h => by omega
      have hczn : cb ≠ w.heap.size := fun h => by omega
      have hscn : sb ≠ cb := fun h => by omega
      have hwcb : w.heap.size ≤ cb := by omega
      clear hbaA rA SA ZA OA LA hcb
      refine (m2.out _ rB hi1).mono ?_; rintro e wC ⟨rfl, uC, rC, hi2⟩
      simp only at rC hi2
      have SC := SB.upd uC hsgn
      have ZC := ZB.upd uC hzg
      have CC := hC.upd uC hcgn
      have OC := hid (own_upd OB.out uC (by omega))
      have LC := hid (LB.out.trans uC)
      clear uC rB SB ZB OB LB m2 hi1 hC
      dsimp only
      go_wp2_with fail
      refine (small_any kd _).mono ?_; rintro e wCb ⟨pk, rfl, hpk1, hpk, rfl⟩
      obtain ⟨c0, c1, c2, cl⟩ := CC.cells
      have fc1 := frozen_of_row wC cb 1 _ _ CC
      go_wp2_with fail
      have SD := SC.setO (o := 1) (u := .int .i64 (pk : Int)) hcsn
      have ZD := ZC.setO (o := 1) (u := .int .i64 (pk : Int)) hczn
      have CD := CC.setK (pk : Int)
      have rD := rC.setO (o := 1) (.int .i64 (pk : Int)) hcgn
      have OD := hid (OC.out.kept (row := some cb) (Upd.set cb 1 wC (.int .i64 (pk : Int))) (.inr (fun e => by have := HOL.out cb e; omega)))
      have LD := hid (LC.out.setNew (r := cb) (o := 1) (.int .i64 (pk : Int)) hwcb)
      generalize wC.setCell ⟨cb, 1, none⟩ (.int .i64 (pk : Int)) = wD at *
      clear SC ZC CC rC OC LC c0 c1 c2 cl fc1
      refine (m3.out _ rD hi2).mono ?_; rintro e wE ⟨rfl, uE, rE, hi3⟩
      simp only at rE hi3
      have SE := SD.upd uE hsgn
      have ZE := ZD.upd uE hzg
      have CE := CD.upd uE hcgn
      have OE := hid (own_upd OD.out uE (by omega))
      have LE := hid (LD.out.trans uE)
      clear uE rD SD ZD OD LD m3 hi2 CD
      dsimp only
      obtain ⟨d, hd⟩ : ∃ d, decide (nd = 1) = d := ⟨_, rfl⟩
      have hd2 : ((nd : Int) == 1) = d := by rw [← hd, Bool.eq_iff_iff, beq_iff_eq, decide_eq_true_iff]; omega
      rw [hd] at HNX
      obtain ⟨c0, c1, c2, cl⟩ := CE.cells
      have fc := frozen_of_row wE cb 2 _ _ CE
      have HSD := hid (SE.setO (o := 2) (u := .bool d) hcsn)
      have HZD := hid (ZE.setO (o := 2) (u := .bool d) hczn)
      have HRD := hid (rE.setO (o := 2) (.bool d) hcgn)
      have OD := hid (OE.out.kept (row := some cb) (Upd.set cb 2 wE (.bool d)) (.inr (fun e => by have := HOL.out cb e; omega)))
      have LD := hid (LE.out.setNew (r := cb) (o := 2) (.bool d) hwcb)
      have HSL : Hid (sb + 1 ≤ (wE.setCell ⟨cb, 2, none⟩ (.bool d)).heap.size) := HSD.out.cells.2.2.2
      have HGS : Hid (g < sb + 1) := by show _ < _; omega
      have HZS : Hid (w.heap.size < sb + 1) := by show _ < _; omega
      obtain ⟨s0, s1, s2, sl⟩ := SE.cells
      clear SE ZE rE OE LE
      go_wp2_with (at_builtin; refine append_col _ rfl _ _ rfl (sb + 1) _ cols rfl OD.out cn (pk : Int) d _ (by first | rfl | (simp; done)) rfl (by omega) HSL.out ?_; intro v6 wF hown6 hgrow6; have hO6 := hid hown6; have hS6 := HSD.out.grown hgrow6 (fun e => by have := (OD.out.lt sb e.symm).1; omega); have hZ6 := hid (HZD.out.grown hgrow6 (fun e => by have := (OD.out.lt _ e.symm).1; have := HZS.out; omega)); have hr6 := hid (HRD.out.grown hgrow6 (fun e => by have := (OD.out.lt g e.symm).1; have := HGS.out; omega)); have hL6 := hid (upd_grown LD.out hgrow6 (fun q hq => by have := (OD.out.lt q hq).1; have := HZS.out; omega)); clear hown6 hgrow6; obtain ⟨adr6, cap6, rfl⟩ := (CsAt.own hO6.out).slc' (m := cols.length + 1) (by simp); obtain ⟨x0, x1, x2, xl⟩ := hS6.cells; have fx := frozen_of_row wF sb 1 _ _ hS6)
      go_roundw
      case rel =>
        refine ⟨cols ++ [⟨cn, (pk : Int), d⟩], k + 1, i3, a3, _, by go_num, hg1, ?_, ?_, ?_, hr6.out.setO (o := 1) _ hsgn, hi3, hS6.setV _, own_upd' hO6.out (Upd.set sb 1 wF _) (Nat.lt_succ_self _), hZ6.out.setO (o := 1) hszn, hL6.out.setNew (r := sb) (o := 1) _ (Nat.le_of_lt hsz)⟩
        · show _ = _
          rw [List.length_append, hlen.out]; rfl
        · show Sc.ReadSt _ _ _ _ _ _ _
          rw [hpk.out, show n - (k + 1) = n - k - 1 by omega]
          exact HNX.out
        · intro c hc
          rcases List.mem_append.1 hc with hc | hc
          · exact HCS.out c hc
          · rw [List.mem_singleton.1 hc]; exact hcn
      case measure => simp [intOf]; omega
    · have HFIN : Hid (∀ t, Sc.right t = true → b = bstr (Sc.encode t) → (⟨nm, cols, (p : Int)⟩ : Sc.S) = t) := fun t ht hbt => (hst.out.stop (by
        by_cases he : er = 0
        · exact .inl (by have : ¬ k < n := fun h => hgo ⟨h, he⟩; omega)
        · exact .inr (.inl he)) t ht hbt).1
      obtain ⟨z0, z1, z2, zl⟩ := hZ.cells
      have y0 := frozen_of_row w9 w.heap.size 0 _ _ hZ
      have y1 := frozen_of_row w9 w.heap.size 1 _ _ hZ
      have y2 := frozen_of_row w9 w.heap.size 2 _ _ hZ
      have hLF := hid (((hL.out.setNew (r := w.heap.size) (o := 0) (.string nm) (Nat.le_refl _)).setNew (r := w.heap.size) (o := 1) (.slice adr cols.length cap) (Nat.le_refl _)).setNew (r := w.heap.size) (o := 2) (.int .i64 (p : Int)) (Nat.le_refl _))
      have hOF := hid (own_upd (own_upd (own_upd HO.out (Upd.set w.heap.size 0 _ (.string nm)) (by omega)) (Upd.set w.heap.size 1 _ (.slice adr cols.length cap)) (by omega)) (Upd.set w.heap.size 2 _ (.int .i64 (p : Int))) (by omega))
      have HFS : Hid (Sok ⟨nm, cols, (p : Int)⟩) := ⟨by show nm.size ≤ maxLen; unfold maxLen; omega, fun c hc => by have := HCS.out c hc; unfold maxLen; omega⟩
      by_cases hkn : k < n
      · have hkn' : (k : Int) < (n : Int) := by omega
        have he : (er == 0) = false := beq_eq_false_iff_ne.2 (fun h => hgo ⟨hkn, h⟩)
        clear hgo hst hL HO hZ hS hr
        go_wp2_with fail
        exact bodyPost_ret (v := .agg #[.string nm, .slice adr cols.length cap, .int .i64 (p : Int)]) (by simp [results, Try.results94, go_sem, z0, z1, z2]) rfl ⟨⟨nm, cols, (p : Int)⟩, _, rfl, own_base hOF.out (by omega), HFS.out, hLF.out, HFIN.out⟩
      · have hkn' : ¬ (k : Int) < (n : Int) := by omega
        clear hgo hst hL HO hZ hS hr
        go_wp2_with fail
        exact bodyPost_ret (v := .agg #[.string nm, .slice adr cols.length cap, .int .i64 (p : Int)]) (by simp [results, Try.results94, go_sem, z0, z1, z2]) rfl ⟨⟨nm, cols, (p : Int)⟩, _, rfl, own_base hOF.out (by omega), HFS.out, hLF.out, HFIN.out⟩
end Go.Proofs.Ytmmegicaeaifaaa

namespace Go.Proofs.Ytmmegicaeaifaaa
open Go.RowKit

theorem Sc.encode_ne {t : Sc.S} (h : Sc.right t = true) : Sc.encode t ≠ [] := by
  unfold Sc.encode Sc.headB Cd.text
  rw [if_pos h]
  intro e
  have h1 := congrArg List.length e
  have h2 := (Cd.enc_length t.name.size).1
  simp only [List.length_append, List.length_nil] at h1
  omega
/-- columns stay where they lay, though an older block is written -/
theorem CsAt.set {w : World} {g o : Nat} {u v : Value} {l : List Sc.C} (h : CsAt w v l) (hg : ∀ adr n cap, v = .slice (some adr) n cap → adr.block ≠ g) : CsAt (w.setCell ⟨g, o, none⟩ u) v l := by
  obtain ⟨adr, cap, rfl, h1, h2, hc⟩ := h
  refine ⟨adr, cap, rfl, h1, h2, fun k hk => ?_⟩
  obtain ⟨g', off, rfl, q0, q1, q2⟩ := hc k hk
  have hne : g' ≠ g := hg _ _ _ rfl
  have keep : ∀ o' x, w.cell? ⟨g', o', none⟩ = some x → (w.setCell ⟨g, o, none⟩ u).cell? ⟨g', o', none⟩ = some x := fun o' x hx => Upd.cell hx (Upd.set g o w u) hne
  exact ⟨g', off, rfl, keep _ _ q0, keep _ _ q1, keep _ _ q2⟩
set_option maxRecDepth 100000 in
set_option maxHeartbeats 6400000 in
theorem decodeR_any (b : ByteArray) (hb : b.size ≤ 1000000) (w : World) : Calls Try.prog 74 #[.string b] w (DecP b w) := by
  go_enter Try.func74, Try.ntmps74
  go_wp2_with fail
  have hZ0 := BS.new w ⟨#[]⟩ (.slice none 0 0) 0
  have hL0 := hba w (.cells #[.string ⟨#[]⟩, .slice none 0 0, .int .i64 0] 30)
  obtain ⟨w1, hw1⟩ : ∃ w1, w.alloc (.cells #[.string ⟨#[]⟩, .slice none 0 0, .int .i64 0] 30) = w1 := ⟨_, rfl⟩
  rw [hw1] at hZ0 hL0 ⊢
  clear hw1
  refine (newX_any b _).mono ?_; rintro e w2 ⟨rfl, hw2⟩
  have R0 := newX_rfx b w1
  have hba1 := hba w1 (.cells #[.string b, .int .i64 0, .int .i64 0] 85)
  rw [← hw2] at R0 hba1
  have hZ1 := hZ0.keep hba1
  have hL1 := hnext hL0 hba1
  have hzl : w.heap.size < w1.heap.size := hZ0.cells.2.2.2
  generalize w1.heap.size = g at R0 hzl ⊢
  have hzg : w.heap.size ≠ g := by omega
  have hlt2 : w.heap.size < w2.heap.size := hZ1.cells.2.2.2
  clear hw2 hba1 hZ0 hL0
  go_wp2_with fail
  refine (read_any b hb g w2 R0).mono ?_; rintro e w3 ⟨s, v, rfl, hcs, hsok, hu, hfin⟩
  have hZ3 := hZ1.upd hu hzg
  have hL3 := Upd.below hL1 hu (Nat.le_of_lt hzl) hL1.size
  have hO3 := hcs
  clear hZ1 hL1 hu R0
  obtain ⟨adr, cap, rfl⟩ := (CsAt.own hO3).slc
  have HOK := hid hsok
  have HFIN := hid hfin
  have HO3 := hid hO3
  have HW2 : Hid (w.heap.size < w2.heap.size) := hlt2
  clear hcs hsok hfin hO3
  obtain ⟨nm, cs, ks⟩ := s
  unfold sv
  simp only at HO3 HFIN ⊢
  by_cases hb0 : b.size = 0
  · have hbe : b.toList.isEmpty = true := by rw [ByteArray.toList_eq, List.eq_nil_of_length_eq_zero (show b.data.toList.length = 0 by simpa using hb0)]; rfl
    have hbe2 : b.toList = [] := by rw [ByteArray.toList_eq]; exact List.eq_nil_of_length_eq_zero (by simpa using hb0)
    have HNO : Hid (∀ t, Sc.right t = true → b ≠ bstr (Sc.encode t)) := fun t ht e => by
      rw [e] at hb0
      exact Sc.encode_ne ht (List.eq_nil_of_length_eq_zero hb0)
    clear hb0
    obtain ⟨z0, z1, z2, zl⟩ := hZ3.cells
    have hL5 := hnext hL3 (hba w3 (.cells #[.string nm, .slice adr cs.length cap, .int .i64 ks] 30))
    have L5 := hid hL5
    have y0 := frozen_of_row w3 w.heap.size 0 _ _ hZ3
    have y1 := frozen_of_row w3 w.heap.size 1 _ _ hZ3
    have y2 := frozen_of_row w3 w.heap.size 2 _ _ hZ3
    have hzn : w.heap.size ≠ w3.heap.size := by omega
    clear hL5
    go_wp2_with fail
    have hLF := (((hL3.setCell (p := ⟨w.heap.size, 0, none⟩) (Nat.le_refl _) (.string ⟨#[]⟩)).setCell (p := ⟨w.heap.size, 1, none⟩) (Nat.le_refl _) (.slice none 0 0)).setCell (p := ⟨w.heap.size, 2, none⟩) (Nat.le_refl _) (.int .i64 0)).alloc (by simp; omega) (.cells #[.string nm, .slice adr cs.length cap, .int .i64 ks] 30)
    exact bodyPost_ret (v := .tuple #[.agg #[.string ⟨#[]⟩, .slice none 0 0, .int .i64 0], .int .i64 7]) (by simp [results, Try.results74, go_sem, z0, z1, z2, zl]) rfl
      ⟨⟨⟨#[]⟩, [], 0⟩, _, 7, rfl, CsAt.nil _, World.ownsRow_nil _ _ _ _, ⟨by decide, fun c hc => absurd hc List.not_mem_nil⟩, hLF, .inr ⟨rfl, rfl, HNO.out⟩⟩
  · have hbe : b.toList.isEmpty = false := by
      rw [ByteArray.toList_eq]
      cases e : b.data.toList with
      | nil => exact absurd (by have := congrArg List.length e; simpa using this) hb0
      | cons a l => rfl
    have hbe2 : (b.toList = []) = False := eq_false (by
      rw [ByteArray.toList_eq]
      intro e
      exact hb0 (by have := congrArg List.length e; simpa using this))
    go_wp2_with fail
    have hS5 := BS.new w3 nm (.slice adr cs.length cap) ks
    have hba3 := hba w3 (.cells #[.string nm, .slice adr cs.length cap, .int .i64 ks] 30)
    have hZ5 := hZ3.keep hba3
    have hL5 := hnext hL3 hba3
    have hO5 := HO3.out.alloc (.cells #[.string nm, .slice adr cs.length cap, .int .i64 ks] 30)
    have hzs : w.heap.size < w3.heap.size := hZ3.cells.2.2.2
    obtain ⟨sb, hsb⟩ : ∃ sb, w3.heap.size = sb := ⟨_, rfl⟩
    rw [hsb] at hS5 hzs
    rw [hsb]
    generalize w3.alloc (.cells #[.string nm, .slice adr cs.length cap, .int .i64 ks] 30) = w5 at *
    have hszn : sb ≠ w.heap.size := by omega
    have hzsn : w.heap.size ≠ sb := by omega
    clear hba3 hZ3 hL3 hsb HO3
    have henc := hid (encodeR_any ⟨nm, cs, ks⟩ (.slice adr cs.length cap) w5 (CsAt.own hO5) HOK.out)
    have HO5 := hid hO5
    clear hO5
    unfold sv at henc
    refine (henc.out).mono ?_; rintro e w6 ⟨rfl, hb6⟩
    have hZ6 := hZ5.keep hb6
    have hS6 := hS5.keep hb6
    have O6 := hid (HO5.out.kept (row := none) ⟨hb6.os, hb6.tape, hb6.output, hb6.size, fun i hi _ => hb6.block i hi⟩ (by cases adr <;> simp [Value.ownBlock]))
    have L5 := hid (hnext hL5 hb6)
    clear hb6 hZ5 hS5 HO5 hL5 henc
    obtain ⟨s0, s1, s2, sl⟩ := hS6.cells
    obtain ⟨z0, z1, z2, zl⟩ := hZ6.cells
    have y0 := frozen_of_row w6 w.heap.size 0 _ _ hZ6
    have y1 := frozen_of_row w6 w.heap.size 1 _ _ hZ6
    have y2 := frozen_of_row w6 w.heap.size 2 _ _ hZ6
    by_cases heq : bstr (Sc.encode ⟨nm, cs, ks⟩) = b
    · have hq : ((bstr (Sc.encode ⟨nm, cs, ks⟩)).toList == b.toList) = true := by rw [bytes_beq]; exact decide_eq_true heq
      have HR : Hid (Sc.right ⟨nm, cs, ks⟩ = true) := by
        show _ = _
        cases hr : Sc.right ⟨nm, cs, ks⟩ with
        | true => rfl
        | false =>
          rw [Sc.encode_no hr] at heq
          exact absurd (by rw [← heq]; rfl) hb0
      have HEQ := hid heq.symm
      obtain ⟨E, hE⟩ : ∃ E, bstr (Sc.encode ⟨nm, cs, ks⟩) = E := ⟨_, rfl⟩
      rw [hE] at hq ⊢
      have HE := hid hE
      clear heq hE hb0
      go_wp2_with fail
      have hLF := ((L5.out.setCell (p := ⟨w.heap.size, 0, none⟩) (Nat.le_refl _) (.string nm)).setCell (p := ⟨w.heap.size, 1, none⟩) (Nat.le_refl _) (.slice adr cs.length cap)).setCell (p := ⟨w.heap.size, 2, none⟩) (Nat.le_refl _) (.int .i64 ks)
      have hOF := own_upd (own_upd (own_upd O6.out (Upd.set w.heap.size 0 _ (.string nm)) HW2.out) (Upd.set w.heap.size 1 _ (.slice adr cs.length cap)) HW2.out) (Upd.set w.heap.size 2 _ (.int .i64 ks)) HW2.out
      exact bodyPost_ret (v := .tuple #[.agg #[.string nm, .slice adr cs.length cap, .int .i64 ks], .int .i64 0]) (by simp [results, Try.results74, go_sem, z0, z1, z2]) rfl
        ⟨⟨nm, cs, ks⟩, _, 0, rfl, CsAt.own hOF, own_base hOF (by omega), HOK.out, hLF, .inl ⟨rfl, HR.out, HEQ.out⟩⟩
    · have hq : ((bstr (Sc.encode ⟨nm, cs, ks⟩)).toList == b.toList) = false := by rw [bytes_beq]; exact decide_eq_false heq
      have HNO : Hid (∀ t, Sc.right t = true → b ≠ bstr (Sc.encode t)) := fun t ht e => heq (by rw [HFIN.out t ht e]; exact e.symm)
      obtain ⟨E, hE⟩ : ∃ E, bstr (Sc.encode ⟨nm, cs, ks⟩) = E := ⟨_, rfl⟩
      rw [hE] at hq ⊢
      have HE := hid hE
      clear heq hE hb0
      go_wp2_with fail
      have hLF := ((L5.out.setCell (p := ⟨w.heap.size, 0, none⟩) (Nat.le_refl _) (.string ⟨#[]⟩)).setCell (p := ⟨w.heap.size, 1, none⟩) (Nat.le_refl _) (.slice none 0 0)).setCell (p := ⟨w.heap.size, 2, none⟩) (Nat.le_refl _) (.int .i64 0)
      exact bodyPost_ret (v := .tuple #[.agg #[.string ⟨#[]⟩, .slice none 0 0, .int .i64 0], .int .i64 7]) (by simp [results, Try.results74, go_sem, z0, z1, z2]) rfl
        ⟨⟨⟨#[]⟩, [], 0⟩, _, 7, rfl, CsAt.nil _, World.ownsRow_nil _ _ _ _, ⟨by decide, fun c hc => absurd hc List.not_mem_nil⟩, hLF, .inr ⟨rfl, rfl, HNO.out⟩⟩
end Go.Proofs.Ytmmegicaeaifaaa

namespace Go.Proofs.Ytmmegicaeaifaaa
open Go.RowKit

/-- whether a schema and a row ask little -/
def lightB (s : Sc.S) (l : List Cd.V) : Bool := decide (s.cols.length ≤ 20) && (decide (s.name.size ≤ 100) && (decide (l.length ≤ 30) && ((s.cols.all fun c => decide (c.name.size ≤ 100)) && l.all fun v => decide (v.s.size ≤ 4200))))
/-- what a light schema and row are -/
theorem lightB_yes {s : Sc.S} {l : List Cd.V} (h : lightB s l = true) : s.cols.length ≤ 20 ∧ s.name.size ≤ 100 ∧ l.length ≤ 30 ∧ (∀ c ∈ s.cols, c.name.size ≤ 100) ∧ ∀ v ∈ l, v.s.size ≤ 4200 := by
  unfold lightB at h
  simp only [Bool.and_eq_true, decide_eq_true_eq, List.all_eq_true] at h
  exact ⟨h.1, h.2.1, h.2.2.1, h.2.2.2.1, h.2.2.2.2⟩
end Go.Proofs.Ytmmegicaeaifaaa

namespace Go.Proofs.Ytmmegicaeaifaaa
open Go.RowKit

theorem own_keep {w w' : World} {B e size n : Nat} {v : Value} {xs : List Value} (h : w.ownsRow B e size v n xs) (hb : Below w.heap.size w w') : w'.ownsRow B e size v n xs :=
  h.kept (row := none) ⟨hb.os, hb.tape, hb.output, hb.size, fun i hi _ => hb.block i hi⟩ (Classical.em _)
end Go.Proofs.Ytmmegicaeaifaaa

namespace Go.Proofs.Ytmmegicaeaifaaa
open Go.ChangeShapes Go.WideShapes Go.Joins Go.Deep

theorem cellsSchema : Try.prog.cellsOf 30 = 3 := by kernel_rfl
theorem cellsColumn : Try.prog.cellsOf 88 = 3 := by kernel_rfl
theorem cellsB : Try.prog.cellsOf 4 = 1 := by kernel_rfl
theorem cellsCs : Try.prog.cellsOf 28 = 1 := by kernel_rfl
theorem list3 {α : Type} {cs : List α} (h : cs.length = 3) : ∃ c0 c1 c2, cs = [c0, c1, c2] := by
  match cs, h with
  | [c0, c1, c2], _ => exact ⟨c0, c1, c2, rfl⟩
instance : Inhabited Sc.C := ⟨⟨⟨#[]⟩, 0, false⟩⟩
set_option maxRecDepth 100000 in
/-- columns that come in -/
theorem open_cols {H : Type} {enc : TypeId × Value → H} {W : World} {base : Nat} {sp : Nat → Bool} {hd : Bool} {v : Value} {x : DataW H × List MemPlace} {fuel : Nat} (hf : DataW.trod enc Try.prog W base sp hd fuel 28 [v] = some x) :
    ∃ l : List Sc.C, CsAt W v l ∧ ∀ c ∈ l, c.name.size ≤ maxLen ∧ (Lit.int .i64 c.kind).wf = true := by
  rcases open_slice Try.underlying28 hf with ⟨e, _⟩ | ⟨a', len, cap, m, n, D, Pl, e, hb, hl, hc, hm, _, hx⟩
  · simp at e
    subst e
    exact ⟨[], CsAt.nil _, fun c hc => absurd hc List.not_mem_nil⟩
  · simp at e
    subst e
    have hlm : len ≤ m := by rw [hm]; split <;> omega
    have each : ∀ i, i < len → ∃ s : Sc.C, (s.name.size ≤ maxLen ∧ (Lit.int .i64 s.kind).wf = true) ∧ W.cell? (a'.add (i * 3)) = some (.string s.name) ∧ W.cell? (a'.add (i * 3 + 1)) = some (.int .i64 s.kind) ∧ W.cell? (a'.add (i * 3 + 2)) = some (.bool s.need) := by
      intro i hi
      obtain ⟨cs', h1, h2⟩ := hx i (by omega)
      rw [cellsColumn] at h1
      obtain ⟨_, hlen, hcell⟩ := World.cells?_some h1
      obtain ⟨c0, c1, c2, rfl⟩ := list3 hlen
      obtain ⟨y0, y1, y2, k, _, _, g0, g1, g2⟩ := trod_struct3 Try.underlying88 h2
      simp [cellsI, cellsB, cellsS] at g0 g1 g2
      obtain ⟨k0, e0, _, w0⟩ := DataW.trod_string Try.underlying9 g0
      obtain ⟨k1, e1, _, w1⟩ := DataW.trod_int Try.underlying3 g1
      obtain ⟨k2, e2, _⟩ := DataW.trod_bool Try.underlying4 g2
      simp at e0 e1 e2
      subst e0 e1 e2
      have q0 := hcell 0 (by omega)
      have q1 := hcell 1 (by omega)
      have q2 := hcell 2 (by omega)
      rw [add_add] at q0 q1 q2
      exact ⟨⟨k0, k1, k2⟩, ⟨w0, w1⟩, by simpa using q0, by simpa using q1, by simpa using q2⟩
    have hmax : len ≤ maxLen := by omega
    obtain ⟨S, hS⟩ := choose_lt each
    refine ⟨(List.range len).map S, ⟨some a', cap, by simp, by simpa using hl, hc, fun k hk => ?_⟩, fun x hx => ?_⟩
    · have hk' : k < len := by simpa using hk
      obtain ⟨bb, off, spot⟩ := a'
      obtain ⟨_, q0, q1, q2⟩ := hS k hk'
      have g0 := (hS 0 (by omega)).2.1
      have hs : spot = none := World.cell?_spot (a := ⟨bb, off, spot⟩) (by simpa [Addr.add] using g0)
      subst hs
      rw [add_plain] at q0 q1 q2
      have hg : ((List.range len).map S)[k] = S k := by simp
      rw [hg]
      exact ⟨bb, off, rfl, q0, by rw [Nat.add_assoc]; exact q1, by rw [Nat.add_assoc]; exact q2⟩
    · obtain ⟨i, hi, rfl⟩ := List.mem_map.1 hx
      exact (hS i (List.mem_range.1 hi)).1
/-- a schema that comes in -/
def SchemaIn (W : World) (s : Sc.S) (u : Value) : Prop := CsAt W u s.cols ∧ Sok s
set_option maxRecDepth 100000 in
theorem open_schema {H : Type} {enc : TypeId × Value → H} {W : World} {base b0 : Nat} {sp : Nat → Bool} {hd : Bool} {r : Reach} {v : Value} {d : DataW H} {p : List MemPlace} (hv : Value.okWide Try.prog W r b0 30 v) (h : DataW.Trod enc Try.prog W base sp hd 30 v d p) :
    ∃ (s : Sc.S) (u : Value), v = sv s u ∧ SchemaIn W s u := by
  obtain ⟨v0, v1, v2, y0, y1, y2, n, rfl, _, _, h0, h1, h2⟩ := open_agg3 Try.underlying30 (by kernel_rfl) cellsSchema hv h
  obtain ⟨nm, e0, _, w0⟩ := DataW.trod_string Try.underlying9 h0
  obtain ⟨ks, e2, _, _⟩ := DataW.trod_int Try.underlying3 h2
  simp at e0 e2
  subst e0 e2
  obtain ⟨l, hl, hl2⟩ := open_cols h1
  exact ⟨⟨nm, l, ks⟩, v1, rfl, hl, w0, fun c hc => (hl2 c hc).1⟩
end Go.Proofs.Ytmmegicaeaifaaa
