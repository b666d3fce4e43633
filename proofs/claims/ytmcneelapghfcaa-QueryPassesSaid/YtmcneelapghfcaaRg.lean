/-
  How a query is read, plainly; a query that has bytes is read of them. No condition.
-/
import Derived.Test.YtmcneelapghfcaaRm
import Derived.Test.YtmcneelapghfcaaRe
import Derived.Test.YtmcneelapghfcaaCb
namespace Go.Proofs.Ytmcneelapghfcaa
open Go.RowKit Pd

theorem ttext {s : ByteArray} {i j : Nat} {er e : Int} {t : ByteArray} (h : Cd.top ⟨#[]⟩ (Cd.textR s 1000000) i er = (t, j, e)) : t.size ≤ 1000000 := by
  unfold Cd.top at h
  split at h
  · cases h; show 0 ≤ _; omega
  · cases hf : Cd.textR s 1000000 i with
    | error x => rw [hf] at h; cases h; show 0 ≤ _; omega
    | ok p =>
      obtain ⟨y, m⟩ := p
      rw [hf] at h
      cases h
      exact (Cd.text_inv hf).1
theorem tuint {s : ByteArray} {i j : Nat} {er e : Int} {n : Nat} (h : Cd.top 0 (Cd.uintR s.data.toList) i er = (n, j, e)) : n < 18446744073709551616 := by
  unfold Cd.top at h
  split at h
  · cases h; decide
  · cases hf : Cd.uintR s.data.toList i with
    | error x => rw [hf] at h; cases h; decide
    | ok p =>
      obtain ⟨y, m⟩ := p
      rw [hf] at h
      cases h
      exact (Cd.uint_inv hf).1
theorem i64_0 : I64 0 := by constructor <;> decide
theorem tint {s : ByteArray} {i j : Nat} {er e : Int} {n : Int} (h : Cd.top 0 (Cd.intR s.data.toList) i er = (n, j, e)) : I64 n := by
  unfold Cd.top at h
  split at h
  · cases h; exact i64_0
  · cases hf : Cd.intR s.data.toList i with
    | error x => rw [hf] at h; cases h; exact i64_0
    | ok p =>
      obtain ⟨y, m⟩ := p
      rw [hf] at h
      cases h
      exact (Cd.int_inv hf).1
theorem trow {s : ByteArray} {i j : Nat} {er e : Int} {l : List Cd.V} (h : Cd.top [] (Cd.rowR s) i er = (l, j, e)) : (∀ x ∈ l, Vok x) ∧ l.length ≤ 1000 := by
  unfold Cd.top at h
  split at h
  · cases h; exact ⟨fun x hx => absurd hx List.not_mem_nil, Nat.zero_le _⟩
  · cases hf : Cd.rowR s i with
    | error x => rw [hf] at h; cases h; exact ⟨fun x hx => absurd hx List.not_mem_nil, Nat.zero_le _⟩
    | ok p =>
      obtain ⟨y, m⟩ := p
      rw [hf] at h
      cases h
      obtain ⟨_, h2, h3, _⟩ := Cd.row_inv hf
      exact ⟨h2, h3⟩
theorem buint {l t : List UInt8} {i n : Nat} (hn : n < 18446744073709551616) (h : l.drop i = Cd.enc n ++ t) : Cd.top 0 (Cd.uintR l) i 0 = (n, i + (Cd.enc n).length, 0) ∧ l.drop (i + (Cd.enc n).length) = t := by
  obtain ⟨a, b⟩ := Cd.uint_back hn h
  exact ⟨top_ok a, b⟩
theorem bint {l t : List UInt8} {i : Nat} {n : Int} (hn : I64 n) (h : l.drop i = Qu.numL n ++ t) : Cd.top 0 (Cd.intR l) i 0 = (n, i + (Qu.numL n).length, 0) ∧ l.drop (i + (Qu.numL n).length) = t := by
  obtain ⟨a, b⟩ := Cd.int_back hn.1 hn.2 h
  exact ⟨top_ok a, b⟩
theorem btext {s t : ByteArray} {r : List UInt8} {i : Nat} (ht : t.size ≤ 1000000) (h : s.data.toList.drop i = Cd.text t ++ r) : Cd.top ⟨#[]⟩ (Cd.textR s 1000000) i 0 = (t, i + (Cd.text t).length, 0) ∧ s.data.toList.drop (i + (Cd.text t).length) = r :=
  ⟨top_ok (Cd.text_back ht (by decide) h).1, (Cd.text_back ht (by decide) h).2⟩
theorem brow {s : ByteArray} {l : List Cd.V} {r : List UInt8} {i : Nat} (hr : l.all Cd.V.right = true) (hv : ∀ x ∈ l, Vok x) (hl : l.length ≤ 1000) (h : s.data.toList.drop i = Cd.row l ++ r) : Cd.top [] (Cd.rowR s) i 0 = (l, i + (Cd.row l).length, 0) ∧ s.data.toList.drop (i + (Cd.row l).length) = r :=
  ⟨top_ok (Cd.row_back hr hv hl h).1, (Cd.row_back hr hv hl h).2⟩
namespace Qu
/-- a node, read: the first value of its row, if there is one -/
def nodeR (s : ByteArray) (i : Nat) (er : Int) : N × Nat × Int :=
  let a := Cd.top 0 (Cd.intR s.data.toList) i er
  let b := Cd.top 0 (Cd.intR s.data.toList) a.2.1 a.2.2
  let c := Cd.top [] (Cd.rowR s) b.2.1 b.2.2
  (⟨a.1, b.1, c.1.headD nul⟩, c.2.1, c.2.2)
def intN (s : ByteArray) (i : Nat) (er : Int) : Int × Nat × Int := Cd.top 0 (Cd.intR s.data.toList) i er
/-- so many, read one behind the other, as long as nothing is wrong -/
def loopG {α : Type} (f : Nat → Int → α × Nat × Int) : Nat → List α → Nat → Int → List α × Nat × Int
  | 0, l, i, er => (l, i, er)
  | n + 1, l, i, er => if er = 0 then loopG f n (l ++ [(f i er).1]) (f i er).2.1 (f i er).2.2 else (l, i, er)
theorem loopG_stop {α : Type} {f : Nat → Int → α × Nat × Int} {n : Nat} {l : List α} {i : Nat} {er : Int} (h : er ≠ 0) : loopG f n l i er = (l, i, er) := by
  cases n with
  | zero => rfl
  | succ n => unfold loopG; rw [if_neg h]
theorem loopG_next {α : Type} {f : Nat → Int → α × Nat × Int} {n : Nat} {l : List α} {i : Nat} : loopG f (n + 1) l i 0 = loopG f n (l ++ [(f i 0).1]) (f i 0).2.1 (f i 0).2.2 := by
  rw [loopG, if_pos rfl]
def afterCols (D : Nat → Bool) (s : ByteArray) (kind : Int) (tb : ByteArray) (key : List Cd.V) (t v fr to : Int) (wh : List N) (y : List Int × Nat × Int) : Q × Int :=
  let a := Cd.top 0 (Cd.intR s.data.toList) y.2.1 y.2.2
  let d := Cd.top 0 (Cd.uintR s.data.toList) a.2.1 a.2.2
  (⟨kind, tb, key, t, v, fr, to, wh, y.1, a.1, D d.1⟩, d.2.2)
def afterWh (D : Nat → Bool) (s : ByteArray) (kind : Int) (tb : ByteArray) (key : List Cd.V) (t v fr to : Int) (x : List N × Nat × Int) : Q × Int :=
  let m := Cd.top 0 (Cd.uintR s.data.toList) x.2.1 x.2.2
  afterCols D s kind tb key t v fr to x.1 (loopG (intN s) (clamp m.1).toNat [] m.2.1 m.2.2)
/-- what is read of a query, and what was wrong; D: what the last number says -/
def decR (D : Nat → Bool) (s : ByteArray) : Q × Int :=
  let k := Cd.top 0 (Cd.uintR s.data.toList) 0 0
  let tb := Cd.top ⟨#[]⟩ (Cd.textR s 1000000) k.2.1 k.2.2
  let key := Cd.top [] (Cd.rowR s) tb.2.1 tb.2.2
  let t := Cd.top 0 (Cd.intR s.data.toList) key.2.1 key.2.2
  let v := Cd.top 0 (Cd.intR s.data.toList) t.2.1 t.2.2
  let fr := Cd.top 0 (Cd.intR s.data.toList) v.2.1 v.2.2
  let to := Cd.top 0 (Cd.intR s.data.toList) fr.2.1 fr.2.2
  let n := Cd.top 0 (Cd.uintR s.data.toList) to.2.1 to.2.2
  afterWh D s (IntKind.i64.wrap (k.1 : Int)) tb.1 key.1 t.1 v.1 fr.1 to.1 (loopG (nodeR s) (clamp n.1).toNat [] n.2.1 n.2.2)
theorem clamp_nat {n : Nat} (h : n ≤ 1000) : (clamp n).toNat = n := by unfold clamp; omega
theorem nodeR_back {s : ByteArray} {x : N} {r : List UInt8} {i : Nat} (hr : x.v.right = true) (hk : Nok x) (hd : s.data.toList.drop i = nodeL x ++ r) : nodeR s i 0 = (x, i + (nodeL x).length, 0) ∧ s.data.toList.drop (i + (nodeL x).length) = r := by
  refine ⟨?_, Cd.drop_more hd⟩
  unfold nodeL at hd ⊢
  simp only [List.append_assoc] at hd
  obtain ⟨a1, a2⟩ := bint hk.1 hd
  obtain ⟨b1, b2⟩ := bint hk.2.1 a2
  obtain ⟨c1, _⟩ := brow (l := [x.v]) (by simp [hr]) (fun y hy => by rw [List.mem_singleton.1 hy]; exact hk.2.2) (show 1 ≤ 1000 by decide) b2
  unfold nodeR
  simp only [a1, b1, c1, List.length_append, ← Nat.add_assoc]
  rfl
theorem nodes_back {s : ByteArray} (xs : List N) : (∀ x ∈ xs, x.v.right = true ∧ Nok x) → ∀ (l : List N) (r : List UInt8) (i : Nat), s.data.toList.drop i = xs.flatMap nodeL ++ r → ∃ j, loopG (nodeR s) xs.length l i 0 = (l ++ xs, j, 0) ∧ s.data.toList.drop j = r := by
  induction xs with
  | nil => intro _ l r i hd; exact ⟨i, by rw [List.append_nil]; rfl, by simpa using hd⟩
  | cons c cs ih =>
    intro hc l r i hd
    rw [List.flatMap_cons, List.append_assoc] at hd
    obtain ⟨a1, a2⟩ := nodeR_back (hc c (List.mem_cons_self ..)).1 (hc c (List.mem_cons_self ..)).2 hd
    rw [List.length_cons, loopG_next, a1]
    obtain ⟨j, hj, hj2⟩ := ih (fun x hx => hc x (List.mem_cons_of_mem _ hx)) (l ++ [c]) r _ a2
    exact ⟨j, by rw [hj, List.append_assoc]; rfl, hj2⟩
theorem nums_back {s : ByteArray} (xs : List Int) : (∀ x ∈ xs, I64 x) → ∀ (l : List Int) (r : List UInt8) (i : Nat), s.data.toList.drop i = xs.flatMap numL ++ r → ∃ j, loopG (intN s) xs.length l i 0 = (l ++ xs, j, 0) ∧ s.data.toList.drop j = r := by
  induction xs with
  | nil => intro _ l r i hd; exact ⟨i, by rw [List.append_nil]; rfl, by simpa using hd⟩
  | cons c cs ih =>
    intro hc l r i hd
    rw [List.flatMap_cons, List.append_assoc] at hd
    obtain ⟨a1, a2⟩ := bint (hc c (List.mem_cons_self ..)) hd
    have a3 : intN s i 0 = (c, i + (numL c).length, 0) := a1
    rw [List.length_cons, loopG_next, a3]
    obtain ⟨j, hj, hj2⟩ := ih (fun x hx => hc x (List.mem_cons_of_mem _ hx)) (l ++ [c]) r _ a2
    exact ⟨j, by rw [hj, List.append_assoc]; rfl, hj2⟩
theorem enc_full {q : Q} (h : enc q ≠ []) : encB q = true ∧ enc q = encL q := by
  unfold enc at h ⊢
  split
  · rename_i ht; exact ⟨ht, rfl⟩
  · rename_i ht; rw [if_neg ht] at h; exact absurd rfl h
theorem encB_iff {q : Q} : encB q = true ↔ 0 ≤ q.kind ∧ q.key.all Cd.V.right = true ∧ (q.key.length ≤ 1000 ∧ q.wh.length ≤ 1000 ∧ q.cols.length ≤ 1000) ∧ ∀ x ∈ q.wh, x.v.right = true := by
  unfold encB fits
  simp only [Bool.and_eq_true, decide_eq_true_eq, List.all_eq_true]
  constructor
  · rintro ⟨⟨a, b, c⟩, d⟩; exact ⟨a, b, c, d⟩
  · rintro ⟨a, b, c, d⟩; exact ⟨⟨a, b, c⟩, d⟩
/-- what has bytes is read of them -/
theorem decR_back {D : Nat → Bool} (h0 : D 0 = false) (h1 : D 1 = true) {s : ByteArray} {q : Q} (hk : Qok q) (ht : q.table.size ≤ 1000000) (he : enc q ≠ []) (hs : s = bstr (enc q)) : decR D s = (q, 0) := by
  obtain ⟨hb, hL⟩ := enc_full he
  obtain ⟨b1, b2, ⟨b3, b4, b5⟩, b6⟩ := encB_iff.1 hb
  have hd : s.data.toList.drop 0 = Cd.enc q.kind.toNat ++ (Cd.text q.table ++ (Cd.row q.key ++ (numL q.t ++ (numL q.v ++ (numL q.fr ++ (numL q.to ++ (Cd.enc q.wh.length ++ (q.wh.flatMap nodeL ++ (Cd.enc q.cols.length ++ (q.cols.flatMap numL ++ (numL q.limit ++ (Cd.enc (if q.desc = true then 1 else 0) ++ [])))))))))))) := by
    rw [List.drop_zero, hs, bstr_toList, hL]
    unfold encL headL spotL whL colsL endL
    simp only [List.append_assoc, List.append_nil]
  have hkd := hk.kind
  obtain ⟨p1, d1⟩ := buint (n := q.kind.toNat) (by have := hkd.2; omega) hd
  obtain ⟨p2, d2⟩ := btext ht d1
  obtain ⟨p3, d3⟩ := brow b2 hk.key b3 d2
  obtain ⟨p4, d4⟩ := bint hk.t d3
  obtain ⟨p5, d5⟩ := bint hk.v d4
  obtain ⟨p6, d6⟩ := bint hk.fr d5
  obtain ⟨p7, d7⟩ := bint hk.to d6
  obtain ⟨p8, d8⟩ := buint (n := q.wh.length) (by omega) d7
  obtain ⟨j9, p9, d9⟩ := nodes_back q.wh (fun x hx => ⟨b6 x hx, hk.wh x hx⟩) [] _ _ d8
  obtain ⟨p10, d10⟩ := buint (n := q.cols.length) (by omega) d9
  obtain ⟨j11, p11, d11⟩ := nums_back q.cols hk.cols [] _ _ d10
  obtain ⟨p12, d12⟩ := bint hk.limit d11
  obtain ⟨p13, d13⟩ := buint (n := if q.desc = true then 1 else 0) (by split <;> decide) d12
  have hkw : IntKind.i64.wrap (q.kind.toNat : Int) = q.kind := by rw [IntKind.wrap_i64]; have := hkd.2; omega
  have hD : D (if q.desc = true then 1 else 0) = q.desc := by cases q.desc <;> simp [h0, h1]
  unfold decR afterWh afterCols
  simp only [p1, p2, p3, p4, p5, p6, p7, p8, clamp_nat b4, p9, List.nil_append, p10, clamp_nat b5, p11, p12, p13, hkw, hD]
theorem decR_empty (D : Nat → Bool) : (decR D ⟨#[]⟩).2 = 8 := rfl
end Qu
end Go.Proofs.Ytmcneelapghfcaa
