/-
  Values plainly; both Rights, canonical bits; bytes in memory: taken out of the texts of the other seats. No condition of its own.
-/
import Derived.Test.YtfdehigepgeknaaLift
import Derived.WalkKit
import Derived.WalkSpells
import Derived.WalkLawsBesides
import Derived.Handy
import Derived.Deep.RegionHeld3
import Derived.Below
import Derived.Deep.Draws
import GoSem.Core.Float
import Derived.Laws.Cover2
import Derived.Laws.Externs
import Derived.Deep.QuietTactic
import Derived.BigQuiet
import Derived.Laws.Bits64b
import Derived.Lib.SlicesS
import Derived.Lib.SmallJoins
import Derived.Deep.SlicePairs
import Derived.WalkSmall
import Derived.Defers
import Derived.Recover
import Derived.Laws.Pointers

namespace Go.Proofs.Ytfdehigepgeknaa
open Go.RowKit

theorem hid {p : Prop} (h : p) : Hid p := h
theorem ba_eq {a b : ByteArray} (h : a.data.toList = b.data.toList) : a = b := by
  cases a; cases b; simp only [Array.toList_inj] at h; subst h; rfl

/-- a contract, told of the world in which the caller began -/
theorem after {P : Program} {f : FuncId} {args : Array Value} {w0 w : World} {r : Ending} (h0 : Below w0.heap.size w0 w) (hc : Calls P f args w fun e w' => e = r ∧ Below w.heap.size w w') :
    Calls P f args w fun e w' => e = r ∧ Below w0.heap.size w0 w' := hc.mono fun _ _ ⟨h1, h2⟩ => ⟨h1, h0.trans (h2.mono h0.size)⟩

theorem keepBlock {W W' : World} {g : Nat} {o : Obj} (h : W.heap[g]? = some o) (hb : Below W.heap.size W W') : W'.heap[g]? = some o := by
  rw [hb.block g (Array.getElem?_eq_some_iff.1 h).1]; exact h
/-- a string out of its bytes -/
def bstr (l : List UInt8) : ByteArray := ⟨l.toArray⟩
theorem bstr_toList (l : List UInt8) : (bstr l).data.toList = l := rfl
theorem bstr_append (l r : List UInt8) : bstr l ++ bstr r = bstr (l ++ r) := by
  apply ba_eq
  rw [bstr_toList, ByteArray.data_append, Array.toList_append]; rfl
theorem bytes_beq (a b : ByteArray) : (a.toList == b.toList) = decide (a = b) := by
  rw [ByteArray.toList_eq, ByteArray.toList_eq]
  by_cases h : a = b
  · subst h; simp
  · simp only [h, decide_false, beq_eq_false_iff_ne]
    intro e; exact h (ba_eq e)
theorem bstr_size (l : List UInt8) : (bstr l).size = l.length := rfl
theorem bstr_of (s : ByteArray) : bstr s.data.toList = s := by cases s; simp [bstr]

def byteV (c : UInt8) : Value := .int .u8 (c.toNat : Int)

/-- the slice v holds the bytes l, and lies in a block from B on (or is nil) -/
def BytesAt (w : World) (B : Nat) (v : Value) (l : List UInt8) : Prop :=
  (v = .slice none 0 0 ∧ l = []) ∨ ∃ g cap, v = .slice (some ⟨g, 0, none⟩) l.length cap ∧ B ≤ g ∧ g < w.heap.size ∧ l.length ≤ cap ∧
    (∀ j u, (l.map byteV)[j]? = some u → w.cell? ⟨g, j, none⟩ = some u) ∧ (∀ j, j < cap → (w.cell? ⟨g, j, none⟩).isSome = true ∧ w.frozen? ⟨g, j, none⟩ = false)

theorem BytesAt.nil (w : World) (B : Nat) : BytesAt w B (.slice none 0 0) [] := .inl ⟨rfl, rfl⟩

theorem BytesAt.keep {w w' : World} {B : Nat} {v : Value} {l : List UInt8} (h : BytesAt w B v l) (hs : w.heap.size ≤ w'.heap.size) (hk : ∀ k, k < w.heap.size → some k = v.ownBlock → w'.heap[k]? = w.heap[k]?) : BytesAt w' B v l := by
  rcases h with h | ⟨g, cap, rfl, hB, hg, hl, hc, hf⟩
  · exact .inl h
  · have hb := hk g hg rfl
    exact .inr ⟨g, cap, rfl, hB, by omega, hl, fun j u hj => (World.cell?_of_block (a := ⟨g, j, none⟩) hb).trans (hc j u hj),
      fun j hj => ⟨by rw [World.cell?_of_block (a := ⟨g, j, none⟩) hb]; exact (hf j hj).1, by rw [World.frozen?_of_block (a := ⟨g, j, none⟩) hb]; exact (hf j hj).2⟩⟩

theorem BytesAt.alloc {w : World} {B : Nat} {v : Value} {l : List UInt8} (h : BytesAt w B v l) (o : Obj) : BytesAt (w.alloc o) B v l :=
  h.keep (by simp) fun k hk _ => Below.heap_alloc w o k hk
theorem BytesAt.drew {w : World} {B : Nat} {v : Value} {l : List UInt8} (h : BytesAt w B v l) : BytesAt w.drew B v l :=
  h.keep (Nat.le_refl _) fun _ _ _ => rfl
theorem BytesAt.below {w w' : World} {B C : Nat} {v : Value} {l : List UInt8} (h : BytesAt w B v l) (hb : Below C w w') (hC : w.heap.size ≤ C) : BytesAt w' B v l :=
  h.keep hb.size fun k hk _ => hb.block k (by omega)
theorem BytesAt.mono {w : World} {B B' : Nat} {v : Value} {l : List UInt8} (h : BytesAt w B v l) (hB : B' ≤ B) : BytesAt w B' v l := by
  rcases h with h | ⟨g, cap, rfl, h1, h2⟩
  · exact .inl h
  · exact .inr ⟨g, cap, rfl, by omega, h2⟩

theorem BytesAt.block {w : World} {B : Nat} {v : Value} {l : List UInt8} (h : BytesAt w B v l) : ∀ k, v.ownBlock = some k → B ≤ k := by
  intro k hk
  rcases h with ⟨rfl, _⟩ | ⟨g, cap, rfl, hB, _⟩
  · cases hk
  · simp only [Value.ownBlock, Option.some.injEq] at hk
    omega
theorem cell_one_byte (w : World) (x : Value) (e : TypeId) (c : UInt8) (h : x = byteV c) : ∀ j u, ([c].map byteV)[j]? = some u → (w.alloc (.cells #[x] e)).cell? ((⟨w.heap.size, 0, none⟩ : Addr).add j) = some u := by
  subst h
  exact cell_one_new w _ _

theorem BytesAt.own {w : World} {B e : Nat} {v : Value} {l : List UInt8} (h : w.ownsRow B e 1 v l.length (l.map byteV)) : BytesAt w B v l := by
  rcases h.2 with ⟨rfl, hn⟩ | ⟨g, cap, cur, rfl, hB, hg, hn, _, hs, ht⟩
  · exact .inl ⟨rfl, List.eq_nil_of_length_eq_zero hn⟩
  · refine .inr ⟨g, cap, rfl, hB, (Array.getElem?_eq_some_iff.1 hg).1, hn, fun j u hj => ?_, fun j hj => ⟨?_, ?_⟩⟩
    · rw [cell_of_row w g j cur e (0, 0) hg]
      rw [← ht, List.getElem?_take] at hj
      split at hj
      · simpa using hj
      · cases hj
    · rw [cell_of_row w g j cur e (0, 0) hg, Array.getElem?_eq_getElem (by omega)]; rfl
    · exact frozen_of_row w g j cur e hg

section
variable {P : Program}

/-- 'string([]byte{c})' -/
theorem run_string_one (w : World) (src dst e : Nat) (x : Value) (c : UInt8) (hx : x = byteV c) (hs : P.underlying src = some (.slice e)) (he : P.underlying e = some (.int .u8)) (hd : P.underlying dst = some .string) :
    (convert src dst (.slice (some ⟨w.heap.size, 0, none⟩) 1 1)).run P (w.alloc (.cells #[x] e)) = .ok (.string (bstr [c])) (w.alloc (.cells #[x] e)) := by
  refine run_convert_bytes_back (w.alloc (.cells #[x] e)) src dst e ⟨w.heap.size, 0, none⟩ 1 [c] hs he hd fun j hj => ?_
  have h0 := cell_one_byte w x e c hx
  exact h0 j _ (by rw [List.getElem?_map, List.getElem?_eq_getElem hj]; rfl)

/-- 'string(b)', b a whole block of bytes -/
theorem run_string_block (src dst e : Nat) (l : List UInt8) (cs : Array Value) (fr : Nat × Nat) (hcs : cs = (l.map byteV).toArray) (hs : P.underlying src = some (.slice e)) (he : P.underlying e = some (.int .u8)) (hd : P.underlying dst = some .string) (g n cap : Nat) (hn : l.length = n) :
    ∀ w : World, w.heap[g]? = some (.cells cs e fr) → (convert src dst (.slice (some ⟨g, 0, none⟩) n cap)).run P w = .ok (.string (bstr l)) w := by
  intro w h
  subst hcs
  rw [← hn]
  refine run_convert_bytes_back w src dst e ⟨g, 0, none⟩ cap l hs he hd fun j hj => ?_
  rw [Addr.add_lit, Nat.zero_add, cell_of_row w g j _ e fr h]
  rw [List.getElem?_toArray, List.getElem?_map, List.getElem?_eq_getElem hj]; rfl

end
end Go.Proofs.Ytfdehigepgeknaa

namespace Go.Proofs.Ytfdehigepgeknaa
open Go.RowKit

section
variable {P : Program} {ops : Array Oper} {Q : Exit → Act → World → Prop} {md : Region.Mode} {S S' : World → Prop}
end
theorem hba (w : World) (o : Obj) : Below w.heap.size w (w.alloc o) := (Below.refl _ _).alloc (Nat.le_refl _) o
theorem hnext {w a b : World} (h : Below w.heap.size w a) (k : Below a.heap.size a b) : Below w.heap.size w b := h.trans (k.mono h.size)
theorem hkeep {W W' : World} {p : Addr} {v : Value} (h : W.cell? p = some v) (hb : Below W.heap.size W W') : W'.cell? p = some v :=
  (hb.cell (World.block_lt_of_cell? W p h)).trans h
theorem hdrewN {B : Nat} {a w : World} (h : Below B a w) (n : Nat) : Below B a (w.drewN n) := ⟨h.os, h.tape, h.output, h.size, h.block⟩
end Go.Proofs.Ytfdehigepgeknaa

namespace Go.Proofs.Ytfdehigepgeknaa
namespace Va

def NAN : Nat := 9221120237041090560
def INF : Nat := 9218868437227405312
def SIGN : Nat := 9223372036854775808
/-- canonical bits -/
def canon (b : Nat) : Nat := if INF < b % SIGN then NAN else if b % SIGN = 0 then 0 else b

theorem sw : Ieee.double.signWeight = SIGN := by decide
theorem bin : Ieee.double.binade = 4503599627370496 := by decide
theorem infr : Ieee.double.infRung = INF := by decide

theorem read_nan {b : Nat} (h : INF < b % SIGN) : ∃ s t, Ieee.double.read b = .nan s t := by
  unfold Ieee.Format.read
  rw [sw, bin, infr]
  dsimp only
  have hi : INF = 9218868437227405312 := rfl
  rw [if_neg (by omega), if_neg (by omega), if_neg (by omega)]
  exact ⟨_, _, rfl⟩
theorem read_inf {b : Nat} (h : b % SIGN = INF) : ∃ s, Ieee.double.read b = .infinity s := by
  unfold Ieee.Format.read
  rw [sw, bin, infr]
  dsimp only
  have hi : INF = 9218868437227405312 := rfl
  rw [if_neg (by omega), if_neg (by omega), if_pos h]
  exact ⟨_, rfl⟩
theorem read_num {b : Nat} (h : b % SIGN < INF) : ∃ s m k, Ieee.double.read b = .number s m (Ieee.double.leastPlace + (k : Nat)) ∧ (m = 0 ↔ b % SIGN = 0) ∧ (m = 0 → k = 0) := by
  unfold Ieee.Format.read
  rw [sw, bin, infr]
  by_cases h1 : b % SIGN < 4503599627370496
  · rw [if_pos h1]
    exact ⟨_, _, 0, by rw [Int.natCast_zero, Int.add_zero], Iff.rfl, fun _ => rfl⟩
  · rw [if_neg h1, if_pos h]
    refine ⟨_, _, _, rfl, ?_, ?_⟩
    · omega
    · omega

theorem order_self (b : Nat) : (FloatKind.f64.format.order b b == some .eq) = decide (¬ INF < b % SIGN) := by
  show ((Ieee.double.read b).order (Ieee.double.read b) == some .eq) = _
  rcases Nat.lt_trichotomy (b % SIGN) INF with h | h | h
  · obtain ⟨s, m, k, e, _⟩ := read_num h
    rw [e]
    simp only [Ieee.Datum.order]
    rw [decide_eq_true (by omega)]
    simp
  · obtain ⟨s, e⟩ := read_inf h
    rw [e]
    simp only [Ieee.Datum.order]
    rw [decide_eq_true (by omega)]
    simp
  · obtain ⟨s, t, e⟩ := read_nan h
    rw [e]
    simp only [Ieee.Datum.order]
    rw [decide_eq_false (by omega)]
    rfl
theorem signed_zero {s : Bool} {m k : Nat} : Ieee.signed s m k = 0 ↔ m = 0 := by
  unfold Ieee.signed
  rw [Nat.shiftLeft_eq]
  have h2 : 0 < 2 ^ k := Nat.two_pow_pos k
  constructor
  · intro h
    have h3 : m * 2 ^ k = 0 := by split at h <;> omega
    rcases Nat.mul_eq_zero.1 h3 with h4 | h4
    · exact h4
    · omega
  · rintro rfl
    simp
theorem read_zero : Ieee.double.read 0 = .number false 0 Ieee.double.leastPlace := by decide
theorem order_zero (b : Nat) (hb : ¬ INF < b % SIGN) : (FloatKind.f64.format.order b 0 == some .eq) = decide (b % SIGN = 0) := by
  show ((Ieee.double.read b).order (Ieee.double.read 0) == some .eq) = _
  rw [read_zero]
  rcases Nat.lt_trichotomy (b % SIGN) INF with h | h | h
  · obtain ⟨s, m, k, e, e2, _⟩ := read_num h
    rw [e]
    simp only [Ieee.Datum.order]
    generalize hx : Ieee.signed s m _ = x
    generalize hy : Ieee.signed false 0 _ = y
    have hy0 : y = 0 := by rw [← hy]; exact signed_zero.2 rfl
    subst hy0
    have hx0 : x = 0 ↔ m = 0 := by rw [← hx]; exact signed_zero
    rw [← hx0] at e2
    rw [Bool.eq_iff_iff, decide_eq_true_iff, ← e2]
    simp
  · obtain ⟨s, e⟩ := read_inf h
    rw [e]
    simp only [Ieee.Datum.order]
    rw [decide_eq_false (by rw [h]; decide)]
    cases s <;> rfl
  · omega

/-- which values are right: its kind, number, bits, text -/
def right (k n : Int) (b : Nat) (s : ByteArray) : Bool :=
  if k = 0 then decide (n = 0) && decide (b = 0) && decide (s.size = 0)
  else if k = 1 then (decide (n = 0) || decide (n = 1)) && decide (b = 0) && decide (s.size = 0)
  else if k = 2 then decide (b = 0) && decide (s.size = 0)
  else if k = 3 then decide (n = 0) && decide (s.size = 0) && decide (canon b = b)
  else if k = 4 ∨ k = 5 then decide (n = 0) && decide (b = 0) && decide (s.size ≤ 4096)
  else false
end Va
end Go.Proofs.Ytfdehigepgeknaa

namespace Go.Proofs.Ytfdehigepgeknaa
namespace Va

/-- what bits without a sign stand for, in units of the least place -/
def mag (r : Nat) : Nat := if r < 4503599627370496 then r else (4503599627370496 + r % 4503599627370496) * 2 ^ (r / 4503599627370496 - 1)
theorem mag_step (r : Nat) : mag r < mag (r + 1) := by
  unfold mag
  by_cases h1 : r + 1 < 4503599627370496
  · rw [if_pos h1, if_pos (by omega)]; omega
  · by_cases h2 : r + 1 = 4503599627370496
    · rw [if_neg h1, if_pos (by omega), h2]; omega
    · rw [if_neg h1, if_neg (by omega)]
      generalize hq : r / 4503599627370496 = q
      generalize hf : r % 4503599627370496 = f
      by_cases h3 : f + 1 < 4503599627370496
      · rw [show (r + 1) / 4503599627370496 = q by omega, show (r + 1) % 4503599627370496 = f + 1 by omega]
        exact Nat.mul_lt_mul_of_pos_right (by omega) (Nat.two_pow_pos _)
      · rw [show (r + 1) / 4503599627370496 = q + 1 by omega, show (r + 1) % 4503599627370496 = 0 by omega, show q + 1 - 1 = (q - 1) + 1 by omega, Nat.pow_succ]
        have hp := Nat.two_pow_pos (q - 1)
        generalize 2 ^ (q - 1) = p at hp
        rw [Nat.mul_comm p 2, ← Nat.mul_assoc]
        exact Nat.mul_lt_mul_of_pos_right (by omega) hp
theorem mag_add (r k : Nat) : mag r < mag (r + (k + 1)) := by
  induction k with
  | zero => exact mag_step r
  | succ k ih => exact Nat.lt_trans ih (mag_step _)
theorem mag_mono {r t : Nat} (h : r < t) : mag r < mag t := by
  have := mag_add r (t - r - 1)
  rw [show r + (t - r - 1 + 1) = t by omega] at this
  exact this
theorem mag_lt {r t : Nat} : mag r < mag t ↔ r < t := by
  constructor
  · intro h
    rcases Nat.lt_trichotomy r t with h1 | h1 | h1
    · exact h1
    · subst h1; omega
    · have := mag_mono h1; omega
  · exact mag_mono
theorem mag_zero : mag 0 = 0 := rfl
theorem mag_pos {r : Nat} : 0 < mag r ↔ 0 < r := by
  have h := @mag_lt 0 r
  rwa [mag_zero] at h
/-- the number that bits stand for, in units of the least place; of an infinity one that is above all others -/
def sg (b : Nat) : Int := if b / SIGN % 2 = 1 then -(mag (b % SIGN) : Int) else (mag (b % SIGN) : Int)
def val (s : Bool) (m : Nat) : Int := if s then -(m : Int) else (m : Int)
theorem signed_val (s : Bool) (m k : Nat) : Ieee.signed s m k = val s (m * 2 ^ k) := by
  unfold Ieee.signed val
  rw [Nat.shiftLeft_eq]
theorem val_mul (s : Bool) (m c : Nat) : val s (m * c) = val s m * (c : Int) := by
  unfold val
  cases s
  · simp
  · simp [Int.neg_mul]
theorem sg_val (b : Nat) : sg b = val (b / SIGN % 2 == 1) (mag (b % SIGN)) := by
  unfold sg val
  by_cases h : b / SIGN % 2 = 1
  · rw [if_pos h, h]; rfl
  · rw [if_neg h, if_neg (by simpa using h)]
theorem read_fin {b : Nat} (h : b % SIGN < INF) : ∃ m k : Nat, Ieee.double.read b = .number (b / SIGN % 2 == 1) m (Ieee.double.leastPlace + (k : Nat)) ∧ m * 2 ^ k = mag (b % SIGN) := by
  unfold Ieee.Format.read
  rw [sw, bin, infr]
  by_cases h1 : b % SIGN < 4503599627370496
  · simp only [if_pos h1]
    refine ⟨_, 0, by rw [Int.natCast_zero, Int.add_zero], ?_⟩
    unfold mag
    rw [if_pos h1]; omega
  · simp only [if_neg h1, if_pos h]
    refine ⟨_, _, rfl, ?_⟩
    unfold mag
    rw [if_neg h1]
theorem read_infs {b : Nat} (h : b % SIGN = INF) : Ieee.double.read b = .infinity (b / SIGN % 2 == 1) := by
  unfold Ieee.Format.read
  rw [sw, bin, infr]
  dsimp only
  have hi : INF = 9218868437227405312 := rfl
  rw [if_neg (by omega), if_neg (by omega), if_pos h]
theorem compare_mul (x y : Int) (c : Nat) (hc : 0 < c) : compare (x * (c : Int)) (y * (c : Int)) = compare x y := by
  have hc' : (0 : Int) < (c : Int) := by omega
  rcases Int.lt_trichotomy x y with h | h | h
  · rw [Int.compare_eq_lt.2 h, Int.compare_eq_lt.2 (Int.mul_lt_mul_of_pos_right h hc')]
  · subst h; rw [Int.compare_eq_eq.2 rfl, Int.compare_eq_eq.2 rfl]
  · rw [Int.compare_eq_gt.2 h, Int.compare_eq_gt.2 (Int.mul_lt_mul_of_pos_right h hc')]
theorem signed_compare (s t : Bool) (m n k l : Nat) (p : Int) : compare (Ieee.signed s m (p + k - min (p + k) (p + l)).toNat) (Ieee.signed t n (p + l - min (p + k) (p + l)).toNat) = compare (val s (m * 2 ^ k)) (val t (n * 2 ^ l)) := by
  rw [signed_val, signed_val, ← compare_mul _ _ (2 ^ (min k l)) (Nat.two_pow_pos _), ← val_mul, ← val_mul, Nat.mul_assoc, Nat.mul_assoc, ← Nat.pow_add, ← Nat.pow_add,
    show (p + k - min (p + k) (p + l)).toNat + min k l = k by omega, show (p + l - min (p + k) (p + l)).toNat + min k l = l by omega]
theorem order_sg {a b : Nat} (ha : ¬ INF < a % SIGN) (hb : ¬ INF < b % SIGN) : FloatKind.f64.format.order a b = some (compare (sg a) (sg b)) := by
  show (Ieee.double.read a).order (Ieee.double.read b) = _
  rw [sg_val, sg_val]
  have key : ∀ {r : Nat} (s t : Bool), r < INF → val t (mag r) < (mag INF : Int) ∧ -(mag INF : Int) < val t (mag r) := by
    intro r s t h
    have h2 := mag_mono h
    unfold val
    constructor <;> split <;> omega
  rcases Nat.lt_or_ge (a % SIGN) INF with h | h
  · obtain ⟨m, k, e, em⟩ := read_fin h
    rcases Nat.lt_or_ge (b % SIGN) INF with h' | h'
    · obtain ⟨n, l, e', en⟩ := read_fin h'
      rw [e, e']
      simp only [Ieee.Datum.order]
      rw [signed_compare, em, en]
    · have hbe : b % SIGN = INF := by omega
      rw [e, read_infs hbe, hbe]
      simp only [Ieee.Datum.order]
      obtain ⟨k1, k2⟩ := key true (a / SIGN % 2 == 1) h
      generalize val (a / SIGN % 2 == 1) (mag (a % SIGN)) = x at k1 k2
      generalize (b / SIGN % 2 == 1) = t
      cases t
      · rw [show val false (mag INF) = (mag INF : Int) from rfl, Int.compare_eq_lt.2 k1]; rfl
      · rw [show val true (mag INF) = -(mag INF : Int) from rfl, Int.compare_eq_gt.2 k2]; rfl
  · have hae : a % SIGN = INF := by omega
    rcases Nat.lt_or_ge (b % SIGN) INF with h' | h'
    · obtain ⟨n, l, e', en⟩ := read_fin h'
      rw [e', read_infs hae, hae]
      simp only [Ieee.Datum.order]
      obtain ⟨k1, k2⟩ := key true (b / SIGN % 2 == 1) h'
      generalize val (b / SIGN % 2 == 1) (mag (b % SIGN)) = x at k1 k2
      generalize (a / SIGN % 2 == 1) = t
      cases t
      · rw [show val false (mag INF) = (mag INF : Int) from rfl, Int.compare_eq_gt.2 k1]; rfl
      · rw [show val true (mag INF) = -(mag INF : Int) from rfl, Int.compare_eq_lt.2 k2]; rfl
    · have hbe : b % SIGN = INF := by omega
      rw [read_infs hbe, read_infs hae, hae, hbe]
      simp only [Ieee.Datum.order]
      have hp : 0 < mag INF := mag_pos.2 (by decide)
      generalize (a / SIGN % 2 == 1) = s
      generalize (b / SIGN % 2 == 1) = t
      generalize mag INF = i at hp
      cases s <;> cases t
      · rw [Int.compare_eq_eq.2 rfl]; rfl
      · rw [show val false i = (i : Int) from rfl, show val true i = -(i : Int) from rfl, Int.compare_eq_gt.2 (by omega)]; rfl
      · rw [show val false i = (i : Int) from rfl, show val true i = -(i : Int) from rfl, Int.compare_eq_lt.2 (by omega)]; rfl
      · rw [Int.compare_eq_eq.2 rfl]; rfl
end Va
end Go.Proofs.Ytfdehigepgeknaa

namespace Go.Proofs.Ytfdehigepgeknaa
open Go.RowKit

/-- a value as it stands in memory -/
def vv (k n : Int) (b : Nat) (s : ByteArray) : Value := .agg #[.int .i64 k, .int .i64 n, .int .u64 (b : Int), .string s]

theorem run_frombits (b : Nat) (w : World) : (callFunc 35 #[.int .u64 (b : Int)]).run Try.prog w = .ok (.value (.float .f64 b)) w := by
  rw [run_callFunc_extern (e := Extern.MathFloatBits.float64frombits) Try.func35 (by kernel_rfl) (by kernel_rfl) (by kernel_rfl) (by kernel_rfl)]
  rfl
theorem run_bits (b : Nat) (w : World) : (callFunc 44 #[.float .f64 b]).run Try.prog w = .ok (.value (.int .u64 (b : Int))) w := by
  rw [run_callFunc_extern (e := Extern.MathFloatBits.float64bits) Try.func44 (by kernel_rfl) (by kernel_rfl) (by kernel_rfl) (by kernel_rfl)]
  rfl

theorem isnan_any (b : Nat) (w : World) : Calls Try.prog 43 #[.float .f64 b] w fun e w' => e = .returned (.bool (decide (Va.INF < b % Va.SIGN))) ∧ w = w' := by
  have h := Va.order_self b
  have h2 : (FloatKind.f64.format.order b b != some .eq) = decide (Va.INF < b % Va.SIGN) := by
    unfold bne; rw [h, decide_not, Bool.not_not]
  clear h
  generalize decide (Va.INF < b % Va.SIGN) = r at h2 ⊢
  go_enter Try.func43, Try.ntmps43
  go_wp2
  go_ret
  exact ⟨rfl, rfl⟩

theorem canonical_any (b : Nat) (w : World) : Calls Try.prog 34 #[.float .f64 b] w fun e w' => e = .returned (.int .u64 (Va.canon b : Int)) ∧ w = w' := by
  have hb := fun w => run_bits b w
  have hn := hid (fun w => isnan_any b w)
  by_cases h1 : Va.INF < b % Va.SIGN
  · have hc := hid (show Va.canon b = 9221120237041090560 by unfold Va.canon; rw [if_pos h1]; rfl)
    simp only [h1, decide_true] at hn
    clear h1
    go_enter Try.func34, Try.ntmps34
    go_wp2_with (go_at_call 43; refine (hn.out _).mono ?_; rintro e w1 ⟨rfl, rfl⟩)
    go_ret
    exact ⟨by rw [hc.out]; rfl, rfl⟩
  · have h0 := Va.order_zero b h1
    simp only [h1, decide_false] at hn
    by_cases h2 : b % Va.SIGN = 0
    · have hc := hid (show Va.canon b = 0 by unfold Va.canon; rw [if_neg h1, if_pos h2])
      simp only [h2, decide_true] at h0
      clear h1 h2
      go_enter Try.func34, Try.ntmps34
      go_wp2_with (go_at_call 43; refine (hn.out _).mono ?_; rintro e w1 ⟨rfl, rfl⟩)
      go_ret
      exact ⟨by rw [hc.out]; rfl, rfl⟩
    · have hc := hid (show Va.canon b = b by unfold Va.canon; rw [if_neg h1, if_neg h2])
      simp only [h2, decide_false] at h0
      clear h1 h2
      go_enter Try.func34, Try.ntmps34
      go_wp2_with (go_at_call 43; refine (hn.out _).mono ?_; rintro e w1 ⟨rfl, rfl⟩)
      go_ret
      exact ⟨by rw [hc.out]; rfl, rfl⟩

theorem Try.vHeld : Try.prog.stoodInHeld 39 = false := by kernel_rfl
theorem va_equalIn (k n : Int) (b : Nat) (s : ByteArray) (k' n' : Int) (b' : Nat) (s' : ByteArray) (w : World) :
    (Op.equalIn 10000 39 (vv k n b s) (vv k' n' b' s')).run Try.prog w = .ok (k == k' && (n == n' && ((b : Int) == (b' : Int) && decide (s = s')))) w := by
  unfold vv
  rw [run_equalIn_agg w 9999 39 _ _ (by kernel_rfl) Try.vHeld]
  rw [← bytes_beq]
  cases h1 : (k == k') <;> cases h2 : (n == n') <;> cases h3 : ((b : Int) == (b' : Int)) <;> cases h4 : (s.toList == s'.toList)
  all_goals
    go_simp
theorem va_eql (k n : Int) (b : Nat) (s : ByteArray) (k' n' : Int) (b' : Nat) (s' : ByteArray) (r : Bool) (h : (k == k' && (n == n' && ((b : Int) == (b' : Int) && decide (s = s')))) = r) (w : World) :
    (binOp .eql 39 (vv k n b s) (vv k' n' b' s')).run Try.prog w = .ok (.bool r) w := by
  subst h
  have h := va_equalIn k n b s k' n' b' s' w
  unfold vv at h ⊢
  simp [binOp, Op.equal, Op.maxDepth, h]
theorem va_neq (k n : Int) (b : Nat) (s : ByteArray) (k' n' : Int) (b' : Nat) (s' : ByteArray) (r : Bool) (h : (k == k' && (n == n' && ((b : Int) == (b' : Int) && decide (s = s')))) = r) (w : World) :
    (binOp .neq 39 (vv k n b s) (vv k' n' b' s')).run Try.prog w = .ok (.bool (!r)) w := by
  subst h
  have h := va_equalIn k n b s k' n' b' s' w
  unfold vv at h ⊢
  simp [binOp, Op.equal, Op.maxDepth, h]
theorem and_one_i64 (n : Int) : bits .and .i64 n 1 = n % 2 := by
  show IntKind.i64.wrap ((BitVec.ofInt 64 n &&& BitVec.ofInt 64 1).toNat : Int) = _
  rw [BitVec.toNat_and, BitVec.toNat_ofInt, show (BitVec.ofInt 64 1).toNat = 1 from rfl, Nat.and_one_is_mod, IntKind.wrap_i64]
  omega
theorem empty_iff_size (s : ByteArray) : s = ⟨#[]⟩ ↔ s.size = 0 := by
  constructor
  · rintro rfl; rfl
  · intro h
    apply ba_eq
    have : s.data.toList.length = 0 := by simpa using h
    rw [List.eq_nil_of_length_eq_zero this]

/-- the ways through Right: what it is held against, and whether they are the same -/
theorem right_ways (k n : Int) (b : Nat) (s : ByteArray) : ∃ (n' : Int) (b' : Nat) (s' : ByteArray) (r : Bool), (k == k && (n == n' && ((b : Int) == (b' : Int) && decide (s = s')))) = r ∧
    ((k = 0 ∧ n' = 0 ∧ b' = 0 ∧ s' = ⟨#[]⟩ ∧ (r = true → s.size ≤ 4096) ∧ Va.right k n b s = r) ∨
     (k = 1 ∧ n' = n % 2 ∧ b' = 0 ∧ s' = ⟨#[]⟩ ∧ (r = true → s.size ≤ 4096) ∧ Va.right k n b s = r) ∨
     (k = 2 ∧ n' = n ∧ b' = 0 ∧ s' = ⟨#[]⟩ ∧ (r = true → s.size ≤ 4096) ∧ Va.right k n b s = r) ∨
     (k = 3 ∧ n' = 0 ∧ b' = Va.canon b ∧ s' = ⟨#[]⟩ ∧ (r = true → s.size ≤ 4096) ∧ Va.right k n b s = r) ∨
     ((k = 4 ∨ k = 5) ∧ n' = 0 ∧ b' = 0 ∧ s = s' ∧ Va.right k n b s = (r && decide (s.size ≤ 4096))) ∨
     (k ≠ 0 ∧ k ≠ 1 ∧ k ≠ 2 ∧ k ≠ 3 ∧ k ≠ 4 ∧ k ≠ 5 ∧ Va.right k n b s = false)) := by
  unfold Va.right
  by_cases h0 : k = 0
  · refine ⟨_, _, _, _, rfl, .inl ⟨h0, rfl, rfl, rfl, ?_, ?_⟩⟩
    · intro h; simp only [Bool.and_eq_true, beq_iff_eq, decide_eq_true_iff, empty_iff_size] at h; omega
    · rw [if_pos h0, Bool.eq_iff_iff]; constructor <;> (intro h; simp only [Bool.and_eq_true, beq_iff_eq, decide_eq_true_iff, empty_iff_size] at h ⊢; (repeat' (refine And.intro ?_ ?_)) <;> first | exact trivial | omega)
  by_cases h1 : k = 1
  · refine ⟨_, _, _, _, rfl, .inr (.inl ⟨h1, rfl, rfl, rfl, ?_, ?_⟩)⟩
    · intro h; simp only [Bool.and_eq_true, beq_iff_eq, decide_eq_true_iff, empty_iff_size] at h; omega
    · rw [if_neg h0, if_pos h1, Bool.eq_iff_iff]; constructor <;> (intro h; simp only [Bool.and_eq_true, Bool.or_eq_true, beq_iff_eq, decide_eq_true_iff, empty_iff_size] at h ⊢; (repeat' (refine And.intro ?_ ?_)) <;> first | exact trivial | omega)
  by_cases h2 : k = 2
  · refine ⟨_, _, _, _, rfl, .inr (.inr (.inl ⟨h2, rfl, rfl, rfl, ?_, ?_⟩))⟩
    · intro h; simp only [Bool.and_eq_true, beq_iff_eq, decide_eq_true_iff, empty_iff_size] at h; omega
    · rw [if_neg h0, if_neg h1, if_pos h2, Bool.eq_iff_iff]; constructor <;> (intro h; simp only [Bool.and_eq_true, beq_iff_eq, decide_eq_true_iff, empty_iff_size] at h ⊢; (repeat' (refine And.intro ?_ ?_)) <;> first | exact trivial | omega)
  by_cases h3 : k = 3
  · refine ⟨_, _, _, _, rfl, .inr (.inr (.inr (.inl ⟨h3, rfl, rfl, rfl, ?_, ?_⟩)))⟩
    · intro h; simp only [Bool.and_eq_true, beq_iff_eq, decide_eq_true_iff, empty_iff_size] at h; omega
    · rw [if_neg h0, if_neg h1, if_neg h2, if_pos h3, Bool.eq_iff_iff]; constructor <;> (intro h; simp only [Bool.and_eq_true, beq_iff_eq, decide_eq_true_iff, empty_iff_size] at h ⊢; (repeat' (refine And.intro ?_ ?_)) <;> first | exact trivial | omega)
  by_cases h4 : k = 4 ∨ k = 5
  · refine ⟨_, _, _, _, rfl, .inr (.inr (.inr (.inr (.inl ⟨h4, rfl, rfl, rfl, ?_⟩))))⟩
    rw [if_neg h0, if_neg h1, if_neg h2, if_neg h3, if_pos h4, Bool.eq_iff_iff]; simp only [Bool.and_eq_true, beq_iff_eq, decide_eq_true_iff, true_and, and_true]; omega
  · refine ⟨0, 0, ⟨#[]⟩, _, rfl, .inr (.inr (.inr (.inr (.inr ⟨h0, h1, h2, h3, fun h => h4 (.inl h), fun h => h4 (.inr h), ?_⟩))))⟩
    rw [if_neg h0, if_neg h1, if_neg h2, if_neg h3, if_neg h4]

set_option maxRecDepth 100000 in
set_option maxHeartbeats 1600000 in
theorem right_any (k n : Int) (b : Nat) (s : ByteArray) (hs : s.size ≤ maxLen) (w : World) : Calls Try.prog 23 #[vv k n b s] w fun e w' => e = .returned (.bool (Va.right k n b s)) ∧ Below w.heap.size w w' := by
  unfold maxLen at hs
  obtain ⟨n', b', s', r, hr, hc⟩ := right_ways k n b s
  have hq := va_eql k n b s k n' b' s' r hr
  have hand := and_one_i64 n
  have hfr := fun w => run_frombits b w
  have hcan := hid (fun w => canonical_any b w)
  clear hr
  unfold vv at hq ⊢
  rcases hc with ⟨rfl, rfl, rfl, rfl, hlen, hv⟩ | ⟨rfl, rfl, rfl, rfl, hlen, hv⟩ | ⟨rfl, rfl, rfl, rfl, hlen, hv⟩ | ⟨rfl, rfl, rfl, rfl, hlen, hv⟩ | ⟨rfl | rfl, rfl, rfl, rfl, hv⟩ | ⟨k0, k1, k2, k3, k4, k5, hv⟩
  · have HV := hid hv
    clear hv
    rw [Int.natCast_zero] at hq
    cases r
    · clear hlen
      go_enter Try.func23, Try.ntmps23
      go_wp2
      go_ret
      rw [HV.out]
      exact ⟨rfl, ((Below.refl _ _).alloc (Nat.le_refl _) _).alloc (by simp) _⟩
    · have hl : (s.size : Int) ≤ 4096 := by have := hlen rfl; omega
      clear hlen
      go_enter Try.func23, Try.ntmps23
      go_wp2
      go_ret
      rw [HV.out]
      exact ⟨rfl, ((Below.refl _ _).alloc (Nat.le_refl _) _).alloc (by simp) _⟩
  · have HV := hid hv
    clear hv
    rw [Int.natCast_zero] at hq
    cases r
    · clear hlen
      go_enter Try.func23, Try.ntmps23
      go_wp2
      go_ret
      rw [HV.out]
      exact ⟨rfl, ((Below.refl _ _).alloc (Nat.le_refl _) _).alloc (by simp) _⟩
    · have hl : (s.size : Int) ≤ 4096 := by have := hlen rfl; omega
      clear hlen
      go_enter Try.func23, Try.ntmps23
      go_wp2
      go_ret
      rw [HV.out]
      exact ⟨rfl, ((Below.refl _ _).alloc (Nat.le_refl _) _).alloc (by simp) _⟩
  · have HV := hid hv
    clear hv
    rw [Int.natCast_zero] at hq
    cases r
    · clear hlen
      go_enter Try.func23, Try.ntmps23
      go_wp2
      go_ret
      rw [HV.out]
      exact ⟨rfl, ((Below.refl _ _).alloc (Nat.le_refl _) _).alloc (by simp) _⟩
    · have hl : (s.size : Int) ≤ 4096 := by have := hlen rfl; omega
      clear hlen
      go_enter Try.func23, Try.ntmps23
      go_wp2
      go_ret
      rw [HV.out]
      exact ⟨rfl, ((Below.refl _ _).alloc (Nat.le_refl _) _).alloc (by simp) _⟩
  · have HV := hid hv
    clear hv
    cases r
    · clear hlen
      go_enter Try.func23, Try.ntmps23
      go_wp2_with (go_at_call 34; refine (hcan.out _).mono ?_; rintro e w1 ⟨rfl, rfl⟩)
      go_ret
      rw [HV.out]
      exact ⟨rfl, ((Below.refl _ _).alloc (Nat.le_refl _) _).alloc (by simp) _⟩
    · have hl : (s.size : Int) ≤ 4096 := by have := hlen rfl; omega
      clear hlen
      go_enter Try.func23, Try.ntmps23
      go_wp2_with (go_at_call 34; refine (hcan.out _).mono ?_; rintro e w1 ⟨rfl, rfl⟩)
      go_ret
      rw [HV.out]
      exact ⟨rfl, ((Below.refl _ _).alloc (Nat.le_refl _) _).alloc (by simp) _⟩
  · rw [Int.natCast_zero] at hq
    cases r
    · have HV := hid hv
      clear hv
      go_enter Try.func23, Try.ntmps23
      go_wp2
      go_ret
      rw [HV.out]
      exact ⟨rfl, ((Below.refl _ _).alloc (Nat.le_refl _) _).alloc (by simp) _⟩
    · by_cases hl : s.size ≤ 4096
      · have HV := hid hv
        simp only [hl, decide_true, Bool.and_true] at HV
        have hl2 : (s.size : Int) ≤ 4096 := by omega
        clear hv hl
        go_enter Try.func23, Try.ntmps23
        go_wp2
        go_ret
        rw [HV.out]
        exact ⟨rfl, ((Below.refl _ _).alloc (Nat.le_refl _) _).alloc (by simp) _⟩
      · have HV := hid hv
        simp only [hl, decide_false, Bool.and_false] at HV
        have hl2 : ¬ (s.size : Int) ≤ 4096 := by omega
        clear hv hl
        go_enter Try.func23, Try.ntmps23
        go_wp2
        go_ret
        rw [HV.out]
        exact ⟨rfl, ((Below.refl _ _).alloc (Nat.le_refl _) _).alloc (by simp) _⟩
  · rw [Int.natCast_zero] at hq
    cases r
    · have HV := hid hv
      clear hv
      go_enter Try.func23, Try.ntmps23
      go_wp2
      go_ret
      rw [HV.out]
      exact ⟨rfl, ((Below.refl _ _).alloc (Nat.le_refl _) _).alloc (by simp) _⟩
    · by_cases hl : s.size ≤ 4096
      · have HV := hid hv
        simp only [hl, decide_true, Bool.and_true] at HV
        have hl2 : (s.size : Int) ≤ 4096 := by omega
        clear hv hl
        go_enter Try.func23, Try.ntmps23
        go_wp2
        go_ret
        rw [HV.out]
        exact ⟨rfl, ((Below.refl _ _).alloc (Nat.le_refl _) _).alloc (by simp) _⟩
      · have HV := hid hv
        simp only [hl, decide_false, Bool.and_false] at HV
        have hl2 : ¬ (s.size : Int) ≤ 4096 := by omega
        clear hv hl
        go_enter Try.func23, Try.ntmps23
        go_wp2
        go_ret
        rw [HV.out]
        exact ⟨rfl, ((Below.refl _ _).alloc (Nat.le_refl _) _).alloc (by simp) _⟩
  · have HV := hid hv
    clear hv hq
    go_enter Try.func23, Try.ntmps23
    go_wp2
    go_ret
    rw [HV.out]
    exact ⟨rfl, ((Below.refl _ _).alloc (Nat.le_refl _) _).alloc (by simp) _⟩
end Go.Proofs.Ytfdehigepgeknaa

namespace Go.Proofs.Ytfdehigepgeknaa
open Go.RowKit

theorem and_sign (b : Nat) (hb : b < 18446744073709551616) : bits .and .u64 (b : Int) 9223372036854775807 = ((b % Va.SIGN : Nat) : Int) := by
  have h := bits_and_u64_nat b 9223372036854775807 hb (by decide)
  have e : b &&& 9223372036854775807 = b % 9223372036854775808 := Nat.and_two_pow_sub_one_eq_mod b 63
  rw [e] at h
  exact h

theorem canonR_any (b : Nat) (hb : b < 18446744073709551616) (w : World) : Calls Try.prog 37 #[.int .u64 (b : Int)] w fun e w' => e = .returned (.int .u64 (Va.canon b : Int)) ∧ w = w' := by
  have ha := and_sign b hb
  have hm : Hid (b % Va.SIGN < 9223372036854775808) := Nat.mod_lt _ (by decide)
  have hc : Hid (Va.canon b = if Va.INF < b % Va.SIGN then 9221120237041090560 else if b % Va.SIGN = 0 then 0 else b) := rfl
  have hi : Va.INF = 9218868437227405312 := rfl
  generalize b % Va.SIGN = m at ha hm hc
  have HB := hid hb
  clear hb
  by_cases h1 : Va.INF < m
  · have h1' : (9218868437227405312 : Int) < m := by omega
    have hcc : Hid (Va.canon b = 9221120237041090560) := by have := hc.out; rw [if_pos h1] at this; exact this
    clear h1 hi hc
    go_enter Try.func37, Try.ntmps37
    go_wp2
    go_ret
    exact ⟨by rw [hcc.out]; rfl, rfl⟩
  · have h1' : ¬ (9218868437227405312 : Int) < m := by omega
    by_cases h2 : m = 0
    · have hcc : Hid (Va.canon b = 0) := by have := hc.out; rw [if_neg h1, if_pos h2] at this; exact this
      subst h2
      rw [Int.natCast_zero] at ha
      clear h1 hi hc
      go_enter Try.func37, Try.ntmps37
      go_wp2
      go_ret
      exact ⟨by rw [hcc.out]; rfl, rfl⟩
    · have hcc : Hid (Va.canon b = b) := by have := hc.out; rw [if_neg h1, if_neg h2] at this; exact this
      have h2' : ((m : Int) == 0) = false := by rw [beq_eq_false_iff_ne]; omega
      clear h1 h2 hi hc
      go_enter Try.func37, Try.ntmps37
      go_wp2
      go_ret
      exact ⟨by rw [hcc.out]; rfl, rfl⟩

theorem bool_zero (n : Int) : (n == 0) = decide (n = 0) := by rw [Bool.eq_iff_iff]; simp
theorem bool_one (n : Int) : (n == 1) = decide (n = 1) := by rw [Bool.eq_iff_iff]; simp
theorem right_shape (k n : Int) (b : Nat) (s : ByteArray) : ∃ p1 p2 p3 p4 p5 p6, (n == 0) = p1 ∧ ((b : Int) == 0) = p2 ∧ s.toList.isEmpty = p3 ∧ (n == 1) = p4 ∧ ((Va.canon b : Int) == (b : Int)) = p5 ∧ decide ((s.size : Int) ≤ 4096) = p6 ∧
    ((k = 0 ∧ Va.right k n b s = (p1 && p2 && p3)) ∨ (k = 1 ∧ Va.right k n b s = ((p1 || p4) && p2 && p3)) ∨ (k = 2 ∧ Va.right k n b s = (p2 && p3)) ∨ (k = 3 ∧ Va.right k n b s = (p1 && p3 && p5)) ∨
     ((k = 4 ∨ k = 5) ∧ Va.right k n b s = (p1 && p2 && p6)) ∨ (k ≠ 0 ∧ k ≠ 1 ∧ k ≠ 2 ∧ k ≠ 3 ∧ k ≠ 4 ∧ k ≠ 5 ∧ Va.right k n b s = false)) := by
  refine ⟨_, _, _, _, _, _, rfl, rfl, rfl, rfl, rfl, rfl, ?_⟩
  have d0 : s.toList.isEmpty = (s.toList == (⟨#[]⟩ : ByteArray).toList) := by rw [show (⟨#[]⟩ : ByteArray).toList = [] from by rw [ByteArray.toList_eq]]; cases s.toList <;> rfl
  have d1 : s.toList.isEmpty = decide (s.size = 0) := by rw [d0, bytes_beq, Bool.eq_iff_iff, decide_eq_true_iff, decide_eq_true_iff]; exact empty_iff_size s
  have d2 : ((b : Int) == 0) = decide (b = 0) := by rw [Bool.eq_iff_iff, beq_iff_eq, decide_eq_true_iff]; omega
  have d5 : ((Va.canon b : Int) == (b : Int)) = decide (Va.canon b = b) := by rw [Bool.eq_iff_iff, beq_iff_eq, decide_eq_true_iff]; omega
  have d6 : decide ((s.size : Int) ≤ 4096) = decide (s.size ≤ 4096) := by rw [Bool.eq_iff_iff, decide_eq_true_iff, decide_eq_true_iff]; omega
  rw [d1, d2, d5, d6, bool_zero, bool_one]
  unfold Va.right
  by_cases h0 : k = 0
  · exact .inl ⟨h0, by rw [if_pos h0]⟩
  by_cases h1 : k = 1
  · exact .inr (.inl ⟨h1, by rw [if_neg h0, if_pos h1]⟩)
  by_cases h2 : k = 2
  · exact .inr (.inr (.inl ⟨h2, by rw [if_neg h0, if_neg h1, if_pos h2]⟩))
  by_cases h3 : k = 3
  · exact .inr (.inr (.inr (.inl ⟨h3, by rw [if_neg h0, if_neg h1, if_neg h2, if_pos h3]⟩)))
  by_cases h4 : k = 4 ∨ k = 5
  · exact .inr (.inr (.inr (.inr (.inl ⟨h4, by rw [if_neg h0, if_neg h1, if_neg h2, if_neg h3, if_pos h4]⟩))))
  · exact .inr (.inr (.inr (.inr (.inr ⟨h0, h1, h2, h3, fun h => h4 (.inl h), fun h => h4 (.inr h), by rw [if_neg h0, if_neg h1, if_neg h2, if_neg h3, if_neg h4]⟩))))

set_option maxRecDepth 100000 in
set_option maxHeartbeats 6400000 in
theorem rightR_any (k n : Int) (b : Nat) (s : ByteArray) (_hs : s.size ≤ maxLen) (hb : b < 18446744073709551616) (w : World) : Calls Try.prog 25 #[vv k n b s] w fun e w' => e = .returned (.bool (Va.right k n b s)) ∧ Below w.heap.size w w' := by
  have hcan := hid (fun w => canonR_any b hb w)
  obtain ⟨p1, p2, p3, p4, p5, p6, e1, e2, e3, e4, e5, e6, hc⟩ := right_shape k n b s
  have hB := hba w (.cells #[.int .i64 k, .int .i64 n, .int .u64 (b : Int), .string s] 39)
  unfold vv
  have HB := hid hb
  clear hb
  rcases hc with ⟨rfl, hv⟩ | ⟨rfl, hv⟩ | ⟨rfl, hv⟩ | ⟨rfl, hv⟩ | ⟨rfl | rfl, hv⟩ | ⟨k0, k1, k2, k3, k4, k5, hv⟩
  · have HV := hid hv
    clear hv e4 e5 e6
    cases p1 <;> cases p2 <;> cases p3
    all_goals
      go_enter Try.func25, Try.ntmps25
      go_wp2
      go_ret
      rw [HV.out]
      exact ⟨rfl, hB⟩
  · have HV := hid hv
    clear hv e5 e6
    cases p1 <;> cases p2 <;> cases p3 <;> cases p4
    all_goals
      go_enter Try.func25, Try.ntmps25
      go_wp2
      go_ret
      rw [HV.out]
      exact ⟨rfl, hB⟩
  · have HV := hid hv
    clear hv e1 e4 e5 e6
    cases p2 <;> cases p3
    all_goals
      go_enter Try.func25, Try.ntmps25
      go_wp2
      go_ret
      rw [HV.out]
      exact ⟨rfl, hB⟩
  · have HV := hid hv
    clear hv e2 e4 e6
    have hc0 : (w.alloc (.cells #[.int .i64 3, .int .i64 n, .int .u64 (b : Int), .string s] 39)).cell? ⟨w.heap.size, 0, none⟩ = some (.int .i64 3) := by simp
    cases p1 <;> cases p3 <;> cases p5
    all_goals
      go_enter Try.func25, Try.ntmps25
      go_wp2_with fail
      go_quiet ((go_at_call 37; exact Calls.quiet_of_same ((hcan.out _).mono fun _ _ h => ⟨h.1, h.2.symm⟩)))
      go_wp2
      go_ret
      rw [HV.out]
      exact ⟨rfl, hdrewN hB nq⟩
  · have HV := hid hv
    clear hv e3 e4 e5
    cases p1 <;> cases p2 <;> cases p6
    all_goals
      go_enter Try.func25, Try.ntmps25
      go_wp2
      go_ret
      rw [HV.out]
      exact ⟨rfl, hB⟩
  · have HV := hid hv
    clear hv e3 e4 e5
    cases p1 <;> cases p2 <;> cases p6
    all_goals
      go_enter Try.func25, Try.ntmps25
      go_wp2
      go_ret
      rw [HV.out]
      exact ⟨rfl, hB⟩
  · have HV := hid hv
    clear hv e1 e2 e3 e4 e5 e6
    go_enter Try.func25, Try.ntmps25
    go_wp2
    go_ret
    rw [HV.out]
    exact ⟨rfl, hB⟩
end Go.Proofs.Ytfdehigepgeknaa

namespace Go.Proofs.Ytfdehigepgeknaa
namespace Cd

/-- a number's bytes, of at most one more than so many -/
def encF : Nat → Nat → List UInt8
  | 0, n => [UInt8.ofNat n]
  | f + 1, n => if n < 128 then [UInt8.ofNat n] else UInt8.ofNat (n % 128 + 128) :: encF f (n / 128)
def enc (n : Nat) : List UInt8 := encF 9 n

/-- a number as one that is not below 0 -/
def zig (n : Int) : Nat := if 0 ≤ n then 2 * n.toNat else 2 * (-(n + 1)).toNat + 1
def text (s : ByteArray) : List UInt8 := enc s.size ++ s.data.toList
/-- eight bytes, the highest first -/
def low : Nat → Nat → List UInt8
  | 0, _ => []
  | k + 1, b => UInt8.ofNat (b / 256 ^ k) :: low k b
def eight (b : Nat) : List UInt8 := low 8 b
theorem low_length (k b : Nat) : (low k b).length = k := by
  induction k with
  | zero => rfl
  | succ k ih => simp [low, ih]
/-- a value's bytes -/
def value (k n : Int) (b : Nat) (s : ByteArray) : List UInt8 :=
  if Va.right k n b s then
    UInt8.ofNat k.toNat :: (if k = 1 then [UInt8.ofNat n.toNat] else if k = 2 then enc (zig n) else if k = 3 then eight b else if k = 4 ∨ k = 5 then text s else [])
  else []
structure V where
  k : Int
  n : Int
  b : Nat
  s : ByteArray
def V.right (v : V) : Bool := Va.right v.k v.n v.b v.s
def V.bytes (v : V) : List UInt8 := value v.k v.n v.b v.s
def row (l : List V) : List UInt8 := if l.all V.right then enc l.length ++ l.flatMap V.bytes else []
end Cd
end Go.Proofs.Ytfdehigepgeknaa

namespace Go.Proofs.Ytfdehigepgeknaa
namespace Cd

/-- what is read, and where the next one begins; or what is wrong -/
abbrev R (α : Type) := Except Int (α × Nat)
end Cd
end Go.Proofs.Ytfdehigepgeknaa

namespace Go.Proofs.Ytfdehigepgeknaa
namespace Cd

end Cd
theorem bstr_inj {a b : List UInt8} (h : bstr a = bstr b) : a = b := by
  have h2 : (bstr a).data.toList = (bstr b).data.toList := by rw [h]
  exact h2
end Go.Proofs.Ytfdehigepgeknaa

namespace Go.Proofs.Ytfdehigepgeknaa
open Go.RowKit

/-- a value in a box -/
def VBox (w : World) (g : Nat) (k n : Int) (b : Nat) (s : ByteArray) : Prop :=
  w.cell? ⟨g, 0, none⟩ = some (.int .i64 k) ∧ w.cell? ⟨g, 1, none⟩ = some (.int .i64 n) ∧ w.cell? ⟨g, 2, none⟩ = some (.int .u64 (b : Int)) ∧ w.cell? ⟨g, 3, none⟩ = some (.string s)
theorem VBox.keep {w w' : World} {g : Nat} {k n : Int} {b : Nat} {s : ByteArray} (h : VBox w g k n b s) (hb : Below w.heap.size w w') : VBox w' g k n b s := ⟨hkeep h.1 hb, hkeep h.2.1 hb, hkeep h.2.2.1 hb, hkeep h.2.2.2 hb⟩
theorem VBox.new (w : World) (k n : Int) (b : Nat) (s : ByteArray) : VBox (w.alloc (.cells #[.int .i64 k, .int .i64 n, .int .u64 (b : Int), .string s] 39)) w.heap.size k n b s := ⟨by simp, by simp, by simp, by simp⟩

end Go.Proofs.Ytfdehigepgeknaa

namespace Go.Proofs.Ytfdehigepgeknaa
open Go.RowKit

/-- the slice v holds the values l -/
def VsAt (w : World) (v : Value) (l : List Cd.V) : Prop :=
  ∃ adr cap, v = .slice adr l.length cap ∧ ∀ k (hk : k < l.length), ∃ g off, adr = some ⟨g, off, none⟩ ∧ w.cell? ⟨g, off + k * 4, none⟩ = some (.int .i64 l[k].k) ∧ w.cell? ⟨g, off + k * 4 + 1, none⟩ = some (.int .i64 l[k].n) ∧
    w.cell? ⟨g, off + k * 4 + 2, none⟩ = some (.int .u64 (l[k].b : Int)) ∧ w.cell? ⟨g, off + k * 4 + 3, none⟩ = some (.string l[k].s)
theorem VsAt.below {w w' : World} {v : Value} {l : List Cd.V} (h : VsAt w v l) (hb : Below w.heap.size w w') : VsAt w' v l := by
  obtain ⟨adr, cap, rfl, hc⟩ := h
  refine ⟨adr, cap, rfl, fun k hk => ?_⟩
  obtain ⟨g, off, rfl, q0, q1, q2, q3⟩ := hc k hk
  exact ⟨g, off, rfl, hkeep q0 hb, hkeep q1 hb, hkeep q2 hb, hkeep q3 hb⟩

theorem take_next {α : Type} (l : List α) (k : Nat) (h : k < l.length) : l.take (k + 1) = l.take k ++ [l[k]] := by rw [List.take_succ_eq_append_getElem h]

end Go.Proofs.Ytfdehigepgeknaa

namespace Go.Proofs.Ytfdehigepgeknaa
namespace Cd

theorem drop_more {l a r : List UInt8} {i : Nat} (h : l.drop i = a ++ r) : l.drop (i + a.length) = r := by
  rw [← List.drop_drop, h, List.drop_left]
end Cd
end Go.Proofs.Ytfdehigepgeknaa

namespace Go.Proofs.Ytfdehigepgeknaa
open Go.RowKit

instance vDec : DecidableEq Cd.V := fun a b => decidable_of_iff (a.k = b.k ∧ a.n = b.n ∧ a.b = b.b ∧ a.s = b.s) (by
  cases a; cases b; simp)
theorem v_beq (a b : Cd.V) : (a.k == b.k && (a.n == b.n && ((a.b : Int) == (b.b : Int) && decide (a.s = b.s)))) = decide (a = b) := by
  rw [Bool.eq_iff_iff]
  cases a; cases b
  simp
  intros; omega

end Go.Proofs.Ytfdehigepgeknaa

namespace Go.Proofs.Ytfdehigepgeknaa
open Go.RowKit

theorem u64_of {n : Int} (h : (Lit.int .u64 n).wf = true) : ∃ k : Nat, n = (k : Int) ∧ k < 18446744073709551616 := by
  have hx : 0 ≤ n ∧ n ≤ 18446744073709551615 := by simpa [Lit.wf, IntKind.min, IntKind.max, IntKind.signed, IntKind.bits] using h
  exact ⟨n.toNat, by omega, by omega⟩
end Go.Proofs.Ytfdehigepgeknaa

namespace Go.Proofs.Ytfdehigepgeknaa
namespace Cd

/-- what is said of a reader of bytes -/
def Cuts {α : Type} (f : ByteArray → Nat → R α) : Prop := ∀ s i v j, f s i = .ok (v, j) → i ≤ j ∧ ∀ c, i ≤ c → (c < j → f (s.extract 0 c) i = .error 8) ∧ (j ≤ c → f (s.extract 0 c) i = .ok (v, j))
theorem Cuts.fail {α : Type} (e : Int) : Cuts (fun _ _ => (.error e : R α)) := by
  intro s i v j h; cases h
/-- what can be wrong -/
def Errs {α : Type} (f : ByteArray → Nat → R α) : Prop := ∀ s i x, f s i = .error x → x = 7 ∨ x = 8 ∨ x = 19
theorem Errs.fail {α : Type} (e : Int) (h : e = 7 ∨ e = 8 ∨ e = 19) : Errs (fun _ _ => (.error e : R α)) := by
  intro s i x hx
  have hx := show (Except.error e : R α) = .error x from hx
  injection hx with hx
  subst hx; exact h
end Cd
end Go.Proofs.Ytfdehigepgeknaa

namespace Go.Proofs.Ytfdehigepgeknaa
open Go.ChangeShapes Go.WideShapes Go.Joins Go.Deep

instance : Inhabited Cd.V := ⟨⟨0, 0, 0, ⟨#[]⟩⟩⟩
end Go.Proofs.Ytfdehigepgeknaa

namespace Go.Proofs.Ytfdehigepgeknaa
open Go.RowKit

/-- all but the block g is as it was -/
abbrev Upd (g : Nat) (w w' : World) : Prop := w.grownBy w' (some g)
theorem Upd.refl (g : Nat) (w : World) : Upd g w w := ⟨rfl, rfl, rfl, Nat.le_refl _, fun _ _ _ => rfl⟩
theorem Upd.trans {g : Nat} {a b c : World} (h : Upd g a b) (k : Upd g b c) : Upd g a c :=
  ⟨k.os.trans h.os, k.tape.trans h.tape, k.output.trans h.output, Nat.le_trans h.size k.size, fun i hi hn => (k.block i (Nat.lt_of_lt_of_le hi h.size) hn).trans (h.block i hi hn)⟩
theorem Upd.of {g : Nat} {a b : World} (h : Below a.heap.size a b) : Upd g a b := ⟨h.os, h.tape, h.output, h.size, fun i hi _ => h.block i hi⟩
theorem Upd.cell {g : Nat} {w w' : World} {p : Addr} {v : Value} (h : w.cell? p = some v) (hb : Upd g w w') (hne : p.block ≠ g) : w'.cell? p = some v :=
  (World.cell?_of_block (hb.block p.block (World.block_lt_of_cell? w p h) (by simpa using hne))).trans h
theorem Upd.below {B g : Nat} {a w w' : World} (h : Below B a w) (k : Upd g w w') (hg : B ≤ g) (hB : B ≤ w.heap.size) : Below B a w' :=
  h.grown k hB (fun q hq => by cases hq; exact hg)

end Go.Proofs.Ytfdehigepgeknaa

namespace Go.Proofs.Ytfdehigepgeknaa
open Go.RowKit

/-- a value in a block of its own -/
def BV (w : World) (g : Nat) (k n : Int) (b : Nat) (s : ByteArray) : Prop := w.heap[g]? = some (.cells #[.int .i64 k, .int .i64 n, .int .u64 (b : Int), .string s] 39 (0, 0))
theorem BV.cells {w : World} {g : Nat} {k n : Int} {b : Nat} {s : ByteArray} (h : BV w g k n b s) : w.cell? ⟨g, 0, none⟩ = some (.int .i64 k) ∧ w.cell? ⟨g, 1, none⟩ = some (.int .i64 n) ∧ w.cell? ⟨g, 2, none⟩ = some (.int .u64 (b : Int)) ∧ w.cell? ⟨g, 3, none⟩ = some (.string s) ∧
    w.frozen? ⟨g, 0, none⟩ = false ∧ w.frozen? ⟨g, 1, none⟩ = false ∧ w.frozen? ⟨g, 2, none⟩ = false ∧ w.frozen? ⟨g, 3, none⟩ = false ∧ g < w.heap.size :=
  ⟨cell_of_row w g 0 _ _ _ h, cell_of_row w g 1 _ _ _ h, cell_of_row w g 2 _ _ _ h, cell_of_row w g 3 _ _ _ h, frozen_of_row w g 0 _ _ h, frozen_of_row w g 1 _ _ h, frozen_of_row w g 2 _ _ h, frozen_of_row w g 3 _ _ h, (Array.getElem?_eq_some_iff.1 h).1⟩
theorem BV.keep {w w' : World} {g : Nat} {k n : Int} {b : Nat} {s : ByteArray} (h : BV w g k n b s) (hb : Below w.heap.size w w') : BV w' g k n b s := keepBlock h hb
theorem BV.new (w : World) (k n : Int) (b : Nat) (s : ByteArray) : BV (w.alloc (.cells #[.int .i64 k, .int .i64 n, .int .u64 (b : Int), .string s] 39)) w.heap.size k n b s := heap_alloc_new w _

end Go.Proofs.Ytfdehigepgeknaa

namespace Go.Proofs.Ytfdehigepgeknaa
open Go.RowKit

/-- the values' cells, one behind the other -/
def vcells (l : List Cd.V) : List Value := l.flatMap fun v => [.int .i64 v.k, .int .i64 v.n, .int .u64 (v.b : Int), .string v.s]
theorem vcells_get {l : List Cd.V} {j : Nat} {s : Cd.V} (h : l[j]? = some s) : (vcells l)[j * 4]? = some (.int .i64 s.k) ∧ (vcells l)[j * 4 + 1]? = some (.int .i64 s.n) ∧ (vcells l)[j * 4 + 2]? = some (.int .u64 (s.b : Int)) ∧ (vcells l)[j * 4 + 3]? = some (.string s.s) := by
  induction l generalizing j with
  | nil => simp at h
  | cons x l ih =>
    show (_ :: _ :: _ :: _ :: vcells l)[j * 4]? = _ ∧ (_ :: _ :: _ :: _ :: vcells l)[j * 4 + 1]? = _ ∧ (_ :: _ :: _ :: _ :: vcells l)[j * 4 + 2]? = _ ∧ (_ :: _ :: _ :: _ :: vcells l)[j * 4 + 3]? = _
    cases j with
    | zero => simp at h; subst h; exact ⟨rfl, rfl, rfl, rfl⟩
    | succ j =>
      simp only [List.getElem?_cons_succ] at h
      rw [show (j + 1) * 4 = j * 4 + 1 + 1 + 1 + 1 from by omega, show j * 4 + 1 + 1 + 1 + 1 + 1 = (j * 4 + 1) + 1 + 1 + 1 + 1 from by omega, show j * 4 + 1 + 1 + 1 + 1 + 2 = (j * 4 + 2) + 1 + 1 + 1 + 1 from by omega, show j * 4 + 1 + 1 + 1 + 1 + 3 = (j * 4 + 3) + 1 + 1 + 1 + 1 from by omega]
      simp only [List.getElem?_cons_succ]
      exact ih h
theorem VsAt.own {w : World} {B : Nat} {v : Value} {l : List Cd.V} (h : w.ownsRow B 39 4 v l.length (vcells l)) : VsAt w v l := by
  rcases h.2 with ⟨rfl, hn⟩ | ⟨g, cap, cur, rfl, hB, hg, hn, _, hs, ht⟩
  · exact ⟨none, 0, by rw [hn], fun k hk => by omega⟩
  · refine ⟨_, cap, rfl, fun k hk => ⟨g, 0, rfl, ?_⟩⟩
    have hc : ∀ i u, (vcells l)[i]? = some u → w.cell? ⟨g, 0 + i, none⟩ = some u := by
      intro i u hi
      rw [Nat.zero_add, cell_of_row w g i cur _ (0, 0) hg]
      rw [← ht, List.getElem?_take] at hi
      split at hi
      · simpa using hi
      · cases hi
    obtain ⟨g0, g1, g2, g3⟩ := vcells_get (List.getElem?_eq_getElem hk)
    exact ⟨hc _ _ g0, by rw [Nat.add_assoc]; exact hc _ _ g1, by rw [Nat.add_assoc]; exact hc _ _ g2, by rw [Nat.add_assoc]; exact hc _ _ g3⟩

end Go.Proofs.Ytfdehigepgeknaa

namespace Go.Proofs.Ytfdehigepgeknaa
open Go.RowKit

/-- all blocks below B but the block g are as they were -/
structure UB (B g : Nat) (w w' : World) : Prop where
  os : w'.os = w.os
  tape : w'.tape = w.tape
  output : w'.output = w.output
  size : w.heap.size ≤ w'.heap.size
  block : ∀ k, k < B → k ≠ g → w'.heap[k]? = w.heap[k]?
theorem UB.refl (B g : Nat) (w : World) : UB B g w w := ⟨rfl, rfl, rfl, Nat.le_refl _, fun _ _ _ => rfl⟩
theorem UB.trans {B g : Nat} {a b c : World} (h : UB B g a b) (k : UB B g b c) : UB B g a c :=
  ⟨k.os.trans h.os, k.tape.trans h.tape, k.output.trans h.output, Nat.le_trans h.size k.size, fun i hi hn => (k.block i hi hn).trans (h.block i hi hn)⟩
theorem UB.of {B g : Nat} {a b : World} (h : Below B a b) : UB B g a b := ⟨h.os, h.tape, h.output, h.size, fun i hi _ => h.block i hi⟩
/-- a variable of the call's own -/
def Var (w : World) (b : Nat) (cs : Array Value) (t : TypeId) : Prop := w.heap[b]? = some (.cells cs t (0, 0))
theorem Var.keep {w w' : World} {b : Nat} {cs : Array Value} {t : TypeId} (h : Var w b cs t) (hb : Below w.heap.size w w') : Var w' b cs t := keepBlock h hb
theorem Var.lt {w : World} {b : Nat} {cs : Array Value} {t : TypeId} (h : Var w b cs t) : b < w.heap.size := (Array.getElem?_eq_some_iff.1 h).1
theorem Var.cell {w : World} {b : Nat} {cs : Array Value} {t : TypeId} (h : Var w b cs t) (o : Nat) : w.cell? ⟨b, o, none⟩ = cs[o]? := cell_of_row w b o _ _ _ h

end Go.Proofs.Ytfdehigepgeknaa
