/-
  Contracts and laws of the layers below, put together: Vb Vk Hx Sh Pb. Conditions: where they are named.
-/
import Derived.Test.YtmcneelapghfcaaTk
import Derived.WalkKit
import Derived.WalkSpells
import Derived.WalkLawsBesides
import Derived.Handy
import Derived.Deep.RegionHeld3
import Derived.Below
import Derived.Deep.Draws
import GoSem.Core.Float
import Derived.Laws.Cover2
import Derived.Laws.Externs
import Derived.Deep.QuietTactic
import Derived.BigQuiet
import Derived.Laws.Bits64b
import Derived.Lib.SlicesS
import Derived.Lib.SmallJoins
import Derived.Deep.SlicePairs
import Derived.WalkSmall
import Derived.Defers
import Derived.Recover
import Derived.Laws.Pointers
import Derived.Laws.MakeOwn
import Derived.Lib.AppendStr
import Derived.Laws.Bits64
import Derived.Laws.AppendOwnNone
import Derived.Laws.CopyOwn
import Derived.Deep.Strs

namespace Go.Proofs.Ytmcneelapghfcaa
open Go.RowKit

theorem hid {p : Prop} (h : p) : Hid p := h
theorem ba_eq {a b : ByteArray} (h : a.data.toList = b.data.toList) : a = b := by
  cases a; cases b; simp only [Array.toList_inj] at h; subst h; rfl

/-- a contract, told of the world in which the caller began -/
theorem after {P : Program} {f : FuncId} {args : Array Value} {w0 w : World} {r : Ending} (h0 : Below w0.heap.size w0 w) (hc : Calls P f args w fun e w' => e = r ∧ Below w.heap.size w w') :
    Calls P f args w fun e w' => e = r ∧ Below w0.heap.size w0 w' := hc.mono fun _ _ ⟨h1, h2⟩ => ⟨h1, h0.trans (h2.mono h0.size)⟩

theorem keepBlock {W W' : World} {g : Nat} {o : Obj} (h : W.heap[g]? = some o) (hb : Below W.heap.size W W') : W'.heap[g]? = some o := by
  rw [hb.block g (Array.getElem?_eq_some_iff.1 h).1]; exact h
theorem bytes_beq (a b : ByteArray) : (a.toList == b.toList) = decide (a = b) := by
  rw [ByteArray.toList_eq, ByteArray.toList_eq]
  by_cases h : a = b
  · subst h; simp
  · simp only [h, decide_false, beq_eq_false_iff_ne]
    intro e; exact h (ba_eq e)

def byteV (c : UInt8) : Value := .int .u8 (c.toNat : Int)

/-- the slice v holds the bytes l, and lies in a block from B on (or is nil) -/
def BytesAt (w : World) (B : Nat) (v : Value) (l : List UInt8) : Prop :=
  (v = .slice none 0 0 ∧ l = []) ∨ ∃ g cap, v = .slice (some ⟨g, 0, none⟩) l.length cap ∧ B ≤ g ∧ g < w.heap.size ∧ l.length ≤ cap ∧
    (∀ j u, (l.map byteV)[j]? = some u → w.cell? ⟨g, j, none⟩ = some u) ∧ (∀ j, j < cap → (w.cell? ⟨g, j, none⟩).isSome = true ∧ w.frozen? ⟨g, j, none⟩ = false)

theorem BytesAt.nil (w : World) (B : Nat) : BytesAt w B (.slice none 0 0) [] := .inl ⟨rfl, rfl⟩

theorem BytesAt.keep {w w' : World} {B : Nat} {v : Value} {l : List UInt8} (h : BytesAt w B v l) (hs : w.heap.size ≤ w'.heap.size) (hk : ∀ k, k < w.heap.size → some k = v.ownBlock → w'.heap[k]? = w.heap[k]?) : BytesAt w' B v l := by
  rcases h with h | ⟨g, cap, rfl, hB, hg, hl, hc, hf⟩
  · exact .inl h
  · have hb := hk g hg rfl
    exact .inr ⟨g, cap, rfl, hB, by omega, hl, fun j u hj => (World.cell?_of_block (a := ⟨g, j, none⟩) hb).trans (hc j u hj),
      fun j hj => ⟨by rw [World.cell?_of_block (a := ⟨g, j, none⟩) hb]; exact (hf j hj).1, by rw [World.frozen?_of_block (a := ⟨g, j, none⟩) hb]; exact (hf j hj).2⟩⟩

theorem BytesAt.alloc {w : World} {B : Nat} {v : Value} {l : List UInt8} (h : BytesAt w B v l) (o : Obj) : BytesAt (w.alloc o) B v l :=
  h.keep (by simp) fun k hk _ => Below.heap_alloc w o k hk
theorem BytesAt.drew {w : World} {B : Nat} {v : Value} {l : List UInt8} (h : BytesAt w B v l) : BytesAt w.drew B v l :=
  h.keep (Nat.le_refl _) fun _ _ _ => rfl
theorem BytesAt.below {w w' : World} {B C : Nat} {v : Value} {l : List UInt8} (h : BytesAt w B v l) (hb : Below C w w') (hC : w.heap.size ≤ C) : BytesAt w' B v l :=
  h.keep hb.size fun k hk _ => hb.block k (by omega)
theorem BytesAt.mono {w : World} {B B' : Nat} {v : Value} {l : List UInt8} (h : BytesAt w B v l) (hB : B' ≤ B) : BytesAt w B' v l := by
  rcases h with h | ⟨g, cap, rfl, h1, h2⟩
  · exact .inl h
  · exact .inr ⟨g, cap, rfl, by omega, h2⟩

theorem BytesAt.block {w : World} {B : Nat} {v : Value} {l : List UInt8} (h : BytesAt w B v l) : ∀ k, v.ownBlock = some k → B ≤ k := by
  intro k hk
  rcases h with ⟨rfl, _⟩ | ⟨g, cap, rfl, hB, _⟩
  · cases hk
  · simp only [Value.ownBlock, Option.some.injEq] at hk
    omega

theorem BytesAt.own {w : World} {B e : Nat} {v : Value} {l : List UInt8} (h : w.ownsRow B e 1 v l.length (l.map byteV)) : BytesAt w B v l := by
  rcases h.2 with ⟨rfl, hn⟩ | ⟨g, cap, cur, rfl, hB, hg, hn, _, hs, ht⟩
  · exact .inl ⟨rfl, List.eq_nil_of_length_eq_zero hn⟩
  · refine .inr ⟨g, cap, rfl, hB, (Array.getElem?_eq_some_iff.1 hg).1, hn, fun j u hj => ?_, fun j hj => ⟨?_, ?_⟩⟩
    · rw [cell_of_row w g j cur e (0, 0) hg]
      rw [← ht, List.getElem?_take] at hj
      split at hj
      · simpa using hj
      · cases hj
    · rw [cell_of_row w g j cur e (0, 0) hg, Array.getElem?_eq_getElem (by omega)]; rfl
    · exact frozen_of_row w g j cur e hg

section
variable {P : Program}

end
end Go.Proofs.Ytmcneelapghfcaa

namespace Go.Proofs.Ytmcneelapghfcaa
open Go.RowKit

section
variable {P : Program} {ops : Array Oper} {Q : Exit → Act → World → Prop} {md : Region.Mode} {S S' : World → Prop}
end
theorem hba (w : World) (o : Obj) : Below w.heap.size w (w.alloc o) := (Below.refl _ _).alloc (Nat.le_refl _) o
theorem hnext {w a b : World} (h : Below w.heap.size w a) (k : Below a.heap.size a b) : Below w.heap.size w b := h.trans (k.mono h.size)
theorem hkeep {W W' : World} {p : Addr} {v : Value} (h : W.cell? p = some v) (hb : Below W.heap.size W W') : W'.cell? p = some v :=
  (hb.cell (World.block_lt_of_cell? W p h)).trans h
theorem hdrewN {B : Nat} {a w : World} (h : Below B a w) (n : Nat) : Below B a (w.drewN n) := ⟨h.os, h.tape, h.output, h.size, h.block⟩
end Go.Proofs.Ytmcneelapghfcaa

namespace Go.Proofs.Ytmcneelapghfcaa
namespace Va

def NAN : Nat := 9221120237041090560
def INF : Nat := 9218868437227405312
def SIGN : Nat := 9223372036854775808
/-- canonical bits -/
def canon (b : Nat) : Nat := if INF < b % SIGN then NAN else if b % SIGN = 0 then 0 else b

theorem sw : Ieee.double.signWeight = SIGN := by decide
theorem bin : Ieee.double.binade = 4503599627370496 := by decide
theorem infr : Ieee.double.infRung = INF := by decide

theorem read_nan {b : Nat} (h : INF < b % SIGN) : ∃ s t, Ieee.double.read b = .nan s t := by
  unfold Ieee.Format.read
  rw [sw, bin, infr]
  dsimp only
  have hi : INF = 9218868437227405312 := rfl
  rw [if_neg (by omega), if_neg (by omega), if_neg (by omega)]
  exact ⟨_, _, rfl⟩
theorem read_inf {b : Nat} (h : b % SIGN = INF) : ∃ s, Ieee.double.read b = .infinity s := by
  unfold Ieee.Format.read
  rw [sw, bin, infr]
  dsimp only
  have hi : INF = 9218868437227405312 := rfl
  rw [if_neg (by omega), if_neg (by omega), if_pos h]
  exact ⟨_, rfl⟩
theorem read_num {b : Nat} (h : b % SIGN < INF) : ∃ s m k, Ieee.double.read b = .number s m (Ieee.double.leastPlace + (k : Nat)) ∧ (m = 0 ↔ b % SIGN = 0) ∧ (m = 0 → k = 0) := by
  unfold Ieee.Format.read
  rw [sw, bin, infr]
  by_cases h1 : b % SIGN < 4503599627370496
  · rw [if_pos h1]
    exact ⟨_, _, 0, by rw [Int.natCast_zero, Int.add_zero], Iff.rfl, fun _ => rfl⟩
  · rw [if_neg h1, if_pos h]
    refine ⟨_, _, _, rfl, ?_, ?_⟩
    · omega
    · omega

theorem order_self (b : Nat) : (FloatKind.f64.format.order b b == some .eq) = decide (¬ INF < b % SIGN) := by
  show ((Ieee.double.read b).order (Ieee.double.read b) == some .eq) = _
  rcases Nat.lt_trichotomy (b % SIGN) INF with h | h | h
  · obtain ⟨s, m, k, e, _⟩ := read_num h
    rw [e]
    simp only [Ieee.Datum.order]
    rw [decide_eq_true (by omega)]
    simp
  · obtain ⟨s, e⟩ := read_inf h
    rw [e]
    simp only [Ieee.Datum.order]
    rw [decide_eq_true (by omega)]
    simp
  · obtain ⟨s, t, e⟩ := read_nan h
    rw [e]
    simp only [Ieee.Datum.order]
    rw [decide_eq_false (by omega)]
    rfl
theorem signed_zero {s : Bool} {m k : Nat} : Ieee.signed s m k = 0 ↔ m = 0 := by
  unfold Ieee.signed
  rw [Nat.shiftLeft_eq]
  have h2 : 0 < 2 ^ k := Nat.two_pow_pos k
  constructor
  · intro h
    have h3 : m * 2 ^ k = 0 := by split at h <;> omega
    rcases Nat.mul_eq_zero.1 h3 with h4 | h4
    · exact h4
    · omega
  · rintro rfl
    simp
theorem read_zero : Ieee.double.read 0 = .number false 0 Ieee.double.leastPlace := by decide
theorem order_zero (b : Nat) (hb : ¬ INF < b % SIGN) : (FloatKind.f64.format.order b 0 == some .eq) = decide (b % SIGN = 0) := by
  show ((Ieee.double.read b).order (Ieee.double.read 0) == some .eq) = _
  rw [read_zero]
  rcases Nat.lt_trichotomy (b % SIGN) INF with h | h | h
  · obtain ⟨s, m, k, e, e2, _⟩ := read_num h
    rw [e]
    simp only [Ieee.Datum.order]
    generalize hx : Ieee.signed s m _ = x
    generalize hy : Ieee.signed false 0 _ = y
    have hy0 : y = 0 := by rw [← hy]; exact signed_zero.2 rfl
    subst hy0
    have hx0 : x = 0 ↔ m = 0 := by rw [← hx]; exact signed_zero
    rw [← hx0] at e2
    rw [Bool.eq_iff_iff, decide_eq_true_iff, ← e2]
    simp
  · obtain ⟨s, e⟩ := read_inf h
    rw [e]
    simp only [Ieee.Datum.order]
    rw [decide_eq_false (by rw [h]; decide)]
    cases s <;> rfl
  · omega

/-- which values are right: its kind, number, bits, text -/
def right (k n : Int) (b : Nat) (s : ByteArray) : Bool :=
  if k = 0 then decide (n = 0) && decide (b = 0) && decide (s.size = 0)
  else if k = 1 then (decide (n = 0) || decide (n = 1)) && decide (b = 0) && decide (s.size = 0)
  else if k = 2 then decide (b = 0) && decide (s.size = 0)
  else if k = 3 then decide (n = 0) && decide (s.size = 0) && decide (canon b = b)
  else if k = 4 ∨ k = 5 then decide (n = 0) && decide (b = 0) && decide (s.size ≤ 4096)
  else false
end Va
end Go.Proofs.Ytmcneelapghfcaa

namespace Go.Proofs.Ytmcneelapghfcaa
namespace Va

/-- what bits without a sign stand for, in units of the least place -/
def mag (r : Nat) : Nat := if r < 4503599627370496 then r else (4503599627370496 + r % 4503599627370496) * 2 ^ (r / 4503599627370496 - 1)
theorem mag_step (r : Nat) : mag r < mag (r + 1) := by
  unfold mag
  by_cases h1 : r + 1 < 4503599627370496
  · rw [if_pos h1, if_pos (by omega)]; omega
  · by_cases h2 : r + 1 = 4503599627370496
    · rw [if_neg h1, if_pos (by omega), h2]; omega
    · rw [if_neg h1, if_neg (by omega)]
      generalize hq : r / 4503599627370496 = q
      generalize hf : r % 4503599627370496 = f
      by_cases h3 : f + 1 < 4503599627370496
      · rw [show (r + 1) / 4503599627370496 = q by omega, show (r + 1) % 4503599627370496 = f + 1 by omega]
        exact Nat.mul_lt_mul_of_pos_right (by omega) (Nat.two_pow_pos _)
      · rw [show (r + 1) / 4503599627370496 = q + 1 by omega, show (r + 1) % 4503599627370496 = 0 by omega, show q + 1 - 1 = (q - 1) + 1 by omega, Nat.pow_succ]
        have hp := Nat.two_pow_pos (q - 1)
        generalize 2 ^ (q - 1) = p at hp
        rw [Nat.mul_comm p 2, ← Nat.mul_assoc]
        exact Nat.mul_lt_mul_of_pos_right (by omega) hp
theorem mag_add (r k : Nat) : mag r < mag (r + (k + 1)) := by
  induction k with
  | zero => exact mag_step r
  | succ k ih => exact Nat.lt_trans ih (mag_step _)
theorem mag_mono {r t : Nat} (h : r < t) : mag r < mag t := by
  have := mag_add r (t - r - 1)
  rw [show r + (t - r - 1 + 1) = t by omega] at this
  exact this
theorem mag_lt {r t : Nat} : mag r < mag t ↔ r < t := by
  constructor
  · intro h
    rcases Nat.lt_trichotomy r t with h1 | h1 | h1
    · exact h1
    · subst h1; omega
    · have := mag_mono h1; omega
  · exact mag_mono
theorem mag_zero : mag 0 = 0 := rfl
theorem mag_pos {r : Nat} : 0 < mag r ↔ 0 < r := by
  have h := @mag_lt 0 r
  rwa [mag_zero] at h
/-- the number that bits stand for, in units of the least place; of an infinity one that is above all others -/
def sg (b : Nat) : Int := if b / SIGN % 2 = 1 then -(mag (b % SIGN) : Int) else (mag (b % SIGN) : Int)
def val (s : Bool) (m : Nat) : Int := if s then -(m : Int) else (m : Int)
theorem signed_val (s : Bool) (m k : Nat) : Ieee.signed s m k = val s (m * 2 ^ k) := by
  unfold Ieee.signed val
  rw [Nat.shiftLeft_eq]
theorem val_mul (s : Bool) (m c : Nat) : val s (m * c) = val s m * (c : Int) := by
  unfold val
  cases s
  · simp
  · simp [Int.neg_mul]
theorem sg_val (b : Nat) : sg b = val (b / SIGN % 2 == 1) (mag (b % SIGN)) := by
  unfold sg val
  by_cases h : b / SIGN % 2 = 1
  · rw [if_pos h, h]; rfl
  · rw [if_neg h, if_neg (by simpa using h)]
theorem read_fin {b : Nat} (h : b % SIGN < INF) : ∃ m k : Nat, Ieee.double.read b = .number (b / SIGN % 2 == 1) m (Ieee.double.leastPlace + (k : Nat)) ∧ m * 2 ^ k = mag (b % SIGN) := by
  unfold Ieee.Format.read
  rw [sw, bin, infr]
  by_cases h1 : b % SIGN < 4503599627370496
  · simp only [if_pos h1]
    refine ⟨_, 0, by rw [Int.natCast_zero, Int.add_zero], ?_⟩
    unfold mag
    rw [if_pos h1]; omega
  · simp only [if_neg h1, if_pos h]
    refine ⟨_, _, rfl, ?_⟩
    unfold mag
    rw [if_neg h1]
theorem read_infs {b : Nat} (h : b % SIGN = INF) : Ieee.double.read b = .infinity (b / SIGN % 2 == 1) := by
  unfold Ieee.Format.read
  rw [sw, bin, infr]
  dsimp only
  have hi : INF = 9218868437227405312 := rfl
  rw [if_neg (by omega), if_neg (by omega), if_pos h]
theorem compare_mul (x y : Int) (c : Nat) (hc : 0 < c) : compare (x * (c : Int)) (y * (c : Int)) = compare x y := by
  have hc' : (0 : Int) < (c : Int) := by omega
  rcases Int.lt_trichotomy x y with h | h | h
  · rw [Int.compare_eq_lt.2 h, Int.compare_eq_lt.2 (Int.mul_lt_mul_of_pos_right h hc')]
  · subst h; rw [Int.compare_eq_eq.2 rfl, Int.compare_eq_eq.2 rfl]
  · rw [Int.compare_eq_gt.2 h, Int.compare_eq_gt.2 (Int.mul_lt_mul_of_pos_right h hc')]
theorem signed_compare (s t : Bool) (m n k l : Nat) (p : Int) : compare (Ieee.signed s m (p + k - min (p + k) (p + l)).toNat) (Ieee.signed t n (p + l - min (p + k) (p + l)).toNat) = compare (val s (m * 2 ^ k)) (val t (n * 2 ^ l)) := by
  rw [signed_val, signed_val, ← compare_mul _ _ (2 ^ (min k l)) (Nat.two_pow_pos _), ← val_mul, ← val_mul, Nat.mul_assoc, Nat.mul_assoc, ← Nat.pow_add, ← Nat.pow_add,
    show (p + k - min (p + k) (p + l)).toNat + min k l = k by omega, show (p + l - min (p + k) (p + l)).toNat + min k l = l by omega]
theorem order_sg {a b : Nat} (ha : ¬ INF < a % SIGN) (hb : ¬ INF < b % SIGN) : FloatKind.f64.format.order a b = some (compare (sg a) (sg b)) := by
  show (Ieee.double.read a).order (Ieee.double.read b) = _
  rw [sg_val, sg_val]
  have key : ∀ {r : Nat} (s t : Bool), r < INF → val t (mag r) < (mag INF : Int) ∧ -(mag INF : Int) < val t (mag r) := by
    intro r s t h
    have h2 := mag_mono h
    unfold val
    constructor <;> split <;> omega
  rcases Nat.lt_or_ge (a % SIGN) INF with h | h
  · obtain ⟨m, k, e, em⟩ := read_fin h
    rcases Nat.lt_or_ge (b % SIGN) INF with h' | h'
    · obtain ⟨n, l, e', en⟩ := read_fin h'
      rw [e, e']
      simp only [Ieee.Datum.order]
      rw [signed_compare, em, en]
    · have hbe : b % SIGN = INF := by omega
      rw [e, read_infs hbe, hbe]
      simp only [Ieee.Datum.order]
      obtain ⟨k1, k2⟩ := key true (a / SIGN % 2 == 1) h
      generalize val (a / SIGN % 2 == 1) (mag (a % SIGN)) = x at k1 k2
      generalize (b / SIGN % 2 == 1) = t
      cases t
      · rw [show val false (mag INF) = (mag INF : Int) from rfl, Int.compare_eq_lt.2 k1]; rfl
      · rw [show val true (mag INF) = -(mag INF : Int) from rfl, Int.compare_eq_gt.2 k2]; rfl
  · have hae : a % SIGN = INF := by omega
    rcases Nat.lt_or_ge (b % SIGN) INF with h' | h'
    · obtain ⟨n, l, e', en⟩ := read_fin h'
      rw [e', read_infs hae, hae]
      simp only [Ieee.Datum.order]
      obtain ⟨k1, k2⟩ := key true (b / SIGN % 2 == 1) h'
      generalize val (b / SIGN % 2 == 1) (mag (b % SIGN)) = x at k1 k2
      generalize (a / SIGN % 2 == 1) = t
      cases t
      · rw [show val false (mag INF) = (mag INF : Int) from rfl, Int.compare_eq_gt.2 k1]; rfl
      · rw [show val true (mag INF) = -(mag INF : Int) from rfl, Int.compare_eq_lt.2 k2]; rfl
    · have hbe : b % SIGN = INF := by omega
      rw [read_infs hbe, read_infs hae, hae, hbe]
      simp only [Ieee.Datum.order]
      have hp : 0 < mag INF := mag_pos.2 (by decide)
      generalize (a / SIGN % 2 == 1) = s
      generalize (b / SIGN % 2 == 1) = t
      generalize mag INF = i at hp
      cases s <;> cases t
      · rw [Int.compare_eq_eq.2 rfl]; rfl
      · rw [show val false i = (i : Int) from rfl, show val true i = -(i : Int) from rfl, Int.compare_eq_gt.2 (by omega)]; rfl
      · rw [show val false i = (i : Int) from rfl, show val true i = -(i : Int) from rfl, Int.compare_eq_lt.2 (by omega)]; rfl
      · rw [Int.compare_eq_eq.2 rfl]; rfl
end Va
end Go.Proofs.Ytmcneelapghfcaa

namespace Go.Proofs.Ytmcneelapghfcaa
open Go.RowKit

/-- a value as it stands in memory -/
def vv (k n : Int) (b : Nat) (s : ByteArray) : Value := .agg #[.int .i64 k, .int .i64 n, .int .u64 (b : Int), .string s]

theorem run_frombits (b : Nat) (w : World) : (callFunc 76 #[.int .u64 (b : Int)]).run Try.prog w = .ok (.value (.float .f64 b)) w := by
  rw [run_callFunc_extern (e := Extern.MathFloatBits.float64frombits) Try.func76 (by kernel_rfl) (by kernel_rfl) (by kernel_rfl) (by kernel_rfl)]
  rfl
theorem run_bits (b : Nat) (w : World) : (callFunc 102 #[.float .f64 b]).run Try.prog w = .ok (.value (.int .u64 (b : Int))) w := by
  rw [run_callFunc_extern (e := Extern.MathFloatBits.float64bits) Try.func102 (by kernel_rfl) (by kernel_rfl) (by kernel_rfl) (by kernel_rfl)]
  rfl

theorem isnan_any (b : Nat) (w : World) : Calls Try.prog 101 #[.float .f64 b] w fun e w' => e = .returned (.bool (decide (Va.INF < b % Va.SIGN))) ∧ w = w' := by
  have h := Va.order_self b
  have h2 : (FloatKind.f64.format.order b b != some .eq) = decide (Va.INF < b % Va.SIGN) := by
    unfold bne; rw [h, decide_not, Bool.not_not]
  clear h
  generalize decide (Va.INF < b % Va.SIGN) = r at h2 ⊢
  go_enter Try.func101, Try.ntmps101
  go_wp2
  go_ret
  exact ⟨rfl, rfl⟩

theorem canonical_any (b : Nat) (w : World) : Calls Try.prog 75 #[.float .f64 b] w fun e w' => e = .returned (.int .u64 (Va.canon b : Int)) ∧ w = w' := by
  have hb := fun w => run_bits b w
  have hn := hid (fun w => isnan_any b w)
  by_cases h1 : Va.INF < b % Va.SIGN
  · have hc := hid (show Va.canon b = 9221120237041090560 by unfold Va.canon; rw [if_pos h1]; rfl)
    simp only [h1, decide_true] at hn
    clear h1
    go_enter Try.func75, Try.ntmps75
    go_wp2_with (go_at_call 101; refine (hn.out _).mono ?_; rintro e w1 ⟨rfl, rfl⟩)
    go_ret
    exact ⟨by rw [hc.out]; rfl, rfl⟩
  · have h0 := Va.order_zero b h1
    simp only [h1, decide_false] at hn
    by_cases h2 : b % Va.SIGN = 0
    · have hc := hid (show Va.canon b = 0 by unfold Va.canon; rw [if_neg h1, if_pos h2])
      simp only [h2, decide_true] at h0
      clear h1 h2
      go_enter Try.func75, Try.ntmps75
      go_wp2_with (go_at_call 101; refine (hn.out _).mono ?_; rintro e w1 ⟨rfl, rfl⟩)
      go_ret
      exact ⟨by rw [hc.out]; rfl, rfl⟩
    · have hc := hid (show Va.canon b = b by unfold Va.canon; rw [if_neg h1, if_neg h2])
      simp only [h2, decide_false] at h0
      clear h1 h2
      go_enter Try.func75, Try.ntmps75
      go_wp2_with (go_at_call 101; refine (hn.out _).mono ?_; rintro e w1 ⟨rfl, rfl⟩)
      go_ret
      exact ⟨by rw [hc.out]; rfl, rfl⟩

theorem Try.vHeld : Try.prog.stoodInHeld 36 = false := by kernel_rfl
theorem va_equalIn (k n : Int) (b : Nat) (s : ByteArray) (k' n' : Int) (b' : Nat) (s' : ByteArray) (w : World) :
    (Op.equalIn 10000 36 (vv k n b s) (vv k' n' b' s')).run Try.prog w = .ok (k == k' && (n == n' && ((b : Int) == (b' : Int) && decide (s = s')))) w := by
  unfold vv
  rw [run_equalIn_agg w 9999 36 _ _ (by kernel_rfl) Try.vHeld]
  rw [← bytes_beq]
  cases h1 : (k == k') <;> cases h2 : (n == n') <;> cases h3 : ((b : Int) == (b' : Int)) <;> cases h4 : (s.toList == s'.toList)
  all_goals
    go_simp
theorem va_eql (k n : Int) (b : Nat) (s : ByteArray) (k' n' : Int) (b' : Nat) (s' : ByteArray) (r : Bool) (h : (k == k' && (n == n' && ((b : Int) == (b' : Int) && decide (s = s')))) = r) (w : World) :
    (binOp .eql 36 (vv k n b s) (vv k' n' b' s')).run Try.prog w = .ok (.bool r) w := by
  subst h
  have h := va_equalIn k n b s k' n' b' s' w
  unfold vv at h ⊢
  simp [binOp, Op.equal, Op.maxDepth, h]
theorem va_neq (k n : Int) (b : Nat) (s : ByteArray) (k' n' : Int) (b' : Nat) (s' : ByteArray) (r : Bool) (h : (k == k' && (n == n' && ((b : Int) == (b' : Int) && decide (s = s')))) = r) (w : World) :
    (binOp .neq 36 (vv k n b s) (vv k' n' b' s')).run Try.prog w = .ok (.bool (!r)) w := by
  subst h
  have h := va_equalIn k n b s k' n' b' s' w
  unfold vv at h ⊢
  simp [binOp, Op.equal, Op.maxDepth, h]
theorem and_one_i64 (n : Int) : bits .and .i64 n 1 = n % 2 := by
  show IntKind.i64.wrap ((BitVec.ofInt 64 n &&& BitVec.ofInt 64 1).toNat : Int) = _
  rw [BitVec.toNat_and, BitVec.toNat_ofInt, show (BitVec.ofInt 64 1).toNat = 1 from rfl, Nat.and_one_is_mod, IntKind.wrap_i64]
  omega
theorem empty_iff_size (s : ByteArray) : s = ⟨#[]⟩ ↔ s.size = 0 := by
  constructor
  · rintro rfl; rfl
  · intro h
    apply ba_eq
    have : s.data.toList.length = 0 := by simpa using h
    rw [List.eq_nil_of_length_eq_zero this]

/-- the ways through Right: what it is held against, and whether they are the same -/
theorem right_ways (k n : Int) (b : Nat) (s : ByteArray) : ∃ (n' : Int) (b' : Nat) (s' : ByteArray) (r : Bool), (k == k && (n == n' && ((b : Int) == (b' : Int) && decide (s = s')))) = r ∧
    ((k = 0 ∧ n' = 0 ∧ b' = 0 ∧ s' = ⟨#[]⟩ ∧ (r = true → s.size ≤ 4096) ∧ Va.right k n b s = r) ∨
     (k = 1 ∧ n' = n % 2 ∧ b' = 0 ∧ s' = ⟨#[]⟩ ∧ (r = true → s.size ≤ 4096) ∧ Va.right k n b s = r) ∨
     (k = 2 ∧ n' = n ∧ b' = 0 ∧ s' = ⟨#[]⟩ ∧ (r = true → s.size ≤ 4096) ∧ Va.right k n b s = r) ∨
     (k = 3 ∧ n' = 0 ∧ b' = Va.canon b ∧ s' = ⟨#[]⟩ ∧ (r = true → s.size ≤ 4096) ∧ Va.right k n b s = r) ∨
     ((k = 4 ∨ k = 5) ∧ n' = 0 ∧ b' = 0 ∧ s = s' ∧ Va.right k n b s = (r && decide (s.size ≤ 4096))) ∨
     (k ≠ 0 ∧ k ≠ 1 ∧ k ≠ 2 ∧ k ≠ 3 ∧ k ≠ 4 ∧ k ≠ 5 ∧ Va.right k n b s = false)) := by
  unfold Va.right
  by_cases h0 : k = 0
  · refine ⟨_, _, _, _, rfl, .inl ⟨h0, rfl, rfl, rfl, ?_, ?_⟩⟩
    · intro h; simp only [Bool.and_eq_true, beq_iff_eq, decide_eq_true_iff, empty_iff_size] at h; omega
    · rw [if_pos h0, Bool.eq_iff_iff]; constructor <;> (intro h; simp only [Bool.and_eq_true, beq_iff_eq, decide_eq_true_iff, empty_iff_size] at h ⊢; (repeat' (refine And.intro ?_ ?_)) <;> first | exact trivial | omega)
  by_cases h1 : k = 1
  · refine ⟨_, _, _, _, rfl, .inr (.inl ⟨h1, rfl, rfl, rfl, ?_, ?_⟩)⟩
    · intro h; simp only [Bool.and_eq_true, beq_iff_eq, decide_eq_true_iff, empty_iff_size] at h; omega
    · rw [if_neg h0, if_pos h1, Bool.eq_iff_iff]; constructor <;> (intro h; simp only [Bool.and_eq_true, Bool.or_eq_true, beq_iff_eq, decide_eq_true_iff, empty_iff_size] at h ⊢; (repeat' (refine And.intro ?_ ?_)) <;> first | exact trivial | omega)
  by_cases h2 : k = 2
  · refine ⟨_, _, _, _, rfl, .inr (.inr (.inl ⟨h2, rfl, rfl, rfl, ?_, ?_⟩))⟩
    · intro h; simp only [Bool.and_eq_true, beq_iff_eq, decide_eq_true_iff, empty_iff_size] at h; omega
    · rw [if_neg h0, if_neg h1, if_pos h2, Bool.eq_iff_iff]; constructor <;> (intro h; simp only [Bool.and_eq_true, beq_iff_eq, decide_eq_true_iff, empty_iff_size] at h ⊢; (repeat' (refine And.intro ?_ ?_)) <;> first | exact trivial | omega)
  by_cases h3 : k = 3
  · refine ⟨_, _, _, _, rfl, .inr (.inr (.inr (.inl ⟨h3, rfl, rfl, rfl, ?_, ?_⟩)))⟩
    · intro h; simp only [Bool.and_eq_true, beq_iff_eq, decide_eq_true_iff, empty_iff_size] at h; omega
    · rw [if_neg h0, if_neg h1, if_neg h2, if_pos h3, Bool.eq_iff_iff]; constructor <;> (intro h; simp only [Bool.and_eq_true, beq_iff_eq, decide_eq_true_iff, empty_iff_size] at h ⊢; (repeat' (refine And.intro ?_ ?_)) <;> first | exact trivial | omega)
  by_cases h4 : k = 4 ∨ k = 5
  · refine ⟨_, _, _, _, rfl, .inr (.inr (.inr (.inr (.inl ⟨h4, rfl, rfl, rfl, ?_⟩))))⟩
    rw [if_neg h0, if_neg h1, if_neg h2, if_neg h3, if_pos h4, Bool.eq_iff_iff]; simp only [Bool.and_eq_true, beq_iff_eq, decide_eq_true_iff, true_and, and_true]; omega
  · refine ⟨0, 0, ⟨#[]⟩, _, rfl, .inr (.inr (.inr (.inr (.inr ⟨h0, h1, h2, h3, fun h => h4 (.inl h), fun h => h4 (.inr h), ?_⟩))))⟩
    rw [if_neg h0, if_neg h1, if_neg h2, if_neg h3, if_neg h4]

set_option maxRecDepth 100000 in
set_option maxHeartbeats 1600000 in
theorem right_any (k n : Int) (b : Nat) (s : ByteArray) (hs : s.size ≤ maxLen) (w : World) : Calls Try.prog 39 #[vv k n b s] w fun e w' => e = .returned (.bool (Va.right k n b s)) ∧ Below w.heap.size w w' := by
  unfold maxLen at hs
  obtain ⟨n', b', s', r, hr, hc⟩ := right_ways k n b s
  have hq := va_eql k n b s k n' b' s' r hr
  have hand := and_one_i64 n
  have hfr := fun w => run_frombits b w
  have hcan := hid (fun w => canonical_any b w)
  clear hr
  unfold vv at hq ⊢
  rcases hc with ⟨rfl, rfl, rfl, rfl, hlen, hv⟩ | ⟨rfl, rfl, rfl, rfl, hlen, hv⟩ | ⟨rfl, rfl, rfl, rfl, hlen, hv⟩ | ⟨rfl, rfl, rfl, rfl, hlen, hv⟩ | ⟨rfl | rfl, rfl, rfl, rfl, hv⟩ | ⟨k0, k1, k2, k3, k4, k5, hv⟩
  · have HV := hid hv
    clear hv
    rw [Int.natCast_zero] at hq
    cases r
    · clear hlen
      go_enter Try.func39, Try.ntmps39
      go_wp2
      go_ret
      rw [HV.out]
      exact ⟨rfl, ((Below.refl _ _).alloc (Nat.le_refl _) _).alloc (by simp) _⟩
    · have hl : (s.size : Int) ≤ 4096 := by have := hlen rfl; omega
      clear hlen
      go_enter Try.func39, Try.ntmps39
      go_wp2
      go_ret
      rw [HV.out]
      exact ⟨rfl, ((Below.refl _ _).alloc (Nat.le_refl _) _).alloc (by simp) _⟩
  · have HV := hid hv
    clear hv
    rw [Int.natCast_zero] at hq
    cases r
    · clear hlen
      go_enter Try.func39, Try.ntmps39
      go_wp2
      go_ret
      rw [HV.out]
      exact ⟨rfl, ((Below.refl _ _).alloc (Nat.le_refl _) _).alloc (by simp) _⟩
    · have hl : (s.size : Int) ≤ 4096 := by have := hlen rfl; omega
      clear hlen
      go_enter Try.func39, Try.ntmps39
      go_wp2
      go_ret
      rw [HV.out]
      exact ⟨rfl, ((Below.refl _ _).alloc (Nat.le_refl _) _).alloc (by simp) _⟩
  · have HV := hid hv
    clear hv
    rw [Int.natCast_zero] at hq
    cases r
    · clear hlen
      go_enter Try.func39, Try.ntmps39
      go_wp2
      go_ret
      rw [HV.out]
      exact ⟨rfl, ((Below.refl _ _).alloc (Nat.le_refl _) _).alloc (by simp) _⟩
    · have hl : (s.size : Int) ≤ 4096 := by have := hlen rfl; omega
      clear hlen
      go_enter Try.func39, Try.ntmps39
      go_wp2
      go_ret
      rw [HV.out]
      exact ⟨rfl, ((Below.refl _ _).alloc (Nat.le_refl _) _).alloc (by simp) _⟩
  · have HV := hid hv
    clear hv
    cases r
    · clear hlen
      go_enter Try.func39, Try.ntmps39
      go_wp2_with (go_at_call 75; refine (hcan.out _).mono ?_; rintro e w1 ⟨rfl, rfl⟩)
      go_ret
      rw [HV.out]
      exact ⟨rfl, ((Below.refl _ _).alloc (Nat.le_refl _) _).alloc (by simp) _⟩
    · have hl : (s.size : Int) ≤ 4096 := by have := hlen rfl; omega
      clear hlen
      go_enter Try.func39, Try.ntmps39
      go_wp2_with (go_at_call 75; refine (hcan.out _).mono ?_; rintro e w1 ⟨rfl, rfl⟩)
      go_ret
      rw [HV.out]
      exact ⟨rfl, ((Below.refl _ _).alloc (Nat.le_refl _) _).alloc (by simp) _⟩
  · rw [Int.natCast_zero] at hq
    cases r
    · have HV := hid hv
      clear hv
      go_enter Try.func39, Try.ntmps39
      go_wp2
      go_ret
      rw [HV.out]
      exact ⟨rfl, ((Below.refl _ _).alloc (Nat.le_refl _) _).alloc (by simp) _⟩
    · by_cases hl : s.size ≤ 4096
      · have HV := hid hv
        simp only [hl, decide_true, Bool.and_true] at HV
        have hl2 : (s.size : Int) ≤ 4096 := by omega
        clear hv hl
        go_enter Try.func39, Try.ntmps39
        go_wp2
        go_ret
        rw [HV.out]
        exact ⟨rfl, ((Below.refl _ _).alloc (Nat.le_refl _) _).alloc (by simp) _⟩
      · have HV := hid hv
        simp only [hl, decide_false, Bool.and_false] at HV
        have hl2 : ¬ (s.size : Int) ≤ 4096 := by omega
        clear hv hl
        go_enter Try.func39, Try.ntmps39
        go_wp2
        go_ret
        rw [HV.out]
        exact ⟨rfl, ((Below.refl _ _).alloc (Nat.le_refl _) _).alloc (by simp) _⟩
  · rw [Int.natCast_zero] at hq
    cases r
    · have HV := hid hv
      clear hv
      go_enter Try.func39, Try.ntmps39
      go_wp2
      go_ret
      rw [HV.out]
      exact ⟨rfl, ((Below.refl _ _).alloc (Nat.le_refl _) _).alloc (by simp) _⟩
    · by_cases hl : s.size ≤ 4096
      · have HV := hid hv
        simp only [hl, decide_true, Bool.and_true] at HV
        have hl2 : (s.size : Int) ≤ 4096 := by omega
        clear hv hl
        go_enter Try.func39, Try.ntmps39
        go_wp2
        go_ret
        rw [HV.out]
        exact ⟨rfl, ((Below.refl _ _).alloc (Nat.le_refl _) _).alloc (by simp) _⟩
      · have HV := hid hv
        simp only [hl, decide_false, Bool.and_false] at HV
        have hl2 : ¬ (s.size : Int) ≤ 4096 := by omega
        clear hv hl
        go_enter Try.func39, Try.ntmps39
        go_wp2
        go_ret
        rw [HV.out]
        exact ⟨rfl, ((Below.refl _ _).alloc (Nat.le_refl _) _).alloc (by simp) _⟩
  · have HV := hid hv
    clear hv hq
    go_enter Try.func39, Try.ntmps39
    go_wp2
    go_ret
    rw [HV.out]
    exact ⟨rfl, ((Below.refl _ _).alloc (Nat.le_refl _) _).alloc (by simp) _⟩
end Go.Proofs.Ytmcneelapghfcaa

namespace Go.Proofs.Ytmcneelapghfcaa
open Go.RowKit

theorem and_sign (b : Nat) (hb : b < 18446744073709551616) : bits .and .u64 (b : Int) 9223372036854775807 = ((b % Va.SIGN : Nat) : Int) := by
  have h := bits_and_u64_nat b 9223372036854775807 hb (by decide)
  have e : b &&& 9223372036854775807 = b % 9223372036854775808 := Nat.and_two_pow_sub_one_eq_mod b 63
  rw [e] at h
  exact h

theorem canonR_any (b : Nat) (hb : b < 18446744073709551616) (w : World) : Calls Try.prog 97 #[.int .u64 (b : Int)] w fun e w' => e = .returned (.int .u64 (Va.canon b : Int)) ∧ w = w' := by
  have ha := and_sign b hb
  have hm : Hid (b % Va.SIGN < 9223372036854775808) := Nat.mod_lt _ (by decide)
  have hc : Hid (Va.canon b = if Va.INF < b % Va.SIGN then 9221120237041090560 else if b % Va.SIGN = 0 then 0 else b) := rfl
  have hi : Va.INF = 9218868437227405312 := rfl
  generalize b % Va.SIGN = m at ha hm hc
  have HB := hid hb
  clear hb
  by_cases h1 : Va.INF < m
  · have h1' : (9218868437227405312 : Int) < m := by omega
    have hcc : Hid (Va.canon b = 9221120237041090560) := by have := hc.out; rw [if_pos h1] at this; exact this
    clear h1 hi hc
    go_enter Try.func97, Try.ntmps97
    go_wp2
    go_ret
    exact ⟨by rw [hcc.out]; rfl, rfl⟩
  · have h1' : ¬ (9218868437227405312 : Int) < m := by omega
    by_cases h2 : m = 0
    · have hcc : Hid (Va.canon b = 0) := by have := hc.out; rw [if_neg h1, if_pos h2] at this; exact this
      subst h2
      rw [Int.natCast_zero] at ha
      clear h1 hi hc
      go_enter Try.func97, Try.ntmps97
      go_wp2
      go_ret
      exact ⟨by rw [hcc.out]; rfl, rfl⟩
    · have hcc : Hid (Va.canon b = b) := by have := hc.out; rw [if_neg h1, if_neg h2] at this; exact this
      have h2' : ((m : Int) == 0) = false := by rw [beq_eq_false_iff_ne]; omega
      clear h1 h2 hi hc
      go_enter Try.func97, Try.ntmps97
      go_wp2
      go_ret
      exact ⟨by rw [hcc.out]; rfl, rfl⟩

theorem bool_zero (n : Int) : (n == 0) = decide (n = 0) := by rw [Bool.eq_iff_iff]; simp
theorem bool_one (n : Int) : (n == 1) = decide (n = 1) := by rw [Bool.eq_iff_iff]; simp
theorem right_shape (k n : Int) (b : Nat) (s : ByteArray) : ∃ p1 p2 p3 p4 p5 p6, (n == 0) = p1 ∧ ((b : Int) == 0) = p2 ∧ s.toList.isEmpty = p3 ∧ (n == 1) = p4 ∧ ((Va.canon b : Int) == (b : Int)) = p5 ∧ decide ((s.size : Int) ≤ 4096) = p6 ∧
    ((k = 0 ∧ Va.right k n b s = (p1 && p2 && p3)) ∨ (k = 1 ∧ Va.right k n b s = ((p1 || p4) && p2 && p3)) ∨ (k = 2 ∧ Va.right k n b s = (p2 && p3)) ∨ (k = 3 ∧ Va.right k n b s = (p1 && p3 && p5)) ∨
     ((k = 4 ∨ k = 5) ∧ Va.right k n b s = (p1 && p2 && p6)) ∨ (k ≠ 0 ∧ k ≠ 1 ∧ k ≠ 2 ∧ k ≠ 3 ∧ k ≠ 4 ∧ k ≠ 5 ∧ Va.right k n b s = false)) := by
  refine ⟨_, _, _, _, _, _, rfl, rfl, rfl, rfl, rfl, rfl, ?_⟩
  have d0 : s.toList.isEmpty = (s.toList == (⟨#[]⟩ : ByteArray).toList) := by rw [show (⟨#[]⟩ : ByteArray).toList = [] from by rw [ByteArray.toList_eq]]; cases s.toList <;> rfl
  have d1 : s.toList.isEmpty = decide (s.size = 0) := by rw [d0, bytes_beq, Bool.eq_iff_iff, decide_eq_true_iff, decide_eq_true_iff]; exact empty_iff_size s
  have d2 : ((b : Int) == 0) = decide (b = 0) := by rw [Bool.eq_iff_iff, beq_iff_eq, decide_eq_true_iff]; omega
  have d5 : ((Va.canon b : Int) == (b : Int)) = decide (Va.canon b = b) := by rw [Bool.eq_iff_iff, beq_iff_eq, decide_eq_true_iff]; omega
  have d6 : decide ((s.size : Int) ≤ 4096) = decide (s.size ≤ 4096) := by rw [Bool.eq_iff_iff, decide_eq_true_iff, decide_eq_true_iff]; omega
  rw [d1, d2, d5, d6, bool_zero, bool_one]
  unfold Va.right
  by_cases h0 : k = 0
  · exact .inl ⟨h0, by rw [if_pos h0]⟩
  by_cases h1 : k = 1
  · exact .inr (.inl ⟨h1, by rw [if_neg h0, if_pos h1]⟩)
  by_cases h2 : k = 2
  · exact .inr (.inr (.inl ⟨h2, by rw [if_neg h0, if_neg h1, if_pos h2]⟩))
  by_cases h3 : k = 3
  · exact .inr (.inr (.inr (.inl ⟨h3, by rw [if_neg h0, if_neg h1, if_neg h2, if_pos h3]⟩)))
  by_cases h4 : k = 4 ∨ k = 5
  · exact .inr (.inr (.inr (.inr (.inl ⟨h4, by rw [if_neg h0, if_neg h1, if_neg h2, if_neg h3, if_pos h4]⟩))))
  · exact .inr (.inr (.inr (.inr (.inr ⟨h0, h1, h2, h3, fun h => h4 (.inl h), fun h => h4 (.inr h), by rw [if_neg h0, if_neg h1, if_neg h2, if_neg h3, if_neg h4]⟩))))

set_option maxRecDepth 100000 in
set_option maxHeartbeats 6400000 in
theorem rightR_any (k n : Int) (b : Nat) (s : ByteArray) (_hs : s.size ≤ maxLen) (hb : b < 18446744073709551616) (w : World) : Calls Try.prog 68 #[vv k n b s] w fun e w' => e = .returned (.bool (Va.right k n b s)) ∧ Below w.heap.size w w' := by
  have hcan := hid (fun w => canonR_any b hb w)
  obtain ⟨p1, p2, p3, p4, p5, p6, e1, e2, e3, e4, e5, e6, hc⟩ := right_shape k n b s
  have hB := hba w (.cells #[.int .i64 k, .int .i64 n, .int .u64 (b : Int), .string s] 36)
  unfold vv
  have HB := hid hb
  clear hb
  rcases hc with ⟨rfl, hv⟩ | ⟨rfl, hv⟩ | ⟨rfl, hv⟩ | ⟨rfl, hv⟩ | ⟨rfl | rfl, hv⟩ | ⟨k0, k1, k2, k3, k4, k5, hv⟩
  · have HV := hid hv
    clear hv e4 e5 e6
    cases p1 <;> cases p2 <;> cases p3
    all_goals
      go_enter Try.func68, Try.ntmps68
      go_wp2
      go_ret
      rw [HV.out]
      exact ⟨rfl, hB⟩
  · have HV := hid hv
    clear hv e5 e6
    cases p1 <;> cases p2 <;> cases p3 <;> cases p4
    all_goals
      go_enter Try.func68, Try.ntmps68
      go_wp2
      go_ret
      rw [HV.out]
      exact ⟨rfl, hB⟩
  · have HV := hid hv
    clear hv e1 e4 e5 e6
    cases p2 <;> cases p3
    all_goals
      go_enter Try.func68, Try.ntmps68
      go_wp2
      go_ret
      rw [HV.out]
      exact ⟨rfl, hB⟩
  · have HV := hid hv
    clear hv e2 e4 e6
    have hc0 : (w.alloc (.cells #[.int .i64 3, .int .i64 n, .int .u64 (b : Int), .string s] 36)).cell? ⟨w.heap.size, 0, none⟩ = some (.int .i64 3) := by simp
    cases p1 <;> cases p3 <;> cases p5
    all_goals
      go_enter Try.func68, Try.ntmps68
      go_wp2_with fail
      go_quiet ((go_at_call 97; exact Calls.quiet_of_same ((hcan.out _).mono fun _ _ h => ⟨h.1, h.2.symm⟩)))
      go_wp2
      go_ret
      rw [HV.out]
      exact ⟨rfl, hdrewN hB nq⟩
  · have HV := hid hv
    clear hv e3 e4 e5
    cases p1 <;> cases p2 <;> cases p6
    all_goals
      go_enter Try.func68, Try.ntmps68
      go_wp2
      go_ret
      rw [HV.out]
      exact ⟨rfl, hB⟩
  · have HV := hid hv
    clear hv e3 e4 e5
    cases p1 <;> cases p2 <;> cases p6
    all_goals
      go_enter Try.func68, Try.ntmps68
      go_wp2
      go_ret
      rw [HV.out]
      exact ⟨rfl, hB⟩
  · have HV := hid hv
    clear hv e1 e2 e3 e4 e5 e6
    go_enter Try.func68, Try.ntmps68
    go_wp2
    go_ret
    rw [HV.out]
    exact ⟨rfl, hB⟩
end Go.Proofs.Ytmcneelapghfcaa

namespace Go.Proofs.Ytmcneelapghfcaa
namespace Cd

/-- a number's bytes, of at most one more than so many -/
def encF : Nat → Nat → List UInt8
  | 0, n => [UInt8.ofNat n]
  | f + 1, n => if n < 128 then [UInt8.ofNat n] else UInt8.ofNat (n % 128 + 128) :: encF f (n / 128)
def enc (n : Nat) : List UInt8 := encF 9 n

/-- a number as one that is not below 0 -/
def zig (n : Int) : Nat := if 0 ≤ n then 2 * n.toNat else 2 * (-(n + 1)).toNat + 1
def text (s : ByteArray) : List UInt8 := enc s.size ++ s.data.toList
/-- eight bytes, the highest first -/
def low : Nat → Nat → List UInt8
  | 0, _ => []
  | k + 1, b => UInt8.ofNat (b / 256 ^ k) :: low k b
def eight (b : Nat) : List UInt8 := low 8 b
/-- a value's bytes -/
def value (k n : Int) (b : Nat) (s : ByteArray) : List UInt8 :=
  if Va.right k n b s then
    UInt8.ofNat k.toNat :: (if k = 1 then [UInt8.ofNat n.toNat] else if k = 2 then enc (zig n) else if k = 3 then eight b else if k = 4 ∨ k = 5 then text s else [])
  else []
structure V where
  k : Int
  n : Int
  b : Nat
  s : ByteArray
def V.right (v : V) : Bool := Va.right v.k v.n v.b v.s
def V.bytes (v : V) : List UInt8 := value v.k v.n v.b v.s
def row (l : List V) : List UInt8 := if l.all V.right then enc l.length ++ l.flatMap V.bytes else []
end Cd
end Go.Proofs.Ytmcneelapghfcaa

namespace Go.Proofs.Ytmcneelapghfcaa
namespace Cd

/-- what is read, and where the next one begins; or what is wrong -/
abbrev R (α : Type) := Except Int (α × Nat)
end Cd
end Go.Proofs.Ytmcneelapghfcaa

namespace Go.Proofs.Ytmcneelapghfcaa
namespace Cd

end Cd
end Go.Proofs.Ytmcneelapghfcaa

namespace Go.Proofs.Ytmcneelapghfcaa
open Go.RowKit

/-- a value in a box -/
def VBox (w : World) (g : Nat) (k n : Int) (b : Nat) (s : ByteArray) : Prop :=
  w.cell? ⟨g, 0, none⟩ = some (.int .i64 k) ∧ w.cell? ⟨g, 1, none⟩ = some (.int .i64 n) ∧ w.cell? ⟨g, 2, none⟩ = some (.int .u64 (b : Int)) ∧ w.cell? ⟨g, 3, none⟩ = some (.string s)
theorem VBox.keep {w w' : World} {g : Nat} {k n : Int} {b : Nat} {s : ByteArray} (h : VBox w g k n b s) (hb : Below w.heap.size w w') : VBox w' g k n b s := ⟨hkeep h.1 hb, hkeep h.2.1 hb, hkeep h.2.2.1 hb, hkeep h.2.2.2 hb⟩
theorem VBox.new (w : World) (k n : Int) (b : Nat) (s : ByteArray) : VBox (w.alloc (.cells #[.int .i64 k, .int .i64 n, .int .u64 (b : Int), .string s] 36)) w.heap.size k n b s := ⟨by simp, by simp, by simp, by simp⟩

end Go.Proofs.Ytmcneelapghfcaa

namespace Go.Proofs.Ytmcneelapghfcaa
open Go.RowKit

/-- the slice v holds the values l -/
def VsAt (w : World) (v : Value) (l : List Cd.V) : Prop :=
  ∃ adr cap, v = .slice adr l.length cap ∧ ∀ k (hk : k < l.length), ∃ g off, adr = some ⟨g, off, none⟩ ∧ w.cell? ⟨g, off + k * 4, none⟩ = some (.int .i64 l[k].k) ∧ w.cell? ⟨g, off + k * 4 + 1, none⟩ = some (.int .i64 l[k].n) ∧
    w.cell? ⟨g, off + k * 4 + 2, none⟩ = some (.int .u64 (l[k].b : Int)) ∧ w.cell? ⟨g, off + k * 4 + 3, none⟩ = some (.string l[k].s)
theorem VsAt.below {w w' : World} {v : Value} {l : List Cd.V} (h : VsAt w v l) (hb : Below w.heap.size w w') : VsAt w' v l := by
  obtain ⟨adr, cap, rfl, hc⟩ := h
  refine ⟨adr, cap, rfl, fun k hk => ?_⟩
  obtain ⟨g, off, rfl, q0, q1, q2, q3⟩ := hc k hk
  exact ⟨g, off, rfl, hkeep q0 hb, hkeep q1 hb, hkeep q2 hb, hkeep q3 hb⟩

theorem take_next {α : Type} (l : List α) (k : Nat) (h : k < l.length) : l.take (k + 1) = l.take k ++ [l[k]] := by rw [List.take_succ_eq_append_getElem h]

end Go.Proofs.Ytmcneelapghfcaa

namespace Go.Proofs.Ytmcneelapghfcaa
namespace Cd

end Cd
end Go.Proofs.Ytmcneelapghfcaa

namespace Go.Proofs.Ytmcneelapghfcaa
open Go.RowKit

instance vDec : DecidableEq Cd.V := fun a b => decidable_of_iff (a.k = b.k ∧ a.n = b.n ∧ a.b = b.b ∧ a.s = b.s) (by
  cases a; cases b; simp)
theorem v_beq (a b : Cd.V) : (a.k == b.k && (a.n == b.n && ((a.b : Int) == (b.b : Int) && decide (a.s = b.s)))) = decide (a = b) := by
  rw [Bool.eq_iff_iff]
  cases a; cases b
  simp
  intros; omega

end Go.Proofs.Ytmcneelapghfcaa

namespace Go.Proofs.Ytmcneelapghfcaa
open Go.RowKit

theorem u64_of {n : Int} (h : (Lit.int .u64 n).wf = true) : ∃ k : Nat, n = (k : Int) ∧ k < 18446744073709551616 := by
  have hx : 0 ≤ n ∧ n ≤ 18446744073709551615 := by simpa [Lit.wf, IntKind.min, IntKind.max, IntKind.signed, IntKind.bits] using h
  exact ⟨n.toNat, by omega, by omega⟩
end Go.Proofs.Ytmcneelapghfcaa

namespace Go.Proofs.Ytmcneelapghfcaa
namespace Cd

/-- what is said of a reader of bytes -/
def Cuts {α : Type} (f : ByteArray → Nat → R α) : Prop := ∀ s i v j, f s i = .ok (v, j) → i ≤ j ∧ ∀ c, i ≤ c → (c < j → f (s.extract 0 c) i = .error 8) ∧ (j ≤ c → f (s.extract 0 c) i = .ok (v, j))
theorem Cuts.fail {α : Type} (e : Int) : Cuts (fun _ _ => (.error e : R α)) := by
  intro s i v j h; cases h
/-- what can be wrong -/
def Errs {α : Type} (f : ByteArray → Nat → R α) : Prop := ∀ s i x, f s i = .error x → x = 7 ∨ x = 8 ∨ x = 19
theorem Errs.fail {α : Type} (e : Int) (h : e = 7 ∨ e = 8 ∨ e = 19) : Errs (fun _ _ => (.error e : R α)) := by
  intro s i x hx
  have hx := show (Except.error e : R α) = .error x from hx
  injection hx with hx
  subst hx; exact h
end Cd
end Go.Proofs.Ytmcneelapghfcaa

namespace Go.Proofs.Ytmcneelapghfcaa
open Go.ChangeShapes Go.WideShapes Go.Joins Go.Deep

instance : Inhabited Cd.V := ⟨⟨0, 0, 0, ⟨#[]⟩⟩⟩
end Go.Proofs.Ytmcneelapghfcaa

namespace Go.Proofs.Ytmcneelapghfcaa
open Go.RowKit

/-- all but the block g is as it was -/
abbrev Upd (g : Nat) (w w' : World) : Prop := w.grownBy w' (some g)
theorem Upd.refl (g : Nat) (w : World) : Upd g w w := ⟨rfl, rfl, rfl, Nat.le_refl _, fun _ _ _ => rfl⟩
theorem Upd.trans {g : Nat} {a b c : World} (h : Upd g a b) (k : Upd g b c) : Upd g a c :=
  ⟨k.os.trans h.os, k.tape.trans h.tape, k.output.trans h.output, Nat.le_trans h.size k.size, fun i hi hn => (k.block i (Nat.lt_of_lt_of_le hi h.size) hn).trans (h.block i hi hn)⟩
theorem Upd.of {g : Nat} {a b : World} (h : Below a.heap.size a b) : Upd g a b := ⟨h.os, h.tape, h.output, h.size, fun i hi _ => h.block i hi⟩
theorem Upd.cell {g : Nat} {w w' : World} {p : Addr} {v : Value} (h : w.cell? p = some v) (hb : Upd g w w') (hne : p.block ≠ g) : w'.cell? p = some v :=
  (World.cell?_of_block (hb.block p.block (World.block_lt_of_cell? w p h) (by simpa using hne))).trans h
theorem Upd.below {B g : Nat} {a w w' : World} (h : Below B a w) (k : Upd g w w') (hg : B ≤ g) (hB : B ≤ w.heap.size) : Below B a w' :=
  h.grown k hB (fun q hq => by cases hq; exact hg)

end Go.Proofs.Ytmcneelapghfcaa

namespace Go.Proofs.Ytmcneelapghfcaa
open Go.RowKit

/-- a value in a block of its own -/
def BV (w : World) (g : Nat) (k n : Int) (b : Nat) (s : ByteArray) : Prop := w.heap[g]? = some (.cells #[.int .i64 k, .int .i64 n, .int .u64 (b : Int), .string s] 36 (0, 0))
theorem BV.cells {w : World} {g : Nat} {k n : Int} {b : Nat} {s : ByteArray} (h : BV w g k n b s) : w.cell? ⟨g, 0, none⟩ = some (.int .i64 k) ∧ w.cell? ⟨g, 1, none⟩ = some (.int .i64 n) ∧ w.cell? ⟨g, 2, none⟩ = some (.int .u64 (b : Int)) ∧ w.cell? ⟨g, 3, none⟩ = some (.string s) ∧
    w.frozen? ⟨g, 0, none⟩ = false ∧ w.frozen? ⟨g, 1, none⟩ = false ∧ w.frozen? ⟨g, 2, none⟩ = false ∧ w.frozen? ⟨g, 3, none⟩ = false ∧ g < w.heap.size :=
  ⟨cell_of_row w g 0 _ _ _ h, cell_of_row w g 1 _ _ _ h, cell_of_row w g 2 _ _ _ h, cell_of_row w g 3 _ _ _ h, frozen_of_row w g 0 _ _ h, frozen_of_row w g 1 _ _ h, frozen_of_row w g 2 _ _ h, frozen_of_row w g 3 _ _ h, (Array.getElem?_eq_some_iff.1 h).1⟩
theorem BV.keep {w w' : World} {g : Nat} {k n : Int} {b : Nat} {s : ByteArray} (h : BV w g k n b s) (hb : Below w.heap.size w w') : BV w' g k n b s := keepBlock h hb
theorem BV.new (w : World) (k n : Int) (b : Nat) (s : ByteArray) : BV (w.alloc (.cells #[.int .i64 k, .int .i64 n, .int .u64 (b : Int), .string s] 36)) w.heap.size k n b s := heap_alloc_new w _

end Go.Proofs.Ytmcneelapghfcaa

namespace Go.Proofs.Ytmcneelapghfcaa
open Go.RowKit

/-- the values' cells, one behind the other -/
def vcells (l : List Cd.V) : List Value := l.flatMap fun v => [.int .i64 v.k, .int .i64 v.n, .int .u64 (v.b : Int), .string v.s]
theorem vcells_get {l : List Cd.V} {j : Nat} {s : Cd.V} (h : l[j]? = some s) : (vcells l)[j * 4]? = some (.int .i64 s.k) ∧ (vcells l)[j * 4 + 1]? = some (.int .i64 s.n) ∧ (vcells l)[j * 4 + 2]? = some (.int .u64 (s.b : Int)) ∧ (vcells l)[j * 4 + 3]? = some (.string s.s) := by
  induction l generalizing j with
  | nil => simp at h
  | cons x l ih =>
    show (_ :: _ :: _ :: _ :: vcells l)[j * 4]? = _ ∧ (_ :: _ :: _ :: _ :: vcells l)[j * 4 + 1]? = _ ∧ (_ :: _ :: _ :: _ :: vcells l)[j * 4 + 2]? = _ ∧ (_ :: _ :: _ :: _ :: vcells l)[j * 4 + 3]? = _
    cases j with
    | zero => simp at h; subst h; exact ⟨rfl, rfl, rfl, rfl⟩
    | succ j =>
      simp only [List.getElem?_cons_succ] at h
      rw [show (j + 1) * 4 = j * 4 + 1 + 1 + 1 + 1 from by omega, show j * 4 + 1 + 1 + 1 + 1 + 1 = (j * 4 + 1) + 1 + 1 + 1 + 1 from by omega, show j * 4 + 1 + 1 + 1 + 1 + 2 = (j * 4 + 2) + 1 + 1 + 1 + 1 from by omega, show j * 4 + 1 + 1 + 1 + 1 + 3 = (j * 4 + 3) + 1 + 1 + 1 + 1 from by omega]
      simp only [List.getElem?_cons_succ]
      exact ih h
theorem VsAt.own {w : World} {B : Nat} {v : Value} {l : List Cd.V} (h : w.ownsRow B 36 4 v l.length (vcells l)) : VsAt w v l := by
  rcases h.2 with ⟨rfl, hn⟩ | ⟨g, cap, cur, rfl, hB, hg, hn, _, hs, ht⟩
  · exact ⟨none, 0, by rw [hn], fun k hk => by omega⟩
  · refine ⟨_, cap, rfl, fun k hk => ⟨g, 0, rfl, ?_⟩⟩
    have hc : ∀ i u, (vcells l)[i]? = some u → w.cell? ⟨g, 0 + i, none⟩ = some u := by
      intro i u hi
      rw [Nat.zero_add, cell_of_row w g i cur _ (0, 0) hg]
      rw [← ht, List.getElem?_take] at hi
      split at hi
      · simpa using hi
      · cases hi
    obtain ⟨g0, g1, g2, g3⟩ := vcells_get (List.getElem?_eq_getElem hk)
    exact ⟨hc _ _ g0, by rw [Nat.add_assoc]; exact hc _ _ g1, by rw [Nat.add_assoc]; exact hc _ _ g2, by rw [Nat.add_assoc]; exact hc _ _ g3⟩

end Go.Proofs.Ytmcneelapghfcaa

namespace Go.Proofs.Ytmcneelapghfcaa
open Go.RowKit

/-- all blocks below B but the block g are as they were -/
structure UB (B g : Nat) (w w' : World) : Prop where
  os : w'.os = w.os
  tape : w'.tape = w.tape
  output : w'.output = w.output
  size : w.heap.size ≤ w'.heap.size
  block : ∀ k, k < B → k ≠ g → w'.heap[k]? = w.heap[k]?
theorem UB.refl (B g : Nat) (w : World) : UB B g w w := ⟨rfl, rfl, rfl, Nat.le_refl _, fun _ _ _ => rfl⟩
theorem UB.trans {B g : Nat} {a b c : World} (h : UB B g a b) (k : UB B g b c) : UB B g a c :=
  ⟨k.os.trans h.os, k.tape.trans h.tape, k.output.trans h.output, Nat.le_trans h.size k.size, fun i hi hn => (k.block i hi hn).trans (h.block i hi hn)⟩
theorem UB.of {B g : Nat} {a b : World} (h : Below B a b) : UB B g a b := ⟨h.os, h.tape, h.output, h.size, fun i hi _ => h.block i hi⟩
/-- a variable of the call's own -/
def Var (w : World) (b : Nat) (cs : Array Value) (t : TypeId) : Prop := w.heap[b]? = some (.cells cs t (0, 0))
theorem Var.keep {w w' : World} {b : Nat} {cs : Array Value} {t : TypeId} (h : Var w b cs t) (hb : Below w.heap.size w w') : Var w' b cs t := keepBlock h hb
theorem Var.lt {w : World} {b : Nat} {cs : Array Value} {t : TypeId} (h : Var w b cs t) : b < w.heap.size := (Array.getElem?_eq_some_iff.1 h).1
theorem Var.cell {w : World} {b : Nat} {cs : Array Value} {t : TypeId} (h : Var w b cs t) (o : Nat) : w.cell? ⟨b, o, none⟩ = cs[o]? := cell_of_row w b o _ _ _ h

end Go.Proofs.Ytmcneelapghfcaa

namespace Go.Proofs.Ytmcneelapghfcaa
open Go.RowKit

namespace Ky
/-- can a row be a key? -/
def right (l : List Cd.V) : Bool := l.all Cd.V.right && decide (l.length ≤ 8)
end Ky
end Go.Proofs.Ytmcneelapghfcaa

namespace Go.Proofs.Ytmcneelapghfcaa
open Go.RowKit

end Go.Proofs.Ytmcneelapghfcaa

namespace Go.Proofs.Ytmcneelapghfcaa
open Go.RowKit

namespace Ky
/-- a byte, so that the end can be told -/
def esc1 (c : UInt8) : List UInt8 := if c = 0 then [0, 255] else [c]
/-- a text's bytes, without the end -/
def esc (l : List UInt8) : List UInt8 := l.flatMap esc1
end Ky
end Go.Proofs.Ytmcneelapghfcaa

namespace Go.Proofs.Ytmcneelapghfcaa
open Go.RowKit

namespace Ky
/-- a number's bits, in the numbers' order -/
def turned (b : Nat) : Nat := if b < 9223372036854775808 then b + 9223372036854775808 else 18446744073709551615 - b
end Ky
theorem nat_and_top (b : Nat) (hb : b < 18446744073709551616) : b &&& 2 ^ 63 = if b < 2 ^ 63 then 0 else 2 ^ 63 := by
  apply Nat.eq_of_testBit_eq
  intro i
  rw [Nat.testBit_and, Nat.testBit_two_pow]
  by_cases hi : 63 = i
  · subst hi
    by_cases hl : b < 2 ^ 63
    · rw [if_pos hl, Nat.testBit_lt_two_pow hl]; simp
    · rw [if_neg hl, Nat.testBit_eq_decide_div_mod_eq, Nat.testBit_two_pow, decide_eq_true (show b / 2 ^ 63 % 2 = 1 by omega)]; simp
  · by_cases hl : b < 2 ^ 63
    · rw [if_pos hl]; simp [hi]
    · rw [if_neg hl, Nat.testBit_two_pow]; simp [hi]
theorem and_top (b : Nat) (hb : b < 18446744073709551616) : bits .and .u64 (b : Int) 9223372036854775808 = if b < 9223372036854775808 then 0 else 9223372036854775808 := by
  have h := bits_and_u64_nat b 9223372036854775808 hb (by decide)
  have h2 := nat_and_top b hb
  rw [show (2 ^ 63 : Nat) = 9223372036854775808 from rfl] at h2
  rw [h2] at h
  rw [show (9223372036854775808 : Int) = ((9223372036854775808 : Nat) : Int) from rfl, h]
  split <;> rfl
end Go.Proofs.Ytmcneelapghfcaa

namespace Go.Proofs.Ytmcneelapghfcaa
open Go.RowKit

/-- a whole number, moved so that it is one without a sign -/
def Ky.moved (n : Int) : Nat := (n + 9223372036854775808).toNat
/-- a value's bytes -/
def Ky.one (k n : Int) (b : Nat) (s : ByteArray) : List UInt8 :=
  if k = 1 then [2, UInt8.ofNat n.toNat] else if k = 2 then 3 :: Cd.eight (Ky.moved n) else if k = 3 then 4 :: Cd.eight (Ky.turned b) else if k = 4 then 5 :: (Ky.esc s.data.toList ++ [0, 1]) else if k = 5 then 6 :: (Ky.esc s.data.toList ++ [0, 1]) else [1]
/-- a box with a value -/
def VB (w : World) (g : Nat) (k n : Int) (b : Nat) (s : ByteArray) : Prop := w.heap[g]? = some (.cells #[.int .i64 k, .int .i64 n, .int .u64 (b : Int), .string s] 36 (0, 0))
theorem VB.keep {w w' : World} {g : Nat} {k n : Int} {b : Nat} {s : ByteArray} (h : VB w g k n b s) (hb : Below w.heap.size w w') : VB w' g k n b s := keepBlock h hb
theorem VB.new (w : World) (k n : Int) (b : Nat) (s : ByteArray) : VB (w.alloc (.cells #[.int .i64 k, .int .i64 n, .int .u64 (b : Int), .string s] 36)) w.heap.size k n b s := heap_alloc_new w _
theorem VB.cells {w : World} {g : Nat} {k n : Int} {b : Nat} {s : ByteArray} (h : VB w g k n b s) : w.cell? ⟨g, 0, none⟩ = some (.int .i64 k) ∧ w.cell? ⟨g, 1, none⟩ = some (.int .i64 n) ∧ w.cell? ⟨g, 2, none⟩ = some (.int .u64 (b : Int)) ∧ w.cell? ⟨g, 3, none⟩ = some (.string s) :=
  ⟨cell_of_row w g 0 _ _ _ h, cell_of_row w g 1 _ _ _ h, cell_of_row w g 2 _ _ _ h, cell_of_row w g 3 _ _ _ h⟩
end Go.Proofs.Ytmcneelapghfcaa

namespace Go.Proofs.Ytmcneelapghfcaa
open Go.RowKit

end Go.Proofs.Ytmcneelapghfcaa

namespace Go.Proofs.Ytmcneelapghfcaa
open Go.RowKit

/-- a key's bytes -/
def Ky.bytes (x : Cd.V) : List UInt8 := Ky.one x.k x.n x.b x.s
def Ky.of (l : List Cd.V) : List UInt8 := if Ky.right l then l.flatMap Ky.bytes ++ [0] else []
end Go.Proofs.Ytmcneelapghfcaa

namespace Go.Proofs.Ytmcneelapghfcaa
open Go.RowKit

end Go.Proofs.Ytmcneelapghfcaa

namespace Go.Proofs.Ytmcneelapghfcaa
open Go.RowKit

/-- -1, 0, 1 -/
def Ky.ints (a b : Int) : Int := if a < b then -1 else if b < a then 1 else 0
theorem ints_any (a b : Int) (w : World) : Calls Try.prog 120 #[.int .i64 a, .int .i64 b] w fun e w' => e = .returned (.int .i64 (Ky.ints a b)) ∧ w = w' := by
  unfold Ky.ints
  by_cases h : a < b
  · rw [if_pos h]
    go_enter Try.func120, Try.ntmps120
    go_wp2_with fail
    go_ret
    exact ⟨rfl, rfl⟩
  · rw [if_neg h]
    by_cases h2 : b < a
    · rw [if_pos h2]
      go_enter Try.func120, Try.ntmps120
      go_wp2_with fail
      go_ret
      exact ⟨rfl, rfl⟩
    · rw [if_neg h2]
      go_enter Try.func120, Try.ntmps120
      go_wp2_with fail
      go_ret
      exact ⟨rfl, rfl⟩
theorem order_any (a b : Int) (w : World) : Calls Try.prog 112 #[.int .i64 a, .int .i64 b] w fun e w' => e = .returned (.int .i64 (Ky.ints a b)) ∧ w = w' := by
  unfold Ky.ints
  by_cases h : a < b
  · rw [if_pos h]
    go_enter Try.func112, Try.ntmps112
    go_wp2_with fail
    go_ret
    exact ⟨rfl, rfl⟩
  · rw [if_neg h]
    by_cases h2 : b < a
    · rw [if_pos h2]
      go_enter Try.func112, Try.ntmps112
      go_wp2_with fail
      go_ret
      exact ⟨rfl, rfl⟩
    · rw [if_neg h2]
      go_enter Try.func112, Try.ntmps112
      go_wp2_with fail
      go_ret
      exact ⟨rfl, rfl⟩
/-- -1, 0, 1: which text is ahead -/
def Ky.strs (a b : ByteArray) : Int := if Op.bytesLess a.toList b.toList then -1 else if a = b then 0 else 1
theorem orders_any (a b : ByteArray) (w : World) : Calls Try.prog 115 #[.string a, .string b] w fun e w' => e = .returned (.int .i64 (Ky.strs a b)) ∧ w = w' := by
  unfold Ky.strs
  cases h : Op.bytesLess a.toList b.toList
  · have hb := bytes_beq a b
    rw [if_neg (by decide)]
    by_cases h2 : a = b
    · rw [decide_eq_true h2] at hb
      rw [if_pos h2]
      clear h2
      go_enter Try.func115, Try.ntmps115
      go_wp2_with fail
      go_ret
      exact ⟨rfl, rfl⟩
    · rw [decide_eq_false h2] at hb
      rw [if_neg h2]
      clear h2
      go_enter Try.func115, Try.ntmps115
      go_wp2_with fail
      go_ret
      exact ⟨rfl, rfl⟩
  · rw [if_pos rfl]
    go_enter Try.func115, Try.ntmps115
    go_wp2_with fail
    go_ret
    exact ⟨rfl, rfl⟩
end Go.Proofs.Ytmcneelapghfcaa

namespace Go.Proofs.Ytmcneelapghfcaa
open Go.RowKit

namespace Ky
def strL (l r : List UInt8) : Int := if Op.bytesLess l r then -1 else if l = r then 0 else 1
theorem strs_eq (a b : ByteArray) : strs a b = strL a.data.toList b.data.toList := by
  unfold strs strL
  rw [ByteArray.toList_eq, ByteArray.toList_eq]
  have h : (a = b) = (a.data.toList = b.data.toList) := by
    apply propext
    exact ⟨fun h => by rw [h], fun h => ba_eq h⟩
  simp only [h]
theorem strL_app (p l r : List UInt8) : strL (p ++ l) (p ++ r) = strL l r := by
  induction p with
  | nil => rfl
  | cons c p ih =>
    rw [← ih]
    unfold strL
    simp [Op.bytesLess]
theorem strL_at {l r : List UInt8} {k : Nat} (h1 : k < l.length) (h2 : k < r.length) (h : l.take k = r.take k) (hne : l[k] ≠ r[k]) : strL l r = if l[k] < r[k] then -1 else 1 := by
  rw [show strL l r = strL (l.take k ++ l.drop k) (r.take k ++ r.drop k) by rw [List.take_append_drop, List.take_append_drop], h, strL_app, List.drop_eq_getElem_cons h1, List.drop_eq_getElem_cons h2]
  have hx : ¬ (l[k] :: l.drop (k + 1) = r[k] :: r.drop (k + 1)) := fun e => hne (List.cons.inj e).1
  unfold strL
  rw [if_neg hx]
  unfold Op.bytesLess
  rw [beq_eq_false_iff_ne.2 hne, Bool.false_and, Bool.or_false]
  by_cases hlt : l[k] < r[k]
  · rw [if_pos hlt, decide_eq_true hlt]; rfl
  · rw [if_neg hlt, decide_eq_false hlt]; rfl
theorem strL_end {l r : List UInt8} {k : Nat} (h : l.take k = r.take k) (hk : k = l.length ∨ k = r.length) (h1 : k ≤ l.length) (h2 : k ≤ r.length) : strL l r = if l.length = r.length then 0 else if l.length < r.length then -1 else 1 := by
  rw [show strL l r = strL (l.take k ++ l.drop k) (r.take k ++ r.drop k) by rw [List.take_append_drop, List.take_append_drop], h, strL_app]
  by_cases e : l.length = r.length
  · rw [if_pos e, List.drop_of_length_le (by omega), List.drop_of_length_le (by omega)]
    unfold strL; simp [Op.bytesLess]
  · rw [if_neg e]
    by_cases e2 : l.length < r.length
    · rw [if_pos e2, List.drop_of_length_le (by omega), List.drop_eq_getElem_cons (by omega)]
      unfold strL; simp [Op.bytesLess]
    · have hkl : k < l.length := by omega
      rw [if_neg e2, List.drop_of_length_le (l := r) (by omega), List.drop_eq_getElem_cons hkl]
      unfold strL; simp [Op.bytesLess]
      exact hkl
theorem take_step {l r : List UInt8} {k : Nat} (h1 : k < l.length) (h2 : k < r.length) (h : l.take k = r.take k) (he : l[k] = r[k]) : l.take (k + 1) = r.take (k + 1) := by
  rw [take_next l k h1, take_next r k h2, h, he]
end Ky
set_option maxRecDepth 100000 in
set_option maxHeartbeats 1600000 in
theorem bytesR_any (a b : ByteArray) (ha : a.size ≤ maxLen) (hb : b.size ≤ maxLen) (w : World) : Calls Try.prog 122 #[.string a, .string b] w fun e w' => e = .returned (.int .i64 (Ky.strs a b)) ∧ Below w.heap.size w w' := by
  unfold maxLen at ha hb
  have hla : a.data.toList.length = a.size := by simp
  have hlb : b.data.toList.length = b.size := by simp
  go_enter Try.func122, Try.ntmps122
  go_wp2_with fail
  go_loopw [5] (fun i wr => ∃ k : Nat, k ≤ a.size ∧ k ≤ b.size ∧ i = .int .i64 (k : Int) ∧ Hid (a.data.toList.take k = b.data.toList.take k) ∧ Below w.heap.size w wr) (fun i _ => a.size - (intOf i).toNat)
  case atStart => exact ⟨0, by omega, by omega, rfl, rfl, Below.refl _ _⟩
  case round =>
    obtain ⟨k, hk1, hk2, rfl, htk, hbel⟩ := hrel
    have hk0 : (0 : Int) ≤ (k : Int) := by omega
    by_cases hA : k < a.size
    · have hA' : (k : Int) < a.size := by omega
      by_cases hB : k < b.size
      · have hB' : (k : Int) < b.size := by omega
        have HS := hid (Ky.take_step (l := a.data.toList) (r := b.data.toList) (by omega) (by omega) htk.out)
        have HN := hid (Ky.strL_at (l := a.data.toList) (r := b.data.toList) (by omega) (by omega) htk.out)
        rw [show a.data.toList[k]'(by omega) = a[k] from rfl, show b.data.toList[k]'(by omega) = b[k] from rfl] at HS HN
        by_cases hxy : a[k] = b[k]
        · have HT := hid (HS.out hxy)
          have e0 : ((a[k].toNat : Int) != (b[k].toNat : Int)) = false := by rw [hxy]; simp
          clear hxy HS HN
          go_wp2_with fail
          go_quiet (fail)
          go_wp2_with fail
          go_roundw
          case rel => exact ⟨k + 1, by omega, by omega, by go_num, HT, hdrewN hbel _⟩
          case measure => simp [intOf]; omega
        · have HE := hid (HN.out hxy)
          have e0 : ((a[k].toNat : Int) != (b[k].toNat : Int)) = true := by
            rw [bne_iff_ne]
            intro h
            exact hxy (UInt8.toNat_inj.1 (by omega))
          clear HS HN
          by_cases hlt : a[k] < b[k]
          · have h2 : decide (a[k].toNat < b[k].toNat) = true := decide_eq_true (UInt8.lt_iff_toNat_lt.1 hlt)
            rw [if_pos hlt] at HE
            clear hlt hxy
            go_wp2_with fail
            go_quiet (fail)
            go_wp2_with fail
            go_quiet (fail)
            go_wp2_with fail
            go_ret
            rw [Ky.strs_eq, HE.out]
            exact ⟨rfl, hdrewN (hdrewN hbel _) _⟩
          · have h2 : decide (a[k].toNat < b[k].toNat) = false := decide_eq_false (fun h => hlt (UInt8.lt_iff_toNat_lt.2 h))
            rw [if_neg hlt] at HE
            clear hlt hxy
            go_wp2_with fail
            go_quiet (fail)
            go_wp2_with fail
            go_quiet (fail)
            go_wp2_with fail
            go_ret
            rw [Ky.strs_eq, HE.out]
            exact ⟨rfl, hdrewN (hdrewN hbel _) _⟩
      · have HE := hid (Ky.strL_end (l := a.data.toList) (r := b.data.toList) htk.out (.inr (by omega)) (by omega) (by omega))
        rw [hla, hlb, if_neg (by omega), if_neg (by omega)] at HE
        have hB' : ¬ (k : Int) < b.size := by omega
        have h3 : ¬ (a.size : Int) < b.size := by omega
        have h4 : ((a.size : Int) == (b.size : Int)) = false := by rw [beq_eq_false_iff_ne]; omega
        go_wp2_with fail
        go_ret
        rw [Ky.strs_eq, HE.out]
        exact ⟨rfl, hbel⟩
    · obtain rfl : k = a.size := by omega
      have HE := hid (Ky.strL_end (l := a.data.toList) (r := b.data.toList) htk.out (.inl (by omega)) (by omega) (by omega))
      rw [hla, hlb] at HE
      by_cases h3 : (a.size : Int) = (b.size : Int)
      · have h4 : ((a.size : Int) == (b.size : Int)) = true := by rw [beq_iff_eq]; exact h3
        rw [if_pos (by omega)] at HE
        clear h3
        go_wp2_with fail
        go_ret
        rw [Ky.strs_eq, HE.out]
        exact ⟨rfl, hbel⟩
      · have h4 : ((a.size : Int) == (b.size : Int)) = false := by rw [beq_eq_false_iff_ne]; exact h3
        have h5 : (a.size : Int) < b.size := by omega
        rw [if_neg (by omega), if_pos (by omega)] at HE
        clear h3
        go_wp2_with fail
        go_ret
        rw [Ky.strs_eq, HE.out]
        exact ⟨rfl, hbel⟩
end Go.Proofs.Ytmcneelapghfcaa

namespace Go.Proofs.Ytmcneelapghfcaa
open Go.RowKit

/-- is a float below another one, by canonical bits? -/
def Ky.less (a b : Nat) : Bool :=
  if a = 9221120237041090560 ∨ b = 9221120237041090560 then decide (a ≠ 9221120237041090560) && decide (b = 9221120237041090560)
  else if a < 9223372036854775808 then (if b < 9223372036854775808 then decide (a < b) else false)
  else if b < 9223372036854775808 then true else decide (b < a)
set_option maxRecDepth 100000 in
set_option maxHeartbeats 1600000 in
theorem lessR_any (a b : Nat) (ha : a < 18446744073709551616) (hb : b < 18446744073709551616) (w : World) : Calls Try.prog 121 #[.int .u64 (a : Int), .int .u64 (b : Int)] w fun e w' => e = .returned (.bool (Ky.less a b)) ∧ w = w' := by
  have ta := and_top a ha
  have tb := and_top b hb
  by_cases ha1 : a = 9221120237041090560
  · by_cases hb1 : b = 9221120237041090560
    · have na : ((a : Int) == 9221120237041090560) = true := by rw [beq_iff_eq]; omega
      have ma : ((a : Int) != 9221120237041090560) = false := by rw [bne_eq_false_iff_eq]; omega
      have nb : ((b : Int) == 9221120237041090560) = true := by rw [beq_iff_eq]; omega
      have mb : ((b : Int) != 9221120237041090560) = false := by rw [bne_eq_false_iff_eq]; omega
      have HE : Hid (Ky.less a b = false) := by show _ = _; unfold Ky.less; rw [if_pos (by omega)]; simp; try omega
      clear ha hb
      go_enter Try.func121, Try.ntmps121
      go_wp2_with fail
      go_ret
      rw [HE.out]
      exact ⟨rfl, rfl⟩
    · by_cases hb2 : b < 9223372036854775808
      · have na : ((a : Int) == 9221120237041090560) = true := by rw [beq_iff_eq]; omega
        have ma : ((a : Int) != 9221120237041090560) = false := by rw [bne_eq_false_iff_eq]; omega
        have nb : ((b : Int) == 9221120237041090560) = false := by rw [beq_eq_false_iff_ne]; omega
        have mb : ((b : Int) != 9221120237041090560) = true := by rw [bne_iff_ne]; omega
        rw [if_pos hb2] at tb
        have HE : Hid (Ky.less a b = false) := by show _ = _; unfold Ky.less; rw [if_pos (by omega)]; simp; try omega
        clear ha hb
        go_enter Try.func121, Try.ntmps121
        go_wp2_with fail
        go_ret
        rw [HE.out]
        exact ⟨rfl, rfl⟩
      · have na : ((a : Int) == 9221120237041090560) = true := by rw [beq_iff_eq]; omega
        have ma : ((a : Int) != 9221120237041090560) = false := by rw [bne_eq_false_iff_eq]; omega
        have nb : ((b : Int) == 9221120237041090560) = false := by rw [beq_eq_false_iff_ne]; omega
        have mb : ((b : Int) != 9221120237041090560) = true := by rw [bne_iff_ne]; omega
        rw [if_neg hb2] at tb
        have HE : Hid (Ky.less a b = false) := by show _ = _; unfold Ky.less; rw [if_pos (by omega)]; simp; try omega
        clear ha hb
        go_enter Try.func121, Try.ntmps121
        go_wp2_with fail
        go_ret
        rw [HE.out]
        exact ⟨rfl, rfl⟩
  · by_cases ha2 : a < 9223372036854775808
    · by_cases hb1 : b = 9221120237041090560
      · have na : ((a : Int) == 9221120237041090560) = false := by rw [beq_eq_false_iff_ne]; omega
        have ma : ((a : Int) != 9221120237041090560) = true := by rw [bne_iff_ne]; omega
        rw [if_pos ha2] at ta
        have nb : ((b : Int) == 9221120237041090560) = true := by rw [beq_iff_eq]; omega
        have mb : ((b : Int) != 9221120237041090560) = false := by rw [bne_eq_false_iff_eq]; omega
        have HE : Hid (Ky.less a b = true) := by show _ = _; unfold Ky.less; rw [if_pos (by omega)]; simp; try omega
        clear ha hb
        go_enter Try.func121, Try.ntmps121
        go_wp2_with fail
        go_ret
        rw [HE.out]
        exact ⟨rfl, rfl⟩
      · by_cases hb2 : b < 9223372036854775808
        · have na : ((a : Int) == 9221120237041090560) = false := by rw [beq_eq_false_iff_ne]; omega
          have ma : ((a : Int) != 9221120237041090560) = true := by rw [bne_iff_ne]; omega
          rw [if_pos ha2] at ta
          have nb : ((b : Int) == 9221120237041090560) = false := by rw [beq_eq_false_iff_ne]; omega
          have mb : ((b : Int) != 9221120237041090560) = true := by rw [bne_iff_ne]; omega
          rw [if_pos hb2] at tb
          have HE : Hid (Ky.less a b = decide (a < b)) := by show _ = _; unfold Ky.less; rw [if_neg (by omega)]; rw [if_pos ha2, if_pos hb2]
          go_enter Try.func121, Try.ntmps121
          go_wp2_with fail
          go_ret
          rw [HE.out]
          exact ⟨rfl, rfl⟩
        · have na : ((a : Int) == 9221120237041090560) = false := by rw [beq_eq_false_iff_ne]; omega
          have ma : ((a : Int) != 9221120237041090560) = true := by rw [bne_iff_ne]; omega
          rw [if_pos ha2] at ta
          have nb : ((b : Int) == 9221120237041090560) = false := by rw [beq_eq_false_iff_ne]; omega
          have mb : ((b : Int) != 9221120237041090560) = true := by rw [bne_iff_ne]; omega
          rw [if_neg hb2] at tb
          have HE : Hid (Ky.less a b = false) := by show _ = _; unfold Ky.less; rw [if_neg (by omega)]; rw [if_pos ha2, if_neg hb2]
          go_enter Try.func121, Try.ntmps121
          go_wp2_with fail
          go_ret
          rw [HE.out]
          exact ⟨rfl, rfl⟩
    · by_cases hb1 : b = 9221120237041090560
      · have na : ((a : Int) == 9221120237041090560) = false := by rw [beq_eq_false_iff_ne]; omega
        have ma : ((a : Int) != 9221120237041090560) = true := by rw [bne_iff_ne]; omega
        rw [if_neg ha2] at ta
        have nb : ((b : Int) == 9221120237041090560) = true := by rw [beq_iff_eq]; omega
        have mb : ((b : Int) != 9221120237041090560) = false := by rw [bne_eq_false_iff_eq]; omega
        have HE : Hid (Ky.less a b = true) := by show _ = _; unfold Ky.less; rw [if_pos (by omega)]; simp; try omega
        clear ha hb
        go_enter Try.func121, Try.ntmps121
        go_wp2_with fail
        go_ret
        rw [HE.out]
        exact ⟨rfl, rfl⟩
      · by_cases hb2 : b < 9223372036854775808
        · have na : ((a : Int) == 9221120237041090560) = false := by rw [beq_eq_false_iff_ne]; omega
          have ma : ((a : Int) != 9221120237041090560) = true := by rw [bne_iff_ne]; omega
          rw [if_neg ha2] at ta
          have nb : ((b : Int) == 9221120237041090560) = false := by rw [beq_eq_false_iff_ne]; omega
          have mb : ((b : Int) != 9221120237041090560) = true := by rw [bne_iff_ne]; omega
          rw [if_pos hb2] at tb
          have HE : Hid (Ky.less a b = true) := by show _ = _; unfold Ky.less; rw [if_neg (by omega)]; rw [if_neg ha2, if_pos hb2]
          go_enter Try.func121, Try.ntmps121
          go_wp2_with fail
          go_ret
          rw [HE.out]
          exact ⟨rfl, rfl⟩
        · have na : ((a : Int) == 9221120237041090560) = false := by rw [beq_eq_false_iff_ne]; omega
          have ma : ((a : Int) != 9221120237041090560) = true := by rw [bne_iff_ne]; omega
          rw [if_neg ha2] at ta
          have nb : ((b : Int) == 9221120237041090560) = false := by rw [beq_eq_false_iff_ne]; omega
          have mb : ((b : Int) != 9221120237041090560) = true := by rw [bne_iff_ne]; omega
          rw [if_neg hb2] at tb
          have HE : Hid (Ky.less a b = decide (b < a)) := by show _ = _; unfold Ky.less; rw [if_neg (by omega)]; rw [if_neg ha2, if_neg hb2]
          go_enter Try.func121, Try.ntmps121
          go_wp2_with fail
          go_ret
          rw [HE.out]
          exact ⟨rfl, rfl⟩
end Go.Proofs.Ytmcneelapghfcaa

namespace Go.Proofs.Ytmcneelapghfcaa
open Go.RowKit

/-- -1, 0, 1 by the floats' order -/
def Ky.fl (a b : Nat) : Int := match FloatKind.f64.format.order a b with | some .lt => -1 | some .gt => 1 | _ => 0
theorem orderf_any (a b : Nat) (w : World) : Calls Try.prog 119 #[.float .f64 a, .float .f64 b] w fun e w' => e = .returned (.int .i64 (Ky.fl a b)) ∧ w = w' := by
  unfold Ky.fl
  cases h : FloatKind.f64.format.order a b with
  | none =>
    go_enter Try.func119, Try.ntmps119
    go_wp2_with fail
    go_ret
    exact ⟨rfl, rfl⟩
  | some o =>
    cases o with
    | lt =>
      go_enter Try.func119, Try.ntmps119
      go_wp2_with fail
      go_ret
      exact ⟨rfl, rfl⟩
    | eq =>
      go_enter Try.func119, Try.ntmps119
      go_wp2_with fail
      go_ret
      exact ⟨rfl, rfl⟩
    | gt =>
      go_enter Try.func119, Try.ntmps119
      go_wp2_with fail
      go_ret
      exact ⟨rfl, rfl⟩
theorem none_any (b : Nat) (w : World) : Calls Try.prog 118 #[.float .f64 b] w fun e w' => e = .returned (.int .i64 (if Va.INF < b % Va.SIGN then 1 else 0)) ∧ w = w' := by
  have hn := hid (fun W => isnan_any b W)
  by_cases h : Va.INF < b % Va.SIGN
  · rw [if_pos h]
    rw [decide_eq_true h] at hn
    clear h
    go_enter Try.func118, Try.ntmps118
    go_wp2_with fail
    refine (hn.out _).mono ?_; rintro e w1 ⟨rfl, rfl⟩
    go_wp2_with fail
    go_ret
    exact ⟨rfl, rfl⟩
  · rw [if_neg h]
    rw [decide_eq_false h] at hn
    clear h
    go_enter Try.func118, Try.ntmps118
    go_wp2_with fail
    refine (hn.out _).mono ?_; rintro e w1 ⟨rfl, rfl⟩
    go_wp2_with fail
    go_ret
    exact ⟨rfl, rfl⟩
end Go.Proofs.Ytmcneelapghfcaa

namespace Go.Proofs.Ytmcneelapghfcaa
open Go.RowKit

/-- is it no number? -/
def Ky.nan (b : Nat) : Int := if Va.INF < b % Va.SIGN then 1 else 0
/-- -1, 0, 1: what is no number is behind all -/
def Ky.floats (a b : Nat) : Int := if Ky.ints (Ky.nan a) (Ky.nan b) = 0 then Ky.fl a b else Ky.ints (Ky.nan a) (Ky.nan b)
theorem floats_any (a b : Nat) (w : World) : Calls Try.prog 113 #[.float .f64 a, .float .f64 b] w fun e w' => e = .returned (.int .i64 (Ky.floats a b)) ∧ w = w' := by
  have c1 : Hid (∀ W, Calls Try.prog 118 #[.float .f64 a] W fun e w' => e = .returned (.int .i64 (Ky.nan a)) ∧ W = w') := fun W => none_any a W
  have c2 : Hid (∀ W, Calls Try.prog 118 #[.float .f64 b] W fun e w' => e = .returned (.int .i64 (Ky.nan b)) ∧ W = w') := fun W => none_any b W
  have c3 := hid (fun W => order_any (Ky.nan a) (Ky.nan b) W)
  have c4 := hid (fun W => orderf_any a b W)
  unfold Ky.floats
  generalize Ky.ints (Ky.nan a) (Ky.nan b) = r at c3 ⊢
  generalize Ky.nan a = na at c1 c3
  generalize Ky.nan b = nb at c2 c3
  by_cases h : r = 0
  · rw [if_pos h]
    subst h
    go_enter Try.func113, Try.ntmps113
    go_wp2_with fail
    refine (c1.out _).mono ?_; rintro e w1 ⟨rfl, rfl⟩
    go_wp2_with fail
    refine (c2.out _).mono ?_; rintro e w1 ⟨rfl, rfl⟩
    go_wp2_with fail
    refine (c3.out _).mono ?_; rintro e w1 ⟨rfl, rfl⟩
    go_wp2_with fail
    refine (c4.out _).mono ?_; rintro e w1 ⟨rfl, rfl⟩
    go_wp2_with fail
    go_ret
    exact ⟨rfl, rfl⟩
  · rw [if_neg h]
    have e0 : (r != 0) = true := by rw [bne_iff_ne]; exact h
    clear h
    go_enter Try.func113, Try.ntmps113
    go_wp2_with fail
    refine (c1.out _).mono ?_; rintro e w1 ⟨rfl, rfl⟩
    go_wp2_with fail
    refine (c2.out _).mono ?_; rintro e w1 ⟨rfl, rfl⟩
    go_wp2_with fail
    refine (c3.out _).mono ?_; rintro e w1 ⟨rfl, rfl⟩
    go_wp2_with fail
    go_ret
    exact ⟨rfl, rfl⟩
/-- a right Float's number -/
theorem asfloat_any (n : Int) (b : Nat) (s : ByteArray) (hs : s.size ≤ maxLen) (hr : Va.right 3 n b s = true) (w : World) : Calls Try.prog 114 #[vv 3 n b s] w fun e w' => e = .returned (.float .f64 b) ∧ Below w.heap.size w w' := by
  have hR0 := fun W => right_any 3 n b s hs W
  rw [hr] at hR0
  have hf := run_frombits b
  have LB := hid (hba w (.cells #[.int .i64 3, .int .i64 n, .int .u64 (b : Int), .string s] 36))
  have V0 := hid (VB.new w 3 n b s)
  unfold vv at hR0 ⊢
  have hR := hid hR0
  obtain ⟨q0, q1, q2, q3⟩ := V0.out.cells
  clear hR0 hr
  go_enter Try.func114, Try.ntmps114
  go_wp2_with fail
  refine (hR.out _).mono ?_; rintro e w1 ⟨rfl, b1⟩
  obtain ⟨p0, p1, p2, p3⟩ := (V0.out.keep b1).cells
  go_wp2_with fail
  go_ret
  exact ⟨rfl, hnext LB.out b1⟩
end Go.Proofs.Ytmcneelapghfcaa

namespace Go.Proofs.Ytmcneelapghfcaa
open Go.RowKit

/-- which value is ahead -/
def Ky.cmp (x y : Cd.V) : Int :=
  if x.right = false then 0 else if y.right = false then 0 else if x.k = y.k then (if x.k = 3 then Ky.floats x.b y.b else if x.s = y.s then Ky.ints x.n y.n else Ky.strs x.s y.s) else Ky.ints x.k y.k
set_option maxRecDepth 100000 in
set_option maxHeartbeats 3200000 in
theorem compare_any (x y : Cd.V) (hx : x.s.size ≤ maxLen) (hy : y.s.size ≤ maxLen) (w : World) : Calls Try.prog 99 #[vv x.k x.n x.b x.s, vv y.k y.n y.b y.s] w fun e w' => e = .returned (.int .i64 (Ky.cmp x y)) ∧ Below w.heap.size w w' := by
  obtain ⟨xk, xn, xb, xs⟩ := x
  obtain ⟨yk, yn, yb, ys⟩ := y
  simp only at hx hy ⊢
  have rx0 := fun W => right_any xk xn xb xs hx W
  have ry0 := fun W => right_any yk yn yb ys hy W
  have X0 : Hid (VB ((w.alloc (.cells #[.int .i64 xk, .int .i64 xn, .int .u64 (xb : Int), .string xs] 36)).alloc (.cells #[.int .i64 yk, .int .i64 yn, .int .u64 (yb : Int), .string ys] 36)) w.heap.size xk xn xb xs) := (VB.new w xk xn xb xs).keep (hba _ _)
  have Y0 : Hid (VB ((w.alloc (.cells #[.int .i64 xk, .int .i64 xn, .int .u64 (xb : Int), .string xs] 36)).alloc (.cells #[.int .i64 yk, .int .i64 yn, .int .u64 (yb : Int), .string ys] 36)) (w.heap.size + 1) yk yn yb ys) := by
    have h := VB.new (w.alloc (.cells #[.int .i64 xk, .int .i64 xn, .int .u64 (xb : Int), .string xs] 36)) yk yn yb ys
    rw [show (w.alloc (.cells #[.int .i64 xk, .int .i64 xn, .int .u64 (xb : Int), .string xs] 36)).heap.size = w.heap.size + 1 by simp] at h
    exact h
  have L0 := hid (hnext (hba w (.cells #[.int .i64 xk, .int .i64 xn, .int .u64 (xb : Int), .string xs] 36)) (hba _ (.cells #[.int .i64 yk, .int .i64 yn, .int .u64 (yb : Int), .string ys] 36)))
  obtain ⟨q0, q1, q2, q3⟩ := X0.out.cells
  obtain ⟨p0, p1, p2, p3⟩ := Y0.out.cells
  cases hrx : Va.right xk xn xb xs
  · rw [hrx] at rx0
    have HE : Hid (Ky.cmp ⟨xk, xn, xb, xs⟩ ⟨yk, yn, yb, ys⟩ = 0) := if_pos hrx
    unfold vv at rx0 ⊢
    have rx := hid rx0
    clear rx0 ry0 hrx
    go_enter Try.func99, Try.ntmps99
    go_wp2_with fail
    refine (rx.out _).mono ?_; rintro e w1 ⟨rfl, b1⟩
    have L1 := hid (hnext L0.out b1)
    go_wp2_with fail
    go_ret
    rw [HE.out]
    exact ⟨rfl, L1.out⟩
  cases hry : Va.right yk yn yb ys
  · rw [hrx] at rx0
    rw [hry] at ry0
    have HE : Hid (Ky.cmp ⟨xk, xn, xb, xs⟩ ⟨yk, yn, yb, ys⟩ = 0) := by
      show _ = _
      unfold Ky.cmp Cd.V.right
      simp only [hrx, hry]
      rfl
    unfold vv at rx0 ry0 ⊢
    have rx := hid rx0
    have ry := hid ry0
    clear rx0 ry0 hrx hry
    go_enter Try.func99, Try.ntmps99
    go_wp2_with fail
    refine (rx.out _).mono ?_; rintro e w1 ⟨rfl, b1⟩
    have X1 := X0.out.keep b1
    have Y1 := Y0.out.keep b1
    have L1 := hid (hnext L0.out b1)
    clear b1
    obtain ⟨q0, q1, q2, q3⟩ := X1.cells
    obtain ⟨p0, p1, p2, p3⟩ := Y1.cells
    go_wp2_with fail
    refine (ry.out _).mono ?_; rintro e w2 ⟨rfl, b2⟩
    have L2 := hid (hnext L1.out b2)
    go_wp2_with fail
    go_ret
    rw [HE.out]
    exact ⟨rfl, L2.out⟩
  have HC : Hid (Ky.cmp ⟨xk, xn, xb, xs⟩ ⟨yk, yn, yb, ys⟩ = if xk = yk then (if xk = 3 then Ky.floats xb yb else if xs = ys then Ky.ints xn yn else Ky.strs xs ys) else Ky.ints xk yk) := by
    show _ = _
    unfold Ky.cmp Cd.V.right
    simp only [hrx, hry]
    rfl
  have hax := hid (fun (h : xk = 3) => asfloat_any xn xb xs hx (h ▸ hrx))
  have hay := hid (fun (h : yk = 3) => asfloat_any yn yb ys hy (h ▸ hry))
  rw [hrx] at rx0
  rw [hry] at ry0
  have rx := hid rx0
  have ry := hid ry0
  clear rx0 ry0 hrx hry
  by_cases hk : xk = yk
  · by_cases h3 : xk = 3
    · have HE : Hid (Ky.cmp ⟨xk, xn, xb, xs⟩ ⟨yk, yn, yb, ys⟩ = Ky.floats xb yb) := by show _ = _; rw [HC.out, if_pos hk, if_pos h3]
      subst hk
      subst h3
      have ax0 := hax.out rfl
      have ay0 := hay.out rfl
      have cf : Hid (∀ W, Calls Try.prog 113 #[.float .f64 xb, .float .f64 yb] W fun e w' => e = .returned (.int .i64 (Ky.floats xb yb)) ∧ Below W.heap.size W w') := fun W => (floats_any xb yb W).mono fun e w' ⟨h1, h2⟩ => ⟨h1, h2 ▸ Below.refl _ _⟩
      unfold vv at rx ry ax0 ay0 ⊢
      have ax := hid ax0
      have ay := hid ay0
      clear ax0 ay0 hax hay HC
      go_enter Try.func99, Try.ntmps99
      go_wp2_with fail
      refine (rx.out _).mono ?_; rintro e w1 ⟨rfl, b1⟩
      have X1 := X0.out.keep b1
      have Y1 := Y0.out.keep b1
      have L1 := hid (hnext L0.out b1)
      clear b1
      obtain ⟨q0, q1, q2, q3⟩ := X1.cells
      obtain ⟨p0, p1, p2, p3⟩ := Y1.cells
      go_wp2_with fail
      refine (ry.out _).mono ?_; rintro e w2 ⟨rfl, b2⟩
      have X2 := X1.keep b2
      have Y2 := Y1.keep b2
      have L2 := hid (hnext L1.out b2)
      clear b2 X1 Y1 q0 q1 q2 q3 p0 p1 p2 p3
      obtain ⟨q0, q1, q2, q3⟩ := X2.cells
      obtain ⟨p0, p1, p2, p3⟩ := Y2.cells
      go_wp2_with fail
      obtain ⟨w20, hw20⟩ : ∃ w20, (w2).drew = w20 := ⟨_, rfl⟩
      have hd20 : Below (w2).heap.size (w2) w20 := hw20 ▸ (Below.refl _ _).drew
      have mk20 : ∀ W, Below w20.heap.size w20 W → Below w20.heap.size w20 W ∧ W.cell? ⟨w.heap.size, 0, none⟩ = some (.int .i64 3) ∧ W.cell? ⟨w.heap.size, 1, none⟩ = some (.int .i64 xn) ∧ W.cell? ⟨w.heap.size, 2, none⟩ = some (.int .u64 (xb : Int)) ∧ W.cell? ⟨w.heap.size, 3, none⟩ = some (.string xs) ∧ W.cell? ⟨w.heap.size + 1, 0, none⟩ = some (.int .i64 3) ∧ W.cell? ⟨w.heap.size + 1, 1, none⟩ = some (.int .i64 yn) ∧ W.cell? ⟨w.heap.size + 1, 2, none⟩ = some (.int .u64 (yb : Int)) ∧ W.cell? ⟨w.heap.size + 1, 3, none⟩ = some (.string ys) := fun W h => ⟨h, hkeep (hkeep q0 hd20) h, hkeep (hkeep q1 hd20) h, hkeep (hkeep q2 hd20) h, hkeep (hkeep q3 hd20) h, hkeep (hkeep p0 hd20) h, hkeep (hkeep p1 hd20) h, hkeep (hkeep p2 hd20) h, hkeep (hkeep p3 hd20) h⟩
      refine wp_region_held_drew (S := (fun W => Below w20.heap.size w20 W ∧ W.cell? ⟨w.heap.size, 0, none⟩ = some (.int .i64 3) ∧ W.cell? ⟨w.heap.size, 1, none⟩ = some (.int .i64 xn) ∧ W.cell? ⟨w.heap.size, 2, none⟩ = some (.int .u64 (xb : Int)) ∧ W.cell? ⟨w.heap.size, 3, none⟩ = some (.string xs) ∧ W.cell? ⟨w.heap.size + 1, 0, none⟩ = some (.int .i64 3) ∧ W.cell? ⟨w.heap.size + 1, 1, none⟩ = some (.int .i64 yn) ∧ W.cell? ⟨w.heap.size + 1, 2, none⟩ = some (.int .u64 (yb : Int)) ∧ W.cell? ⟨w.heap.size + 1, 3, none⟩ = some (.string ys))) (by kernel_rfl) (by rw [hw20]; exact mk20 _ (Below.refl _ _)) (fun hS20 => ?_)
      rw [hw20] at hS20 ⊢
      clear hw20
      refine wT 0 hS20 ?_
      refine wT 2 hS20 ?_
      refine wpAnyH_ready (rs := [1]) (by kernel_rfl) (by simp) ?_
      refine wC (fun K hK => ?_) AllReadyH.nil
      go_simp
      refine (ax.out _).mono ?_; rintro e w21 ⟨rfl, hb21⟩
      go_wp2_with fail
      refine hK.out _ _ (mk20 _ (hnext hS20.1 hb21)) (fun hS21 => ?_)
      clear hK K
      (try simp only [Act.put, List.setIfInBounds_toArray, List.set_cons_zero, List.set_cons_succ])
      clear hb21 hS20
      refine wpAnyH_ready (rs := [3]) (by kernel_rfl) (by simp) ?_
      refine wC (fun K hK => ?_) AllReadyH.nil
      go_simp
      refine (ay.out _).mono ?_; rintro e w22 ⟨rfl, hb22⟩
      go_wp2_with fail
      refine hK.out _ _ (mk20 _ (hnext hS21.1 hb22)) (fun hS22 => ?_)
      clear hK K
      (try simp only [Act.put, List.setIfInBounds_toArray, List.set_cons_zero, List.set_cons_succ])
      clear hb22 hS21
      refine wpAnyH_ready (rs := [4]) (by kernel_rfl) (by simp) ?_
      refine wC (fun K hK => ?_) AllReadyH.nil
      go_simp
      refine (cf.out _).mono ?_; rintro e w23 ⟨rfl, hb23⟩
      go_wp2_with fail
      refine hK.out _ _ (mk20 _ (hnext hS22.1 hb23)) (fun hS23 => ?_)
      clear hK K
      (try simp only [Act.put, List.setIfInBounds_toArray, List.set_cons_zero, List.set_cons_succ])
      clear hb23 hS22
      refine wT 5 hS23 ?_
      refine wpAnyH_done (by kernel_rfl) ?_ _
      go_wp2_with fail
      go_ret
      rw [HE.out]
      exact ⟨rfl, hnext (hnext L2.out hd20) hS23.1⟩
    · have e3 : (xk == 3) = false := by rw [beq_eq_false_iff_ne]; exact h3
      have ek : (xk != yk) = false := by rw [bne_eq_false_iff_eq]; exact hk
      have hse := bytes_beq xs ys
      by_cases hs : xs = ys
      · have HE : Hid (Ky.cmp ⟨xk, xn, xb, xs⟩ ⟨yk, yn, yb, ys⟩ = Ky.ints xn yn) := by show _ = _; rw [HC.out, if_pos hk, if_neg h3, if_pos hs]
        rw [decide_eq_true hs] at hse
        have co := hid (fun W => order_any xn yn W)
        unfold vv at rx ry ⊢
        clear hax hay HC hs h3 hk
        go_enter Try.func99, Try.ntmps99
        go_wp2_with fail
        refine (rx.out _).mono ?_; rintro e w1 ⟨rfl, b1⟩
        have X1 := X0.out.keep b1
        have Y1 := Y0.out.keep b1
        have L1 := hid (hnext L0.out b1)
        clear b1
        obtain ⟨q0, q1, q2, q3⟩ := X1.cells
        obtain ⟨p0, p1, p2, p3⟩ := Y1.cells
        go_wp2_with fail
        refine (ry.out _).mono ?_; rintro e w2 ⟨rfl, b2⟩
        have X2 := X1.keep b2
        have Y2 := Y1.keep b2
        have L2 := hid (hnext L1.out b2)
        clear b2 X1 Y1 q0 q1 q2 q3 p0 p1 p2 p3
        obtain ⟨q0, q1, q2, q3⟩ := X2.cells
        obtain ⟨p0, p1, p2, p3⟩ := Y2.cells
        go_wp2_with fail
        refine (co.out _).mono ?_; rintro e w3 ⟨rfl, rfl⟩
        go_wp2_with fail
        go_ret
        rw [HE.out]
        exact ⟨rfl, L2.out⟩
      · have HE : Hid (Ky.cmp ⟨xk, xn, xb, xs⟩ ⟨yk, yn, yb, ys⟩ = Ky.strs xs ys) := by show _ = _; rw [HC.out, if_pos hk, if_neg h3, if_neg hs]
        rw [decide_eq_false hs] at hse
        have co := hid (fun W => orders_any xs ys W)
        unfold vv at rx ry ⊢
        clear hax hay HC hs h3 hk
        go_enter Try.func99, Try.ntmps99
        go_wp2_with fail
        refine (rx.out _).mono ?_; rintro e w1 ⟨rfl, b1⟩
        have X1 := X0.out.keep b1
        have Y1 := Y0.out.keep b1
        have L1 := hid (hnext L0.out b1)
        clear b1
        obtain ⟨q0, q1, q2, q3⟩ := X1.cells
        obtain ⟨p0, p1, p2, p3⟩ := Y1.cells
        go_wp2_with fail
        refine (ry.out _).mono ?_; rintro e w2 ⟨rfl, b2⟩
        have X2 := X1.keep b2
        have Y2 := Y1.keep b2
        have L2 := hid (hnext L1.out b2)
        clear b2 X1 Y1 q0 q1 q2 q3 p0 p1 p2 p3
        obtain ⟨q0, q1, q2, q3⟩ := X2.cells
        obtain ⟨p0, p1, p2, p3⟩ := Y2.cells
        go_wp2_with fail
        refine (co.out _).mono ?_; rintro e w3 ⟨rfl, rfl⟩
        go_wp2_with fail
        go_ret
        rw [HE.out]
        exact ⟨rfl, L2.out⟩
  · have ek : (xk != yk) = true := by rw [bne_iff_ne]; exact hk
    have HE : Hid (Ky.cmp ⟨xk, xn, xb, xs⟩ ⟨yk, yn, yb, ys⟩ = Ky.ints xk yk) := by show _ = _; rw [HC.out, if_neg hk]
    have co := hid (fun W => order_any xk yk W)
    unfold vv at rx ry ⊢
    clear hax hay HC hk
    go_enter Try.func99, Try.ntmps99
    go_wp2_with fail
    refine (rx.out _).mono ?_; rintro e w1 ⟨rfl, b1⟩
    have X1 := X0.out.keep b1
    have Y1 := Y0.out.keep b1
    have L1 := hid (hnext L0.out b1)
    clear b1
    obtain ⟨q0, q1, q2, q3⟩ := X1.cells
    obtain ⟨p0, p1, p2, p3⟩ := Y1.cells
    go_wp2_with fail
    refine (ry.out _).mono ?_; rintro e w2 ⟨rfl, b2⟩
    have X2 := X1.keep b2
    have Y2 := Y1.keep b2
    have L2 := hid (hnext L1.out b2)
    clear b2 X1 Y1 q0 q1 q2 q3 p0 p1 p2 p3
    obtain ⟨q0, q1, q2, q3⟩ := X2.cells
    obtain ⟨p0, p1, p2, p3⟩ := Y2.cells
    go_wp2_with fail
    refine (co.out _).mono ?_; rintro e w3 ⟨rfl, rfl⟩
    go_wp2_with fail
    go_ret
    rw [HE.out]
    exact ⟨rfl, L2.out⟩
end Go.Proofs.Ytmcneelapghfcaa

namespace Go.Proofs.Ytmcneelapghfcaa
open Go.RowKit

/-- which value is ahead, as the reference says it -/
def Ky.lessI (a b : Nat) : Int := if Ky.less a b then -1 else if Ky.less b a then 1 else 0
def Ky.cmpR (x y : Cd.V) : Int :=
  if x.right = false then 0 else if y.right = false then 0 else if x.k = y.k then (if x.k = 3 then Ky.lessI x.b y.b else if x.k = 4 ∨ x.k = 5 then Ky.strs x.s y.s else Ky.ints x.n y.n) else Ky.ints x.k y.k
set_option maxRecDepth 100000 in
set_option maxHeartbeats 3200000 in
theorem compareR_any (x y : Cd.V) (hx : x.s.size ≤ maxLen) (hy : y.s.size ≤ maxLen) (hxb : x.b < 18446744073709551616) (hyb : y.b < 18446744073709551616) (w : World) : Calls Try.prog 117 #[vv x.k x.n x.b x.s, vv y.k y.n y.b y.s] w fun e w' => e = .returned (.int .i64 (Ky.cmpR x y)) ∧ Below w.heap.size w w' := by
  obtain ⟨xk, xn, xb, xs⟩ := x
  obtain ⟨yk, yn, yb, ys⟩ := y
  simp only at hx hy hxb hyb ⊢
  have rx0 := fun W => rightR_any xk xn xb xs hx hxb W
  have ry0 := fun W => rightR_any yk yn yb ys hy hyb W
  have X0 : Hid (VB ((w.alloc (.cells #[.int .i64 xk, .int .i64 xn, .int .u64 (xb : Int), .string xs] 36)).alloc (.cells #[.int .i64 yk, .int .i64 yn, .int .u64 (yb : Int), .string ys] 36)) w.heap.size xk xn xb xs) := (VB.new w xk xn xb xs).keep (hba _ _)
  have Y0 : Hid (VB ((w.alloc (.cells #[.int .i64 xk, .int .i64 xn, .int .u64 (xb : Int), .string xs] 36)).alloc (.cells #[.int .i64 yk, .int .i64 yn, .int .u64 (yb : Int), .string ys] 36)) (w.heap.size + 1) yk yn yb ys) := by
    have h := VB.new (w.alloc (.cells #[.int .i64 xk, .int .i64 xn, .int .u64 (xb : Int), .string xs] 36)) yk yn yb ys
    rw [show (w.alloc (.cells #[.int .i64 xk, .int .i64 xn, .int .u64 (xb : Int), .string xs] 36)).heap.size = w.heap.size + 1 by simp] at h
    exact h
  have L0 := hid (hnext (hba w (.cells #[.int .i64 xk, .int .i64 xn, .int .u64 (xb : Int), .string xs] 36)) (hba _ (.cells #[.int .i64 yk, .int .i64 yn, .int .u64 (yb : Int), .string ys] 36)))
  obtain ⟨q0, q1, q2, q3⟩ := X0.out.cells
  obtain ⟨p0, p1, p2, p3⟩ := Y0.out.cells
  cases hrx : Va.right xk xn xb xs
  · rw [hrx] at rx0
    have HE : Hid (Ky.cmpR ⟨xk, xn, xb, xs⟩ ⟨yk, yn, yb, ys⟩ = 0) := if_pos hrx
    unfold vv at rx0 ⊢
    have rx := hid rx0
    clear rx0 ry0 hrx
    go_enter Try.func117, Try.ntmps117
    go_wp2_with fail
    refine (rx.out _).mono ?_; rintro e w1 ⟨rfl, b1⟩
    have L1 := hid (hnext L0.out b1)
    go_wp2_with fail
    go_ret
    rw [HE.out]
    exact ⟨rfl, L1.out⟩
  cases hry : Va.right yk yn yb ys
  · rw [hrx] at rx0
    rw [hry] at ry0
    have HE : Hid (Ky.cmpR ⟨xk, xn, xb, xs⟩ ⟨yk, yn, yb, ys⟩ = 0) := by
      show _ = _
      unfold Ky.cmpR Cd.V.right
      simp only [hrx, hry]
      rfl
    unfold vv at rx0 ry0 ⊢
    have rx := hid rx0
    have ry := hid ry0
    clear rx0 ry0 hrx hry
    go_enter Try.func117, Try.ntmps117
    go_wp2_with fail
    refine (rx.out _).mono ?_; rintro e w1 ⟨rfl, b1⟩
    have X1 := X0.out.keep b1
    have Y1 := Y0.out.keep b1
    have L1 := hid (hnext L0.out b1)
    clear b1
    obtain ⟨q0, q1, q2, q3⟩ := X1.cells
    obtain ⟨p0, p1, p2, p3⟩ := Y1.cells
    go_wp2_with fail
    refine (ry.out _).mono ?_; rintro e w2 ⟨rfl, b2⟩
    have L2 := hid (hnext L1.out b2)
    go_wp2_with fail
    go_ret
    rw [HE.out]
    exact ⟨rfl, L2.out⟩
  have HC : Hid (Ky.cmpR ⟨xk, xn, xb, xs⟩ ⟨yk, yn, yb, ys⟩ = if xk = yk then (if xk = 3 then Ky.lessI xb yb else if xk = 4 ∨ xk = 5 then Ky.strs xs ys else Ky.ints xn yn) else Ky.ints xk yk) := by
    show _ = _
    unfold Ky.cmpR Cd.V.right
    simp only [hrx, hry]
    rfl
  rw [hrx] at rx0
  rw [hry] at ry0
  have rx := hid rx0
  have ry := hid ry0
  clear rx0 ry0 hrx hry
  by_cases hk : xk = yk
  · have ek : (xk != yk) = false := by rw [bne_eq_false_iff_eq]; exact hk
    by_cases h3 : xk = 3
    · have HE0 : Hid (Ky.cmpR ⟨xk, xn, xb, xs⟩ ⟨yk, yn, yb, ys⟩ = Ky.lessI xb yb) := by show _ = _; rw [HC.out, if_pos hk, if_pos h3]
      have e3 : (xk == 3) = true := by rw [beq_iff_eq]; exact h3
      have la := hid (fun W => lessR_any xb yb hxb hyb W)
      have lb := hid (fun W => lessR_any yb xb hyb hxb W)
      unfold Ky.lessI at HE0
      unfold vv at rx ry ⊢
      clear HC h3 hk
      generalize Ky.less xb yb = p at HE0 la
      generalize Ky.less yb xb = q at HE0 lb
      cases p
      · cases q
        · have HE : Hid (Ky.cmpR ⟨xk, xn, xb, xs⟩ ⟨yk, yn, yb, ys⟩ = 0) := HE0.out
          go_enter Try.func117, Try.ntmps117
          go_wp2_with fail
          refine (rx.out _).mono ?_; rintro e w1 ⟨rfl, b1⟩
          have X1 := X0.out.keep b1
          have Y1 := Y0.out.keep b1
          have L1 := hid (hnext L0.out b1)
          clear b1
          obtain ⟨q0, q1, q2, q3⟩ := X1.cells
          obtain ⟨p0, p1, p2, p3⟩ := Y1.cells
          go_wp2_with fail
          refine (ry.out _).mono ?_; rintro e w2 ⟨rfl, b2⟩
          have X2 := X1.keep b2
          have Y2 := Y1.keep b2
          have L2 := hid (hnext L1.out b2)
          clear b2 X1 Y1 q0 q1 q2 q3 p0 p1 p2 p3
          obtain ⟨q0, q1, q2, q3⟩ := X2.cells
          obtain ⟨p0, p1, p2, p3⟩ := Y2.cells
          go_wp2_with fail
          refine (la.out _).mono ?_; rintro e w3 ⟨rfl, rfl⟩
          go_wp2_with fail
          refine (lb.out _).mono ?_; rintro e w3 ⟨rfl, rfl⟩
          go_wp2_with fail
          go_ret
          rw [HE.out]
          exact ⟨rfl, L2.out⟩
        · have HE : Hid (Ky.cmpR ⟨xk, xn, xb, xs⟩ ⟨yk, yn, yb, ys⟩ = 1) := HE0.out
          go_enter Try.func117, Try.ntmps117
          go_wp2_with fail
          refine (rx.out _).mono ?_; rintro e w1 ⟨rfl, b1⟩
          have X1 := X0.out.keep b1
          have Y1 := Y0.out.keep b1
          have L1 := hid (hnext L0.out b1)
          clear b1
          obtain ⟨q0, q1, q2, q3⟩ := X1.cells
          obtain ⟨p0, p1, p2, p3⟩ := Y1.cells
          go_wp2_with fail
          refine (ry.out _).mono ?_; rintro e w2 ⟨rfl, b2⟩
          have X2 := X1.keep b2
          have Y2 := Y1.keep b2
          have L2 := hid (hnext L1.out b2)
          clear b2 X1 Y1 q0 q1 q2 q3 p0 p1 p2 p3
          obtain ⟨q0, q1, q2, q3⟩ := X2.cells
          obtain ⟨p0, p1, p2, p3⟩ := Y2.cells
          go_wp2_with fail
          refine (la.out _).mono ?_; rintro e w3 ⟨rfl, rfl⟩
          go_wp2_with fail
          refine (lb.out _).mono ?_; rintro e w3 ⟨rfl, rfl⟩
          go_wp2_with fail
          go_ret
          rw [HE.out]
          exact ⟨rfl, L2.out⟩
      · have HE : Hid (Ky.cmpR ⟨xk, xn, xb, xs⟩ ⟨yk, yn, yb, ys⟩ = -1) := HE0.out
        go_enter Try.func117, Try.ntmps117
        go_wp2_with fail
        refine (rx.out _).mono ?_; rintro e w1 ⟨rfl, b1⟩
        have X1 := X0.out.keep b1
        have Y1 := Y0.out.keep b1
        have L1 := hid (hnext L0.out b1)
        clear b1
        obtain ⟨q0, q1, q2, q3⟩ := X1.cells
        obtain ⟨p0, p1, p2, p3⟩ := Y1.cells
        go_wp2_with fail
        refine (ry.out _).mono ?_; rintro e w2 ⟨rfl, b2⟩
        have X2 := X1.keep b2
        have Y2 := Y1.keep b2
        have L2 := hid (hnext L1.out b2)
        clear b2 X1 Y1 q0 q1 q2 q3 p0 p1 p2 p3
        obtain ⟨q0, q1, q2, q3⟩ := X2.cells
        obtain ⟨p0, p1, p2, p3⟩ := Y2.cells
        go_wp2_with fail
        refine (la.out _).mono ?_; rintro e w3 ⟨rfl, rfl⟩
        go_wp2_with fail
        go_ret
        rw [HE.out]
        exact ⟨rfl, L2.out⟩
    · have e3 : (xk == 3) = false := by rw [beq_eq_false_iff_ne]; exact h3
      by_cases h4 : xk = 4
      · have HE : Hid (Ky.cmpR ⟨xk, xn, xb, xs⟩ ⟨yk, yn, yb, ys⟩ = Ky.strs xs ys) := by show _ = _; rw [HC.out, if_pos hk, if_neg h3, if_pos (.inl h4)]
        have e4 : (xk == 4) = true := by rw [beq_iff_eq]; exact h4
        have co := hid (fun W => bytesR_any xs ys hx hy W)
        unfold vv at rx ry ⊢
        clear HC h3 hk h4
        go_enter Try.func117, Try.ntmps117
        go_wp2_with fail
        refine (rx.out _).mono ?_; rintro e w1 ⟨rfl, b1⟩
        have X1 := X0.out.keep b1
        have Y1 := Y0.out.keep b1
        have L1 := hid (hnext L0.out b1)
        clear b1
        obtain ⟨q0, q1, q2, q3⟩ := X1.cells
        obtain ⟨p0, p1, p2, p3⟩ := Y1.cells
        go_wp2_with fail
        refine (ry.out _).mono ?_; rintro e w2 ⟨rfl, b2⟩
        have X2 := X1.keep b2
        have Y2 := Y1.keep b2
        have L2 := hid (hnext L1.out b2)
        clear b2 X1 Y1 q0 q1 q2 q3 p0 p1 p2 p3
        obtain ⟨q0, q1, q2, q3⟩ := X2.cells
        obtain ⟨p0, p1, p2, p3⟩ := Y2.cells
        go_wp2_with fail
        refine (co.out _).mono ?_; rintro e w3 ⟨rfl, b3⟩
        go_wp2_with fail
        go_ret
        rw [HE.out]
        exact ⟨rfl, hnext L2.out b3⟩
      · have e4 : (xk == 4) = false := by rw [beq_eq_false_iff_ne]; exact h4
        by_cases h5 : xk = 5
        · have HE : Hid (Ky.cmpR ⟨xk, xn, xb, xs⟩ ⟨yk, yn, yb, ys⟩ = Ky.strs xs ys) := by show _ = _; rw [HC.out, if_pos hk, if_neg h3, if_pos (.inr h5)]
          have e5 : (xk == 5) = true := by rw [beq_iff_eq]; exact h5
          have co := hid (fun W => bytesR_any xs ys hx hy W)
          unfold vv at rx ry ⊢
          clear HC h3 hk h4 h5
          go_enter Try.func117, Try.ntmps117
          go_wp2_with fail
          refine (rx.out _).mono ?_; rintro e w1 ⟨rfl, b1⟩
          have X1 := X0.out.keep b1
          have Y1 := Y0.out.keep b1
          have L1 := hid (hnext L0.out b1)
          clear b1
          obtain ⟨q0, q1, q2, q3⟩ := X1.cells
          obtain ⟨p0, p1, p2, p3⟩ := Y1.cells
          go_wp2_with fail
          refine (ry.out _).mono ?_; rintro e w2 ⟨rfl, b2⟩
          have X2 := X1.keep b2
          have Y2 := Y1.keep b2
          have L2 := hid (hnext L1.out b2)
          clear b2 X1 Y1 q0 q1 q2 q3 p0 p1 p2 p3
          obtain ⟨q0, q1, q2, q3⟩ := X2.cells
          obtain ⟨p0, p1, p2, p3⟩ := Y2.cells
          go_wp2_with fail
          refine (co.out _).mono ?_; rintro e w3 ⟨rfl, b3⟩
          go_wp2_with fail
          go_ret
          rw [HE.out]
          exact ⟨rfl, hnext L2.out b3⟩
        · have HE : Hid (Ky.cmpR ⟨xk, xn, xb, xs⟩ ⟨yk, yn, yb, ys⟩ = Ky.ints xn yn) := by show _ = _; rw [HC.out, if_pos hk, if_neg h3, if_neg (fun h => h.elim h4 h5)]
          have e5 : (xk == 5) = false := by rw [beq_eq_false_iff_ne]; exact h5
          have co := hid (fun W => ints_any xn yn W)
          unfold vv at rx ry ⊢
          clear HC h3 hk h4 h5
          go_enter Try.func117, Try.ntmps117
          go_wp2_with fail
          refine (rx.out _).mono ?_; rintro e w1 ⟨rfl, b1⟩
          have X1 := X0.out.keep b1
          have Y1 := Y0.out.keep b1
          have L1 := hid (hnext L0.out b1)
          clear b1
          obtain ⟨q0, q1, q2, q3⟩ := X1.cells
          obtain ⟨p0, p1, p2, p3⟩ := Y1.cells
          go_wp2_with fail
          refine (ry.out _).mono ?_; rintro e w2 ⟨rfl, b2⟩
          have X2 := X1.keep b2
          have Y2 := Y1.keep b2
          have L2 := hid (hnext L1.out b2)
          clear b2 X1 Y1 q0 q1 q2 q3 p0 p1 p2 p3
          obtain ⟨q0, q1, q2, q3⟩ := X2.cells
          obtain ⟨p0, p1, p2, p3⟩ := Y2.cells
          go_wp2_with fail
          refine (co.out _).mono ?_; rintro e w3 ⟨rfl, rfl⟩
          go_wp2_with fail
          go_ret
          rw [HE.out]
          exact ⟨rfl, L2.out⟩
  · have ek : (xk != yk) = true := by rw [bne_iff_ne]; exact hk
    have HE : Hid (Ky.cmpR ⟨xk, xn, xb, xs⟩ ⟨yk, yn, yb, ys⟩ = Ky.ints xk yk) := by show _ = _; rw [HC.out, if_neg hk]
    have co := hid (fun W => ints_any xk yk W)
    unfold vv at rx ry ⊢
    clear HC hk
    go_enter Try.func117, Try.ntmps117
    go_wp2_with fail
    refine (rx.out _).mono ?_; rintro e w1 ⟨rfl, b1⟩
    have X1 := X0.out.keep b1
    have Y1 := Y0.out.keep b1
    have L1 := hid (hnext L0.out b1)
    clear b1
    obtain ⟨q0, q1, q2, q3⟩ := X1.cells
    obtain ⟨p0, p1, p2, p3⟩ := Y1.cells
    go_wp2_with fail
    refine (ry.out _).mono ?_; rintro e w2 ⟨rfl, b2⟩
    have X2 := X1.keep b2
    have Y2 := Y1.keep b2
    have L2 := hid (hnext L1.out b2)
    clear b2 X1 Y1 q0 q1 q2 q3 p0 p1 p2 p3
    obtain ⟨q0, q1, q2, q3⟩ := X2.cells
    obtain ⟨p0, p1, p2, p3⟩ := Y2.cells
    go_wp2_with fail
    refine (co.out _).mono ?_; rintro e w3 ⟨rfl, rfl⟩
    go_wp2_with fail
    go_ret
    rw [HE.out]
    exact ⟨rfl, L2.out⟩
end Go.Proofs.Ytmcneelapghfcaa

namespace Go.Proofs.Ytmcneelapghfcaa
open Go.RowKit

namespace Ky
end Ky
end Go.Proofs.Ytmcneelapghfcaa

namespace Go.Proofs.Ytmcneelapghfcaa
open Go.RowKit

namespace Ky
end Ky
end Go.Proofs.Ytmcneelapghfcaa

namespace Go.Proofs.Ytmcneelapghfcaa
open Go.RowKit

namespace Ky
end Ky
/-- what a reader has left -/
def Kr.left (w : World) (g : Nat) : Nat := (match w.cell? ⟨g, 0, none⟩ with | some (.string s) => 2 * s.size | _ => 0) + (match w.cell? ⟨g, 1, none⟩ with | some (.bool false) => 1 | _ => 0)
end Go.Proofs.Ytmcneelapghfcaa

namespace Go.Proofs.Ytmcneelapghfcaa
open Go.RowKit

namespace Ky
theorem c2 : ((2 : UInt8).toNat : Int) = 2 := rfl
end Ky
end Go.Proofs.Ytmcneelapghfcaa

namespace Go.Proofs.Ytmcneelapghfcaa
open Go.RowKit

namespace Ky
end Ky
end Go.Proofs.Ytmcneelapghfcaa

namespace Go.Proofs.Ytmcneelapghfcaa
open Go.RowKit

namespace Ky
/-- what a text may be -/
def gt : List UInt8 → List UInt8
  | [] => []
  | c :: r => if c = 0 then match r with
      | [] => [0]
      | d :: r2 => if d = 1 then [] else 0 :: gt r2
    else c :: gt r
end Ky
end Go.Proofs.Ytmcneelapghfcaa

namespace Go.Proofs.Ytmcneelapghfcaa
open Go.RowKit

namespace Ky
end Ky
theorem own_below {w w' : World} {B e size : Nat} {v : Value} {n : Nat} {xs : List Value} (h : w.ownsRow B e size v n xs) (hb : Below w.heap.size w w') : w'.ownsRow B e size v n xs :=
  h.kept (Upd.of hb (g := w.heap.size)) (Or.inr (fun e => by have := (h.lt _ e).2; omega))

end Go.Proofs.Ytmcneelapghfcaa

namespace Go.Proofs.Ytmcneelapghfcaa
open Go.RowKit

namespace Ky
theorem canon_cases {b : Nat} (hb : b < 18446744073709551616) (h : Va.canon b = b) : b = 9221120237041090560 ∨ b ≤ 9218868437227405312 ∨ (9223372036854775808 < b ∧ b ≤ 18442240474082181120) := by
  unfold Va.canon Va.INF Va.SIGN Va.NAN at h
  split at h
  · omega
  · split at h <;> omega
theorem fl_sg {a b : Nat} (ha : ¬ Va.INF < a % Va.SIGN) (hb : ¬ Va.INF < b % Va.SIGN) : fl a b = ints (Va.sg a) (Va.sg b) := by
  unfold fl ints
  rw [Va.order_sg ha hb]
  rcases Int.lt_trichotomy (Va.sg a) (Va.sg b) with h | h | h
  · rw [Int.compare_eq_lt.2 h, if_pos h]
  · rw [Int.compare_eq_eq.2 h, if_neg (by omega), if_neg (by omega)]
  · rw [Int.compare_eq_gt.2 h, if_neg (by omega), if_pos h]
theorem sg_pos {b : Nat} (h : b ≤ 9218868437227405312) : Va.sg b = (Va.mag b : Int) := by
  unfold Va.sg Va.SIGN
  rw [if_neg (by omega), Nat.mod_eq_of_lt (by omega)]
theorem sg_neg {b : Nat} (h : 9223372036854775808 ≤ b) (h2 : b ≤ 18442240474082181120) : Va.sg b = -(Va.mag (b - 9223372036854775808) : Int) := by
  unfold Va.sg Va.SIGN
  rw [if_pos (by omega), show b % 9223372036854775808 = b - 9223372036854775808 by omega]
theorem ints_neg (a b : Int) : ints (-a) (-b) = ints b a := by
  unfold ints
  split <;> split <;> first | rfl | omega | (split <;> first | rfl | omega)
theorem ints_mag (r t : Nat) : ints (Va.mag r) (Va.mag t) = ints r t := by
  have h1 := @Va.mag_lt r t
  have h2 := @Va.mag_lt t r
  unfold ints
  simp only [Int.ofNat_lt, h1, h2]
theorem ints_lt {a b : Int} (h : a < b) : ints a b = -1 := if_pos h
theorem ints_gt {a b : Int} (h : b < a) : ints a b = 1 := by unfold ints; rw [if_neg (by omega), if_pos h]
theorem ints_self (a : Int) : ints a a = 0 := by unfold ints; rw [if_neg (by omega), if_neg (by omega)]
theorem ints_add (a b c : Int) : ints (a + c) (b + c) = ints a b := by
  unfold ints
  split <;> split <;> first | rfl | omega | (split <;> first | rfl | omega)
theorem ints_sub (a b c : Int) : ints (c - a) (c - b) = ints b a := by
  unfold ints
  split <;> split <;> first | rfl | omega | (split <;> first | rfl | omega)
theorem turned_pos {b : Nat} (h : b < 9223372036854775808) : (turned b : Int) = (b : Int) + 9223372036854775808 := by unfold turned; rw [if_pos h]; omega
theorem turned_neg {b : Nat} (h : 9223372036854775808 ≤ b) (h2 : b < 18446744073709551616) : (turned b : Int) = 18446744073709551615 - (b : Int) := by unfold turned; rw [if_neg (by omega)]; omega
theorem floats_turned {a b : Nat} (ha : a < 18446744073709551616) (hb : b < 18446744073709551616) (ca : Va.canon a = a) (cb : Va.canon b = b) : floats a b = ints (turned a) (turned b) := by
  have na : ∀ {c : Nat}, c ≤ 9218868437227405312 ∨ (9223372036854775808 < c ∧ c ≤ 18442240474082181120) → ¬ Va.INF < c % Va.SIGN := by
    intro c h
    unfold Va.INF Va.SIGN
    omega
  have nn : nan 9221120237041090560 = 1 := by decide
  have n0 : ∀ {c : Nat}, ¬ Va.INF < c % Va.SIGN → nan c = 0 := fun h => if_neg h
  rcases canon_cases ha ca with rfl | ha1
  · rcases canon_cases hb cb with rfl | hb1
    · rw [ints_self]; decide +kernel
    · unfold floats
      rw [nn, n0 (na hb1), if_neg (by decide), ints_gt (by decide), turned_pos (by decide)]
      rw [ints_gt]
      rcases hb1 with h | h
      · rw [turned_pos (by omega)]; omega
      · rw [turned_neg (by omega) (by omega)]; omega
  · rcases canon_cases hb cb with rfl | hb1
    · unfold floats
      rw [nn, n0 (na ha1), if_neg (by decide), ints_lt (by decide), turned_pos (b := 9221120237041090560) (by decide)]
      rw [ints_lt]
      rcases ha1 with h | h
      · rw [turned_pos (by omega)]; omega
      · rw [turned_neg (by omega) (by omega)]; omega
    · unfold floats
      rw [n0 (na ha1), n0 (na hb1), if_pos (by decide), fl_sg (na ha1) (na hb1)]
      rcases ha1 with h | h
      · rcases hb1 with h' | h'
        · rw [sg_pos h, sg_pos h', turned_pos (by omega), turned_pos (by omega), ints_add, ints_mag]
        · have hm := @Va.mag_pos (b - 9223372036854775808)
          rw [sg_pos h, sg_neg (by omega) h'.2, turned_pos (by omega), turned_neg (by omega) (by omega), ints_gt (by omega), ints_gt (by omega)]
      · rcases hb1 with h' | h'
        · have hm := @Va.mag_pos (a - 9223372036854775808)
          rw [sg_pos h', sg_neg (by omega) h.2, turned_pos (b := b) (by omega), turned_neg (by omega) (by omega), ints_lt (by omega), ints_lt (by omega)]
        · rw [sg_neg (by omega) h.2, sg_neg (by omega) h'.2, turned_neg (by omega) (by omega), turned_neg (by omega) (by omega), ints_neg, ints_mag, ints_sub]
          rw [show ((b - 9223372036854775808 : Nat) : Int) = (b : Int) + (-9223372036854775808) by omega, show ((a - 9223372036854775808 : Nat) : Int) = (a : Int) + (-9223372036854775808) by omega, ints_add]
theorem less_turned {a b : Nat} (ha : a < 18446744073709551616) (hb : b < 18446744073709551616) (ca : Va.canon a = a) (cb : Va.canon b = b) : less a b = decide (turned a < turned b) := by
  have h1 := canon_cases ha ca
  have h2 := canon_cases hb cb
  unfold less turned
  split
  · rw [Bool.eq_iff_iff, Bool.and_eq_true, decide_eq_true_eq, decide_eq_true_eq, decide_eq_true_eq]
    split <;> split <;> omega
  · split
    · split
      · rw [Bool.eq_iff_iff, decide_eq_true_eq, decide_eq_true_eq]; omega
      · rw [eq_comm, decide_eq_false_iff_not]; omega
    · split
      · rw [eq_comm, decide_eq_true_iff]; omega
      · rw [Bool.eq_iff_iff, decide_eq_true_eq, decide_eq_true_eq]; omega
theorem lessI_turned {a b : Nat} (ha : a < 18446744073709551616) (hb : b < 18446744073709551616) (ca : Va.canon a = a) (cb : Va.canon b = b) : lessI a b = ints (turned a) (turned b) := by
  unfold lessI ints
  rw [less_turned ha hb ca cb, less_turned hb ha cb ca]
  simp only [decide_eq_true_eq, Int.ofNat_lt]
theorem right_cases {k n : Int} {b : Nat} {s : ByteArray} (h : Va.right k n b s = true) : (k = 0 ∧ n = 0 ∧ b = 0 ∧ s = ⟨#[]⟩) ∨ (k = 1 ∧ (n = 0 ∨ n = 1) ∧ b = 0 ∧ s = ⟨#[]⟩) ∨ (k = 2 ∧ b = 0 ∧ s = ⟨#[]⟩) ∨ (k = 3 ∧ n = 0 ∧ Va.canon b = b ∧ s = ⟨#[]⟩) ∨ ((k = 4 ∨ k = 5) ∧ n = 0 ∧ b = 0 ∧ s.size ≤ 4096) := by
  unfold Va.right at h
  simp only [← empty_iff_size] at h
  by_cases h0 : k = 0
  · rw [if_pos h0] at h; simp only [Bool.and_eq_true, decide_eq_true_eq] at h; exact .inl ⟨h0, h.1.1, h.1.2, h.2⟩
  rw [if_neg h0] at h
  by_cases h1 : k = 1
  · rw [if_pos h1] at h; simp only [Bool.and_eq_true, Bool.or_eq_true, decide_eq_true_eq] at h; exact .inr (.inl ⟨h1, h.1.1, h.1.2, h.2⟩)
  rw [if_neg h1] at h
  by_cases h2 : k = 2
  · rw [if_pos h2] at h; simp only [Bool.and_eq_true, decide_eq_true_eq] at h; exact .inr (.inr (.inl ⟨h2, h.1, h.2⟩))
  rw [if_neg h2] at h
  by_cases h3 : k = 3
  · rw [if_pos h3] at h; simp only [Bool.and_eq_true, decide_eq_true_eq] at h; exact .inr (.inr (.inr (.inl ⟨h3, h.1.1, h.2, h.1.2⟩)))
  rw [if_neg h3] at h
  by_cases h4 : k = 4 ∨ k = 5
  · rw [if_pos h4] at h; simp only [Bool.and_eq_true, decide_eq_true_eq] at h; exact .inr (.inr (.inr (.inr ⟨h4, h.1.1, h.1.2, h.2⟩)))
  rw [if_neg h4] at h
  cases h
theorem strL_self (l : List UInt8) : strL l l = 0 := by
  have h := strL_app l [] []
  rw [List.append_nil] at h
  rw [h]; rfl
theorem cmp_eq (x y : Cd.V) (hx : x.b < 18446744073709551616) (hy : y.b < 18446744073709551616) : cmp x y = cmpR x y := by
  unfold cmp cmpR
  cases hrx : x.right
  · rfl
  cases hry : y.right
  · rfl
  have ht : ¬ (true = false) := by decide
  simp only [if_neg ht]
  by_cases hk : x.k = y.k
  · rw [if_pos hk, if_pos hk]
    by_cases h3 : x.k = 3
    · rw [if_pos h3, if_pos h3]
      have c1 : Va.canon x.b = x.b := by
        rcases right_cases hrx with h | h | h | h | h
        · omega
        · omega
        · omega
        · exact h.2.2.1
        · omega
      have c2 : Va.canon y.b = y.b := by
        rcases right_cases hry with h | h | h | h | h
        · omega
        · omega
        · omega
        · exact h.2.2.1
        · omega
      rw [floats_turned hx hy c1 c2, lessI_turned hx hy c1 c2]
    · rw [if_neg h3, if_neg h3]
      by_cases h4 : x.k = 4 ∨ x.k = 5
      · rw [if_pos h4]
        by_cases hs : x.s = y.s
        · have e1 : x.n = 0 := by rcases right_cases hrx with h | h | h | h | h <;> omega
          have e2 : y.n = 0 := by rcases right_cases hry with h | h | h | h | h <;> omega
          rw [if_pos hs, e1, e2, hs, strs_eq, strL_self]; rfl
        · rw [if_neg hs]
      · have e1 : x.s = ⟨#[]⟩ := by
          rcases right_cases hrx with h | h | h | h | h
          · exact h.2.2.2
          · exact h.2.2.2
          · exact h.2.2
          · exact h.2.2.2
          · exact absurd h.1 h4
        have e2 : y.s = ⟨#[]⟩ := by
          rcases right_cases hry with h | h | h | h | h
          · exact h.2.2.2
          · exact h.2.2.2
          · exact h.2.2
          · exact h.2.2.2
          · exact absurd (hk ▸ h.1) h4
        rw [if_neg h4, if_pos (by rw [e1, e2])]
  · rw [if_neg hk, if_neg hk]
end Ky
end Go.Proofs.Ytmcneelapghfcaa

namespace Go.Proofs.Ytmcneelapghfcaa
open Go.RowKit

namespace Ky
end Ky
end Go.Proofs.Ytmcneelapghfcaa

namespace Go.Proofs.Ytmcneelapghfcaa
open Go.RowKit

namespace Ky
end Ky
end Go.Proofs.Ytmcneelapghfcaa

namespace Go.Proofs.Ytmcneelapghfcaa
open Go.RowKit

namespace Vl
/-- a digit of base 16 -/
def hexd (k : Nat) : UInt8 := if k < 10 then UInt8.ofNat (48 + k) else UInt8.ofNat (87 + k)
/-- the last digits of a number -/
def hexL : Nat → Nat → List UInt8
  | 0, _ => []
  | k + 1, n => hexL k (n / 16) ++ [hexd (n % 16)]
end Vl
end Go.Proofs.Ytmcneelapghfcaa

namespace Go.Proofs.Ytmcneelapghfcaa
open Go.RowKit

namespace Vl
/-- a byte's two digits -/
def hx (c : UInt8) : List UInt8 := hexL 2 c.toNat
end Vl
end Go.Proofs.Ytmcneelapghfcaa

namespace Go.Proofs.Ytmcneelapghfcaa
open Go.RowKit

namespace Vl
end Vl
end Go.Proofs.Ytmcneelapghfcaa

namespace Go.Proofs.Ytmcneelapghfcaa
open Go.RowKit Go.Joins Go.ChangeShapes Go.WideShapes Go.Deep

/-- a value, laid -/
def box (w : World) (k n : Int) (b : Nat) (s : ByteArray) : World := w.alloc (.cells #[.int .i64 k, .int .i64 n, .int .u64 (b : Int), .string s] 36)
end Go.Proofs.Ytmcneelapghfcaa

namespace Go.Proofs.Ytmcneelapghfcaa
open Go.RowKit

theorem Try.infoValue : (Try.prog.info? 36).map (fun i => (i.zero, i.size, i.bytes)) = some (some (.agg #[.int .i64 0, .int .i64 0, .int .u64 0, .string ⟨#[]⟩]), 4, 40) := by kernel_rfl
theorem vcells_append (l r : List Cd.V) : vcells (l ++ r) = vcells l ++ vcells r := by simp [vcells]
theorem vcells_length (l : List Cd.V) : (vcells l).length = l.length * 4 := by
  induction l with
  | nil => rfl
  | cons s l ih => show (_ :: _ :: _ :: _ :: vcells l).length = _; simp [ih]; omega
theorem vcells_one_cell (l : List Cd.V) : ∀ u ∈ vcells l, u.oneCell' = true := by
  intro u hu
  obtain ⟨s, _, hs⟩ := List.mem_flatMap.1 hu
  simp at hs
  rcases hs with rfl | rfl | rfl | rfl <;> rfl
theorem cell_four (w : World) (a b c d : Value) (t : TypeId) {g : Nat} (hg : g = w.heap.size) : ∀ j u, [a, b, c, d][j]? = some u → (w.alloc (.cells #[a, b, c, d] t)).cell? ((⟨g, 0, none⟩ : Addr).add j) = some u := by
  subst hg
  intro j u hj
  have hadd : (⟨w.heap.size, 0, none⟩ : Addr).add j = ⟨w.heap.size, j, none⟩ := by unfold Addr.add; split <;> simp_all
  rw [hadd, cell_of_row (w.alloc (.cells #[a, b, c, d] t)) w.heap.size j #[a, b, c, d] t (0, 0) (heap_alloc_new w _)]
  simpa using hj

/-- 'append(out, v)', out of the call's own, v in a block that has just been laid -/
theorem append_value (u : World) {ops : Array Oper} {rest : List Oper} {o : Oper} {a : Act} {Q : Exit → Act → World → Prop} (hgd : o.guard = none) (s x : Operand)
    (ho : o.op = .call { callee := .builtin .append, args := #[s, x], argTypes := #[22, 22] })
    (B : Nat) (v : Value) (l : List Cd.V) (hs : a.eval s = v) (hown : u.ownsRow B 36 4 v l.length (vcells l)) (p : Cd.V) (g : Nat) (hgz : g = u.heap.size) (hx : a.eval x = .slice (some ⟨g, 0, none⟩) 1 1)
    (hlen : l.length ≤ 1000000) (hB : B ≤ u.heap.size)
    (hK : ∀ v' w', w'.ownsRow B 36 4 v' (l ++ [p]).length (vcells (l ++ [p])) → u.grownBy w' v.ownBlock → wpList Try.prog ops Q rest (a.put o.dst v') w') :
    wpList Try.prog ops Q (o :: rest) a (u.alloc (.cells #[.int .i64 p.k, .int .i64 p.n, .int .u64 (p.b : Int), .string p.s] 36)) := by
  obtain ⟨i0, hi, hz0, hz1, hz2⟩ := info_parts Try.infoValue
  refine wpList_append_own _ hgd s x 22 ho B 36 i0 (.agg #[.int .i64 0, .int .i64 0, .int .u64 0, .string ⟨#[]⟩]) 4 40 Try.underlying22 hi hz0 hz1 hz2 rfl (by decide) v l.length (vcells l) hs (hown.alloc _) ⟨g, 0, none⟩ 1 1 (vcells [p]) hx rfl (cell_four u _ _ _ _ _ hgz) (vcells_one_cell [p]) ?_ ?_ ?_ ?_
  · unfold maxLen; omega
  · omega
  · simp; omega
  · intro v' w' hown' hgrow _
    refine hK v' w' (by rw [vcells_append, List.length_append]; exact hown') ?_
    refine ⟨hgrow.os, hgrow.tape, hgrow.output, Nat.le_trans (by simp) hgrow.size, fun k hk hne => ?_⟩
    rw [hgrow.block k (by simp; omega) hne]
    exact Below.heap_alloc u _ k hk

end Go.Proofs.Ytmcneelapghfcaa

namespace Go.Proofs.Ytmcneelapghfcaa
open Go.ChangeShapes Go.WideShapes Go.Joins Go.Deep

instance : Inhabited Cd.V := ⟨⟨0, 0, 0, ⟨#[]⟩⟩⟩
theorem cellsValue : Try.prog.cellsOf 36 = 4 := by kernel_rfl
theorem cellsI : Try.prog.cellsOf 3 = 1 := by kernel_rfl
theorem cellsU : Try.prog.cellsOf 34 = 1 := by kernel_rfl
theorem cellsS : Try.prog.cellsOf 9 = 1 := by kernel_rfl
theorem list4 {α : Type} {cs : List α} (h : cs.length = 4) : ∃ c0 c1 c2 c3, cs = [c0, c1, c2, c3] := by
  match cs, h with
  | [c0, c1, c2, c3], _ => exact ⟨c0, c1, c2, c3, rfl⟩
theorem int64_of {n : Int} (h : (Lit.int .i64 n).wf = true) : -9223372036854775808 ≤ n ∧ n ≤ 9223372036854775807 := by
  simpa [Lit.wf, IntKind.min, IntKind.max, IntKind.signed, IntKind.bits] using h
/-- a value that can stand in memory -/
def Vok (v : Cd.V) : Prop := (-9223372036854775808 ≤ v.n ∧ v.n ≤ 9223372036854775807) ∧ v.b < 18446744073709551616 ∧ v.s.size ≤ maxLen
set_option maxRecDepth 100000 in
theorem open_values {H : Type} {enc : TypeId × Value → H} {W : World} {base b0 : Nat} {sp : Nat → Bool} {hd : Bool} {r : Reach} {v : Value} {d : DataW H} {p : List MemPlace} (hv : Value.okWide Try.prog W r b0 22 v) (h : DataW.Trod enc Try.prog W base sp hd 22 v d p) :
    ∃ l : List Cd.V, l.length ≤ maxLen ∧ VsAt W v l ∧ ∀ x ∈ l, Vok x := by
  obtain ⟨a, len, cap, rfl⟩ := okWide_slice Try.underlying22 hv
  obtain ⟨fuel, hf⟩ := h
  rcases open_slice Try.underlying22 hf with ⟨e, _⟩ | ⟨a', len', cap', m, n, D, Pl, e, hb, hl, hc, hm, _, hx⟩
  · simp [Value.cells] at e
    obtain ⟨rfl, rfl, rfl⟩ := e
    exact ⟨[], by simp, ⟨none, 0, rfl, fun k hk => absurd hk (Nat.not_lt_zero k)⟩, fun x hx => absurd hx List.not_mem_nil⟩
  · simp [Value.cells] at e
    obtain ⟨rfl, rfl, rfl⟩ := e
    have hlm : len ≤ m := by rw [hm]; split <;> omega
    have each : ∀ i, i < len → ∃ s : Cd.V, Vok s ∧ W.cell? (a'.add (i * 4)) = some (.int .i64 s.k) ∧ W.cell? (a'.add (i * 4 + 1)) = some (.int .i64 s.n) ∧ W.cell? (a'.add (i * 4 + 2)) = some (.int .u64 (s.b : Int)) ∧ W.cell? (a'.add (i * 4 + 3)) = some (.string s.s) := by
      intro i hi
      obtain ⟨cs', h1, h2⟩ := hx i (by omega)
      rw [cellsValue] at h1
      obtain ⟨_, hlen, hcell⟩ := World.cells?_some h1
      obtain ⟨c0, c1, c2, c3, rfl⟩ := list4 hlen
      obtain ⟨y0, y1, y2, y3, k, _, _, g0, g1, g2, g3⟩ := trod_struct4 Try.underlying36 h2
      simp [cellsI, cellsU, cellsS] at g0 g1 g2 g3
      obtain ⟨k0, e0, _, _⟩ := DataW.trod_int Try.underlying3 g0
      obtain ⟨k1, e1, _, w1⟩ := DataW.trod_int Try.underlying3 g1
      obtain ⟨k2, e2, _, w2⟩ := DataW.trod_int Try.underlying34 g2
      obtain ⟨k3, e3, _, w3⟩ := DataW.trod_string Try.underlying9 g3
      simp at e0 e1 e2 e3
      subst e0 e1 e2 e3
      obtain ⟨b, rfl, hb⟩ := u64_of w2
      have q0 := hcell 0 (by omega)
      have q1 := hcell 1 (by omega)
      have q2 := hcell 2 (by omega)
      have q3 := hcell 3 (by omega)
      rw [add_add] at q0 q1 q2 q3
      exact ⟨⟨k0, k1, b, k3⟩, ⟨int64_of w1, hb, w3⟩, by simpa using q0, by simpa using q1, by simpa using q2, by simpa using q3⟩
    have hmax : len ≤ maxLen := by omega
    obtain ⟨S, hS⟩ := choose_lt each
    refine ⟨(List.range len).map S, by simpa using hmax, ⟨some a', cap, by simp, fun k hk => ?_⟩, fun x hx => ?_⟩
    · have hk' : k < len := by simpa using hk
      obtain ⟨bb, off, spot⟩ := a'
      obtain ⟨_, q0, q1, q2, q3⟩ := hS k hk'
      have g0 := (hS 0 (by omega)).2.1
      have hs : spot = none := World.cell?_spot (a := ⟨bb, off, spot⟩) (by simpa [Addr.add] using g0)
      subst hs
      rw [add_plain] at q0 q1 q2 q3
      have hg : ((List.range len).map S)[k] = S k := by simp
      rw [hg]
      exact ⟨bb, off, rfl, q0, by rw [Nat.add_assoc]; exact q1, by rw [Nat.add_assoc]; exact q2, by rw [Nat.add_assoc]; exact q3⟩
    · obtain ⟨i, hi, rfl⟩ := List.mem_map.1 hx
      exact (hS i (List.mem_range.1 hi)).1
end Go.Proofs.Ytmcneelapghfcaa

namespace Go.Proofs.Ytmcneelapghfcaa
namespace Sc

def letter (c : Nat) : Bool := decide (97 ≤ c ∧ c ≤ 122) || decide (c = 95)
def digit (c : Nat) : Bool := decide (48 ≤ c ∧ c ≤ 57)
def okAt (i c : Nat) : Bool := letter c || (digit c && decide (i ≠ 0))
/-- the first k bytes are a name's -/
def nameTo (s : ByteArray) : Nat → Bool
  | 0 => true
  | k + 1 => nameTo s k && (match s.data.toList[k]? with | none => true | some c => okAt k c.toNat)
def nameB (s : ByteArray) : Bool := nameTo s s.size && decide (1 ≤ s.size) && decide (s.size ≤ 32)

/-- a column -/
structure C where
  name : ByteArray
  kind : Int
  need : Bool
/-- a schema -/
structure S where
  name : ByteArray
  cols : List C
  keys : Int
instance cDec : DecidableEq C := fun a b => decidable_of_iff (a.name = b.name ∧ a.kind = b.kind ∧ a.need = b.need) (by
  cases a; cases b; simp)
def colOk (keys : Int) (i : Nat) (c : C) : Bool := nameB c.name && decide (1 ≤ c.kind) && decide (c.kind ≤ 5) && (decide (keys ≤ (i : Int)) || c.need)
def fresh (l : List C) (k : Nat) (n : ByteArray) : Bool := (l.take k).all fun d => decide (d.name ≠ n)
def good1 (s : S) (k : Nat) : Bool := match s.cols[k]? with
  | none => true
  | some c => colOk s.keys k c && fresh s.cols k c.name
def goodTo (s : S) : Nat → Bool
  | 0 => true
  | k + 1 => goodTo s k && good1 s k
def right (s : S) : Bool := nameB s.name && decide (s.cols.length ≤ 16) && decide (1 ≤ s.keys) && decide (s.keys ≤ 8) && decide (s.keys ≤ (s.cols.length : Int)) && goodTo s s.cols.length
end Sc
end Go.Proofs.Ytmcneelapghfcaa

namespace Go.Proofs.Ytmcneelapghfcaa
open Go.RowKit

/-- columns in memory -/
def CsAt (w : World) (v : Value) (l : List Sc.C) : Prop :=
  ∃ adr cap, v = .slice adr l.length cap ∧ l.length ≤ cap ∧ cap ≤ maxLen ∧ ∀ k (hk : k < l.length), ∃ g off, adr = some ⟨g, off, none⟩ ∧ w.cell? ⟨g, off + k * 3, none⟩ = some (.string l[k].name) ∧ w.cell? ⟨g, off + k * 3 + 1, none⟩ = some (.int .i64 l[k].kind) ∧
    w.cell? ⟨g, off + k * 3 + 2, none⟩ = some (.bool l[k].need)
theorem CsAt.below {w w' : World} {v : Value} {l : List Sc.C} (h : CsAt w v l) (hb : Below w.heap.size w w') : CsAt w' v l := by
  obtain ⟨adr, cap, rfl, h1, h2, hc⟩ := h
  refine ⟨adr, cap, rfl, h1, h2, fun k hk => ?_⟩
  obtain ⟨g, off, rfl, q0, q1, q2⟩ := hc k hk
  exact ⟨g, off, rfl, hkeep q0 hb, hkeep q1 hb, hkeep q2 hb⟩
/-- a schema as a value, its columns being v -/
def sv (s : Sc.S) (v : Value) : Value := .agg #[.string s.name, v, .int .i64 s.keys]
/-- what texts a schema has -/
def Sok (s : Sc.S) : Prop := s.name.size ≤ maxLen ∧ ∀ c ∈ s.cols, c.name.size ≤ maxLen
end Go.Proofs.Ytmcneelapghfcaa

namespace Go.Proofs.Ytmcneelapghfcaa
open Go.RowKit

/-- a row's cells at a place -/
theorem VsAt.at {w : World} {adr : Option Addr} {cap n : Nat} {l : List Cd.V} (h : VsAt w (.slice adr n cap) l) (hl : 0 < l.length) : n = l.length ∧ ∃ g off, adr = some ⟨g, off, none⟩ ∧ ∀ j u, (vcells l)[j]? = some u → w.cell? ⟨g, off + j, none⟩ = some u := by
  obtain ⟨adr', cap', e, hc⟩ := h
  cases e
  refine ⟨rfl, ?_⟩
  obtain ⟨g, off, rfl, _⟩ := hc 0 hl
  refine ⟨g, off, rfl, fun j u hj => ?_⟩
  have hjl : j < l.length * 4 := by
    have := (List.getElem?_eq_some_iff.1 hj).1
    rw [vcells_length] at this; exact this
  obtain ⟨q, r, rfl, hr⟩ : ∃ q r, j = q * 4 + r ∧ r < 4 := ⟨j / 4, j % 4, by omega, by omega⟩
  have hq : q < l.length := by omega
  obtain ⟨g', off', e, q0, q1, q2, q3⟩ := hc q hq
  cases e
  obtain ⟨g0, g1, g2, g3⟩ := vcells_get (List.getElem?_eq_getElem hq)
  have hr' : r = 0 ∨ r = 1 ∨ r = 2 ∨ r = 3 := by omega
  rcases hr' with rfl | rfl | rfl | rfl
  · rw [Nat.add_zero] at hj ⊢
    rw [g0] at hj; cases hj; exact q0
  · rw [g1] at hj; cases hj; rw [← Nat.add_assoc]; exact q1
  · rw [g2] at hj; cases hj; rw [← Nat.add_assoc]; exact q2
  · rw [g3] at hj; cases hj; rw [← Nat.add_assoc]; exact q3
theorem VsAt.take {w : World} {adr : Option Addr} {cap : Nat} {l : List Cd.V} (h : VsAt w (.slice adr l.length cap) l) (n : Nat) (hn : n ≤ l.length) (cap' : Nat) : VsAt w (.slice adr n cap') (l.take n) := by
  obtain ⟨adr', cap'', e, hc⟩ := h
  cases e
  refine ⟨adr, cap', by rw [List.length_take, Nat.min_eq_left hn], fun k hk => ?_⟩
  have hk' : k < l.length := by rw [List.length_take] at hk; omega
  have hg : (l.take n)[k] = l[k] := List.getElem_take ..
  rw [hg]
  exact hc k hk'
/-- a row in memory, with what its slice may hold -/
def RsAt (w : World) (v : Value) (l : List Cd.V) : Prop := VsAt w v l ∧ ∃ adr cap, v = .slice adr l.length cap ∧ l.length ≤ cap ∧ cap ≤ maxLen ∧ (adr = none → cap = 0)
theorem RsAt.below {w w' : World} {v : Value} {l : List Cd.V} (h : RsAt w v l) (hb : Below w.heap.size w w') : RsAt w' v l := ⟨h.1.below hb, h.2⟩
theorem RsAt.len {w : World} {v : Value} {l : List Cd.V} (h : RsAt w v l) : l.length ≤ maxLen := by
  obtain ⟨_, _, _, _, h1, h2, _⟩ := h
  exact Nat.le_trans h1 h2
theorem RsAt.own {w : World} {B : Nat} {v : Value} {l : List Cd.V} (h : w.ownsRow B 36 4 v l.length (vcells l)) : RsAt w v l := by
  refine ⟨VsAt.own h, ?_⟩
  rcases h.2 with ⟨rfl, hn⟩ | ⟨g, cap, cur, rfl, _, _, h1, h2, _⟩
  · exact ⟨none, 0, by rw [hn], by omega, by decide, fun _ => rfl⟩
  · exact ⟨_, cap, rfl, h1, h2, fun e => by cases e⟩
theorem RsAt.nil (w : World) : RsAt w (.slice none 0 0) [] := ⟨⟨none, 0, rfl, fun k hk => absurd hk (Nat.not_lt_zero k)⟩, none, 0, rfl, Nat.le_refl _, by decide, fun _ => rfl⟩
end Go.Proofs.Ytmcneelapghfcaa

namespace Go.Proofs.Ytmcneelapghfcaa
open Go.RowKit

/-- a block that holds just these values -/
def BR (w : World) (g : Nat) (l : List Cd.V) : Prop := w.heap[g]? = some (.cells (vcells l).toArray 36 (0, 0))
theorem BR.keep {w w' : World} {g : Nat} {l : List Cd.V} (h : BR w g l) (hb : Below w.heap.size w w') : BR w' g l := keepBlock h hb
theorem BR.own {w : World} {g B : Nat} {l : List Cd.V} (h : BR w g l) (hB : B ≤ g) (hl : l.length ≤ maxLen) : w.ownsRow B 36 4 (.slice (some ⟨g, 0, none⟩) l.length l.length) l.length (vcells l) :=
  ⟨vcells_length l, .inr ⟨g, l.length, (vcells l).toArray, rfl, hB, h, Nat.le_refl _, hl, by simp [vcells_length], by simp only; rw [List.take_of_length_le (by rw [vcells_length]; exact Nat.le_refl _)]⟩⟩
theorem own_base {w : World} {B B' e size n : Nat} {v : Value} {xs : List Value} (h : w.ownsRow B e size v n xs) (hB : B' ≤ B) : w.ownsRow B' e size v n xs := by
  refine ⟨h.1, ?_⟩
  rcases h.2 with hn | ⟨g, cap, cur, rfl, hb, rest⟩
  · exact .inl hn
  · exact .inr ⟨g, cap, cur, rfl, Nat.le_trans hB hb, rest⟩
end Go.Proofs.Ytmcneelapghfcaa

namespace Go.Proofs.Ytmcneelapghfcaa
open Go.RowKit

theorem CsAt.nil (w : World) : CsAt w (.slice none 0 0) [] := ⟨none, 0, rfl, Nat.le_refl _, by decide, fun k hk => absurd hk (Nat.not_lt_zero k)⟩
theorem CsAt.slc {w : World} {v : Value} {l : List Sc.C} (h : CsAt w v l) : ∃ adr cap, v = .slice adr l.length cap := by
  obtain ⟨adr, cap, rfl, _⟩ := h; exact ⟨adr, cap, rfl⟩
end Go.Proofs.Ytmcneelapghfcaa

namespace Go.Proofs.Ytmcneelapghfcaa
open Go.RowKit

end Go.Proofs.Ytmcneelapghfcaa

namespace Go.Proofs.Ytmcneelapghfcaa
open Go.RowKit

end Go.Proofs.Ytmcneelapghfcaa

namespace Go.Proofs.Ytmcneelapghfcaa
open Go.RowKit

end Go.Proofs.Ytmcneelapghfcaa

namespace Go.Proofs.Ytmcneelapghfcaa
open Go.ChangeShapes Go.WideShapes Go.Joins Go.Deep

theorem cellsSchema : Try.prog.cellsOf 31 = 3 := by kernel_rfl
theorem cellsColumn : Try.prog.cellsOf 68 = 3 := by kernel_rfl
theorem cellsB : Try.prog.cellsOf 4 = 1 := by kernel_rfl
theorem list3 {α : Type} {cs : List α} (h : cs.length = 3) : ∃ c0 c1 c2, cs = [c0, c1, c2] := by
  match cs, h with
  | [c0, c1, c2], _ => exact ⟨c0, c1, c2, rfl⟩
instance : Inhabited Sc.C := ⟨⟨⟨#[]⟩, 0, false⟩⟩
/-- columns that come in -/
theorem open_cols {H : Type} {enc : TypeId × Value → H} {W : World} {base : Nat} {sp : Nat → Bool} {hd : Bool} {v : Value} {x : DataW H × List MemPlace} {fuel : Nat} (hf : DataW.trod enc Try.prog W base sp hd fuel 29 [v] = some x) :
    ∃ l : List Sc.C, CsAt W v l ∧ ∀ c ∈ l, c.name.size ≤ maxLen ∧ (Lit.int .i64 c.kind).wf = true := by
  rcases open_slice Try.underlying29 hf with ⟨e, _⟩ | ⟨a', len, cap, m, n, D, Pl, e, hb, hl, hc, hm, _, hx⟩
  · simp at e
    subst e
    exact ⟨[], CsAt.nil _, fun c hc => absurd hc List.not_mem_nil⟩
  · simp at e
    subst e
    have hlm : len ≤ m := by rw [hm]; split <;> omega
    have each : ∀ i, i < len → ∃ s : Sc.C, (s.name.size ≤ maxLen ∧ (Lit.int .i64 s.kind).wf = true) ∧ W.cell? (a'.add (i * 3)) = some (.string s.name) ∧ W.cell? (a'.add (i * 3 + 1)) = some (.int .i64 s.kind) ∧ W.cell? (a'.add (i * 3 + 2)) = some (.bool s.need) := by
      intro i hi
      obtain ⟨cs', h1, h2⟩ := hx i (by omega)
      rw [cellsColumn] at h1
      obtain ⟨_, hlen, hcell⟩ := World.cells?_some h1
      obtain ⟨c0, c1, c2, rfl⟩ := list3 hlen
      obtain ⟨y0, y1, y2, k, _, _, g0, g1, g2⟩ := trod_struct3 Try.underlying68 h2
      simp [cellsI, cellsB, cellsS] at g0 g1 g2
      obtain ⟨k0, e0, _, w0⟩ := DataW.trod_string Try.underlying9 g0
      obtain ⟨k1, e1, _, w1⟩ := DataW.trod_int Try.underlying3 g1
      obtain ⟨k2, e2, _⟩ := DataW.trod_bool Try.underlying4 g2
      simp at e0 e1 e2
      subst e0 e1 e2
      have q0 := hcell 0 (by omega)
      have q1 := hcell 1 (by omega)
      have q2 := hcell 2 (by omega)
      rw [add_add] at q0 q1 q2
      exact ⟨⟨k0, k1, k2⟩, ⟨w0, w1⟩, by simpa using q0, by simpa using q1, by simpa using q2⟩
    have hmax : len ≤ maxLen := by omega
    obtain ⟨S, hS⟩ := choose_lt each
    refine ⟨(List.range len).map S, ⟨some a', cap, by simp, by simpa using hl, hc, fun k hk => ?_⟩, fun x hx => ?_⟩
    · have hk' : k < len := by simpa using hk
      obtain ⟨bb, off, spot⟩ := a'
      obtain ⟨_, q0, q1, q2⟩ := hS k hk'
      have g0 := (hS 0 (by omega)).2.1
      have hs : spot = none := World.cell?_spot (a := ⟨bb, off, spot⟩) (by simpa [Addr.add] using g0)
      subst hs
      rw [add_plain] at q0 q1 q2
      have hg : ((List.range len).map S)[k] = S k := by simp
      rw [hg]
      exact ⟨bb, off, rfl, q0, by rw [Nat.add_assoc]; exact q1, by rw [Nat.add_assoc]; exact q2⟩
    · obtain ⟨i, hi, rfl⟩ := List.mem_map.1 hx
      exact (hS i (List.mem_range.1 hi)).1
/-- a schema that comes in -/
def SchemaIn (W : World) (s : Sc.S) (u : Value) : Prop := CsAt W u s.cols ∧ Sok s
set_option maxRecDepth 100000 in
theorem open_schema {H : Type} {enc : TypeId × Value → H} {W : World} {base b0 : Nat} {sp : Nat → Bool} {hd : Bool} {r : Reach} {v : Value} {d : DataW H} {p : List MemPlace} (hv : Value.okWide Try.prog W r b0 31 v) (h : DataW.Trod enc Try.prog W base sp hd 31 v d p) :
    ∃ (s : Sc.S) (u : Value), v = sv s u ∧ SchemaIn W s u := by
  obtain ⟨v0, v1, v2, y0, y1, y2, n, rfl, _, _, h0, h1, h2⟩ := open_agg3 Try.underlying31 (by kernel_rfl) cellsSchema hv h
  obtain ⟨nm, e0, _, w0⟩ := DataW.trod_string Try.underlying9 h0
  obtain ⟨ks, e2, _, _⟩ := DataW.trod_int Try.underlying3 h2
  simp at e0 e2
  subst e0 e2
  obtain ⟨l, hl, hl2⟩ := open_cols h1
  exact ⟨⟨nm, l, ks⟩, v1, rfl, hl, w0, fun c hc => (hl2 c hc).1⟩
end Go.Proofs.Ytmcneelapghfcaa
