/-
  Numbers, texts, values and rows as bytes, plainly. No program in sight. No condition.
-/
import Derived.Test.YtmgafcblbbbanaaVa
namespace Go.Proofs.Ytmgafcblbbbanaa
namespace Cd

/-- a number's bytes, of at most one more than so many -/
def encF : Nat → Nat → List UInt8
  | 0, n => [UInt8.ofNat n]
  | f + 1, n => if n < 128 then [UInt8.ofNat n] else UInt8.ofNat (n % 128 + 128) :: encF f (n / 128)
def enc (n : Nat) : List UInt8 := encF 9 n
theorem encF_small {n : Nat} (f : Nat) (h : n < 128) : encF f n = [UInt8.ofNat n] := by
  cases f with
  | zero => rfl
  | succ f => show (if n < 128 then _ else _) = _; rw [if_pos h]
theorem enc_next {f m : Nat} (h1 : 128 ≤ m) (h2 : m < 2 * 128 ^ f) : ∃ f', f = f' + 1 ∧ m / 128 < 2 * 128 ^ f' ∧ encF f m = UInt8.ofNat (m % 128 + 128) :: encF f' (m / 128) := by
  cases f with
  | zero => omega
  | succ f =>
    refine ⟨f, rfl, ?_, ?_⟩
    · rw [Nat.pow_succ] at h2
      exact Nat.div_lt_of_lt_mul (by omega)
    · show (if m < 128 then _ else _) = _
      rw [if_neg (by omega)]
theorem encF_length (f : Nat) : ∀ n, 1 ≤ (encF f n).length ∧ (encF f n).length ≤ f + 1 := by
  induction f with
  | zero => intro n; simp [encF]
  | succ f ih =>
    intro n
    unfold encF
    split
    · simp
    · have := ih (n / 128)
      simp only [List.length_cons]
      omega
theorem enc_length (n : Nat) : 1 ≤ (enc n).length ∧ (enc n).length ≤ 10 := encF_length 9 n
theorem u64_bound {n : Nat} (h : n < 18446744073709551616) : n < 2 * 128 ^ 9 := Nat.lt_of_lt_of_le h (by decide)

/-- a number as one that is not below 0 -/
def zig (n : Int) : Nat := if 0 ≤ n then 2 * n.toNat else 2 * (-(n + 1)).toNat + 1
def text (s : ByteArray) : List UInt8 := enc s.size ++ s.data.toList
/-- eight bytes, the highest first -/
def low : Nat → Nat → List UInt8
  | 0, _ => []
  | k + 1, b => UInt8.ofNat (b / 256 ^ k) :: low k b
def eight (b : Nat) : List UInt8 := low 8 b
/-- a value's bytes -/
def value (k n : Int) (b : Nat) (s : ByteArray) : List UInt8 :=
  if Va.right k n b s then
    UInt8.ofNat k.toNat :: (if k = 1 then [UInt8.ofNat n.toNat] else if k = 2 then enc (zig n) else if k = 3 then eight b else if k = 4 ∨ k = 5 then text s else [])
  else []
structure V where
  k : Int
  n : Int
  b : Nat
  s : ByteArray
def V.right (v : V) : Bool := Va.right v.k v.n v.b v.s
def V.bytes (v : V) : List UInt8 := value v.k v.n v.b v.s
def row (l : List V) : List UInt8 := if l.all V.right then enc l.length ++ l.flatMap V.bytes else []
end Cd
end Go.Proofs.Ytmgafcblbbbanaa
