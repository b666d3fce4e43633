/-
  Numbers, texts, values and rows as bytes, plainly. No program in sight. No condition.
-/
import Derived.Test.YtimcmpcfnddioaaVa
namespace Go.Proofs.Ytimcmpcfnddioaa
namespace Cd

/-- a number's bytes, of at most one more than so many -/
def encF : Nat → Nat → List UInt8
  | 0, n => [UInt8.ofNat n]
  | f + 1, n => if n < 128 then [UInt8.ofNat n] else UInt8.ofNat (n % 128 + 128) :: encF f (n / 128)
def enc (n : Nat) : List UInt8 := encF 9 n

/-- a number as one that is not below 0 -/
def zig (n : Int) : Nat := if 0 ≤ n then 2 * n.toNat else 2 * (-(n + 1)).toNat + 1
def text (s : ByteArray) : List UInt8 := enc s.size ++ s.data.toList
/-- eight bytes, the highest first -/
def low : Nat → Nat → List UInt8
  | 0, _ => []
  | k + 1, b => UInt8.ofNat (b / 256 ^ k) :: low k b
def eight (b : Nat) : List UInt8 := low 8 b
theorem low_length (k b : Nat) : (low k b).length = k := by
  induction k with
  | zero => rfl
  | succ k ih => simp [low, ih]
/-- a value's bytes -/
def value (k n : Int) (b : Nat) (s : ByteArray) : List UInt8 :=
  if Va.right k n b s then
    UInt8.ofNat k.toNat :: (if k = 1 then [UInt8.ofNat n.toNat] else if k = 2 then enc (zig n) else if k = 3 then eight b else if k = 4 ∨ k = 5 then text s else [])
  else []
structure V where
  k : Int
  n : Int
  b : Nat
  s : ByteArray
def V.right (v : V) : Bool := Va.right v.k v.n v.b v.s
def V.bytes (v : V) : List UInt8 := value v.k v.n v.b v.s
def row (l : List V) : List UInt8 := if l.all V.right then enc l.length ++ l.flatMap V.bytes else []
end Cd
end Go.Proofs.Ytimcmpcfnddioaa
