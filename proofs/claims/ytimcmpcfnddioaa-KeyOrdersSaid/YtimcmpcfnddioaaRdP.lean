/-
  Reading bytes, plainly: what is read, how far, or what is wrong. No program in sight. No condition.
-/
import Derived.Test.YtimcmpcfnddioaaCd
namespace Go.Proofs.Ytimcmpcfnddioaa
namespace Cd

/-- what is read, and where the next one begins; or what is wrong -/
abbrev R (α : Type) := Except Int (α × Nat)
def uintF (l : List UInt8) : Nat → Nat → Nat → Nat → R Nat
  | 0, _, n, i => .ok (n, i)
  | f + 1, k, n, i => match l[i]? with
    | none => .error 8
    | some c => if (c.toNat = 0 ∧ 0 < k) ∨ (k = 9 ∧ 1 < c.toNat) then .error 7
      else if c.toNat < 128 then .ok (n + c.toNat * 128 ^ k, i + 1) else uintF l f (k + 1) (n + c.toNat % 128 * 128 ^ k) (i + 1)
def uintR (l : List UInt8) (i : Nat) : R Nat := uintF l 10 0 0 i
def unzig (n : Nat) : Int := if n % 2 = 0 then (n / 2 : Nat) else -((n / 2 : Nat) : Int) - 1
def intR (l : List UInt8) (i : Nat) : R Int := match uintR l i with
  | .error e => .error e
  | .ok (n, j) => .ok (unzig n, j)
def textR (s : ByteArray) (most i : Nat) : R ByteArray := match uintR s.data.toList i with
  | .error e => .error e
  | .ok (n, j) => if most < n then .error 19 else if s.size < j + n then .error 8 else .ok (s.extract j (j + n), j + n)
def nextR (l : List UInt8) (i : Nat) : R Nat := match l[i]? with
  | none => .error 8
  | some c => .ok (c.toNat, i + 1)
def bitsF (l : List UInt8) : Nat → Nat → Nat → R Nat
  | 0, b, i => .ok (b, i)
  | f + 1, b, i => match l[i]? with
    | none => .error 8
    | some c => bitsF l f (256 * b + c.toNat) (i + 1)
/-- a value whose rightness is not asked yet -/
def rawR (s : ByteArray) (i : Nat) : R V := match nextR s.data.toList i with
  | .error e => .error e
  | .ok (k, j) =>
    if k = 1 then match nextR s.data.toList j with
      | .error e => .error e
      | .ok (n, m) => .ok (⟨1, n, 0, ⟨#[]⟩⟩, m)
    else if k = 2 then match intR s.data.toList j with
      | .error e => .error e
      | .ok (n, m) => .ok (⟨2, n, 0, ⟨#[]⟩⟩, m)
    else if k = 3 then match bitsF s.data.toList 8 0 j with
      | .error e => .error e
      | .ok (b, m) => .ok (⟨3, 0, b, ⟨#[]⟩⟩, m)
    else if k = 4 ∨ k = 5 then match textR s 4096 j with
      | .error e => .error e
      | .ok (t, m) => .ok (⟨k, 0, 0, t⟩, m)
    else .ok (⟨k, 0, 0, ⟨#[]⟩⟩, j)
def valueR (s : ByteArray) (i : Nat) : R V := match rawR s i with
  | .error e => .error e
  | .ok (v, j) => if v.right then .ok (v, j) else .error 7
def rowF (s : ByteArray) : Nat → Nat → R (List V)
  | 0, i => .ok ([], i)
  | f + 1, i => match valueR s i with
    | .error e => .error e
    | .ok (v, j) => match rowF s f j with
      | .error e => .error e
      | .ok (l, m) => .ok (v :: l, m)
def rowR (s : ByteArray) (i : Nat) : R (List V) := match uintR s.data.toList i with
  | .error e => .error e
  | .ok (n, j) => if 1000 < n then .error 19 else rowF s n j
end Cd
end Go.Proofs.Ytimcmpcfnddioaa
