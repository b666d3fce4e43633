/-
  What a value as an argument is. No condition.
-/
import Derived.Test.YtfdehigepgeknaaPb
namespace Go.Proofs.Ytfdehigepgeknaa
open Go.RowKit Go.Joins Go.ChangeShapes Go.WideShapes Go.Deep

theorem cellsVal : Try.prog.cellsOf 39 = 4 := by kernel_rfl
theorem open_value {H : Type} {enc : TypeId × Value → H} {W : World} {base b0 : Nat} {sp : Nat → Bool} {hd : Bool} {r : Reach} {v : Value} {d : DataW H} {p : List MemPlace} (hv : Value.okWide Try.prog W r b0 39 v) (h : DataW.Trod enc Try.prog W base sp hd 39 v d p) :
    ∃ (k n : Int) (b : Nat) (s : ByteArray), v = .agg #[.int .i64 k, .int .i64 n, .int .u64 (b : Int), .string s] ∧ (-9223372036854775808 ≤ n ∧ n ≤ 9223372036854775807) ∧ b < 18446744073709551616 ∧ s.size ≤ maxLen := by
  obtain ⟨v0, v1, v2, v3, y0, y1, y2, y3, n, rfl, _, _, h0, h1, h2, h3⟩ := open_agg4 Try.underlying39 (by kernel_rfl) cellsVal hv h
  obtain ⟨k0, e0, _, _⟩ := DataW.trod_int Try.underlying3 h0
  obtain ⟨k1, e1, _, w1⟩ := DataW.trod_int Try.underlying3 h1
  obtain ⟨k2, e2, _, w2⟩ := DataW.trod_int Try.underlying37 h2
  obtain ⟨s, e3, _, w3⟩ := DataW.trod_string Try.underlying9 h3
  simp at e0 e1 e2 e3
  subst e0 e1 e2 e3
  obtain ⟨b, rfl, hb⟩ := u64_of w2
  exact ⟨k0, k1, b, s, rfl, int64_of w1, hb, w3⟩
end Go.Proofs.Ytfdehigepgeknaa
