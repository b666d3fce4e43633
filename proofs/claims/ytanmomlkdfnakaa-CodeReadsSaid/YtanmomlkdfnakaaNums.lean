/-
  What a parameter that is a slice of numbers is. No condition.
-/
import Derived.Test.YtanmomlkdfnakaaProg
import Derived.ChangeSlices
import Derived.WideShapes
import Derived.Lib.SmallJoins
import Derived.Deep.SlicePairs
namespace Go.Proofs.Ytanmomlkdfnakaa
open Go.ChangeShapes Go.WideShapes Go.Joins Go.Deep

/-- a slice of numbers lies in memory -/
def NsAt (k : IntKind) (w : World) (v : Value) (zs : List Int) : Prop :=
  ∃ adr cap, v = .slice adr zs.length cap ∧ ∀ i (hi : i < zs.length), ∃ g off, adr = some ⟨g, off, none⟩ ∧ w.cell? ⟨g, off + i, none⟩ = some (.int k zs[i])
theorem open_nums {P : Program} {t e : TypeId} {k : IntKind} (ht : P.underlying t = some (.slice e)) (he : P.underlying e = some (.int k)) (hc : P.cellsOf e = 1)
    {H : Type} {enc : TypeId × Value → H} {W : World} {base b0 : Nat} {sp : Nat → Bool} {hd : Bool} {r : Reach} {v : Value} {d : DataW H} {p : List MemPlace} (hv : Value.okWide P W r b0 t v) (h : DataW.Trod enc P W base sp hd t v d p) :
    ∃ zs : List Int, zs.length ≤ maxLen ∧ NsAt k W v zs ∧ ∀ n ∈ zs, (Lit.int k n).wf = true := by
  obtain ⟨a, len, cap, rfl⟩ := okWide_slice ht hv
  obtain ⟨fuel, hf⟩ := h
  rcases open_ints ht he hc hf with ⟨e, _⟩ | ⟨a', len', cap', zs, e, hb, hl, hm, hz, _, hcell, hwf⟩
  · simp [Value.cells] at e
    obtain ⟨rfl, rfl, rfl⟩ := e
    exact ⟨[], by simp, ⟨none, 0, rfl, fun k hk => absurd hk (Nat.not_lt_zero k)⟩, fun x hx => absurd hx List.not_mem_nil⟩
  · simp [Value.cells] at e
    obtain ⟨rfl, rfl, rfl⟩ := e
    have hlz : len ≤ zs.length := by rw [hz]; split <;> omega
    have hlen : (zs.take len).length = len := by rw [List.length_take]; omega
    refine ⟨zs.take len, by omega, ⟨some a', cap, by rw [hlen], fun i hi => ?_⟩, fun n hn => hwf n (List.mem_of_mem_take hn)⟩
    have hi' : i < len := by omega
    obtain ⟨bb, off, spot⟩ := a'
    have q := hcell i (by omega)
    have q0 := hcell 0 (by omega)
    have hs : spot = none := World.cell?_spot (a := ⟨bb, off, spot⟩) (by simpa [Addr.add] using q0)
    subst hs
    rw [add_plain] at q
    refine ⟨bb, off, rfl, ?_⟩
    rw [q]
    simp [show i < zs.length by omega]
end Go.Proofs.Ytanmomlkdfnakaa
