/-
  The reference's reader in memory; its New, fail, next, end, Left: their contracts. Condition: the text has at most 1000000000 bytes.
-/
import Derived.Test.YtmgafcblbbbanaaCdC
import Derived.Test.YtmgafcblbbbanaaOp
import Derived.Test.YtmgafcblbbbanaaCdB
namespace Go.Proofs.Ytmgafcblbbbanaa
open Go.RowKit

/-- the reference's reader: its text, its place, what is wrong -/
def Rfx (w : World) (g : Nat) (s : ByteArray) (i : Nat) (er : Int) : Prop := w.heap[g]? = some (.cells #[.string s, .int .i64 (i : Int), .int .i64 er] 73 (0, 0))
theorem Rfx.cells {w : World} {g : Nat} {s : ByteArray} {i : Nat} {er : Int} (h : Rfx w g s i er) : w.cell? ⟨g, 0, none⟩ = some (.string s) ∧ w.cell? ⟨g, 1, none⟩ = some (.int .i64 (i : Int)) ∧ w.cell? ⟨g, 2, none⟩ = some (.int .i64 er) ∧
    w.frozen? ⟨g, 1, none⟩ = false ∧ w.frozen? ⟨g, 2, none⟩ = false ∧ g < w.heap.size :=
  ⟨cell_of_row w g 0 _ _ _ h, cell_of_row w g 1 _ _ _ h, cell_of_row w g 2 _ _ _ h, frozen_of_row w g 1 _ _ h, frozen_of_row w g 2 _ _ h, (Array.getElem?_eq_some_iff.1 h).1⟩
theorem Rfx.keep {w w' : World} {g : Nat} {s : ByteArray} {i : Nat} {er : Int} (h : Rfx w g s i er) (hb : Below w.heap.size w w') : Rfx w' g s i er := keepBlock h hb
theorem Rfx.upd {w w' : World} {g g2 : Nat} {s : ByteArray} {i : Nat} {er : Int} (h : Rfx w g2 s i er) (hu : Upd g w w') (hne : g2 ≠ g) : Rfx w' g2 s i er := Var.upd (w := w) (b := g2) (cs := #[.string s, .int .i64 (i : Int), .int .i64 er]) h hu hne
theorem Rfx.setE {w : World} {g : Nat} {s : ByteArray} {i : Nat} {er : Int} (h : Rfx w g s i er) (e : Int) : Rfx (w.setCell ⟨g, 2, none⟩ (.int .i64 e)) g s i e := heap_setCell_same w g 2 _ _ (.int .i64 e) h
theorem Rfx.setI {w : World} {g : Nat} {s : ByteArray} {i : Nat} {er : Int} (h : Rfx w g s i er) (j : Nat) : Rfx (w.setCell ⟨g, 1, none⟩ (.int .i64 (j : Int))) g s j er := heap_setCell_same w g 1 _ _ (.int .i64 (j : Int)) h

theorem Rfx.setAt {w : World} {g : Nat} {s : ByteArray} {i : Nat} {er : Int} (h : Rfx w g s i er) (j : Int) : (w.setCell ⟨g, 1, none⟩ (.int .i64 j)).heap[g]? = some (.cells #[.string s, .int .i64 j, .int .i64 er] 73 (0, 0)) :=
  heap_setCell_same w g 1 _ _ (.int .i64 j) h

theorem newX_any (s : ByteArray) (w : World) : Calls Try.prog 42 #[.string s] w fun e w' => e = .returned (.pointer (some ⟨w.heap.size, 0, none⟩)) ∧ w' = w.alloc (.cells #[.string s, .int .i64 0, .int .i64 0] 73) := by
  go_enter Try.func42, Try.ntmps42
  go_wp2
  go_ret
  exact ⟨rfl, rfl⟩
theorem newX_rfx (s : ByteArray) (w : World) : Rfx (w.alloc (.cells #[.string s, .int .i64 0, .int .i64 0] 73)) w.heap.size s 0 0 := heap_alloc_new w _
theorem failX_new (g : Nat) (s : ByteArray) (i : Nat) (e0 : Int) (w : World) (hr : Rfx w g s i 0) :
    Calls Try.prog 64 #[.pointer (some ⟨g, 0, none⟩), .int .i64 e0] w fun e w' => (∃ v, e = .returned v) ∧ Upd g w w' ∧ Rfx w' g s i e0 := by
  obtain ⟨c0, c1, c2, f1, f2, hg⟩ := hr.cells
  go_enter Try.func64, Try.ntmps64
  go_wp2
  exact ⟨rfl, .tuple #[], by simp [results, Try.results64, go_sem], ⟨_, rfl⟩, Upd.set g 2 _ _, hr.setE e0⟩
set_option maxRecDepth 100000 in
theorem nextX_was (g : Nat) (s : ByteArray) (i : Nat) (er : Int) (w : World) (hr : Rfx w g s i er) (he : er ≠ 0) :
    Calls Try.prog 65 #[.pointer (some ⟨g, 0, none⟩)] w fun e w' => e = .returned (.int .i64 0) ∧ w = w' := by
  obtain ⟨c0, c1, c2, f1, f2, hg⟩ := hr.cells
  have hq : (er != 0) = true := by rw [bne_iff_ne]; exact he
  go_enter Try.func65, Try.ntmps65
  go_wp2
  go_ret
  exact ⟨rfl, rfl⟩
set_option maxRecDepth 100000 in
theorem nextX_no (g : Nat) (s : ByteArray) (i : Nat) (w : World) (hr : Rfx w g s i 0) (hi : s.size ≤ i) :
    Calls Try.prog 65 #[.pointer (some ⟨g, 0, none⟩)] w fun e w' => e = .returned (.int .i64 0) ∧ Upd g w w' ∧ Rfx w' g s i 8 := by
  obtain ⟨c0, c1, c2, f1, f2, hg⟩ := hr.cells
  have hd : decide ((s.size : Int) ≤ (i : Int)) = true := by simp; omega
  have hf := hid (fun W h => failX_new g s i 8 W h)
  go_enter Try.func65, Try.ntmps65
  go_wp2_with fail
  go_quiet (fail)
  go_wp2_with fail
  refine (hf.out (w.drewN nq) hr).mono ?_; rintro e w1 ⟨⟨v, rfl⟩, hu, hR⟩
  go_wp2_with fail
  go_ret
  exact ⟨rfl, (Upd.of (hdrewN (Below.refl _ _) nq)).trans hu, hR⟩
set_option maxRecDepth 100000 in
theorem nextX_ok (g : Nat) (s : ByteArray) (i : Nat) (w : World) (hr : Rfx w g s i 0) (hi : i < s.size) (hs : i ≤ 1000000000) :
    Calls Try.prog 65 #[.pointer (some ⟨g, 0, none⟩)] w fun e w' => e = .returned (.int .i64 (s[i].toNat : Int)) ∧ Upd g w w' ∧ Rfx w' g s (i + 1) 0 := by
  obtain ⟨c0, c1, c2, f1, f2, hg⟩ := hr.cells
  have hd : decide ((s.size : Int) ≤ (i : Int)) = false := by simp; omega
  have hi' : (i : Int) < s.size := by omega
  have hi0 : (0 : Int) ≤ (i : Int) := by omega
  have hb := s[i].toNat_lt
  go_enter Try.func65, Try.ntmps65
  go_wp2_with fail
  go_quiet (fail)
  go_wp2_with fail
  have hw2 : IntKind.i64.wrap (i : Int) = (i : Int) := IntWalk.i64_in _ (by omega)
  go_quiet (fail)
  go_wp2_with fail
  go_ret
  exact ⟨rfl, (Upd.of (hdrewN (Below.refl _ _) _)).trans (Upd.set g 1 _ _), Rfx.setAt (w := w.drewN _) hr _⟩
theorem endX_ok (g : Nat) (s : ByteArray) (i a : Nat) (w : World) (hr : Rfx w g s i 0) :
    Calls Try.prog 60 #[.pointer (some ⟨g, 0, none⟩), .int .i64 (a : Int)] w fun e w' => e = .returned (.bool true) ∧ w = w' := by
  obtain ⟨c0, c1, c2, f1, f2, hg⟩ := hr.cells
  go_enter Try.func60, Try.ntmps60
  go_wp2
  go_ret
  exact ⟨rfl, rfl⟩
theorem endX_no (g : Nat) (s : ByteArray) (i a : Nat) (er : Int) (w : World) (hr : Rfx w g s i er) (he : er ≠ 0) :
    Calls Try.prog 60 #[.pointer (some ⟨g, 0, none⟩), .int .i64 (a : Int)] w fun e w' => e = .returned (.bool false) ∧ Upd g w w' ∧ Rfx w' g s a er := by
  obtain ⟨c0, c1, c2, f1, f2, hg⟩ := hr.cells
  have hq : (er != 0) = true := by rw [bne_iff_ne]; exact he
  go_enter Try.func60, Try.ntmps60
  go_wp2
  go_ret
  exact ⟨rfl, Upd.set g 1 _ _, hr.setI a⟩
end Go.Proofs.Ytmgafcblbbbanaa
