/-
  key's reader: take: its contract. Condition: at most eight bytes are asked for; the text has at most 1000000000 bytes.
-/
import Derived.Test.YtimcmpcfnddioaaKyN
import Derived.Test.YtimcmpcfnddioaaRd
namespace Go.Proofs.Ytimcmpcfnddioaa
open Go.RowKit

/-- a reader: its bytes, and whether something was wrong -/
def Kr (w : World) (g : Nat) (l : List UInt8) (b : Bool) : Prop := w.heap[g]? = some (.cells #[.string (bstr l), .bool b] 47 (0, 0))
theorem Kr.cells {w : World} {g : Nat} {l : List UInt8} {b : Bool} (h : Kr w g l b) : w.cell? ⟨g, 0, none⟩ = some (.string (bstr l)) ∧ w.cell? ⟨g, 1, none⟩ = some (.bool b) ∧ w.frozen? ⟨g, 0, none⟩ = false ∧ w.frozen? ⟨g, 1, none⟩ = false ∧ g < w.heap.size :=
  ⟨cell_of_row w g 0 _ _ _ h, cell_of_row w g 1 _ _ _ h, frozen_of_row w g 0 _ _ h, frozen_of_row w g 1 _ _ h, (Array.getElem?_eq_some_iff.1 h).1⟩
theorem Kr.keep {w w' : World} {g : Nat} {l : List UInt8} {b : Bool} (h : Kr w g l b) (hb : Below w.heap.size w w') : Kr w' g l b := keepBlock h hb
theorem Kr.setBad {w : World} {g : Nat} {l : List UInt8} {b : Bool} (h : Kr w g l b) (c : Bool) : Kr (w.setCell ⟨g, 1, none⟩ (.bool c)) g l c := heap_setCell_same w g 1 _ _ (.bool c) h
theorem Kr.setText {w : World} {g : Nat} {l : List UInt8} {b : Bool} (h : Kr w g l b) (r : List UInt8) : Kr (w.setCell ⟨g, 0, none⟩ (.string (bstr r))) g r b := heap_setCell_same w g 0 _ _ (.string (bstr r)) h
theorem Upd.set (g o : Nat) (w : World) (v : Value) : Upd g w (w.setCell ⟨g, o, none⟩ v) := by
  have hb : Below g w (w.setCell ⟨g, o, none⟩ v) := (Below.refl g w).setCell (p := ⟨g, o, none⟩) (Nat.le_refl _) v
  exact ⟨hb.os, hb.tape, hb.output, hb.size, fun i _ hn => heap_setCell_other w ⟨g, o, none⟩ i v (by simpa [eq_comm] using hn)⟩
set_option maxRecDepth 100000 in
set_option maxHeartbeats 1600000 in
theorem take_no (g : Nat) (l : List UInt8) (b : Bool) (n : Nat) (hn : n ≤ 8) (w : World) (hr : Kr w g l b) (hl : l.length < n) :
    Calls Try.prog 46 #[.pointer (some ⟨g, 0, none⟩), .int .i64 (n : Int)] w fun e w' => e = .returned (.string (bstr (List.replicate n 0))) ∧ Upd g w w' ∧ Kr w' g l true := by
  obtain ⟨i0, hi, hz0, hz1, hz2⟩ := info_parts Try.infoByte
  obtain ⟨c0, c1, f0, f1, hg⟩ := hr.cells
  have hrep : madeCells #[.int .u8 0] n = Array.replicate n (byteV 0) := by
    unfold madeCells
    apply Array.ext
    · simp
    · intro i h1 h2
      simp [Nat.mod_one]; rfl
  have hrep2 : Array.replicate n (byteV 0) = ((List.replicate n (0 : UInt8)).map byteV).toArray := by simp
  have hmk : ∀ u : World, (Instr.makeSlice 50 (.int .i64 (n : Int)) (.int .i64 (n : Int))).run Try.prog u =
      .ok (.slice (some ⟨u.heap.size, 0, none⟩) n n) (u.alloc (.cells (Array.replicate n (byteV 0)) 5)) := fun u => by
    have h := run_make (P := Try.prog) u 50 5 i0 (.int .u8 0) Try.underlying50 hi hz0 .i64 .i64 n n (by omega) (Int.le_refl _) (by rw [hz2]; omega) (by omega)
    rw [← hrep]
    simpa [hz1, Value.cells] using h
  have hs : (bstr l).size = l.length := rfl
  have hls : ((bstr l).size : Int) < (n : Int) := by omega
  have hR1 := hr.setBad true
  have hU1 := Upd.set g 1 w (.bool true)
  have hx : (convert 50 9 (.slice (some ⟨w.heap.size, 0, none⟩) n n)).run Try.prog ((w.setCell ⟨g, 1, none⟩ (.bool true)).alloc (.cells (Array.replicate n (byteV 0)) 5)) = .ok (.string (bstr (List.replicate n 0))) ((w.setCell ⟨g, 1, none⟩ (.bool true)).alloc (.cells (Array.replicate n (byteV 0)) 5)) := by
    have h := run_string_block (P := Try.prog) 50 9 5 (List.replicate n 0) _ (0, 0) hrep2 Try.underlying50 Try.underlying5 Try.underlying9 (w.setCell ⟨g, 1, none⟩ (.bool true)).heap.size n n (by simp) _ (heap_alloc_new (w.setCell ⟨g, 1, none⟩ (.bool true)) _)
    rwa [show (w.setCell ⟨g, 1, none⟩ (.bool true)).heap.size = w.heap.size by simp [World.setCell]] at h
  clear hrep2
  clear hr hrep
  go_enter Try.func46, Try.ntmps46
  go_wp2_with fail
  go_ret
  exact ⟨rfl, hU1.trans (Upd.of (hba _ _)), hR1.keep (hba _ _)⟩
set_option maxRecDepth 100000 in
set_option maxHeartbeats 1600000 in
theorem take_ok (g : Nat) (l : List UInt8) (b : Bool) (n : Nat) (hn : n ≤ 8) (w : World) (hr : Kr w g l b) (hl : n ≤ l.length) (_hs : l.length ≤ 1000000000) :
    Calls Try.prog 46 #[.pointer (some ⟨g, 0, none⟩), .int .i64 (n : Int)] w fun e w' => e = .returned (.string (bstr (l.take n))) ∧ Upd g w w' ∧ Kr w' g (l.drop n) b := by
  obtain ⟨c0, c1, f0, f1, hg⟩ := hr.cells
  have hs : (bstr l).size = l.length := rfl
  have hls0 := _hs
  have hls : ¬ ((bstr l).size : Int) < (n : Int) := by omega
  have hls2 : (n : Int) ≤ ((bstr l).size : Int) := by omega
  have hn0 : (0 : Int) ≤ (n : Int) := by omega
  have e1 : (bstr l).extract 0 n = bstr (l.take n) := extract_bstr (bstr l) n
  have e2 : (bstr l).extract n l.length = bstr (l.drop n) := ba_eq (extract_drop (bstr l) n)
  have hR1 := hr.setText (l.drop n)
  have hU1 := Upd.set g 0 w (.string (bstr (l.drop n)))
  rw [← e1]
  clear hr hl
  go_enter Try.func46, Try.ntmps46
  go_wp2_with fail
  go_ret
  exact ⟨rfl, hU1, hR1⟩
namespace Ky
/-- the next bytes, what is left, and whether something was wrong -/
def tk (n : Nat) (l : List UInt8) (b : Bool) : List UInt8 × List UInt8 × Bool := if l.length < n then (List.replicate n 0, l, true) else (l.take n, l.drop n, b)
theorem tk_length (n : Nat) (l : List UInt8) (b : Bool) : (tk n l b).1.length = n := by
  unfold tk
  split
  · simp
  · simp; omega
theorem tk_left (n : Nat) (l : List UInt8) (b : Bool) : (tk n l b).2.1.length ≤ l.length := by
  unfold tk
  split
  · simp
  · simp
end Ky
theorem take_any (g : Nat) (l : List UInt8) (b : Bool) (n : Nat) (hn : n ≤ 8) (w : World) (hr : Kr w g l b) (hs : l.length ≤ 1000000000) :
    Calls Try.prog 46 #[.pointer (some ⟨g, 0, none⟩), .int .i64 (n : Int)] w fun e w' => e = .returned (.string (bstr (Ky.tk n l b).1)) ∧ Upd g w w' ∧ Kr w' g (Ky.tk n l b).2.1 (Ky.tk n l b).2.2 := by
  unfold Ky.tk
  by_cases h : l.length < n
  · rw [if_pos h]; exact take_no g l b n hn w hr h
  · rw [if_neg h]; exact take_ok g l b n hn w hr (by omega) hs
end Go.Proofs.Ytimcmpcfnddioaa
