/-
  Push of conditions: its contract. Condition: at most 1000000 nodes.
-/
import Derived.Test.YtfdehigepgeknaaPu
import Derived.Laws.EntriesVeiled
namespace Go.Proofs.Ytfdehigepgeknaa
open Go.RowKit Pd

/-- the condition without Not, of nodes -/
def Pd.pushL (l : List N) (p : List N) : Prop := (whole l = false ∧ p = []) ∨ ∃ t : T, t.ok ∧ l = t.ser ∧ whole l = true ∧ p = (t.push false).ser
set_option maxRecDepth 100000 in
set_option maxHeartbeats 6400000 in
theorem push_any (v : Value) (l : List N) (w : World) (hv : NsAt w v l) (hl : l.length ≤ 1000000) : Calls Try.prog 16 #[v] w fun e w' => ∃ v' p, e = .returned v' ∧ w'.ownsRow w.heap.size 41 6 v' p.length (ncells p) ∧ pushL l p ∧ Below w.heap.size w w' := by
  have HW := hid (fun W h => whole_any v l W h hl)
  have HV := hid hv
  have hb1 := hid (hba w (.cells #[v] 22))
  obtain ⟨adr, cap, rfl⟩ := hv.slc
  clear hv
  have hb1c := cell_of_row (w.alloc (.cells #[.slice adr l.length cap] 22)) w.heap.size 0 _ _ (0, 0) (heap_alloc_new w _)
  cases hw : whole l with
  | false =>
    have cw0 := HW.out _ (HV.out.below (hba w (.cells #[.slice adr l.length cap] 22)))
    rw [hw] at cw0
    have cw := hid cw0
    have HE := hid hw
    clear cw0 hw HW
    go_enter Try.func16, Try.ntmps16
    go_wp2_with fail
    refine cw.out.mono ?_; rintro e w1 ⟨rfl, rfl⟩
    go_wp2_with fail
    go_ret
    exact ⟨_, [], rfl, World.ownsRow_nil _ _ _ _, .inl ⟨HE.out, rfl⟩, hb1.out⟩
  | true =>
    obtain ⟨t, ht, hlt⟩ := tree (whole_ends hw).1
    have cw0 := HW.out _ (HV.out.below (hba w (.cells #[.slice adr l.length cap] 22)))
    rw [hw] at cw0
    have cw := hid cw0
    have HE := hid hw
    have HT := hid ht
    have HL := hid hlt
    have hser : t.ser.length ≤ 1000000 := by rw [← hlt]; exact hl
    have HS := hid hser
    clear cw0 hw HW ht hlt hser
    have h3 : (((w.alloc (.cells #[.slice adr l.length cap] 22)).alloc (.cells #[.slice none 0 0] 22)).alloc (.cells #[.nilFunc] 58)).heap[w.heap.size + 1 + 1]? = some (.cells #[.nilFunc] 58 (0, 0)) := by
      have h := heap_alloc_new ((w.alloc (.cells #[.slice adr l.length cap] 22)).alloc (.cells #[.slice none 0 0] 22)) (.cells #[.nilFunc] 58)
      rwa [show ((w.alloc (.cells #[.slice adr l.length cap] 22)).alloc (.cells #[.slice none 0 0] 22)).heap.size = w.heap.size + 1 + 1 by simp] at h
    have c3 := cell_of_row _ _ 0 _ _ _ h3
    have f3 := frozen_of_row _ _ 0 _ _ h3
    simp only [List.getElem?_toArray, List.getElem?_cons_zero] at c3
    have hTA : TA w (.slice adr l.length cap) (((w.alloc (.cells #[.slice adr l.length cap] 22)).alloc (.cells #[.slice none 0 0] 22)).alloc (.cells #[turnV w.heap.size] 58)) [] := by
      refine ⟨hnext (hba w _) (hnext (hba _ _) (hba _ _)), keepBlock (keepBlock (heap_alloc_new w _) (hba _ _)) (hba _ _), ⟨.slice none 0 0, ?_, World.ownsRow_nil _ _ _ _⟩, ?_⟩
      · have h := heap_alloc_new (w.alloc (.cells #[.slice adr l.length cap] 22)) (.cells #[.slice none 0 0] 22)
        rw [show (w.alloc (.cells #[.slice adr l.length cap] 22)).heap.size = w.heap.size + 1 by simp] at h
        exact keepBlock h (hba _ _)
      · have h := heap_alloc_new ((w.alloc (.cells #[.slice adr l.length cap] 22)).alloc (.cells #[.slice none 0 0] 22)) (.cells #[turnV w.heap.size] 58)
        rwa [show ((w.alloc (.cells #[.slice adr l.length cap] 22)).alloc (.cells #[.slice none 0 0] 22)).heap.size = w.heap.size + 2 by simp] at h
    have cta := hid (turn_any w _ l HV.out hl t HT.out false 0 [] _ [] (by rw [List.drop_zero, List.append_nil]; exact HL.out) hTA (by simpa using HS.out))
    unfold turnV at cta
    rw [show ((0 : Nat) : Int) = 0 from rfl] at cta
    clear hTA h3
    go_enter Try.func16, Try.ntmps16
    go_wp2_with fail
    refine cw.out.mono ?_; rintro e w1 ⟨rfl, rfl⟩
    go_wp2_with fail
    refine (cta.out).mono ?_; rintro e w5 ⟨rfl, hta⟩
    have HTA := hid hta
    obtain ⟨o, hbo, hown⟩ := hta.bo
    have po := cell_of_row w5 _ 0 _ _ _ hbo
    simp only [List.getElem?_toArray, List.getElem?_cons_zero] at po
    have HOW := hid hown
    clear hta hbo hown
    go_wp2_with fail
    go_ret
    exact ⟨_, _, rfl, own_base HOW.out (by omega), .inr ⟨t, HT.out, HL.out, HE.out, rfl⟩, HTA.out.below⟩
end Go.Proofs.Ytfdehigepgeknaa
