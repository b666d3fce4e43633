/-
  The methods of code's reader, New: their contracts. Condition: the text has at most 1000000000 bytes.
-/
import Derived.Test.YtmgafcblbbbanaaTry
namespace Go.Proofs.Ytmgafcblbbbanaa
open Go.RowKit

theorem new_any (s : ByteArray) (w : World) : Calls Try.prog 37 #[.string s] w fun e w' => e = .returned (.pointer (some ⟨w.heap.size, 0, none⟩)) ∧ w' = w.alloc (.cells #[.string s, .int .i64 0, .int .i64 0] 68) := by
  go_enter Try.func37, Try.ntmps37
  go_wp2
  go_ret
  exact ⟨rfl, rfl⟩
theorem new_rdr (s : ByteArray) (w : World) : Rdr (w.alloc (.cells #[.string s, .int .i64 0, .int .i64 0] 68)) w.heap.size s 0 0 := heap_alloc_new w _

theorem err_any (g : Nat) (s : ByteArray) (i : Nat) (er : Int) (w : World) (hr : Rdr w g s i er) :
    Calls Try.prog 40 #[.pointer (some ⟨g, 0, none⟩)] w fun e w' => e = .returned (.int .i64 er) ∧ w = w' := by
  obtain ⟨c0, c1, c2, f1, f2, hg⟩ := hr.cells
  go_enter Try.func40, Try.ntmps40
  go_wp2
  go_ret
  exact ⟨rfl, rfl⟩
theorem err_nil (w : World) : Calls Try.prog 40 #[.pointer none] w fun e w' => e = .returned (.int .i64 13) ∧ w = w' := by
  go_enter Try.func40, Try.ntmps40
  go_wp2
  go_ret
  exact ⟨rfl, rfl⟩

theorem mUint (g : Nat) (s : ByteArray) (i : Nat) (er : Int) (w : World) (hr : Rdr w g s i er) (hi : i ≤ s.size) (hs : s.size ≤ 1000000000) :
    Calls Try.prog 39 #[.pointer (some ⟨g, 0, none⟩)] w (Top (fun n : Nat => .int .u64 (n : Int)) g s (Cd.top 0 (Cd.uintR s.data.toList) i er) w) := by
  have hmf := run_makeFunc
  have h := hid (try_uint64 g s i er w hr hi hs)
  go_enter Try.func39, Try.ntmps39
  go_wp2_with fail
  refine (h.out).mono ?_; rintro e w1 ⟨rfl, hu, hR, hj⟩
  go_wp2_with fail
  go_ret
  exact ⟨rfl, hu, hR, hj⟩
theorem mText (g : Nat) (s : ByteArray) (i : Nat) (er : Int) (w : World) (hr : Rdr w g s i er) (hi : i ≤ s.size) (hs : s.size ≤ 1000000000) :
    Calls Try.prog 38 #[.pointer (some ⟨g, 0, none⟩)] w (Top (fun t : ByteArray => .string t) g s (Cd.top ⟨#[]⟩ (Cd.textR s 1000000) i er) w) := by
  have hmf := run_makeFunc
  have hb := hba w (.cells #[.pointer (some ⟨g, 0, none⟩)] 56)
  have h := hid (try_string g w.heap.size s i er (w.alloc (.cells #[.pointer (some ⟨g, 0, none⟩)] 56)) (hr.keep hb) (Var.new w _ _ rfl) hi hs)
  have hB := hid hb
  clear hb
  go_enter Try.func38, Try.ntmps38
  go_wp2_with fail
  refine (h.out).mono ?_; rintro e w1 ⟨rfl, hu, hR, hj⟩
  go_wp2_with fail
  go_ret
  exact ⟨rfl, (Upd.of hB.out).trans hu, hR, hj⟩
end Go.Proofs.Ytmgafcblbbbanaa
