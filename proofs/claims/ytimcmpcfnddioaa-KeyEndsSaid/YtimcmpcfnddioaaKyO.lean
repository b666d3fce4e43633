/-
  key's one (a value's bytes): its contract. Condition: the value is right.
-/
import Derived.Test.YtimcmpcfnddioaaKyT
namespace Go.Proofs.Ytimcmpcfnddioaa
open Go.RowKit

theorem with_any (k : Nat) (hk : k ≤ 5) (s : ByteArray) (hs : s.size ≤ 9000) (g : Nat) (w : World) (h : w.cell? ⟨g, 0, none⟩ = some (.int .i64 (k : Int))) :
    Calls Try.prog 35 #[.string s, .pointer (some ⟨g, 0, none⟩)] w fun e w' => e = .returned (.string (bstr (UInt8.ofNat (k + 1) :: s.data.toList))) ∧ Below w.heap.size w w' := by
  have hstr : ∀ c : UInt8, bstr (c :: s.data.toList) = bstr [c] ++ s := fun c => by
    rw [show (c :: s.data.toList) = [c] ++ s.data.toList from rfl, ← bstr_append, bstr_of]
  rw [hstr]
  have hz : ∀ c : UInt8, (bstr [c]).size = 1 := fun c => rfl
  obtain rfl | rfl | rfl | rfl | rfl | rfl : k = 0 ∨ k = 1 ∨ k = 2 ∨ k = 3 ∨ k = 4 ∨ k = 5 := by omega
  · have hst := fun W => run_string_one (P := Try.prog) W 50 9 5 (.int .u8 1) 1 rfl Try.underlying50 Try.underlying5 Try.underlying9
    have hz1 := hz 1
    have h' : w.cell? ⟨g, 0, none⟩ = some (.int .i64 0) := h
    clear h hz hstr
    go_enter Try.func35, Try.ntmps35
    go_wp2_with fail
    go_ret
    exact ⟨rfl, (Below.refl _ _).alloc (Nat.le_refl _) _⟩
  · have hst := fun W => run_string_one (P := Try.prog) W 50 9 5 (.int .u8 2) 2 rfl Try.underlying50 Try.underlying5 Try.underlying9
    have hz1 := hz 2
    have h' : w.cell? ⟨g, 0, none⟩ = some (.int .i64 1) := h
    clear h hz hstr
    go_enter Try.func35, Try.ntmps35
    go_wp2_with fail
    go_ret
    exact ⟨rfl, (Below.refl _ _).alloc (Nat.le_refl _) _⟩
  · have hst := fun W => run_string_one (P := Try.prog) W 50 9 5 (.int .u8 3) 3 rfl Try.underlying50 Try.underlying5 Try.underlying9
    have hz1 := hz 3
    have h' : w.cell? ⟨g, 0, none⟩ = some (.int .i64 2) := h
    clear h hz hstr
    go_enter Try.func35, Try.ntmps35
    go_wp2_with fail
    go_ret
    exact ⟨rfl, (Below.refl _ _).alloc (Nat.le_refl _) _⟩
  · have hst := fun W => run_string_one (P := Try.prog) W 50 9 5 (.int .u8 4) 4 rfl Try.underlying50 Try.underlying5 Try.underlying9
    have hz1 := hz 4
    have h' : w.cell? ⟨g, 0, none⟩ = some (.int .i64 3) := h
    clear h hz hstr
    go_enter Try.func35, Try.ntmps35
    go_wp2_with fail
    go_ret
    exact ⟨rfl, (Below.refl _ _).alloc (Nat.le_refl _) _⟩
  · have hst := fun W => run_string_one (P := Try.prog) W 50 9 5 (.int .u8 5) 5 rfl Try.underlying50 Try.underlying5 Try.underlying9
    have hz1 := hz 5
    have h' : w.cell? ⟨g, 0, none⟩ = some (.int .i64 4) := h
    clear h hz hstr
    go_enter Try.func35, Try.ntmps35
    go_wp2_with fail
    go_ret
    exact ⟨rfl, (Below.refl _ _).alloc (Nat.le_refl _) _⟩
  · have hst := fun W => run_string_one (P := Try.prog) W 50 9 5 (.int .u8 6) 6 rfl Try.underlying50 Try.underlying5 Try.underlying9
    have hz1 := hz 6
    have h' : w.cell? ⟨g, 0, none⟩ = some (.int .i64 5) := h
    clear h hz hstr
    go_enter Try.func35, Try.ntmps35
    go_wp2_with fail
    go_ret
    exact ⟨rfl, (Below.refl _ _).alloc (Nat.le_refl _) _⟩

theorem nat_xor_top (a : Nat) (ha : a < 18446744073709551616) : a ^^^ 2 ^ 63 = if a < 2 ^ 63 then a + 2 ^ 63 else a - 2 ^ 63 := by
  by_cases hl : a < 2 ^ 63
  · rw [if_pos hl, Nat.add_comm, show 2 ^ 63 + a = 2 ^ 63 * 1 + a by omega, Nat.two_pow_add_eq_or_of_lt hl]
    apply Nat.eq_of_testBit_eq
    intro i
    rw [Nat.testBit_xor, Nat.testBit_or, Nat.mul_one, Nat.testBit_two_pow]
    by_cases hi : 63 = i
    · subst hi; rw [Nat.testBit_lt_two_pow hl]; simp
    · simp [hi]
  · rw [if_neg hl]
    obtain ⟨c, rfl⟩ : ∃ c, a = 2 ^ 63 * 1 + c := ⟨a - 2 ^ 63, by omega⟩
    have hc : c < 2 ^ 63 := by omega
    rw [show 2 ^ 63 * 1 + c - 2 ^ 63 = c by omega, Nat.two_pow_add_eq_or_of_lt hc]
    apply Nat.eq_of_testBit_eq
    intro i
    rw [Nat.testBit_xor, Nat.testBit_or, Nat.mul_one, Nat.testBit_two_pow]
    by_cases hi : 63 = i
    · subst hi; rw [Nat.testBit_lt_two_pow hc]; simp
    · simp [hi]
/-- a whole number, moved so that it is one without a sign -/
def Ky.moved (n : Int) : Nat := (n + 9223372036854775808).toNat
theorem Ky.moved_lt {n : Int} (h1 : n ≤ 9223372036854775807) : Ky.moved n < 18446744073709551616 := by unfold Ky.moved; omega
theorem xor_top (n : Int) (h0 : -9223372036854775808 ≤ n) (h1 : n ≤ 9223372036854775807) : bits .xor .u64 (IntKind.u64.wrap n) 9223372036854775808 = (Ky.moved n : Int) := by
  rw [IntKind.wrap_u64]
  obtain ⟨a, ha⟩ : ∃ a : Nat, n % 18446744073709551616 = (a : Int) := ⟨(n % 18446744073709551616).toNat, by omega⟩
  have h := bits_xor_u64_nat a 9223372036854775808 (by omega) (by decide)
  rw [show (9223372036854775808 : Nat) = 2 ^ 63 from rfl, nat_xor_top a (by omega)] at h
  rw [ha, show (9223372036854775808 : Int) = ((2 ^ 63 : Nat) : Int) from rfl, h]
  unfold Ky.moved
  split <;> omega
/-- a value's bytes -/
def Ky.one (k n : Int) (b : Nat) (s : ByteArray) : List UInt8 :=
  if k = 1 then [2, UInt8.ofNat n.toNat] else if k = 2 then 3 :: Cd.eight (Ky.moved n) else if k = 3 then 4 :: Cd.eight (Ky.turned b) else if k = 4 then 5 :: (Ky.esc s.data.toList ++ [0, 1]) else if k = 5 then 6 :: (Ky.esc s.data.toList ++ [0, 1]) else [1]
theorem right_kinds {k n : Int} {b : Nat} {s : ByteArray} (hr : Va.right k n b s = true) : k = 0 ∨ (k = 1 ∧ (n = 0 ∨ n = 1)) ∨ k = 2 ∨ k = 3 ∨ (k = 4 ∧ s.size ≤ 4096) ∨ (k = 5 ∧ s.size ≤ 4096) := by
  unfold Va.right at hr
  by_cases h0 : k = 0
  · exact .inl h0
  by_cases h1 : k = 1
  · subst h1; simp at hr; exact .inr (.inl ⟨rfl, hr.1.1⟩)
  by_cases h2 : k = 2
  · exact .inr (.inr (.inl h2))
  by_cases h3 : k = 3
  · exact .inr (.inr (.inr (.inl h3)))
  by_cases h4 : k = 4
  · subst h4; simp at hr; exact .inr (.inr (.inr (.inr (.inl ⟨rfl, hr.2⟩))))
  by_cases h5 : k = 5
  · subst h5; simp at hr; exact .inr (.inr (.inr (.inr (.inr ⟨rfl, hr.2⟩))))
  · simp [h0, h1, h2, h3, h4, h5] at hr
/-- a box with a value -/
def VB (w : World) (g : Nat) (k n : Int) (b : Nat) (s : ByteArray) : Prop := w.heap[g]? = some (.cells #[.int .i64 k, .int .i64 n, .int .u64 (b : Int), .string s] 39 (0, 0))
theorem VB.keep {w w' : World} {g : Nat} {k n : Int} {b : Nat} {s : ByteArray} (h : VB w g k n b s) (hb : Below w.heap.size w w') : VB w' g k n b s := keepBlock h hb
theorem VB.new (w : World) (k n : Int) (b : Nat) (s : ByteArray) : VB (w.alloc (.cells #[.int .i64 k, .int .i64 n, .int .u64 (b : Int), .string s] 39)) w.heap.size k n b s := heap_alloc_new w _
theorem VB.cells {w : World} {g : Nat} {k n : Int} {b : Nat} {s : ByteArray} (h : VB w g k n b s) : w.cell? ⟨g, 0, none⟩ = some (.int .i64 k) ∧ w.cell? ⟨g, 1, none⟩ = some (.int .i64 n) ∧ w.cell? ⟨g, 2, none⟩ = some (.int .u64 (b : Int)) ∧ w.cell? ⟨g, 3, none⟩ = some (.string s) :=
  ⟨cell_of_row w g 0 _ _ _ h, cell_of_row w g 1 _ _ _ h, cell_of_row w g 2 _ _ _ h, cell_of_row w g 3 _ _ _ h⟩
set_option maxRecDepth 100000 in
set_option maxHeartbeats 1600000 in
theorem one_any (k n : Int) (b : Nat) (s : ByteArray) (hr : Va.right k n b s = true) (h0 : -9223372036854775808 ≤ n) (h1 : n ≤ 9223372036854775807) (hb : b < 18446744073709551616) (w : World) :
    Calls Try.prog 25 #[vv k n b s] w fun e w' => e = .returned (.string (bstr (Ky.one k n b s))) ∧ Below w.heap.size w w' := by
  unfold vv
  have V0 := hid (VB.new w k n b s)
  have L0 := hid (hba w (.cells #[.int .i64 k, .int .i64 n, .int .u64 (b : Int), .string s] 39))
  rcases right_kinds hr with rfl | ⟨rfl, hn⟩ | rfl | rfl | ⟨rfl, hs⟩ | ⟨rfl, hs⟩
  · clear hr
    have cw := hid (fun W h => with_any 0 (by decide) ⟨#[]⟩ (by decide) w.heap.size W h)
    go_enter Try.func25, Try.ntmps25
    go_wp2_with fail
    refine (cw.out _ V0.out.cells.1).mono ?_; rintro e w1 ⟨rfl, b1⟩
    go_wp2_with fail
    go_ret
    exact ⟨rfl, hnext L0.out b1⟩
  · clear hr
    rcases hn with rfl | rfl
    · have hst := run_string_one (P := Try.prog) (w.alloc (.cells #[.int .i64 1, .int .i64 0, .int .u64 (b : Int), .string s] 39)) 50 9 5 (.int .u8 0) 0 rfl Try.underlying50 Try.underlying5 Try.underlying9
      have hsz : (w.alloc (.cells #[.int .i64 1, .int .i64 0, .int .u64 (b : Int), .string s] 39)).heap.size = w.heap.size + 1 := by simp
      rw [hsz] at hst
      have cw := hid (fun W h => with_any 1 (by decide) (bstr [0]) (by decide) w.heap.size W h)
      obtain ⟨q0, q1, q2, q3⟩ := V0.out.cells
      go_enter Try.func25, Try.ntmps25
      go_wp2_with fail
      refine (cw.out _ (V0.out.keep (hba _ _)).cells.1).mono ?_; rintro e w1 ⟨rfl, b1⟩
      go_wp2_with fail
      go_ret
      exact ⟨rfl, hnext (hnext L0.out (hba _ _)) b1⟩
    · have hst := run_string_one (P := Try.prog) (w.alloc (.cells #[.int .i64 1, .int .i64 1, .int .u64 (b : Int), .string s] 39)) 50 9 5 (.int .u8 1) 1 rfl Try.underlying50 Try.underlying5 Try.underlying9
      have hsz : (w.alloc (.cells #[.int .i64 1, .int .i64 1, .int .u64 (b : Int), .string s] 39)).heap.size = w.heap.size + 1 := by simp
      rw [hsz] at hst
      have cw := hid (fun W h => with_any 1 (by decide) (bstr [1]) (by decide) w.heap.size W h)
      obtain ⟨q0, q1, q2, q3⟩ := V0.out.cells
      go_enter Try.func25, Try.ntmps25
      go_wp2_with fail
      refine (cw.out _ (V0.out.keep (hba _ _)).cells.1).mono ?_; rintro e w1 ⟨rfl, b1⟩
      go_wp2_with fail
      go_ret
      exact ⟨rfl, hnext (hnext L0.out (hba _ _)) b1⟩
  · clear hr
    have hx := xor_top n h0 h1
    have hm := Ky.moved_lt h1
    have HE : Hid (Ky.one 2 n b s = 3 :: Cd.eight (Ky.moved n)) := rfl
    generalize Ky.moved n = m at hx hm HE
    have cn := hid (fun W => number_any m hm W)
    have cw := hid (fun W h => with_any 2 (by decide) (bstr (Cd.eight m)) (by rw [bstr_size]; show (Cd.low 8 m).length ≤ _; rw [Cd.low_length]; decide) w.heap.size W h)
    obtain ⟨q0, q1, q2, q3⟩ := V0.out.cells
    go_enter Try.func25, Try.ntmps25
    go_wp2_with fail
    refine (cn.out _).mono ?_; rintro e w1 ⟨rfl, b1⟩
    go_wp2_with fail
    refine (cw.out _ (V0.out.keep b1).cells.1).mono ?_; rintro e w2 ⟨rfl, b2⟩
    go_wp2_with fail
    go_ret
    rw [HE.out]
    exact ⟨rfl, hnext (hnext L0.out b1) b2⟩
  · clear hr
    have hm := Ky.turned_lt hb
    have HE : Hid (Ky.one 3 n b s = 4 :: Cd.eight (Ky.turned b)) := rfl
    have ct := hid (fun W => turned_any b hb W)
    generalize Ky.turned b = m at ct hm HE
    have cn := hid (fun W => number_any m hm W)
    have cw := hid (fun W h => with_any 3 (by decide) (bstr (Cd.eight m)) (by rw [bstr_size]; show (Cd.low 8 m).length ≤ _; rw [Cd.low_length]; decide) w.heap.size W h)
    obtain ⟨q0, q1, q2, q3⟩ := V0.out.cells
    go_enter Try.func25, Try.ntmps25
    go_wp2_with fail
    refine (ct.out _).mono ?_; rintro e w0 ⟨rfl, rfl⟩
    go_wp2_with fail
    refine (cn.out _).mono ?_; rintro e w1 ⟨rfl, b1⟩
    go_wp2_with fail
    refine (cw.out _ (V0.out.keep b1).cells.1).mono ?_; rintro e w2 ⟨rfl, b2⟩
    go_wp2_with fail
    go_ret
    rw [HE.out]
    exact ⟨rfl, hnext (hnext L0.out b1) b2⟩
  · clear hr
    have HE : Hid (Ky.one 4 n b s = 5 :: (Ky.esc s.data.toList ++ [0, 1])) := rfl
    have ce := hid (fun W => escaped_any s (by omega) W)
    have hel := Ky.esc_length s.data.toList
    have hsl : s.data.toList.length = s.size := by simp
    have hel2 : (bstr (Ky.esc s.data.toList ++ [0, 1])).size ≤ 9000 := by rw [bstr_size, List.length_append]; show _ + 2 ≤ _; omega
    generalize Ky.esc s.data.toList ++ [0, 1] = m at ce hel2 HE
    have cw := hid (fun W h => with_any 4 (by decide) (bstr m) hel2 w.heap.size W h)
    clear hel hel2 hsl
    obtain ⟨q0, q1, q2, q3⟩ := V0.out.cells
    go_enter Try.func25, Try.ntmps25
    go_wp2_with fail
    refine (ce.out _).mono ?_; rintro e w1 ⟨rfl, b1⟩
    go_wp2_with fail
    refine (cw.out _ (V0.out.keep b1).cells.1).mono ?_; rintro e w2 ⟨rfl, b2⟩
    go_wp2_with fail
    go_ret
    rw [HE.out]
    exact ⟨rfl, hnext (hnext L0.out b1) b2⟩
  · clear hr
    have HE : Hid (Ky.one 5 n b s = 6 :: (Ky.esc s.data.toList ++ [0, 1])) := rfl
    have ce := hid (fun W => escaped_any s (by omega) W)
    have hel := Ky.esc_length s.data.toList
    have hsl : s.data.toList.length = s.size := by simp
    have hel2 : (bstr (Ky.esc s.data.toList ++ [0, 1])).size ≤ 9000 := by rw [bstr_size, List.length_append]; show _ + 2 ≤ _; omega
    generalize Ky.esc s.data.toList ++ [0, 1] = m at ce hel2 HE
    have cw := hid (fun W h => with_any 5 (by decide) (bstr m) hel2 w.heap.size W h)
    clear hel hel2 hsl
    obtain ⟨q0, q1, q2, q3⟩ := V0.out.cells
    go_enter Try.func25, Try.ntmps25
    go_wp2_with fail
    refine (ce.out _).mono ?_; rintro e w1 ⟨rfl, b1⟩
    go_wp2_with fail
    refine (cw.out _ (V0.out.keep b1).cells.1).mono ?_; rintro e w2 ⟨rfl, b2⟩
    go_wp2_with fail
    go_ret
    rw [HE.out]
    exact ⟨rfl, hnext (hnext L0.out b1) b2⟩
end Go.Proofs.Ytimcmpcfnddioaa
