/-
  CodeZig answers true at any two numbers. No condition.
-/
import Derived.Test.YtanmomlkdfnakaaCdL
import Derived.Test.YtanmomlkdfnakaaKn
import Derived.Lib.SlicesS
namespace Go.Proofs.Ytanmomlkdfnakaa
open Go.RowKit

theorem i64_of {n : Int} (h : (Lit.int .i64 n).wf = true) : -9223372036854775808 ≤ n ∧ n ≤ 9223372036854775807 := by
  simpa [Lit.wf, IntKind.min, IntKind.max, IntKind.signed, IntKind.bits] using h
theorem u64_of {n : Int} (h : (Lit.int .u64 n).wf = true) : ∃ k : Nat, n = (k : Int) ∧ k < 18446744073709551616 := by
  have hx : 0 ≤ n ∧ n ≤ 18446744073709551615 := by simpa [Lit.wf, IntKind.min, IntKind.max, IntKind.signed, IntKind.bits] using h
  exact ⟨n.toNat, by omega, by omega⟩
theorem toList_eqb (a b : ByteArray) (d : Bool) (h : a = b ↔ d = true) : (a.toList == b.toList) = d := by
  cases d
  · rw [Go.Lib.bytes_beq_false_iff]; intro e; simpa using h.1 e
  · rw [Go.Lib.bytes_beq_iff]; exact h.2 rfl
set_option maxHeartbeats 800000 in
theorem codeZig_walk (m n : Int) (hm0 : (Lit.int .i64 m).wf = true) (hn0 : (Lit.int .i64 n).wf = true) (w : World) :
    Calls Try.prog 9 #[.int .i64 m, .int .i64 n] w fun e w' => e = .returned (.bool true) ∧ Below w.heap.size w w' := by
  have hm := i64_of hm0
  have hn := i64_of hn0
  have c1 := hid (fun W => int_any m hm.1 hm.2 W)
  have c2 := hid (fun W => int_any n hn.1 hn.2 W)
  have zm := zig_lt hm.1 hm.2
  have zn := zig_lt hn.1 hn.2
  have l1 : 0 < (bstr (Cd.enc (Cd.zig m))).size ∧ (bstr (Cd.enc (Cd.zig m))).size ≤ 10 := Cd.enc_length _
  obtain ⟨d, t1, t2⟩ : ∃ d : Bool, (m == n) = d ∧ ((bstr (Cd.enc (Cd.zig m))).toList == (bstr (Cd.enc (Cd.zig n))).toList) = d := by
    refine ⟨decide (m = n), rfl, toList_eqb _ _ _ ⟨fun e => ?_, fun e => ?_⟩⟩
    · exact decide_eq_true (Cd.zig_inj (Cd.enc_inj zm zn (bstr_inj e)))
    · rw [of_decide_eq_true e]
  have hp : 0 ≤ m → m ≤ n → (bstr (Cd.enc (Cd.zig m))).size ≤ (bstr (Cd.enc (Cd.zig n))).size := fun h1 h2 => Cd.enc_mono (by unfold Cd.zig; split <;> split <;> omega)
  have hq : m < 0 → n ≤ m → (bstr (Cd.enc (Cd.zig m))).size ≤ (bstr (Cd.enc (Cd.zig n))).size := fun h1 h2 => Cd.enc_mono (by unfold Cd.zig; split <;> split <;> omega)
  clear zm zn hm hn hm0 hn0
  generalize bstr (Cd.enc (Cd.zig m)) = A at *
  generalize bstr (Cd.enc (Cd.zig n)) = B at *
  have l2 : (1 : Int) ≤ A.size := by omega
  have l3 : (A.size : Int) ≤ 10 := by omega
  by_cases h0 : 0 ≤ m
  · by_cases h1 : m ≤ n
    · have h2 : ¬ (B.size : Int) < A.size := by have := hp h0 h1; omega
      have h3 : ¬ m < 0 := by omega
      clear hp hq l1
      go_enter Try.func9, Try.ntmps9
      go_wp2_with fail
      refine (c1.out _).mono ?_; rintro e w1 ⟨rfl, b1⟩
      go_wp2_with fail
      refine (c2.out _).mono ?_; rintro e w2 ⟨rfl, b2⟩
      go_wp2_with fail
      refine (known_any _).mono ?_; rintro e w3 ⟨rfl, b3⟩
      go_wp2
      go_ret
      exact ⟨rfl, hnext (hnext b1 b2) b3⟩
    · clear hp hq l1
      have h3 : ¬ m < 0 := by omega
      go_enter Try.func9, Try.ntmps9
      go_wp2_with fail
      refine (c1.out _).mono ?_; rintro e w1 ⟨rfl, b1⟩
      go_wp2_with fail
      refine (c2.out _).mono ?_; rintro e w2 ⟨rfl, b2⟩
      go_wp2_with fail
      refine (known_any _).mono ?_; rintro e w3 ⟨rfl, b3⟩
      go_wp2
      go_ret
      exact ⟨rfl, hnext (hnext b1 b2) b3⟩
  · have h3 : m < 0 := by omega
    by_cases h1 : n ≤ m
    · have h2 : ¬ (B.size : Int) < A.size := by have := hq h3 h1; omega
      clear hp hq l1
      go_enter Try.func9, Try.ntmps9
      go_wp2_with fail
      refine (c1.out _).mono ?_; rintro e w1 ⟨rfl, b1⟩
      go_wp2_with fail
      refine (c2.out _).mono ?_; rintro e w2 ⟨rfl, b2⟩
      go_wp2_with fail
      refine (known_any _).mono ?_; rintro e w3 ⟨rfl, b3⟩
      go_wp2
      go_ret
      exact ⟨rfl, hnext (hnext b1 b2) b3⟩
    · clear hp hq l1
      go_enter Try.func9, Try.ntmps9
      go_wp2_with fail
      refine (c1.out _).mono ?_; rintro e w1 ⟨rfl, b1⟩
      go_wp2_with fail
      refine (c2.out _).mono ?_; rintro e w2 ⟨rfl, b2⟩
      go_wp2_with fail
      refine (known_any _).mono ?_; rintro e w3 ⟨rfl, b3⟩
      go_wp2
      go_ret
      exact ⟨rfl, hnext (hnext b1 b2) b3⟩
end Go.Proofs.Ytanmomlkdfnakaa
