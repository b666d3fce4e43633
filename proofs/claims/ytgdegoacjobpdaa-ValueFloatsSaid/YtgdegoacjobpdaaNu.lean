/-
  value's number: its contract. Condition: the text has at most 1000000 bytes.
-/
import Derived.Test.YtgdegoacjobpdaaQu
namespace Go.Proofs.Ytgdegoacjobpdaa
open Go.RowKit

/-- what number answers -/
def numV : Option Nat → Value
  | some n => .tuple #[.int .u64 (n : Int), .bool true]
  | none => .tuple #[.int .u64 0, .bool false]
/-- a text's bytes, laid for a loop over them -/
theorem cells_text (w1 : World) (l : List UInt8) (cap : Nat) (hc : l.length ≤ cap) (j : Nat) (hj : j < l.length) :
    ((w1.alloc (.cells (bytesRow (bstr l) cap) 5 ((bytesRow (bstr l) cap).size, (bytesRow (bstr l) cap).size + 1))).drew).cell? ⟨w1.heap.size, j, none⟩ = some (.int .u8 (l[j].toNat : Int)) :=
  cells_of_string w1 (bstr l) cap 5 hc l rfl j hj
set_option maxRecDepth 100000 in
set_option maxHeartbeats 1600000 in
theorem number_any (l : List UInt8) (hl : l.length ≤ 1000000) (w : World) : Calls Try.prog 47 #[.string (bstr l)] w fun e w' => e = .returned (numV (Vl.numX l 0)) ∧ Below w.heap.size w w' := by
  have hs : (bstr l).size = l.length := rfl
  have hconv := fun (w : World) => run_bytes_of_string (P := Try.prog) w 9 54 5 (bstr l) Try.underlying9 Try.underlying54 Try.underlying5
  rw [hs] at hconv
  have hcap : l.length ≤ grownCap w l.length 0 5 := grownCap_ge _ _ _ _
  have HC := hid (fun j hj => cells_text w l _ hcap j hj)
  go_enter Try.func47, Try.ntmps47
  go_wp2_with fail
  have hlay : Below w.heap.size w (w.alloc (.cells (bytesRow (bstr l) (grownCap w l.length 0 5)) 5 ((bytesRow (bstr l) (grownCap w l.length 0 5)).size, (bytesRow (bstr l) (grownCap w l.length 0 5)).size + 1))).drew := (hba _ _).drew
  clear hcap hconv
  generalize (w.alloc (.cells (bytesRow (bstr l) (grownCap w l.length 0 5)) 5 ((bytesRow (bstr l) (grownCap w l.length 0 5)).size, (bytesRow (bstr l) (grownCap w l.length 0 5)).size + 1))).drew = w2 at *
  generalize grownCap w l.length 0 5 = cap
  have HL := hid hlay
  clear hlay
  obtain ⟨g1, hg1⟩ : ∃ g1, w.heap.size = g1 := ⟨_, rfl⟩
  rw [hg1] at HC ⊢
  go_loopw [11, 4] (fun i n wr => ∃ k nn : Nat, k ≤ l.length ∧ i = .int .i64 (k : Int) ∧ n = .int .u64 (nn : Int) ∧ nn < 18446744073709551616 ∧ Hid (Vl.numX l 0 = Vl.numX (l.drop k) nn) ∧ Below w2.heap.size w2 wr) (fun i _ _ => l.length - (intOf i).toNat)
  case atStart => exact ⟨0, 0, by omega, rfl, rfl, by decide, rfl, Below.refl _ _⟩
  case round =>
    obtain ⟨k, nn, hk, rfl, rfl, hnn, hE, hbel⟩ := hrel
    have hk0 : (0 : Int) ≤ (k : Int) := by omega
    by_cases hkl : k < l.length
    · have hkl' : (k : Int) < (l.length : Int) := by omega
      have hc := hkeep (HC.out k hkl) hbel
      have HD := hid (hE.out.trans (by rw [List.drop_eq_getElem_cons hkl]))
      generalize l[k]'hkl = c at hc HD
      have cd := hid (fun W => digit_any c W)
      cases hd : Vl.dig c with
      | none =>
        have HR := hid (HD.out.trans (Vl.numX_no hd _ _))
        rw [show Vl.digI c = -1 by unfold Vl.digI; rw [hd]] at cd
        clear hd HD hE
        go_wp2_with fail
        refine (cd.out _).mono ?_; rintro e w3 ⟨rfl, b3⟩
        have B3 := hnext HL.out (hnext hbel b3)
        go_wp2_with fail
        exact bodyPost_ret (v := .tuple #[.int .u64 0, .bool false]) (by simp [results, Try.results47, go_sem]) rfl ⟨by rw [HR.out]; rfl, B3⟩
      | some d =>
        have hdl := Vl.dig_lt hd
        have HR := hid (HD.out.trans (Vl.numX_next hd _ _))
        rw [show Vl.digI c = (d : Int) by unfold Vl.digI; rw [hd]] at cd
        have e0 : ((d : Int) == -1) = false := by rw [beq_eq_false_iff_ne]; omega
        have e1 : IntKind.u64.wrap (d : Int) = (d : Int) := by rw [IntKind.wrap_u64]; omega
        have e2 : IntKind.u64.wrap (IntKind.u64.wrap (16 * (nn : Int)) + (d : Int)) = (((16 * nn + d) % 18446744073709551616 : Nat) : Int) := by rw [IntKind.wrap_u64, IntKind.wrap_u64]; omega
        have hlt : (16 * nn + d) % 18446744073709551616 < 18446744073709551616 := Nat.mod_lt _ (by decide)
        generalize (16 * nn + d) % 18446744073709551616 = m at e2 hlt HR
        clear hd HD hE
        go_wp2_with fail
        refine (cd.out _).mono ?_; rintro e w3 ⟨rfl, b3⟩
        go_wp2_with fail
        go_roundw
        case rel => exact ⟨k + 1, m, by omega, by go_num, by first | rfl | (congr 1), hlt, HR, hnext hbel b3⟩
        case measure => simp [intOf]; omega
    · obtain rfl : k = l.length := by omega
      have HR : Hid (Vl.numX l 0 = some nn) := by show _ = _; rw [hE.out, List.drop_length]; rfl
      clear hE
      go_wp2_with fail
      exact bodyPost_ret (v := .tuple #[.int .u64 (nn : Int), .bool true]) (by simp [results, Try.results47, go_sem]) rfl ⟨by rw [HR.out]; rfl, hnext HL.out hbel⟩
end Go.Proofs.Ytgdegoacjobpdaa
