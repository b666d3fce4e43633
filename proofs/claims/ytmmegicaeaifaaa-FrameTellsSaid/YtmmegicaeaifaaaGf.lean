/-
  What 'Weight' and 'light' of the statements of frames answer: some number, some truth. Condition: sizes that can stand in memory.
-/
import Derived.Test.YtmmegicaeaifaaaFy
namespace Go.Proofs.Ytmmegicaeaifaaa
open Go.RowKit Fr

set_option maxRecDepth 100000 in
set_option maxHeartbeats 12800000 in
theorem fweight_any (t : Tx) (v : Value) (w : World) (hv : HsAt w v t.cs) (hl : t.cs.length ≤ 9223372036854775807) : Calls Try.prog 28 #[tv t v] w fun e w' => (∃ z : Int, e = .returned (.int .i64 z)) ∧ Below w.heap.size w w' := by
  have hbx := hba w (.cells #[.int .i64 t.seq, .int .i64 t.time, v] 24)
  have BX := hid (BT.new w t v)
  have LB := hid hbx
  obtain ⟨adr, cap, rfl, hc⟩ := hv
  have HC := hid hc
  clear hc hbx
  unfold tv
  by_cases h110 : t.cs.length ≤ 110
  case neg =>
    have h1 : (110 : Int) < (t.cs.length : Int) := by omega
    clear h110
    go_enter Try.func28, Try.ntmps28
    go_wp2_with fail
    go_ret
    exact ⟨⟨_, rfl⟩, LB.out⟩
  have h1 : ¬ (110 : Int) < (t.cs.length : Int) := by omega
  clear h110
  go_enter Try.func28, Try.ntmps28
  go_wp2_with fail
  go_loopw [4, 3] (fun i al wr => ∃ (k : Nat) (z : Int), k ≤ t.cs.length ∧ i = .int .i64 (k : Int) ∧ al = .int .i64 z ∧ Below w.heap.size w wr ∧ BT wr w.heap.size t (.slice adr t.cs.length cap)) (fun i _ _ => t.cs.length - (intOf i).toNat)
  case atStart => exact ⟨0, 0, by omega, rfl, rfl, LB.out, BX.out⟩
  case round =>
    obtain ⟨k, z, hk, rfl, rfl, hbel, hbt⟩ := hrel
    obtain ⟨w4, rfl⟩ : ∃ w4 : World, w4 = wr := ⟨_, rfl⟩
    clear LB BX
    have hk0 : (0 : Int) ≤ (k : Int) := by omega
    obtain ⟨s0, s1, s2, g0, g1, g2, sl⟩ := hbt.cells
    clear g0 g1 g2
    by_cases hkl : k < t.cs.length
    · have hkl' : (k : Int) < (t.cs.length : Int) := by omega
      obtain ⟨g, off, vr, vc, rfl, q0, q1, q2, q3, q4, q5, q6, q7, p1, p2⟩ := HC.out k hkl
      generalize hx : t.cs[k] = c at q0 q1 q2 q3 q4 q5 q6 q7 p1 p2
      clear hx
      obtain ⟨radr, rcap, rfl⟩ := vs_slc p1
      obtain ⟨cadr, ccap, rfl⟩ := p2.slc
      obtain ⟨op, tb, row, fr, to, ⟨nm, cols, ky⟩⟩ := c
      simp only at q0 q1 q2 q3 q4 q5 q6 q7 p1 p2
      replace q0 := hkeep q0 hbel
      replace q1 := hkeep q1 hbel
      replace q2 := hkeep q2 hbel
      replace q3 := hkeep q3 hbel
      replace q4 := hkeep q4 hbel
      replace q5 := hkeep q5 hbel
      replace q6 := hkeep q6 hbel
      replace q7 := hkeep q7 hbel
      have hb5 := hba w4 (.cells #[.int .i64 op, .string tb, .slice radr row.length rcap, .int .i64 fr, .int .i64 to, .string nm, .slice cadr cols.length ccap, .int .i64 ky] 32)
      have L5 := hid (hnext hbel hb5)
      have BT5 := hid (hbt.keep hb5)
      have BC := hid (BH.new w4 ⟨op, tb, row, fr, to, ⟨nm, cols, ky⟩⟩ (.slice radr row.length rcap) (.slice cadr cols.length ccap))
      obtain ⟨_, _, e1, hr1⟩ := (p1.below hbel).below hb5
      obtain ⟨_, _, e2, _, _, hr2⟩ := (p2.below hbel).below hb5
      cases e1
      cases e2
      have HR1 := hid hr1
      have HR2 := hid hr2
      clear hr1 hr2 p1 p2 hb5 hbel hbt
      go_wp2_with fail
      obtain ⟨cb, hcb⟩ : ∃ cb, w4.heap.size = cb := ⟨_, rfl⟩
      rw [hcb] at BC
      (try rw [hcb])
      generalize w4.alloc (.cells #[.int .i64 op, .string tb, .slice radr row.length rcap, .int .i64 fr, .int .i64 to, .string nm, .slice cadr cols.length ccap, .int .i64 ky] 32) = w5 at *
      clear hcb q0 q1 q2 q3 q4 q5 q6 q7 s0 s1 s2 sl
      obtain ⟨x0, x1, x2, x3, x4, x5, x6, x7, f0, f1, f2, f3, f4, f5, f6, f7, xl⟩ := BC.out.cells
      simp only at x0 x1 x2 x3 x4 x5 x6 x7
      clear f0 f1 f2 f3 f4 f5 f6 f7 xl
      go_loopw [6, 3] (fun i al wr => ∃ (j : Nat) (z : Int), j ≤ row.length ∧ j ≤ 300 ∧ i = .int .i64 (j : Int) ∧ al = .int .i64 z ∧ wr = w5) (fun i _ _ => 300 - (intOf i).toNat)
      case atStart => exact ⟨0, _, by omega, by omega, rfl, rfl, rfl⟩
      case round =>
        obtain ⟨j, z2, hj, hj3, rfl, rfl, rfl⟩ := hrel
        obtain ⟨w5, rfl⟩ : ∃ w5 : World, w5 = wr := ⟨_, rfl⟩
        have hj0 : (0 : Int) ≤ (j : Int) := by omega
        by_cases hjl : j < row.length
        · have hjl' : (j : Int) < (row.length : Int) := by omega
          by_cases hj300 : j < 300
          · have hj300' : (j : Int) < 300 := by omega
            obtain ⟨rg, roff, rfl, _, _, _, u3⟩ := HR1.out j hjl
            generalize row[j].s = rs at u3
            go_wp2_with fail
            go_roundw
            case rel => exact ⟨j + 1, _, by omega, by omega, by first | rfl | go_num, rfl, by first | rfl | trivial⟩
            case measure => simp [intOf]; omega
          · have hj300' : ¬ (j : Int) < 300 := by omega
            go_wp2_with fail
            go_loopw [7, 3] (fun i al wr => ∃ (j : Nat) (z : Int), j ≤ cols.length ∧ j ≤ 300 ∧ i = .int .i64 (j : Int) ∧ al = .int .i64 z ∧ wr = w5) (fun i _ _ => 300 - (intOf i).toNat)
            case atStart => exact ⟨0, _, by omega, by omega, rfl, rfl, rfl⟩
            case round =>
              obtain ⟨j, z2, hj, hj3, rfl, rfl, rfl⟩ := hrel
              obtain ⟨w5, rfl⟩ : ∃ w5 : World, w5 = wr := ⟨_, rfl⟩
              have hj0 : (0 : Int) ≤ (j : Int) := by omega
              by_cases hjl : j < cols.length
              · have hjl' : (j : Int) < (cols.length : Int) := by omega
                by_cases hj300 : j < 300
                · have hj300' : (j : Int) < 300 := by omega
                  obtain ⟨rg, roff, rfl, u0, _, _⟩ := HR2.out j hjl
                  generalize cols[j].name = rs at u0
                  go_wp2_with fail
                  go_roundw
                  case rel => exact ⟨j + 1, _, by omega, by omega, by first | rfl | go_num, rfl, by first | rfl | trivial⟩
                  case measure => simp [intOf]; omega
                · have hj300' : ¬ (j : Int) < 300 := by omega
                  by_cases hz : 20000 < z2
                  · go_wp2_with fail
                    go_ret
                    exact ⟨⟨_, rfl⟩, L5.out⟩
                  · go_wp2_with fail
                    go_roundw
                    case rel => exact ⟨k + 1, z2, by omega, by first | rfl | go_num, rfl, L5.out, BT5.out⟩
                    case measure => simp [intOf]; omega
              · have hjl' : ¬ (j : Int) < (cols.length : Int) := by omega
                by_cases hz : 20000 < z2
                · go_wp2_with fail
                  go_ret
                  exact ⟨⟨_, rfl⟩, L5.out⟩
                · go_wp2_with fail
                  go_roundw
                  case rel => exact ⟨k + 1, z2, by omega, by first | rfl | go_num, rfl, L5.out, BT5.out⟩
                  case measure => simp [intOf]; omega
        · have hjl' : ¬ (j : Int) < (row.length : Int) := by omega
          go_wp2_with fail
          go_loopw [7, 3] (fun i al wr => ∃ (j : Nat) (z : Int), j ≤ cols.length ∧ j ≤ 300 ∧ i = .int .i64 (j : Int) ∧ al = .int .i64 z ∧ wr = w5) (fun i _ _ => 300 - (intOf i).toNat)
          case atStart => exact ⟨0, _, by omega, by omega, rfl, rfl, rfl⟩
          case round =>
            obtain ⟨j, z2, hj, hj3, rfl, rfl, rfl⟩ := hrel
            obtain ⟨w5, rfl⟩ : ∃ w5 : World, w5 = wr := ⟨_, rfl⟩
            have hj0 : (0 : Int) ≤ (j : Int) := by omega
            by_cases hjl : j < cols.length
            · have hjl' : (j : Int) < (cols.length : Int) := by omega
              by_cases hj300 : j < 300
              · have hj300' : (j : Int) < 300 := by omega
                obtain ⟨rg, roff, rfl, u0, _, _⟩ := HR2.out j hjl
                generalize cols[j].name = rs at u0
                go_wp2_with fail
                go_roundw
                case rel => exact ⟨j + 1, _, by omega, by omega, by first | rfl | go_num, rfl, by first | rfl | trivial⟩
                case measure => simp [intOf]; omega
              · have hj300' : ¬ (j : Int) < 300 := by omega
                by_cases hz : 20000 < z2
                · go_wp2_with fail
                  go_ret
                  exact ⟨⟨_, rfl⟩, L5.out⟩
                · go_wp2_with fail
                  go_roundw
                  case rel => exact ⟨k + 1, z2, by omega, by first | rfl | go_num, rfl, L5.out, BT5.out⟩
                  case measure => simp [intOf]; omega
            · have hjl' : ¬ (j : Int) < (cols.length : Int) := by omega
              by_cases hz : 20000 < z2
              · go_wp2_with fail
                go_ret
                exact ⟨⟨_, rfl⟩, L5.out⟩
              · go_wp2_with fail
                go_roundw
                case rel => exact ⟨k + 1, z2, by omega, by first | rfl | go_num, rfl, L5.out, BT5.out⟩
                case measure => simp [intOf]; omega
    · obtain rfl : k = t.cs.length := by omega
      clear hkl
      go_wp2_with fail
      go_ret
      exact ⟨⟨_, rfl⟩, hbel⟩
set_option maxRecDepth 100000 in
set_option maxHeartbeats 12800000 in
theorem flight_any (t : Tx) (v : Value) (w : World) (hv : HsAt w v t.cs) (hl : t.cs.length ≤ 9223372036854775807) : Calls Try.prog 9 #[tv t v] w fun e w' => (∃ z : Bool, e = .returned (.bool z)) ∧ Below w.heap.size w w' := by
  have hbx := hba w (.cells #[.int .i64 t.seq, .int .i64 t.time, v] 24)
  have BX := hid (BT.new w t v)
  have LB := hid hbx
  have CW := hid (fweight_any t v _ (hv.below hbx) hl)
  obtain ⟨adr, cap, rfl⟩ := hv.slc
  clear hv hbx
  unfold tv at *
  obtain ⟨s0, s1, s2, g0, g1, g2, sl⟩ := BX.out.cells
  clear g0 g1 g2
  go_enter Try.func9, Try.ntmps9
  go_wp2_with fail
  refine CW.out.mono ?_; rintro e w1 ⟨⟨z, rfl⟩, b1⟩
  have L1 := hid (hnext LB.out b1)
  clear b1
  go_wp2_with fail
  go_ret
  exact ⟨⟨_, rfl⟩, L1.out⟩
end Go.Proofs.Ytmmegicaeaifaaa
