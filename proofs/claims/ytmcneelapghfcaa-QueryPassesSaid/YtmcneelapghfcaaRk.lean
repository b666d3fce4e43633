/-
  What 'Weight' of the statements of queries answers: a number; if it is no more than 5000 the query has few keys, nodes, columns and a short table. Condition: lengths that can stand in memory.
-/
import Derived.Test.YtmcneelapghfcaaQa
namespace Go.Proofs.Ytmcneelapghfcaa
open Go.RowKit Pd Qu

/-- a query that asks little -/
def LightQ (q : Q) : Prop := q.key.length ≤ 1100 ∧ q.wh.length ≤ 60 ∧ q.cols.length ≤ 1100 ∧ q.table.size ≤ 200
set_option maxRecDepth 100000 in
set_option maxHeartbeats 12800000 in
theorem weight_any (q : Q) (vk vw vc : Value) (w : World) (hq : QIn w q vk vw vc) : Calls Try.prog 9 #[qv q vk vw vc] w fun e w' => (∃ z : Int, e = .returned (.int .i64 z) ∧ (z ≤ 5000 → LightQ q)) ∧ Below w.heap.size w w' := by
  have LB := hid (hba w (.cells #[.int .i64 q.kind, .string q.table, vk, .int .i64 q.t, .int .i64 q.v, .int .i64 q.fr, .int .i64 q.to, vw, vc, .int .i64 q.limit, .bool q.desc] 28))
  have BX := hid (BQ.new w 28 q vk vw vc)
  obtain ⟨⟨ka, kc, rfl, hk⟩, ⟨wa, wc, rfl, hw⟩, ⟨ca, cc, rfl, _⟩⟩ := hq
  have HK := hid hk
  have HW := hid hw
  clear hk hw
  have HQ : Hid (q.key.length ≤ 1100 → q.wh.length ≤ 60 → q.cols.length ≤ 1100 → q.table.size ≤ 200 → LightQ q) := fun a b c d => ⟨a, b, c, d⟩
  unfold qv
  by_cases h1 : q.key.length ≤ 1100
  case neg =>
    have h1' : (1100 : Int) < (q.key.length : Int) := by omega
    clear h1 HQ
    go_enter Try.func9, Try.ntmps9
    go_wp2_with fail
    go_ret
    exact ⟨⟨_, rfl, fun h => absurd h (by decide)⟩, LB.out⟩
  have h1' : ¬ (1100 : Int) < (q.key.length : Int) := by omega
  by_cases h2 : q.wh.length ≤ 60
  case neg =>
    have h2' : (60 : Int) < (q.wh.length : Int) := by omega
    clear h2 h1 HQ
    go_enter Try.func9, Try.ntmps9
    go_wp2_with fail
    go_ret
    exact ⟨⟨_, rfl, fun h => absurd h (by decide)⟩, LB.out⟩
  have h2' : ¬ (60 : Int) < (q.wh.length : Int) := by omega
  by_cases h3 : q.cols.length ≤ 1100
  case neg =>
    have h3' : (1100 : Int) < (q.cols.length : Int) := by omega
    clear h3 h2 h1 HQ
    go_enter Try.func9, Try.ntmps9
    go_wp2_with fail
    go_ret
    exact ⟨⟨_, rfl, fun h => absurd h (by decide)⟩, LB.out⟩
  have h3' : ¬ (1100 : Int) < (q.cols.length : Int) := by omega
  by_cases h4 : q.table.size ≤ 200
  case neg =>
    have h4' : (200 : Int) < (q.table.size : Int) := by omega
    clear h4 h3 h2 h1 HQ
    go_enter Try.func9, Try.ntmps9
    go_wp2_with fail
    go_ret
    exact ⟨⟨_, rfl, fun h => absurd h (by decide)⟩, LB.out⟩
  have h4' : ¬ (200 : Int) < (q.table.size : Int) := by omega
  have HL := hid (HQ.out h1 h2 h3 h4)
  clear HQ
  go_enter Try.func9, Try.ntmps9
  go_wp2_with fail
  obtain ⟨c0, c1, c2, c3, c4, c5, c6, c7, c8, c9, c10, cl⟩ := BX.out.cells
  clear c0 c1 c3 c4 c5 c6 c8 c9 c10 cl BX
  have HK1 := hid (fun k (hk : k < q.key.length) => HK.out k hk)
  generalize hw1 : w.alloc (.cells #[.int .i64 q.kind, .string q.table, .slice ka q.key.length kc, .int .i64 q.t, .int .i64 q.v, .int .i64 q.fr, .int .i64 q.to, .slice wa q.wh.length wc, .slice ca q.cols.length cc, .int .i64 q.limit, .bool q.desc] 28) = w1 at *
  clear hw1
  go_loopw [4, 3] (fun i al wr => ∃ (k : Nat) (z : Int), k ≤ q.key.length ∧ i = .int .i64 (k : Int) ∧ al = .int .i64 z ∧ wr = w1) (fun i _ _ => q.key.length - (intOf i).toNat)
  case atStart => exact ⟨0, _, by omega, rfl, rfl, rfl⟩
  case round =>
    obtain ⟨k, z, hk, rfl, rfl, rfl⟩ := hrel
    obtain ⟨w1, rfl⟩ : ∃ w1 : World, w1 = wr := ⟨_, rfl⟩
    have hk0 : (0 : Int) ≤ (k : Int) := by omega
    by_cases hkl : k < q.key.length
    · have hkl' : (k : Int) < (q.key.length : Int) := by omega
      obtain ⟨g, off, rfl, _, _, _, u3⟩ := HK.out k hkl
      replace u3 := hkeep u3 LB.out
      generalize q.key[k].s = rs at u3
      go_wp2_with fail
      go_roundw
      case rel => exact ⟨k + 1, _, by omega, by first | rfl | go_num, rfl, by first | rfl | trivial⟩
      case measure => simp [intOf]; omega
    · have hkl' : ¬ (k : Int) < (q.key.length : Int) := by omega
      go_wp2_with fail
      go_loopw [5, 3] (fun i al wr => ∃ (k : Nat) (z : Int), k ≤ q.wh.length ∧ i = .int .i64 (k : Int) ∧ al = .int .i64 z ∧ wr = w1) (fun i _ _ => q.wh.length - (intOf i).toNat)
      case atStart => exact ⟨0, _, by omega, rfl, rfl, rfl⟩
      case round =>
        obtain ⟨k, z, hk, rfl, rfl, rfl⟩ := hrel
        obtain ⟨w1, rfl⟩ : ∃ w1 : World, w1 = wr := ⟨_, rfl⟩
        have hk0 : (0 : Int) ≤ (k : Int) := by omega
        by_cases hkl : k < q.wh.length
        · have hkl' : (k : Int) < (q.wh.length : Int) := by omega
          obtain ⟨g, off, rfl, _, _, _, _, _, u3⟩ := HW.out k hkl
          replace u3 := hkeep u3 LB.out
          generalize q.wh[k].v.s = rs at u3
          go_wp2_with fail
          go_roundw
          case rel => exact ⟨k + 1, _, by omega, by first | rfl | go_num, rfl, by first | rfl | trivial⟩
          case measure => simp [intOf]; omega
        · have hkl' : ¬ (k : Int) < (q.wh.length : Int) := by omega
          go_wp2_with fail
          go_ret
          exact ⟨⟨_, rfl, fun _ => HL.out⟩, LB.out⟩
end Go.Proofs.Ytmcneelapghfcaa
