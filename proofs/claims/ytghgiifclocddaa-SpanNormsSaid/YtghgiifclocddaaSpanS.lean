/-
  memoirref11.Same: its contract. Condition: at most 1000000 spans.
-/
import Derived.Test.YtghgiifclocddaaSpanC
import Derived.Deep.QuietTactic
import Derived.BigQuiet
namespace Go.Proofs.Ytghgiifclocddaa
open Go.RowKit

theorem cellKeep {W W' : World} {p : Addr} {v : Value} (h : W.cell? p = some v) (hb : Below W.heap.size W W') : W'.cell? p = some v := by
  rw [hb.cell (World.block_lt_of_cell? W p h)]; exact h

theorem spans_cells {w : World} {b off : Nat} {l : List Sp.Span} {k : Nat} (hk : k < l.length)
    (hc : ∀ j s, l[j]? = some s → w.cell? ⟨b, off + j * 2, none⟩ = some (.int .i64 s.1) ∧ w.cell? ⟨b, off + j * 2 + 1, none⟩ = some (.int .i64 s.2)) :
    w.cell? ⟨b, off + k * 2, none⟩ = some (.int .i64 l[k].1) ∧ w.cell? ⟨b, off + k * 2 + 1, none⟩ = some (.int .i64 l[k].2) := hc k l[k] (List.getElem?_eq_getElem hk)

theorem Try.spanHeld : Try.prog.stoodInHeld 23 = false := by kernel_rfl
theorem sp_equalIn (x y x' y' : Int) (w : World) : (Op.equalIn 10000 23 (.agg #[.int .i64 x, .int .i64 y]) (.agg #[.int .i64 x', .int .i64 y'])).run Try.prog w = .ok (decide ((x, y) = (x', y'))) w := by
  rw [run_equalIn_agg w 9999 23 _ _ (by kernel_rfl) Try.spanHeld]
  by_cases hx : x = x' <;> by_cases hy : y = y'
  · subst hx; subst hy
    go_simp
  · have ey : (y == y') = false := beq_eq_false_iff_ne.2 hy
    subst hx
    go_simp
  · have ex : (x == x') = false := beq_eq_false_iff_ne.2 hx
    subst hy
    go_simp
  · have ex : (x == x') = false := beq_eq_false_iff_ne.2 hx
    go_simp
theorem sp_neq (x y x' y' : Int) (b : Bool) (hb : decide ((x, y) = (x', y')) = b) (w : World) : (binOp .neq 23 (.agg #[.int .i64 x, .int .i64 y]) (.agg #[.int .i64 x', .int .i64 y'])).run Try.prog w = .ok (.bool (!b)) w := by
  rw [run_neq_struct, sp_equalIn, hb]; rfl
theorem sp_eql (x y x' y' : Int) (b : Bool) (hb : decide ((x, y) = (x', y')) = b) (w : World) : (binOp .eql 23 (.agg #[.int .i64 x, .int .i64 y]) (.agg #[.int .i64 x', .int .i64 y'])).run Try.prog w = .ok (.bool b) w := by
  rw [run_eql_struct, sp_equalIn, hb]; rfl
set_option maxRecDepth 100000 in
set_option maxHeartbeats 800000 in
theorem same_any (v1 v2 : Value) (l1 l2 : List Sp.Span) (w : World) (h1 : SpansAt w v1 l1) (h2 : SpansAt w v2 l2) (hl1 : l1.length ≤ 1000000) (hl2 : l2.length ≤ 1000000) :
    Calls Try.prog 18 #[v1, v2] w fun e w' => e = .returned (.bool (decide (l1 = l2))) ∧ Below w.heap.size w w' := by
  by_cases hlen : l1.length = l2.length
  · by_cases h0 : l1 = []
    · subst h0
      have h02 : l2 = [] := List.eq_nil_of_length_eq_zero hlen.symm
      subst h02
      obtain ⟨ao, c1, rfl⟩ : ∃ ao c1, v1 = .slice ao 0 c1 := by rcases h1 with ⟨_, _, _, rfl⟩ | ⟨_, _, _, rfl, _⟩ <;> exact ⟨_, _, rfl⟩
      obtain ⟨ao2, c2, rfl⟩ : ∃ ao c1, v2 = .slice ao 0 c1 := by rcases h2 with ⟨_, _, _, rfl⟩ | ⟨_, _, _, rfl, _⟩ <;> exact ⟨_, _, rfl⟩
      clear h1 h2
      go_enter Try.func18, Try.ntmps18
      go_wp2
      go_rounds 1
      go_ret
      exact ⟨by simp, Below.refl _ _⟩
    · rcases h1 with ⟨e, _⟩ | ⟨b1, o1, c1, rfl, hlt1, hc1⟩
      · exact absurd e h0
      rcases h2 with ⟨e, _⟩ | ⟨b2, o2, c2, rfl, hlt2, hc2⟩
      · subst e; exact absurd (List.eq_nil_of_length_eq_zero hlen) h0
      have HC1 := hid hc1
      have HC2 := hid hc2
      have hne : ((l1.length : Int) != (l2.length : Int)) = false := by simp [hlen]
      have hle : l1.length ≤ l2.length := by omega
      have HL := hid hlen
      clear hc1 hc2 hlen
      go_enter Try.func18, Try.ntmps18
      go_wp2
      go_loopw [5] (fun i wr => ∃ k : Nat, k ≤ l1.length ∧ i = .int .i64 k ∧ l1.take k = l2.take k ∧ Below w.heap.size w wr) (fun i _ => l1.length - (intOf i).toNat)
      case atStart => exact ⟨0, by omega, rfl, rfl, Below.refl _ _⟩
      case round =>
        obtain ⟨k, hk, rfl, htake, hbel⟩ := hrel
        have HT := hid htake
        clear htake
        by_cases hlk : k < l1.length
        · have hlk2 : k < l2.length := by omega
          obtain ⟨q1, q2⟩ := spans_cells hlk HC1.out
          obtain ⟨q3, q4⟩ := spans_cells hlk2 HC2.out
          have d1 := (hbel.cell (p := ⟨b1, o1 + k * 2, none⟩) hlt1).trans q1
          have d2 := (hbel.cell (p := ⟨b1, o1 + k * 2 + 1, none⟩) hlt1).trans q2
          have d3 := (hbel.cell (p := ⟨b2, o2 + k * 2, none⟩) hlt2).trans q3
          have d4 := (hbel.cell (p := ⟨b2, o2 + k * 2 + 1, none⟩) hlt2).trans q4
          have HS1 := hid (take_snoc l1 k hlk)
          have HS2 := hid (take_snoc l2 k hlk2)
          have HG : Hid (l1 = l2 → l1[k] = l2[k]) := fun e => by subst e; rfl
          clear q1 q2 q3 q4
          generalize l1[k] = s at d1 d2 HS1 HG
          generalize l2[k] = r at d3 d4 HS2 HG
          obtain ⟨x, y⟩ := s
          obtain ⟨x', y'⟩ := r
          simp only at d1 d2 d3 d4
          cases hb : decide ((x, y) = (x', y'))
          · have hq := sp_neq x y x' y' _ hb
            have HE := hid (show decide (l1 = l2) = false by rw [decide_eq_false_iff_not]; intro e; rw [decide_eq_false_iff_not] at hb; exact hb (HG.out e))
            clear hb
            go_wp2_with fail
            go_quiet (fail)
            go_wp2
            go_ret
            exact ⟨by rw [HE.out]; rfl, below_drewN hbel _⟩
          · have hq := sp_neq x y x' y' _ hb
            have hxy : (x, y) = (x', y') := of_decide_eq_true hb
            have HE := hid hxy
            clear hb hxy
            go_wp2_with fail
            go_quiet (fail)
            go_wp2
            go_roundw
            case rel => exact ⟨k + 1, by omega, by go_num, by rw [HS1.out, HS2.out, HT.out, HE.out], below_drewN hbel _⟩
            case measure => simp [intOf]; omega
        · have hkl : k = l1.length := by omega
          subst hkl
          go_wp2
          go_ret
          refine ⟨?_, hbel⟩
          have := HT.out
          rw [List.take_length, HL.out, List.take_length] at this
          exact by rw [decide_eq_true this]; rfl
  · have hne : ((l1.length : Int) != (l2.length : Int)) = true := by rw [bne_iff_ne]; omega
    have HE := hid (show decide (l1 = l2) = false by rw [decide_eq_false_iff_not]; intro e; exact hlen (by rw [e]))
    obtain ⟨ao, c1, rfl⟩ : ∃ ao c1, v1 = .slice ao l1.length c1 := by rcases h1 with ⟨rfl, _, _, rfl⟩ | ⟨_, _, _, rfl, _⟩ <;> exact ⟨_, _, rfl⟩
    obtain ⟨ao2, c2, rfl⟩ : ∃ ao c1, v2 = .slice ao l2.length c1 := by rcases h2 with ⟨rfl, _, _, rfl⟩ | ⟨_, _, _, rfl, _⟩ <;> exact ⟨_, _, rfl⟩
    clear h1 h2
    go_enter Try.func18, Try.ntmps18
    go_wp2
    go_ret
    exact ⟨by rw [HE.out]; rfl, Below.refl _ _⟩
end Go.Proofs.Ytghgiifclocddaa
