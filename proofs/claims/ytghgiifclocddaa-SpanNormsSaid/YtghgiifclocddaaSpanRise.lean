/-
  span.rise: its contract. Condition: at most 1000000 spans, in the call's caller's own memory.
-/
import Derived.Test.YtghgiifclocddaaSpanS
import Derived.BigRegion
namespace Go.Proofs.Ytghgiifclocddaa
open Go.RowKit

theorem own_cells {w : World} {B : Nat} {g cap : Nat} {l : List Sp.Span} (h : w.ownsRow B 23 2 (.slice (some ⟨g, 0, none⟩) l.length cap) l.length (scells l)) :
    ∀ j s, l[j]? = some s → w.cell? ⟨g, j * 2, none⟩ = some (.int .i64 s.1) ∧ w.cell? ⟨g, j * 2 + 1, none⟩ = some (.int .i64 s.2) ∧ w.frozen? ⟨g, j * 2, none⟩ = false ∧ w.frozen? ⟨g, j * 2 + 1, none⟩ = false := by
  intro j s hj
  rcases h.2 with ⟨h1, _⟩ | ⟨g', cap', cur, h1, hB, hg, hn, _, hs, ht⟩
  · cases h1
  · simp only [Value.slice.injEq, Option.some.injEq, Addr.mk.injEq] at h1
    obtain ⟨⟨rfl, _⟩, _, rfl⟩ := h1
    have hc : ∀ i u, (scells l)[i]? = some u → w.cell? ⟨g, i, none⟩ = some u := by
      intro i u hi
      rw [cell_of_row w g i cur _ (0, 0) hg]
      rw [← ht, List.getElem?_take] at hi
      split at hi
      · simpa using hi
      · cases hi
    obtain ⟨g1, g2⟩ := scells_get hj
    exact ⟨hc _ _ g1, hc _ _ g2, frozen_of_row w g _ cur _ hg, frozen_of_row w g _ cur _ hg⟩

theorem grown_drewN {w w' : World} {r : Option Nat} (h : w.grownBy w' r) (n : Nat) : w.grownBy (w'.drewN n) r := ⟨h.os, h.tape, h.output, h.size, h.block⟩
theorem grown_drew {w w' : World} {r : Option Nat} (h : w.grownBy w' r) : w.grownBy w'.drew r := ⟨h.os, h.tape, h.output, h.size, h.block⟩
theorem own_drewN {w : World} {B e size : Nat} {v : Value} {n : Nat} {xs : List Value} (h : w.ownsRow B e size v n xs) (m : Nat) : (w.drewN m).ownsRow B e size v n xs := h

theorem grown_trans {a b c : World} {r : Option Nat} (h : a.grownBy b r) (k : b.grownBy c r) : a.grownBy c r :=
  ⟨k.os.trans h.os, k.tape.trans h.tape, k.output.trans h.output, Nat.le_trans h.size k.size, fun i hi hne => (k.block i (Nat.lt_of_lt_of_le hi h.size) hne).trans (h.block i hi hne)⟩
theorem scells_set (l : List Sp.Span) (j : Nat) (p q : Int) : ((scells l).set (j * 2) (.int .i64 p)).set (j * 2 + 1) (.int .i64 q) = scells (l.set j (p, q)) := by
  induction l generalizing j with
  | nil => simp [scells]
  | cons x l ih =>
    cases j with
    | zero => rfl
    | succ j =>
      show ((_ :: _ :: scells l).set ((j + 1) * 2) _).set ((j + 1) * 2 + 1) _ = _ :: _ :: scells (l.set j (p, q))
      rw [show (j + 1) * 2 = j * 2 + 1 + 1 from by omega]
      simp only [List.set_cons_succ]
      rw [← ih j]
/-- the exchange of two spans in memory -/
theorem own_swap {W : World} {B g cap n : Nat} {cur : List Sp.Span} {k : Nat} {a b c d : Int} (h : W.ownsRow B 23 2 (.slice (some ⟨g, 0, none⟩) n cap) n (scells cur)) (h1 : cur.getD (k + 1) (0, 0) = (a, b)) (h2 : cur.getD k (0, 0) = (c, d)) :
    ((((W.setCell ⟨g, (k + 1) * 2, none⟩ (.int .i64 c)).setCell ⟨g, (k + 1) * 2 + 1, none⟩ (.int .i64 d)).setCell ⟨g, k * 2, none⟩ (.int .i64 a)).setCell ⟨g, k * 2 + 1, none⟩ (.int .i64 b)).ownsRow B 23 2 (.slice (some ⟨g, 0, none⟩) n cap) n (scells (Sp.swapAt cur (k + 1))) ∧
    W.grownBy ((((W.setCell ⟨g, (k + 1) * 2, none⟩ (.int .i64 c)).setCell ⟨g, (k + 1) * 2 + 1, none⟩ (.int .i64 d)).setCell ⟨g, k * 2, none⟩ (.int .i64 a)).setCell ⟨g, k * 2 + 1, none⟩ (.int .i64 b)) (some g) := by
  obtain ⟨s1, g1⟩ := h.stored ((k + 1) * 2) (.int .i64 c)
  obtain ⟨s2, g2⟩ := s1.stored ((k + 1) * 2 + 1) (.int .i64 d)
  rw [scells_set] at s2
  obtain ⟨s3, g3⟩ := s2.stored (k * 2) (.int .i64 a)
  obtain ⟨s4, g4⟩ := s3.stored (k * 2 + 1) (.int .i64 b)
  rw [scells_set] at s4
  refine ⟨?_, grown_trans (grown_trans (grown_trans g1 g2) g3) g4⟩
  unfold Sp.swapAt
  rw [Nat.add_sub_cancel, h1, h2]
  exact s4

set_option maxRecDepth 100000 in
set_option maxHeartbeats 1600000 in
theorem rise_any (v : Value) (l : List Sp.Span) (B : Nat) (w : World) (hown : w.ownsRow B 23 2 v l.length (scells l)) (hl : l.length ≤ 1000000) :
    Calls Try.prog 27 #[v] w fun e w' => e = .returned (.tuple #[]) ∧ w'.ownsRow B 23 2 v l.length (scells (Sp.rise l)) ∧ w.grownBy w' v.ownBlock := by
  rcases hown.2 with ⟨rfl, hn⟩ | ⟨g, cap, _, rfl, hB, hg, hn, _⟩
  · have h0 : l = [] := List.eq_nil_of_length_eq_zero hn
    subst h0
    go_enter Try.func27, Try.ntmps27
    go_wp2
    go_rounds 1
    go_end0
    exact ⟨rfl, hown, ⟨rfl, rfl, rfl, Nat.le_refl _, fun _ _ _ => rfl⟩⟩
  · clear hg hn
    have HO := hid hown
    clear hown
    go_enter Try.func27, Try.ntmps27
    go_wp2
    go_loopw [6] (fun i wr => ∃ i' : Nat, i' ≤ l.length ∧ i = .int .i64 i' ∧ wr.ownsRow B 23 2 (.slice (some ⟨g, 0, none⟩) l.length cap) l.length (scells (Sp.riseTo l i')) ∧ w.grownBy wr (some g)) (fun i _ => l.length - (intOf i).toNat)
    case atStart => exact ⟨0, by omega, rfl, HO.out, ⟨rfl, rfl, rfl, Nat.le_refl _, fun _ _ _ => rfl⟩⟩
    case round =>
      obtain ⟨i, hi, rfl, hor, hgr⟩ := hrel
      have HR := hid hor
      have HG := hid hgr
      clear hor hgr
      by_cases hil : i < l.length
      · obtain ⟨wo, rfl⟩ : ∃ wo : World, wo = wr := ⟨_, rfl⟩
        go_wp2
        go_loopw [3] (fun i2 wr => ∃ (k : Nat) (cur : List Sp.Span), k ≤ i ∧ i2 = .int .i64 k ∧ wr.ownsRow B 23 2 (.slice (some ⟨g, 0, none⟩) l.length cap) l.length (scells cur) ∧ w.grownBy wr (some g) ∧ cur.length = l.length ∧ Sp.sink k cur = Sp.riseTo l (i + 1)) (fun i2 _ => (intOf i2).toNat)
        case atStart => exact ⟨i, _, Nat.le_refl _, rfl, HR.out, HG.out, Sp.riseTo_length l i, rfl⟩
        case round =>
          obtain ⟨k, cur, hk, rfl, hor, hgr, hcl, hsink⟩ := hrel
          cases k with
          | zero =>
            have HR2 := hid hor
            have HG2 := hid hgr
            have HS := hid hsink
            clear hor hgr hsink
            go_wp2_with fail
            go_quiet (fail)
            go_wp2
            go_roundw
            case rel => exact ⟨i + 1, by omega, by go_num, by rw [← HS.out]; exact HR2.out, grown_drewN HG2.out _⟩
            case measure => simp [intOf]; omega
          | succ k =>
            have hkc : k + 1 < cur.length := by omega
            obtain ⟨q1, q2, q5, q6⟩ := own_cells (by rw [hcl]; exact hor) (k + 1) cur[k + 1] (List.getElem?_eq_getElem hkc)
            obtain ⟨q3, q4, q7, q8⟩ := own_cells (by rw [hcl]; exact hor) k cur[k] (List.getElem?_eq_getElem (by omega))
            have HR2 := hid hor
            have HG2 := hid hgr
            have HS := hid hsink
            have HC := hid hcl
            have H1 : Hid (cur.getD (k + 1) (0, 0) = cur[k + 1]) := by show _ = _; rw [List.getD_eq_getElem?_getD, List.getElem?_eq_getElem hkc]; rfl
            have H2 : Hid (cur.getD k (0, 0) = cur[k]) := by show _ = _; rw [List.getD_eq_getElem?_getD, List.getElem?_eq_getElem (by omega)]; rfl
            clear hor hgr hsink hcl
            generalize cur[k + 1] = s at q1 q2 H1
            generalize cur[k] = r at q3 q4 H2
            obtain ⟨a, b⟩ := s
            obtain ⟨c, d⟩ := r
            simp only at q1 q2 q3 q4
            by_cases hlt : a < c
            · go_wp2_with fail
              go_quiet (fail)
              go_wp2_with fail
              have HR3 := hid (own_drewN HR2.out nq)
              have HG3 := hid (grown_drewN HG2.out nq)
              have e1 : (wr.drewN nq).cell? ⟨g, (k + 1) * 2, none⟩ = some (.int .i64 a) := q1
              have e2 : (wr.drewN nq).cell? ⟨g, (k + 1) * 2 + 1, none⟩ = some (.int .i64 b) := q2
              have e3 : (wr.drewN nq).cell? ⟨g, k * 2, none⟩ = some (.int .i64 c) := q3
              have e4 : (wr.drewN nq).cell? ⟨g, k * 2 + 1, none⟩ = some (.int .i64 d) := q4
              have e5 : (wr.drewN nq).frozen? ⟨g, (k + 1) * 2, none⟩ = false := q5
              have e6 : (wr.drewN nq).frozen? ⟨g, (k + 1) * 2 + 1, none⟩ = false := q6
              have e7 : (wr.drewN nq).frozen? ⟨g, k * 2, none⟩ = false := q7
              have e8 : (wr.drewN nq).frozen? ⟨g, k * 2 + 1, none⟩ = false := q8
              generalize wr.drewN nq = W at HR3 HG3 e1 e2 e3 e4 e5 e6 e7 e8 ⊢
              clear q1 q2 q3 q4 q5 q6 q7 q8
              go_region
              go_wp2
              go_roundw
              case rel =>
                obtain ⟨o1, o2⟩ := own_swap HR3.out H1.out H2.out
                refine ⟨k, Sp.swapAt cur (k + 1), by omega, rfl, o1, grown_drew (grown_trans HG3.out o2), by rw [Sp.swapAt_length]; exact HC.out, ?_⟩
                rw [← HS.out]
                conv => rhs; unfold Sp.sink
                rw [H1.out, H2.out, if_pos hlt]
              case measure => simp [intOf]
            · have HSI : Hid (Sp.sink (k + 1) cur = cur) := by
                show _ = _
                unfold Sp.sink
                rw [H1.out, H2.out, if_neg hlt]
              go_wp2_with fail
              go_quiet (fail)
              go_wp2
              go_roundw
              case rel => exact ⟨i + 1, by omega, by go_num, by rw [← HS.out, HSI.out]; exact HR2.out, grown_drewN HG2.out _⟩
              case measure => simp [intOf]; omega
      · have hie : i = l.length := by omega
        subst hie
        go_wp2
        go_end0
        exact ⟨rfl, HR.out, HG.out⟩
end Go.Proofs.Ytghgiifclocddaa
