/-
  'light' of the statements of the conditions: its contract; what a parameter of type []Node is. No condition.
-/
import Derived.Test.YtfdehigepgeknaaPt
import Derived.Lib.SmallJoins
import Derived.Deep.SlicePairs
namespace Go.Proofs.Ytfdehigepgeknaa
open Go.RowKit Pd

def lightB (l : List N) (row : List Cd.V) : Bool := decide (l.length ≤ 60) && (decide (row.length ≤ 40) && (l.all (fun x => decide (x.v.s.size ≤ 200)) && row.all (fun y => decide (y.s.size ≤ 200))))
theorem light_no1 {l : List N} {row : List Cd.V} {k : Nat} (hk : k < l.length) (h : 200 < l[k].v.s.size) : lightB l row = false := by
  unfold lightB
  have : l.all (fun x => decide (x.v.s.size ≤ 200)) = false := List.all_eq_false.2 ⟨l[k], List.getElem_mem hk, by simp; omega⟩
  rw [this, Bool.false_and, Bool.and_false, Bool.and_false]
theorem light_no2 {l : List N} {row : List Cd.V} {k : Nat} (hk : k < row.length) (h : 200 < row[k].s.size) : lightB l row = false := by
  unfold lightB
  have : row.all (fun y => decide (y.s.size ≤ 200)) = false := List.all_eq_false.2 ⟨row[k], List.getElem_mem hk, by simp; omega⟩
  rw [this, Bool.and_false, Bool.and_false, Bool.and_false]
theorem light_yes {l : List N} {row : List Cd.V} (h1 : l.length ≤ 60) (h2 : row.length ≤ 40) (h3 : ∀ j (hj : j < l.length), l[j].v.s.size ≤ 200) (h4 : ∀ j (hj : j < row.length), row[j].s.size ≤ 200) : lightB l row = true := by
  unfold lightB
  rw [decide_eq_true h1, decide_eq_true h2]
  simp only [Bool.true_and, Bool.and_eq_true, List.all_eq_true, decide_eq_true_eq]
  refine ⟨fun x hx => ?_, fun x hx => ?_⟩
  · obtain ⟨k, hk, rfl⟩ := List.getElem_of_mem hx; exact h3 k hk
  · obtain ⟨k, hk, rfl⟩ := List.getElem_of_mem hx; exact h4 k hk
theorem light_of {l : List N} {row : List Cd.V} (h : lightB l row = true) : l.length ≤ 60 ∧ row.length ≤ 40 ∧ (∀ x ∈ l, x.v.s.size ≤ 200) ∧ (∀ y ∈ row, y.s.size ≤ 200) := by
  unfold lightB at h
  simp only [Bool.and_eq_true, decide_eq_true_eq, List.all_eq_true] at h
  exact h
set_option maxRecDepth 100000 in
set_option maxHeartbeats 3200000 in
theorem light_any (v u : Value) (l : List N) (row : List Cd.V) (w : World) (hv : NsAt w v l) (hu : VsAt w u row) : Calls Try.prog 9 #[v, u] w fun e w' => e = .returned (.bool (lightB l row)) ∧ w = w' := by
  obtain ⟨adr, cap, rfl, hc⟩ := hv
  obtain ⟨uadr, ucap, rfl, hd⟩ := hu
  have HC := hid hc
  have HD := hid hd
  clear hc hd
  by_cases h1 : l.length ≤ 60
  · have h1' : ¬ (60 : Int) < (l.length : Int) := by omega
    by_cases h2 : row.length ≤ 40
    · have h2' : ¬ (40 : Int) < (row.length : Int) := by omega
      go_enter Try.func9, Try.ntmps9
      go_wp2_with fail
      go_loopw [5] (fun i wr => ∃ k : Nat, k ≤ l.length ∧ i = .int .i64 (k : Int) ∧ Hid (∀ j (hj : j < l.length), j < k → l[j].v.s.size ≤ 200) ∧ wr = w) (fun i _ => l.length - (intOf i).toNat)
      case atStart => exact ⟨0, by omega, rfl, hid (fun j _ hj => absurd hj (Nat.not_lt_zero j)), rfl⟩
      case round =>
        obtain ⟨k, hk, rfl, hall, rfl⟩ := hrel
        have hk0 : (0 : Int) ≤ (k : Int) := by omega
        by_cases hkl : k < l.length
        · have hkl' : (k : Int) < (l.length : Int) := by omega
          obtain ⟨g, off, rfl, _, _, _, _, _, q5⟩ := HC.out k hkl
          have HN := hid (light_no1 (row := row) hkl)
          have HA : Hid (l[k].v.s.size ≤ 200 → ∀ j (hj : j < l.length), j < k + 1 → l[j].v.s.size ≤ 200) := fun h j hj hjk => if e : j < k then hall.out j hj e else by
            have : j = k := by omega
            subst this; exact h
          generalize l[k].v.s = s at q5 HN HA
          by_cases hs : 200 < s.size
          · have hs' : (200 : Int) < (s.size : Int) := by omega
            have HR := hid (HN.out hs)
            clear HN HA hall hs
            go_wp2_with fail
            go_ret
            rw [HR.out]
            exact ⟨rfl, rfl⟩
          · have hs' : ¬ (200 : Int) < (s.size : Int) := by omega
            have HA2 := hid (HA.out (by omega))
            clear HN HA hall hs
            go_wp2_with fail
            go_roundw
            case rel => exact ⟨k + 1, by omega, by go_num, HA2, by first | rfl | trivial⟩
            case measure => simp [intOf]; omega
        · obtain rfl : k = l.length := by omega
          have HL : Hid (∀ j (hj : j < l.length), l[j].v.s.size ≤ 200) := fun j hj => hall.out j hj hj
          clear hall hk hk0
          go_wp2_with fail
          go_loopw [6] (fun i wr' => ∃ k : Nat, k ≤ row.length ∧ i = .int .i64 (k : Int) ∧ Hid (∀ j (hj : j < row.length), j < k → row[j].s.size ≤ 200) ∧ wr' = wr) (fun i _ => row.length - (intOf i).toNat)
          case atStart => exact ⟨0, by omega, rfl, hid (fun j _ hj => absurd hj (Nat.not_lt_zero j)), rfl⟩
          case round =>
            obtain ⟨k, hk, rfl, hall, rfl⟩ := hrel
            have hk0 : (0 : Int) ≤ (k : Int) := by omega
            by_cases hkr : k < row.length
            · have hkr' : (k : Int) < (row.length : Int) := by omega
              obtain ⟨g, off, rfl, _, _, _, q5⟩ := HD.out k hkr
              have HN := hid (light_no2 (l := l) hkr)
              have HA : Hid (row[k].s.size ≤ 200 → ∀ j (hj : j < row.length), j < k + 1 → row[j].s.size ≤ 200) := fun h j hj hjk => if e : j < k then hall.out j hj e else by
                have : j = k := by omega
                subst this; exact h
              generalize row[k].s = s at q5 HN HA
              by_cases hs : 200 < s.size
              · have hs' : (200 : Int) < (s.size : Int) := by omega
                have HR := hid (HN.out hs)
                clear HN HA hall hs
                go_wp2_with fail
                go_ret
                rw [HR.out]
                exact ⟨rfl, rfl⟩
              · have hs' : ¬ (200 : Int) < (s.size : Int) := by omega
                have HA2 := hid (HA.out (by omega))
                clear HN HA hall hs
                go_wp2_with fail
                go_roundw
                case rel => exact ⟨k + 1, by omega, by go_num, HA2, by first | rfl | trivial⟩
                case measure => simp [intOf]; omega
            · obtain rfl : k = row.length := by omega
              have HR : Hid (lightB l row = true) := light_yes h1 h2 HL.out (fun j hj => hall.out j hj hj)
              clear hall
              go_wp2_with fail
              go_ret
              rw [HR.out]
              exact ⟨rfl, rfl⟩
    · have h2' : (40 : Int) < (row.length : Int) := by omega
      have HR : Hid (lightB l row = false) := by show _ = _; unfold lightB; rw [decide_eq_false h2, Bool.false_and, Bool.and_false]
      go_enter Try.func9, Try.ntmps9
      go_wp2_with fail
      go_ret
      rw [HR.out]
      exact ⟨rfl, rfl⟩
  · have h1' : (60 : Int) < (l.length : Int) := by omega
    have HR : Hid (lightB l row = false) := by show _ = _; unfold lightB; rw [decide_eq_false h1, Bool.false_and]
    go_enter Try.func9, Try.ntmps9
    go_wp2_with fail
    go_ret
    rw [HR.out]
    exact ⟨rfl, rfl⟩
end Go.Proofs.Ytfdehigepgeknaa
