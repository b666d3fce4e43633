/-
  span.Right, Has, Meet, Join and the reference's: their contracts. No condition.
-/
import Derived.Test.YtghgiifclocddaaRows
import Derived.Test.YtghgiifclocddaaSpanN
import Derived.Test.YtghgiifclocddaaBytes
namespace Go.Proofs.Ytghgiifclocddaa
open Go.RowKit

def sv (s : Sp.Span) : Value := .agg #[.int .i64 s.1, .int .i64 s.2]
/-- a span in a box -/
def bx (s : Sp.Span) : Obj := .cells #[.int .i64 s.1, .int .i64 s.2] 23

theorem right_ways (a b : Int) : ∃ r, Sp.right (a, b) = r ∧ ((r = true ∧ 0 ≤ a ∧ a < b ∧ b ≤ 1099511627776) ∨ (r = false ∧ ¬ 0 ≤ a) ∨ (r = false ∧ 0 ≤ a ∧ ¬ a < b) ∨ (r = false ∧ 0 ≤ a ∧ a < b ∧ ¬ b ≤ 1099511627776)) := by
  refine ⟨_, rfl, ?_⟩
  cases h : Sp.right (a, b)
  · rw [Sp.right_not] at h; simp only at h; simp; omega
  · rw [Sp.right_iff] at h; simp only at h; simp; omega

set_option maxHeartbeats 800000 in
theorem right_exact (a b : Int) (w : World) : Calls Try.prog 14 #[.agg #[.int .i64 a, .int .i64 b]] w fun e w' => e = .returned (.bool (Sp.right (a, b))) ∧ w.alloc (.cells #[.int .i64 a, .int .i64 b] 23) = w' := by
  obtain ⟨r, hr, hc⟩ := right_ways a b
  rw [hr]
  clear hr
  rcases hc with ⟨rfl, h1, h2, h3⟩ | ⟨rfl, h1⟩ | ⟨rfl, h1, h2⟩ | ⟨rfl, h1, h2, h3⟩
  all_goals
    go_enter Try.func14, Try.ntmps14
    go_wp2
    go_ret
    exact ⟨rfl, rfl⟩
set_option maxHeartbeats 800000 in
theorem rightR_exact (a b : Int) (w : World) : Calls Try.prog 15 #[.agg #[.int .i64 a, .int .i64 b]] w fun e w' => e = .returned (.bool (Sp.right (a, b))) ∧ w.alloc (.cells #[.int .i64 a, .int .i64 b] 23) = w' := by
  obtain ⟨r, hr, hc⟩ := right_ways a b
  rw [hr]
  clear hr
  rcases hc with ⟨rfl, h1, h2, h3⟩ | ⟨rfl, h1⟩ | ⟨rfl, h1, h2⟩ | ⟨rfl, h1, h2, h3⟩
  all_goals
    go_enter Try.func15, Try.ntmps15
    go_wp2
    go_ret
    exact ⟨rfl, rfl⟩

theorem has_ways (a b t : Int) : ∃ r q, Sp.has (a, b) t = r ∧ Sp.right (a, b) = q ∧ ((r = true ∧ q = true ∧ a ≤ t ∧ t < b) ∨ (r = false ∧ q = false) ∨ (r = false ∧ q = true ∧ ¬ a ≤ t) ∨ (r = false ∧ q = true ∧ a ≤ t ∧ ¬ t < b)) := by
  refine ⟨_, _, rfl, rfl, ?_⟩
  unfold Sp.has
  cases h : Sp.right (a, b)
  · simp
  · simp
    omega

set_option maxHeartbeats 800000 in
theorem has_any (a b t : Int) (w : World) : Calls Try.prog 16 #[.agg #[.int .i64 a, .int .i64 b], .int .i64 t] w fun e w' => e = .returned (.bool (Sp.has (a, b) t)) ∧ Below w.heap.size w w' := by
  obtain ⟨r, q, hr, hq, hc⟩ := has_ways a b t
  rw [hr]
  clear hr
  rcases hc with ⟨rfl, rfl, h2, h3⟩ | ⟨rfl, rfl⟩ | ⟨rfl, rfl, h2⟩ | ⟨rfl, rfl, h2, h3⟩
  all_goals
    go_enter Try.func16, Try.ntmps16
    go_wp2_with (go_at_call 14; refine (right_exact _ _ _).mono ?_; rintro e w1 ⟨rfl, rfl⟩)
    go_ret
    refine ⟨?_, by go_grown⟩
    first | rfl | (simp; omega)
set_option maxHeartbeats 800000 in
theorem hasR_any (a b t : Int) (w : World) : Calls Try.prog 17 #[.agg #[.int .i64 a, .int .i64 b], .int .i64 t] w fun e w' => e = .returned (.bool (Sp.has (a, b) t)) ∧ Below w.heap.size w w' := by
  obtain ⟨r, q, hr, hq, hc⟩ := has_ways a b t
  rw [hr]
  clear hr
  rcases hc with ⟨rfl, rfl, h2, h3⟩ | ⟨rfl, rfl⟩ | ⟨rfl, rfl, h2⟩ | ⟨rfl, rfl, h2, h3⟩
  all_goals
    go_enter Try.func17, Try.ntmps17
    go_wp2_with (go_at_call 15; refine (rightR_exact _ _ _).mono ?_; rintro e w1 ⟨rfl, rfl⟩)
    go_ret
    refine ⟨?_, by go_grown⟩
    first | rfl | (simp; omega)

/-- what a meeting comes to: the two bounds by name -/
theorem meet_ways (a b c d : Int) : ∃ x y o, max a c = x ∧ min b d = y ∧ Sp.meet (a, b) (c, d) = o ∧
    ((∃ q, Sp.right (a, b) = false ∧ Sp.right (c, d) = q ∧ o = none) ∨ (Sp.right (a, b) = true ∧ Sp.right (c, d) = false ∧ o = none) ∨
     (Sp.right (a, b) = true ∧ Sp.right (c, d) = true ∧ Sp.right (x, y) = false ∧ y ≤ x ∧ o = none) ∨ (Sp.right (a, b) = true ∧ Sp.right (c, d) = true ∧ Sp.right (x, y) = true ∧ x < y ∧ o = some (x, y))) := by
  refine ⟨_, _, _, rfl, rfl, rfl, ?_⟩
  unfold Sp.meet
  cases h1 : Sp.right (a, b)
  · exact .inl ⟨_, rfl, rfl, by simp⟩
  · cases h2 : Sp.right (c, d)
    · exact .inr (.inl ⟨rfl, rfl, by simp⟩)
    · rw [Sp.right_iff] at h1 h2
      simp only at h1 h2
      cases h3 : Sp.right (max a c, min b d)
      · rw [Sp.right_not] at h3
        simp only at h3
        exact .inr (.inr (.inl ⟨rfl, rfl, rfl, by omega, by simp⟩))
      · rw [Sp.right_iff] at h3
        simp only at h3
        exact .inr (.inr (.inr ⟨rfl, rfl, rfl, by omega, by simp⟩))

set_option maxHeartbeats 800000 in
theorem meet_any (a b c d : Int) (w : World) : Calls Try.prog 10 #[.agg #[.int .i64 a, .int .i64 b], .agg #[.int .i64 c, .int .i64 d]] w fun e w' =>
    e = .returned (.tuple #[sv (Sp.fst (Sp.meet (a, b) (c, d))), .bool (Sp.meet (a, b) (c, d)).isSome]) ∧ Below w.heap.size w w' := by
  obtain ⟨x, y, o, hx, hy, ho, hc⟩ := meet_ways a b c d
  rw [ho]
  clear ho
  have hmax : ∀ u, (Builtin.max_ #[3, 3] 3 #[.int .i64 a, .int .i64 c]).run Try.prog u = .ok (.int .i64 x) u := fun u => by
    rw [run_max_int2]; subst hx; congr 2; split <;> omega
  have hmin : ∀ u, (Builtin.min_ #[3, 3] 3 #[.int .i64 b, .int .i64 d]).run Try.prog u = .ok (.int .i64 y) u := fun u => by
    rw [run_min_int2]; subst hy; congr 2; split <;> omega
  have HX := hid hx
  have HY := hid hy
  clear hx hy
  rcases hc with ⟨q, h1, h2, rfl⟩ | ⟨h1, h2, rfl⟩ | ⟨h1, h2, h3, h4, rfl⟩ | ⟨h1, h2, h3, h4, rfl⟩
  all_goals
    go_enter Try.func10, Try.ntmps10
    go_wp2_with (go_at_call 14; refine (right_exact _ _ _).mono ?_; rintro e w1 ⟨rfl, rfl⟩)
    go_returns
    exact ⟨rfl, by go_grown⟩

set_option maxHeartbeats 800000 in
theorem meetR_any (a b c d : Int) (w : World) : Calls Try.prog 11 #[.agg #[.int .i64 a, .int .i64 b], .agg #[.int .i64 c, .int .i64 d]] w fun e w' =>
    e = .returned (.tuple #[sv (Sp.fst (Sp.meet (a, b) (c, d))), .bool (Sp.meet (a, b) (c, d)).isSome]) ∧ Below w.heap.size w w' := by
  obtain ⟨x, y, o, hx, hy, ho, hc⟩ := meet_ways a b c d
  rw [ho]
  clear ho
  have hmax : ∀ u, (Builtin.max_ #[3, 3] 3 #[.int .i64 a, .int .i64 c]).run Try.prog u = .ok (.int .i64 x) u := fun u => by
    rw [run_max_int2]; subst hx; congr 2; split <;> omega
  have hmin : ∀ u, (Builtin.min_ #[3, 3] 3 #[.int .i64 b, .int .i64 d]).run Try.prog u = .ok (.int .i64 y) u := fun u => by
    rw [run_min_int2]; subst hy; congr 2; split <;> omega
  have HX := hid hx
  have HY := hid hy
  clear hx hy
  rcases hc with ⟨q, h1, h2, rfl⟩ | ⟨h1, h2, rfl⟩ | ⟨h1, h2, h3, h4, rfl⟩ | ⟨h1, h2, h3, h4, rfl⟩
  all_goals
    go_enter Try.func11, Try.ntmps11
    go_wp2_with (go_at_call 15; refine (rightR_exact _ _ _).mono ?_; rintro e w1 ⟨rfl, rfl⟩)
    go_returns
    exact ⟨rfl, by go_grown⟩

theorem join_ways (a b c d : Int) : ∃ x y o p q, min a c = x ∧ max b d = y ∧ Sp.join (a, b) (c, d) = o ∧ Sp.right (a, b) = p ∧ Sp.right (c, d) = q ∧
    ((p = false ∧ o = none) ∨ (p = true ∧ q = false ∧ o = none) ∨ (p = true ∧ q = true ∧ a < b ∧ c < d ∧ b < c ∧ o = none) ∨ (p = true ∧ q = true ∧ a < b ∧ c < d ∧ ¬ b < c ∧ d < a ∧ o = none) ∨
     (p = true ∧ q = true ∧ a < b ∧ c < d ∧ ¬ b < c ∧ ¬ d < a ∧ o = some (x, y))) := by
  refine ⟨_, _, _, _, _, rfl, rfl, rfl, rfl, rfl, ?_⟩
  unfold Sp.join
  cases h1 : Sp.right (a, b)
  · exact .inl ⟨rfl, by simp⟩
  · cases h2 : Sp.right (c, d)
    · exact .inr (.inl ⟨rfl, rfl, by simp⟩)
    · rw [Sp.right_iff] at h1 h2
      simp only at h1 h2
      by_cases h3 : b < c
      · exact .inr (.inr (.inl ⟨rfl, rfl, by omega, by omega, h3, by simp; omega⟩))
      · by_cases h4 : d < a
        · exact .inr (.inr (.inr (.inl ⟨rfl, rfl, by omega, by omega, h3, h4, by simp; omega⟩)))
        · exact .inr (.inr (.inr (.inr ⟨rfl, rfl, by omega, by omega, h3, h4, by simp; omega⟩)))

set_option maxHeartbeats 1600000 in
theorem join_any (a b c d : Int) (w : World) : Calls Try.prog 12 #[.agg #[.int .i64 a, .int .i64 b], .agg #[.int .i64 c, .int .i64 d]] w fun e w' =>
    e = .returned (.tuple #[sv (Sp.fst (Sp.join (a, b) (c, d))), .bool (Sp.join (a, b) (c, d)).isSome]) ∧ Below w.heap.size w w' := by
  obtain ⟨x, y, o, p, q, hx, hy, ho, hp, hq, hc⟩ := join_ways a b c d
  rw [ho]
  clear ho
  have hmax : ∀ u, (Builtin.max_ #[3, 3] 3 #[.int .i64 b, .int .i64 d]).run Try.prog u = .ok (.int .i64 y) u := fun u => by
    rw [run_max_int2]; subst hy; congr 2; split <;> omega
  have hmax2 : ∀ u, (Builtin.max_ #[3, 3] 3 #[.int .i64 d, .int .i64 b]).run Try.prog u = .ok (.int .i64 y) u := fun u => by
    rw [run_max_int2]; subst hy; congr 2; split <;> omega
  have HY := hid hy
  clear hy
  by_cases hac : c < a
  · obtain rfl : x = c := by omega
    clear hx
    rcases hc with ⟨rfl, rfl⟩ | ⟨rfl, rfl, rfl⟩ | ⟨rfl, rfl, h1, h2, h3, rfl⟩ | ⟨rfl, rfl, h1, h2, h3, h4, rfl⟩ | ⟨rfl, rfl, h1, h2, h3, h4, rfl⟩
    · cases q
      all_goals
        go_enter Try.func12, Try.ntmps12
        go_wp2_with (go_at_call 14; refine (right_exact _ _ _).mono ?_; rintro e w1 ⟨rfl, rfl⟩)
        go_returns
        exact ⟨rfl, by go_grown⟩
    · go_enter Try.func12, Try.ntmps12
      go_wp2_with (go_at_call 14; refine (right_exact _ _ _).mono ?_; rintro e w1 ⟨rfl, rfl⟩)
      go_returns
      exact ⟨rfl, by go_grown⟩
    · omega
    all_goals
      go_enter Try.func12, Try.ntmps12
      go_wp2_with (go_at_call 14; refine (right_exact _ _ _).mono ?_; rintro e w1 ⟨rfl, rfl⟩)
      go_returns
      exact ⟨rfl, by go_grown⟩
  · obtain rfl : x = a := by omega
    clear hx
    rcases hc with ⟨rfl, rfl⟩ | ⟨rfl, rfl, rfl⟩ | ⟨rfl, rfl, h1, h2, h3, rfl⟩ | ⟨rfl, rfl, h1, h2, h3, h4, rfl⟩ | ⟨rfl, rfl, h1, h2, h3, h4, rfl⟩
    · go_enter Try.func12, Try.ntmps12
      go_wp2_with (go_at_call 14; refine (right_exact _ _ _).mono ?_; rintro e w1 ⟨rfl, rfl⟩)
      go_returns
      exact ⟨rfl, by go_grown⟩
    · go_enter Try.func12, Try.ntmps12
      go_wp2_with (go_at_call 14; refine (right_exact _ _ _).mono ?_; rintro e w1 ⟨rfl, rfl⟩)
      go_returns
      exact ⟨rfl, by go_grown⟩
    · go_enter Try.func12, Try.ntmps12
      go_wp2_with (go_at_call 14; refine (right_exact _ _ _).mono ?_; rintro e w1 ⟨rfl, rfl⟩)
      go_returns
      exact ⟨rfl, by go_grown⟩
    · omega
    · go_enter Try.func12, Try.ntmps12
      go_wp2_with (go_at_call 14; refine (right_exact _ _ _).mono ?_; rintro e w1 ⟨rfl, rfl⟩)
      go_returns
      exact ⟨rfl, by go_grown⟩

set_option maxHeartbeats 1600000 in
theorem joinR_any (a b c d : Int) (w : World) : Calls Try.prog 13 #[.agg #[.int .i64 a, .int .i64 b], .agg #[.int .i64 c, .int .i64 d]] w fun e w' =>
    e = .returned (.tuple #[sv (Sp.fst (Sp.join (a, b) (c, d))), .bool (Sp.join (a, b) (c, d)).isSome]) ∧ Below w.heap.size w w' := by
  obtain ⟨x, y, o, p, q, hx, hy, ho, hp, hq, hc⟩ := join_ways a b c d
  rw [ho]
  clear ho
  have hmax : ∀ u, (Builtin.max_ #[3, 3] 3 #[.int .i64 b, .int .i64 d]).run Try.prog u = .ok (.int .i64 y) u := fun u => by
    rw [run_max_int2]; subst hy; congr 2; split <;> omega
  have hmin : ∀ u, (Builtin.min_ #[3, 3] 3 #[.int .i64 a, .int .i64 c]).run Try.prog u = .ok (.int .i64 x) u := fun u => by
    rw [run_min_int2]; subst hx; congr 2; split <;> omega
  have HY := hid hy
  have HX := hid hx
  clear hy hx
  rcases hc with ⟨rfl, rfl⟩ | ⟨rfl, rfl, rfl⟩ | ⟨rfl, rfl, h1, h2, h3, rfl⟩ | ⟨rfl, rfl, h1, h2, h3, h4, rfl⟩ | ⟨rfl, rfl, h1, h2, h3, h4, rfl⟩
  all_goals
    go_enter Try.func13, Try.ntmps13
    go_wp2_with (go_at_call 15; refine (rightR_exact _ _ _).mono ?_; rintro e w1 ⟨rfl, rfl⟩)
    go_returns
    exact ⟨rfl, by go_grown⟩
end Go.Proofs.Ytghgiifclocddaa
