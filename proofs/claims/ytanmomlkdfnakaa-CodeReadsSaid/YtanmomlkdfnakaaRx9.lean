/-
  The reference's Row of a reader: its contract. Condition: the text has at most 1000000000 bytes.
-/
import Derived.Test.YtanmomlkdfnakaaRx8
namespace Go.Proofs.Ytanmomlkdfnakaa
open Go.RowKit

/-- what Row of the reference's leaves, whatever was wrong before -/
def TopRowX (g : Nat) (s : ByteArray) (r : List Cd.V × Nat × Int) (w : World) (e : Ending) (w' : World) : Prop :=
  (∃ v', e = .returned v' ∧ w'.ownsRow w.heap.size 28 4 v' r.1.length (vcells r.1)) ∧ Upd g w w' ∧ Rfx w' g s r.2.1 r.2.2 ∧ r.2.1 ≤ s.size
/-- a value, read -/
def StV (g : Nat) (s : ByteArray) (i : Nat) (w : World) (e : Ending) (w' : World) : Prop :=
  ∃ x j er, e = .returned (vvV x) ∧ Upd g w w' ∧ Rfx w' g s j er ∧ j ≤ s.size ∧ ((er = 0 ∧ Cd.valueR s i = .ok (x, j)) ∨ (er ≠ 0 ∧ Cd.valueR s i = .error er))
theorem valueX_st (g : Nat) (s : ByteArray) (i : Nat) (w : World) (hr : Rfx w g s i 0) (hi : i ≤ s.size) (hs : s.size ≤ 1000000000) :
    Calls Try.prog 57 #[.pointer (some ⟨g, 0, none⟩)] w (StV g s i w) := by
  refine (valueX_rd g s i w hr hi hs).mono ?_
  rintro e w' ⟨x, rfl, hu, hm⟩
  cases hres : Cd.valueR s i with
  | error y =>
    rw [hres] at hm
    obtain ⟨-, j, hR, hj⟩ := hm
    exact ⟨x, j, y, rfl, hu, hR, hj, .inr ⟨value_errs s i y hres, hres⟩⟩
  | ok p =>
    obtain ⟨y, j⟩ := p
    rw [hres] at hm
    obtain ⟨rfl, hR, hj⟩ := hm
    exact ⟨x, j, 0, rfl, hu, hR, hj, .inl ⟨rfl, hres⟩⟩
/-- how far a row is read -/
def RowSt (s : ByteArray) (i n kk : Nat) (l : List Cd.V) (j : Nat) (er : Int) : Prop :=
  (er = 0 ∧ Cd.rowR s i = joinRow l (Cd.rowF s (n - kk) j)) ∨ (er ≠ 0 ∧ Cd.rowR s i = .error er)
theorem RowSt.next {s : ByteArray} {i n kk : Nat} {l : List Cd.V} {j j2 : Nat} {er2 : Int} {x : Cd.V} (h : RowSt s i n kk l j 0) (hk : kk < n) (hx : (er2 = 0 ∧ Cd.valueR s j = .ok (x, j2)) ∨ (er2 ≠ 0 ∧ Cd.valueR s j = .error er2)) :
    RowSt s i n (kk + 1) (l ++ [x]) j2 er2 := by
  rcases h with ⟨-, h⟩ | ⟨h, -⟩
  · obtain ⟨f, hf⟩ : ∃ f, n - kk = f + 1 := ⟨n - kk - 1, by omega⟩
    have hf2 : n - (kk + 1) = f := by omega
    rw [hf, join_next] at h
    rcases hx with ⟨rfl, hx⟩ | ⟨hn, hx⟩
    · rw [hx] at h
      exact .inl ⟨rfl, by rw [h, hf2]⟩
    · rw [hx] at h
      exact .inr ⟨hn, h⟩
  · exact absurd rfl h
theorem top_rowerr {s : ByteArray} {i : Nat} {x : Int} (h : Cd.rowR s i = .error x) : Cd.top [] (Cd.rowR s) i 0 = ([], i, x) := by
  unfold Cd.top; rw [if_neg (by simp), h]
theorem top_rowok {s : ByteArray} {i j : Nat} {l : List Cd.V} (h : Cd.rowR s i = .ok (l, j)) : Cd.top [] (Cd.rowR s) i 0 = (l, j, 0) := by
  unfold Cd.top; rw [if_neg (by simp), h]

set_option maxRecDepth 100000 in
set_option maxHeartbeats 3200000 in
theorem mRowX_was (g : Nat) (s : ByteArray) (i : Nat) (er : Int) (w : World) (hr : Rfx w g s i er) (hi : i ≤ s.size) (he : er ≠ 0) :
    Calls Try.prog 35 #[.pointer (some ⟨g, 0, none⟩)] w (TopRowX g s (Cd.top [] (Cd.rowR s) i er) w) := by
  have h := hid (uintX_was g s i er w hr he)
  have HT : Hid (Cd.top [] (Cd.rowR s) i er = ([], i, er)) := by show _ = _; unfold Cd.top; rw [if_pos he]
  have hend := hid (fun W h => endX_no g s i i er W h he)
  have c1 := hr.cells.2.1
  have c2 := hr.cells.2.2.1
  go_enter Try.func35, Try.ntmps35
  go_wp2_with fail
  refine (h.out).mono ?_; rintro e w1 ⟨rfl, rfl⟩
  go_wp2_with fail
  go_loopw [5, 6] (fun o q wr => o = .slice none 0 0 ∧ q = .int .i64 0 ∧ wr = w) (fun _ _ _ => 0)
  case atStart => exact ⟨rfl, rfl, rfl⟩
  case round =>
    obtain ⟨rfl, rfl, rfl⟩ := hrel
    go_wp2_with fail
    refine (hend.out _ hr).mono ?_; rintro e w2 ⟨rfl, hu2, hR2⟩
    go_wp2_with fail
    go_ret
    rw [HT.out]
    exact ⟨⟨_, rfl, World.ownsRow_nil _ _ _ _⟩, hu2, hR2, hi⟩
set_option maxRecDepth 100000 in
set_option maxHeartbeats 6400000 in
theorem mRowX_no (g : Nat) (s : ByteArray) (i : Nat) (w : World) (hr : Rfx w g s i 0) (hi : i ≤ s.size) (hs : s.size ≤ 1000000000) (x : Int) (hu : Cd.uintR s.data.toList i = .error x) :
    Calls Try.prog 35 #[.pointer (some ⟨g, 0, none⟩)] w (TopRowX g s (Cd.top [] (Cd.rowR s) i 0) w) := by
  have h := hid (uintX_rd g s i w hr hi hs)
  have hx : x ≠ 0 := by have := Cd.uint_errs s i x hu; omega
  have HT := hid (top_rowerr (s := s) (i := i) (x := x) (by unfold Cd.rowR; rw [hu]))
  have hend := hid (fun W j h => endX_no g s j i x W h hx)
  have c1 := hr.cells.2.1
  rw [hu] at h
  clear hu
  go_enter Try.func35, Try.ntmps35
  go_wp2_with fail
  refine (h.out).mono ?_; rintro e w1 ⟨y, rfl, hu, rfl, j, hR, hj⟩
  clear c1
  go_wp2_with fail
  go_loopw [5, 6] (fun o q wr => o = .slice none 0 0 ∧ q = .int .i64 0 ∧ wr = w1) (fun _ _ _ => 0)
  case atStart => exact ⟨rfl, rfl, rfl⟩
  case round =>
    obtain ⟨rfl, rfl, rfl⟩ := hrel
    go_wp2_with fail
    refine (hend.out _ _ hR).mono ?_; rintro e w2 ⟨rfl, hu2, hR2⟩
    go_wp2_with fail
    go_ret
    rw [HT.out]
    exact ⟨⟨_, rfl, World.ownsRow_nil _ _ _ _⟩, hu.trans hu2, hR2, hi⟩
set_option maxRecDepth 100000 in
set_option maxHeartbeats 6400000 in
theorem mRowX_big (g : Nat) (s : ByteArray) (i : Nat) (w : World) (hr : Rfx w g s i 0) (hi : i ≤ s.size) (hs : s.size ≤ 1000000000) (n j : Nat) (hu : Cd.uintR s.data.toList i = .ok (n, j)) (hn : 1000 < n) :
    Calls Try.prog 35 #[.pointer (some ⟨g, 0, none⟩)] w (TopRowX g s (Cd.top [] (Cd.rowR s) i 0) w) := by
  have h := hid (uintX_rd g s i w hr hi hs)
  have HT := hid (top_rowerr (s := s) (i := i) (x := 19) (by unfold Cd.rowR; rw [hu]; dsimp only; rw [if_pos hn]))
  have hend := hid (fun W j h => endX_no g s j i 19 W h (by decide))
  have hfail := hid (fun W h => failX_new g s j 19 W h)
  have c1 := hr.cells.2.1
  have hn' : (1000 : Int) < (n : Int) := by omega
  obtain ⟨m, hm⟩ : ∃ m, IntKind.i64.wrap (n : Int) = m := ⟨_, rfl⟩
  have hm2 : wrap64 (n : Int) = m := (IntWalk.i64_left _).symm.trans hm
  rw [hu] at h
  clear hu
  go_enter Try.func35, Try.ntmps35
  go_wp2_with fail
  refine (h.out).mono ?_; rintro e w1 ⟨y, rfl, hu, rfl, hR, hj⟩
  clear c1
  go_wp2_with fail
  refine (hfail.out _ hR).mono ?_; rintro e w2 ⟨⟨vf, rfl⟩, hu2, hR2⟩
  have c2 := hR2.cells.2.2.1
  clear hn hR h hfail
  go_wp2_with fail
  go_loopw [5, 6] (fun o q wr => o = .slice none 0 0 ∧ q = .int .i64 0 ∧ wr = w2) (fun _ _ _ => 0)
  case atStart => exact ⟨rfl, rfl, rfl⟩
  case round =>
    obtain ⟨rfl, rfl, rfl⟩ := hrel
    go_wp2_with fail
    all_goals
      refine (hend.out _ _ hR2).mono ?_; rintro e w3 ⟨rfl, hu3, hR3⟩
      go_wp2_with fail
      go_ret
      rw [HT.out]
      exact ⟨⟨_, rfl, World.ownsRow_nil _ _ _ _⟩, (hu.trans hu2).trans hu3, hR3, hi⟩
set_option maxRecDepth 100000 in
set_option maxHeartbeats 6400000 in
theorem mRowX_row (g : Nat) (s : ByteArray) (i : Nat) (w : World) (hr : Rfx w g s i 0) (hi : i ≤ s.size) (hs : s.size ≤ 1000000000) (n j0 : Nat) (hu : Cd.uintR s.data.toList i = .ok (n, j0)) (hn : n ≤ 1000) :
    Calls Try.prog 35 #[.pointer (some ⟨g, 0, none⟩)] w (TopRowX g s (Cd.top [] (Cd.rowR s) i 0) w) := by
  have h := hid (uintX_rd g s i w hr hi hs)
  have hgw : g < w.heap.size := hr.cells.2.2.2.2.2
  have hE0 : Hid (RowSt s i n 0 [] j0 0) := .inl ⟨rfl, by unfold Cd.rowR; rw [hu]; dsimp only; rw [if_neg (by omega)]; show Cd.rowF s n j0 = joinRow [] (Cd.rowF s n j0); cases Cd.rowF s n j0 with | error e => rfl | ok q => rfl⟩
  have c1 := hr.cells.2.1
  have hn' : ¬ (1000 : Int) < (n : Int) := by omega
  have hcv : IntKind.i64.wrap (n : Int) = (n : Int) := IntWalk.i64_in _ (by omega)
  rw [hu] at h
  clear hu
  go_enter Try.func35, Try.ntmps35
  go_wp2_with fail
  refine (h.out).mono ?_; rintro e w1 ⟨y, rfl, hu, rfl, hR, hj⟩
  clear c1 h hr
  go_wp2_with fail
  go_loopw [5, 6] (fun o q wr => ∃ (kk j : Nat) (l : List Cd.V) (er : Int), q = .int .i64 (kk : Int) ∧ kk ≤ y ∧ Hid (l.length = kk) ∧ l.length ≤ 1000000 ∧ wr.ownsRow w.heap.size 28 4 o l.length (vcells l) ∧ Rfx wr g s j er ∧ j ≤ s.size ∧ Upd g w wr ∧ Hid (RowSt s i y kk l j er)) (fun _ q _ => y - (intOf q).toNat)
  case atStart => exact ⟨0, j0, [], 0, rfl, by omega, rfl, by simp, World.ownsRow_nil _ _ _ _, hR, hj, hu, hE0⟩
  case round =>
    obtain ⟨kk, j, l, er, rfl, hk, hll, hl6, hown, hrj, hj2, hu2, hst⟩ := hrel
    clear hu hR hE0
    obtain ⟨w4, rfl⟩ : ∃ w4 : World, w4 = wr := ⟨_, rfl⟩
    have c2 := hrj.cells.2.2.1
    have hO := hid hown
    clear hown
    by_cases he : er = 0
    · subst he
      have c1b := hrj.cells.2.1
      by_cases hkn : kk < y
      · have hv := hid (valueX_st g s j w4 hrj hj2 hs)
        clear c1b
        go_wp2_with fail
        refine (hv.out).mono ?_; rintro e w5 ⟨x, m, er2, rfl, hu5, hr5, hm, hx⟩
        have HST := hid (RowSt.next hst.out hkn hx)
        have hO5 := hid (hO.out.kept hu5 (Or.inr (fun e => by have := (hO.out.lt g e).1; omega)))
        have hu25 := hu2.trans hu5
        have hB5 := hu25.size
        clear hu5 hO hv hx hst c2
        unfold vvV vv
        go_wp2_with (at_builtin; refine append_value _ rfl _ _ rfl w.heap.size _ l rfl hO5.out x _ (by first | rfl | (simp; done)) rfl hl6 hB5 ?_; intro v6 w6 hown6 hgrow6; have hO6 := hid hown6; have hr6 : Rfx w6 g s m er2 := (hgrow6.block g hr5.cells.2.2.2.2.2 (fun e => by have := (hO5.out.lt g e.symm).1; omega)).trans hr5; have hu6 : Upd g w w6 := ⟨hgrow6.os.trans hu25.os, hgrow6.tape.trans hu25.tape, hgrow6.output.trans hu25.output, Nat.le_trans hu25.size hgrow6.size, fun k hk hn => (hgrow6.block k (Nat.lt_of_lt_of_le hk hu25.size) (fun e => by have := (hO5.out.lt k e.symm).1; omega)).trans (hu25.block k hk hn)⟩; clear hown6 hgrow6)
        go_roundw
        case rel => exact ⟨kk + 1, m, l ++ [x], er2, by go_num, by omega, (by show _ = _; rw [List.length_append, hll.out]; rfl), (by rw [List.length_append, hll.out]; simp; omega), hO6.out, hr6, hm, hu6, HST⟩
        case measure => simp [intOf]; omega
      · obtain rfl : kk = y := by omega
        have HE : Hid (Cd.top [] (Cd.rowR s) i 0 = (l, j, 0)) := by
          rcases hst.out with ⟨-, hh⟩ | ⟨hh, -⟩
          · rw [Nat.sub_self, join_end] at hh
            exact top_rowok hh
          · exact absurd rfl hh
        have hend := hid (endX_ok g s j i w4 hrj)
        clear hst
        go_wp2_with fail
        refine (hend.out).mono ?_; rintro e w5 ⟨rfl, rfl⟩
        go_wp2_with fail
        go_ret
        rw [HE.out]
        exact ⟨⟨_, rfl, hO.out⟩, hu2, hrj, hj2⟩
    · have HE : Hid (Cd.top [] (Cd.rowR s) i 0 = ([], i, er)) := by
        rcases hst.out with ⟨hh, -⟩ | ⟨-, hh⟩
        · exact absurd hh he
        · exact top_rowerr hh
      have hq : (er == 0) = false := by rw [beq_eq_false_iff_ne]; exact he
      have hend := hid (endX_no g s j i er w4 hrj he)
      clear hst hrj
      by_cases hkn : kk < y
      all_goals
        go_wp2_with fail
        refine (hend.out).mono ?_; rintro e w5 ⟨rfl, hu5, hr5⟩
        go_wp2_with fail
        go_ret
        rw [HE.out]
        exact ⟨⟨_, rfl, World.ownsRow_nil _ _ _ _⟩, hu2.trans hu5, hr5, hi⟩
theorem mRowX (g : Nat) (s : ByteArray) (i : Nat) (er : Int) (w : World) (hr : Rfx w g s i er) (hi : i ≤ s.size) (hs : s.size ≤ 1000000000) :
    Calls Try.prog 35 #[.pointer (some ⟨g, 0, none⟩)] w (TopRowX g s (Cd.top [] (Cd.rowR s) i er) w) := by
  by_cases he : er = 0
  · subst he
    cases hu : Cd.uintR s.data.toList i with
    | error x => exact mRowX_no g s i w hr hi hs x hu
    | ok p =>
      obtain ⟨n, j⟩ := p
      by_cases hn : 1000 < n
      · exact mRowX_big g s i w hr hi hs n j hu hn
      · exact mRowX_row g s i w hr hi hs n j hu (by omega)
  · exact mRowX_was g s i er w hr hi he
end Go.Proofs.Ytanmomlkdfnakaa
