/-
  code's row of a reader: its contract. Condition: the text has at most 1000000000 bytes.
-/
import Derived.Test.YtanmomlkdfnakaaRd3
namespace Go.Proofs.Ytanmomlkdfnakaa
open Go.RowKit

theorem Try.infoValue : (Try.prog.info? 28).map (fun i => (i.zero, i.size, i.bytes)) = some (some (.agg #[.int .i64 0, .int .i64 0, .int .u64 0, .string ⟨#[]⟩]), 4, 40) := by kernel_rfl
/-- the values' cells, one behind the other -/
def vcells (l : List Cd.V) : List Value := l.flatMap fun v => [.int .i64 v.k, .int .i64 v.n, .int .u64 (v.b : Int), .string v.s]
theorem vcells_append (l r : List Cd.V) : vcells (l ++ r) = vcells l ++ vcells r := by simp [vcells]
theorem vcells_one (v : Cd.V) : vcells [v] = [.int .i64 v.k, .int .i64 v.n, .int .u64 (v.b : Int), .string v.s] := rfl
theorem vcells_length (l : List Cd.V) : (vcells l).length = l.length * 4 := by
  induction l with
  | nil => rfl
  | cons s l ih => show (_ :: _ :: _ :: _ :: vcells l).length = _; simp [ih]; omega
theorem vcells_get {l : List Cd.V} {j : Nat} {s : Cd.V} (h : l[j]? = some s) : (vcells l)[j * 4]? = some (.int .i64 s.k) ∧ (vcells l)[j * 4 + 1]? = some (.int .i64 s.n) ∧ (vcells l)[j * 4 + 2]? = some (.int .u64 (s.b : Int)) ∧ (vcells l)[j * 4 + 3]? = some (.string s.s) := by
  induction l generalizing j with
  | nil => simp at h
  | cons x l ih =>
    show (_ :: _ :: _ :: _ :: vcells l)[j * 4]? = _ ∧ (_ :: _ :: _ :: _ :: vcells l)[j * 4 + 1]? = _ ∧ (_ :: _ :: _ :: _ :: vcells l)[j * 4 + 2]? = _ ∧ (_ :: _ :: _ :: _ :: vcells l)[j * 4 + 3]? = _
    cases j with
    | zero => simp at h; subst h; exact ⟨rfl, rfl, rfl, rfl⟩
    | succ j =>
      simp only [List.getElem?_cons_succ] at h
      rw [show (j + 1) * 4 = j * 4 + 1 + 1 + 1 + 1 from by omega, show j * 4 + 1 + 1 + 1 + 1 + 1 = (j * 4 + 1) + 1 + 1 + 1 + 1 from by omega, show j * 4 + 1 + 1 + 1 + 1 + 2 = (j * 4 + 2) + 1 + 1 + 1 + 1 from by omega, show j * 4 + 1 + 1 + 1 + 1 + 3 = (j * 4 + 3) + 1 + 1 + 1 + 1 from by omega]
      simp only [List.getElem?_cons_succ]
      exact ih h
theorem vcells_one_cell (l : List Cd.V) : ∀ u ∈ vcells l, u.oneCell' = true := by
  intro u hu
  obtain ⟨s, _, hs⟩ := List.mem_flatMap.1 hu
  simp at hs
  rcases hs with rfl | rfl | rfl | rfl <;> rfl
theorem VsAt.own {w : World} {B : Nat} {v : Value} {l : List Cd.V} (h : w.ownsRow B 28 4 v l.length (vcells l)) : VsAt w v l := by
  rcases h.2 with ⟨rfl, hn⟩ | ⟨g, cap, cur, rfl, hB, hg, hn, _, hs, ht⟩
  · exact ⟨none, 0, by rw [hn], fun k hk => by omega⟩
  · refine ⟨_, cap, rfl, fun k hk => ⟨g, 0, rfl, ?_⟩⟩
    have hc : ∀ i u, (vcells l)[i]? = some u → w.cell? ⟨g, 0 + i, none⟩ = some u := by
      intro i u hi
      rw [Nat.zero_add, cell_of_row w g i cur _ (0, 0) hg]
      rw [← ht, List.getElem?_take] at hi
      split at hi
      · simpa using hi
      · cases hi
    obtain ⟨g0, g1, g2, g3⟩ := vcells_get (List.getElem?_eq_getElem hk)
    exact ⟨hc _ _ g0, by rw [Nat.add_assoc]; exact hc _ _ g1, by rw [Nat.add_assoc]; exact hc _ _ g2, by rw [Nat.add_assoc]; exact hc _ _ g3⟩
theorem cell_four (w : World) (a b c d : Value) (t : TypeId) {g : Nat} (hg : g = w.heap.size) : ∀ j u, [a, b, c, d][j]? = some u → (w.alloc (.cells #[a, b, c, d] t)).cell? ((⟨g, 0, none⟩ : Addr).add j) = some u := by
  subst hg
  intro j u hj
  have hadd : (⟨w.heap.size, 0, none⟩ : Addr).add j = ⟨w.heap.size, j, none⟩ := by unfold Addr.add; split <;> simp_all
  rw [hadd, cell_of_row (w.alloc (.cells #[a, b, c, d] t)) w.heap.size j #[a, b, c, d] t (0, 0) (heap_alloc_new w _)]
  simpa using hj

/-- 'append(out, v)', out of the call's own, v in a block that has just been laid -/
theorem append_value (u : World) {ops : Array Oper} {rest : List Oper} {o : Oper} {a : Act} {Q : Exit → Act → World → Prop} (hgd : o.guard = none) (s x : Operand)
    (ho : o.op = .call { callee := .builtin .append, args := #[s, x], argTypes := #[24, 24] })
    (B : Nat) (v : Value) (l : List Cd.V) (hs : a.eval s = v) (hown : u.ownsRow B 28 4 v l.length (vcells l)) (p : Cd.V) (g : Nat) (hgz : g = u.heap.size) (hx : a.eval x = .slice (some ⟨g, 0, none⟩) 1 1)
    (hlen : l.length ≤ 1000000) (hB : B ≤ u.heap.size)
    (hK : ∀ v' w', w'.ownsRow B 28 4 v' (l ++ [p]).length (vcells (l ++ [p])) → u.grownBy w' v.ownBlock → wpList Try.prog ops Q rest (a.put o.dst v') w') :
    wpList Try.prog ops Q (o :: rest) a (u.alloc (.cells #[.int .i64 p.k, .int .i64 p.n, .int .u64 (p.b : Int), .string p.s] 28)) := by
  obtain ⟨i0, hi, hz0, hz1, hz2⟩ := info_parts Try.infoValue
  refine wpList_append_own _ hgd s x 24 ho B 28 i0 (.agg #[.int .i64 0, .int .i64 0, .int .u64 0, .string ⟨#[]⟩]) 4 40 Try.underlying24 hi hz0 hz1 hz2 rfl (by decide) v l.length (vcells l) hs (hown.alloc _) ⟨g, 0, none⟩ 1 1 (vcells [p]) hx rfl (cell_four u _ _ _ _ _ hgz) (vcells_one_cell [p]) ?_ ?_ ?_ ?_
  · unfold maxLen; omega
  · omega
  · simp; omega
  · intro v' w' hown' hgrow _
    refine hK v' w' (by rw [vcells_append, List.length_append]; exact hown') ?_
    refine ⟨hgrow.os, hgrow.tape, hgrow.output, Nat.le_trans (by simp) hgrow.size, fun k hk hne => ?_⟩
    rw [hgrow.block k (by simp; omega) hne]
    exact Below.heap_alloc u _ k hk

/-- what a read of a row leaves -/
def ToldRow (g : Nat) (s : ByteArray) (er : Int) (r : Cd.R (List Cd.V)) (w : World) (e : Ending) (w' : World) : Prop :=
  Upd g w w' ∧ match r with
    | .ok (l, j) => (∃ v', e = .returned v' ∧ w'.ownsRow w.heap.size 28 4 v' l.length (vcells l)) ∧ Rdr w' g s j er ∧ j ≤ s.size
    | .error x => e = .panicked [{ v := fault x, recovered := false }] ∧ ∃ j, Rdr w' g s j er ∧ j ≤ s.size
theorem ToldRow.mk_ok {g : Nat} {s : ByteArray} {er : Int} {r : Cd.R (List Cd.V)} {w w' : World} {e : Ending} {l : List Cd.V} {v' : Value} {j : Nat} (hr : r = .ok (l, j)) (hu : Upd g w w') (he : e = .returned v') (ho : w'.ownsRow w.heap.size 28 4 v' l.length (vcells l)) (hR : Rdr w' g s j er) (hj : j ≤ s.size) : ToldRow g s er r w e w' := by
  subst hr; exact ⟨hu, ⟨v', he, ho⟩, hR, hj⟩
theorem ToldRow.mk_err {g : Nat} {s : ByteArray} {er : Int} {r : Cd.R (List Cd.V)} {w w' : World} {e : Ending} {x : Int} {j : Nat} (hr : r = .error x) (hu : Upd g w w') (he : e = .panicked [{ v := fault x, recovered := false }]) (hR : Rdr w' g s j er) (hj : j ≤ s.size) : ToldRow g s er r w e w' := by
  subst hr; exact ⟨hu, he, j, hR, hj⟩
/-- behind some values: what the rest comes to -/
def joinRow (l : List Cd.V) : Cd.R (List Cd.V) → Cd.R (List Cd.V)
  | .error e => .error e
  | .ok (r, j) => .ok (l ++ r, j)
theorem join_next (s : ByteArray) (l : List Cd.V) (f j : Nat) : joinRow l (Cd.rowF s (f + 1) j) = match Cd.valueR s j with
    | .error e => .error e
    | .ok (v, m) => joinRow (l ++ [v]) (Cd.rowF s f m) := by
  show joinRow l (match Cd.valueR s j with | .error e => .error e | .ok (v, m) => match Cd.rowF s f m with | .error e => .error e | .ok (r, q) => .ok (v :: r, q)) = _
  cases Cd.valueR s j with
  | error e => rfl
  | ok p =>
    obtain ⟨v, m⟩ := p
    simp only
    cases Cd.rowF s f m with
    | error e => rfl
    | ok q => obtain ⟨r, q⟩ := q; simp [joinRow]
theorem join_end (s : ByteArray) (l : List Cd.V) (j : Nat) : joinRow l (Cd.rowF s 0 j) = .ok (l, j) := by simp [joinRow, Cd.rowF]

set_option maxRecDepth 100000 in
set_option maxHeartbeats 3200000 in
theorem row_rd (g : Nat) (s : ByteArray) (i : Nat) (er : Int) (w : World) (hr : Rdr w g s i er) (hi : i ≤ s.size) (hs : s.size ≤ 1000000000) :
    Calls Try.prog 59 #[.pointer (some ⟨g, 0, none⟩)] w (ToldRow g s er (Cd.rowR s i) w) := by
  have h := hid (uint_rd g s i er w hr hi hs)
  have hI : Hid (Cd.rowR s i = match Cd.uintR s.data.toList i with | .error e => .error e | .ok (n, j) => if 1000 < n then .error 19 else Cd.rowF s n j) := rfl
  have hgw : g < w.heap.size := hr.cells.2.2.2.2.2
  cases hres : Cd.uintR s.data.toList i with
  | error x =>
    rw [hres] at h hI
    have hE : Hid (Cd.rowR s i = .error x) := hI
    clear hI hr
    go_enter Try.func59, Try.ntmps59
    go_wp2_with fail
    refine (h.out).mono ?_; rintro e w1 ⟨hu, rfl, j, hR, hj⟩
    go_wp2_with fail
    exact ⟨rfl, ToldRow.mk_err hE.out hu rfl hR hj⟩
  | ok p =>
    obtain ⟨n, j0⟩ := p
    rw [hres] at h hI
    have hI2 : Hid (Cd.rowR s i = if 1000 < n then .error 19 else Cd.rowF s n j0) := hI
    clear hI hr
    by_cases h1 : 1000 < n
    · have hE : Hid (Cd.rowR s i = .error 19) := by show _ = _; rw [hI2.out, if_pos h1]
      have h1' : (1000 : Int) < (n : Int) := by omega
      go_enter Try.func59, Try.ntmps59
      go_wp2_with fail
      refine (h.out).mono ?_; rintro e w1 ⟨hu, rfl, hR, hj⟩
      go_wp2_with fail
      exact ⟨rfl, ToldRow.mk_err hE.out hu rfl hR hj⟩
    · have h1' : ¬ (1000 : Int) < (n : Int) := by omega
      have hE0 := hid (show Cd.rowR s i = joinRow [] (Cd.rowF s n j0) by rw [hI2.out, if_neg h1]; cases Cd.rowF s n j0 with | error e => rfl | ok q => rfl)
      clear hI2
      go_enter Try.func59, Try.ntmps59
      go_wp2_with fail
      refine (h.out).mono ?_; rintro e w1 ⟨hu, rfl, hR, hj⟩
      clear h
      go_wp2_with fail
      go_loopw [4, 12] (fun o q wr => ∃ (kk f j : Nat) (l : List Cd.V), q = .int .u64 (kk : Int) ∧ kk + f = n ∧ l.length = kk ∧ wr.ownsRow w.heap.size 28 4 o l.length (vcells l) ∧ Rdr wr g s j er ∧ j ≤ s.size ∧ Upd g w wr ∧ Hid (Cd.rowR s i = joinRow l (Cd.rowF s f j))) (fun _ q _ => n - (intOf q).toNat)
      case atStart => exact ⟨0, n, j0, [], rfl, by omega, rfl, World.ownsRow_nil _ _ _ _, hR, hj, hu, hE0⟩
      case round =>
        obtain ⟨kk, f, j, l, rfl, hkf, hll, hown, hrj, hj2, hu2, hE⟩ := hrel
        clear hu hR
        obtain ⟨w4, rfl⟩ : ∃ w4 : World, w4 = wr := ⟨_, rfl⟩
        cases f with
        | zero =>
          obtain rfl : kk = n := by omega
          have HE := hid (hE.out.trans (join_end s l j))
          have hO := hid hown
          clear hE hown
          go_wp2_with fail
          go_ret
          exact ToldRow.mk_ok HE.out hu2 rfl hO.out hrj hj2
        | succ f =>
          have hk' : (kk : Int) < (n : Int) := by omega
          have hl6 : l.length ≤ 1000000 := by omega
          have hv := hid (value_rd g s j er w4 hrj hj2 hs)
          have hJ := hid (hE.out.trans (join_next s l f j))
          have hO := hid hown
          have hLL := hid hll
          clear hE hown hll
          cases hres2 : Cd.valueR s j with
          | error x =>
            rw [hres2] at hv hJ
            have HE : Hid (Cd.rowR s i = .error x) := hJ
            clear hJ
            go_wp2_with fail
            refine (hv.out).mono ?_; rintro e w5 ⟨hu5, rfl, m, hr5, hm⟩
            go_wp2_with fail
            exact ⟨rfl, ToldRow.mk_err HE.out (hu2.trans hu5) rfl hr5 hm⟩
          | ok p =>
            obtain ⟨x, m⟩ := p
            rw [hres2] at hv hJ
            have HE : Hid (Cd.rowR s i = joinRow (l ++ [x]) (Cd.rowF s f m)) := hJ
            clear hJ
            go_wp2_with fail
            refine (hv.out).mono ?_; rintro e w5 ⟨hu5, rfl, hr5, hm⟩
            have hO5 := hid (hO.out.kept hu5 (Or.inr (fun e => by have := (hO.out.lt g e).1; omega)))
            have hu25 := hu2.trans hu5
            have hB5 := hu25.size
            clear hu5 hO hv
            unfold vvV vv
            go_wp2_with (at_builtin; refine append_value _ rfl _ _ rfl w.heap.size _ l rfl hO5.out x _ (by first | rfl | (simp; done)) rfl hl6 hB5 ?_; intro v6 w6 hown6 hgrow6; have hO6 := hid hown6; have hr6 : Rdr w6 g s m er := (hgrow6.block g hr5.cells.2.2.2.2.2 (fun e => by have := (hO5.out.lt g e.symm).1; omega)).trans hr5; have hu6 : Upd g w w6 := ⟨hgrow6.os.trans hu25.os, hgrow6.tape.trans hu25.tape, hgrow6.output.trans hu25.output, Nat.le_trans hu25.size hgrow6.size, fun k hk hn => (hgrow6.block k (Nat.lt_of_lt_of_le hk hu25.size) (fun e => by have := (hO5.out.lt k e.symm).1; omega)).trans (hu25.block k hk hn)⟩; clear hown6 hgrow6)
            go_roundw
            case rel => exact ⟨kk + 1, f, m, l ++ [x], by go_num, by omega, by rw [List.length_append, hLL.out]; rfl, hO6.out, hr6, hm, hu6, HE⟩
            case measure => simp [intOf]; omega
end Go.Proofs.Ytanmomlkdfnakaa
