/-
  span.Norm: its contract. Condition: at most 1000000 spans.
-/
import Derived.Test.YtghgiifclocddaaSpanRise
import Derived.Deep.RegionHeld3
namespace Go.Proofs.Ytghgiifclocddaa
open Go.RowKit

theorem mstep_length (out : List Sp.Span) (s : Sp.Span) : (Sp.mstep out s).length ≤ out.length + 1 := by
  unfold Sp.mstep
  split
  · simp
  · split
    · simp
    · simp
theorem foldl_mstep_length (l out : List Sp.Span) : (l.foldl Sp.mstep out).length ≤ out.length + l.length := by
  induction l generalizing out with
  | nil => simp
  | cons s l ih =>
    have h1 := ih (Sp.mstep out s)
    have h2 := mstep_length out s
    simp only [List.foldl_cons, List.length_cons]
    omega
theorem foldl_snoc {α β : Type} (f : β → α → β) (b : β) (l : List α) (k : Nat) (h : k < l.length) : (l.take (k + 1)).foldl f b = f ((l.take k).foldl f b) l[k] := by
  rw [take_snoc l k h, List.foldl_append]; rfl

theorem own_shape {w : World} {B : Nat} {v : Value} {l : List Sp.Span} (h : w.ownsRow B 23 2 v l.length (scells l)) : (v = .slice none 0 0 ∧ l = []) ∨ ∃ g cap, v = .slice (some ⟨g, 0, none⟩) l.length cap ∧ B ≤ g ∧ g < w.heap.size ∧ (l = [] ∨ 0 < l.length) := by
  rcases h.2 with ⟨rfl, hn⟩ | ⟨g, cap, cur, rfl, hB, hg, hn, _⟩
  · exact .inl ⟨rfl, List.eq_nil_of_length_eq_zero hn⟩
  · refine .inr ⟨g, cap, rfl, hB, (Array.getElem?_eq_some_iff.1 hg).1, ?_⟩
    cases l with
    | nil => exact .inl rfl
    | cons s l => exact .inr (by simp)
theorem own_below {w w' : World} {B e size : Nat} {v : Value} {n : Nat} {xs : List Value} (h : w.ownsRow B e size v n xs) (hb : Below w.heap.size w w') : w'.ownsRow B e size v n xs := by
  refine ⟨h.1, ?_⟩
  rcases h.2 with h1 | ⟨g, cap, cur, q1, q2, hg, q3⟩
  · exact .inl h1
  · exact .inr ⟨g, cap, cur, q1, q2, by rw [hb.block g (Array.getElem?_eq_some_iff.1 hg).1]; exact hg, q3⟩
/-- what a call leaves of one box -/
theorem one_box {w w1 : World} {p q : Int} (h0 : Below (w.alloc (.cells #[.int .i64 p, .int .i64 q] 23)).heap.size ((w.alloc (.cells #[.int .i64 p, .int .i64 q] 23)).drew) w1) :
    w1.cell? ⟨w.heap.size, 0, none⟩ = some (.int .i64 p) ∧ w1.cell? ⟨w.heap.size, 1, none⟩ = some (.int .i64 q) ∧ w.heap.size < w1.heap.size ∧ Below w.heap.size w w1 := by
  have h : Below (w.heap.size + 1) ((w.alloc (.cells #[.int .i64 p, .int .i64 q] 23)).drew) w1 := by simpa using h0
  refine ⟨(h.cell (p := ⟨w.heap.size, 0, none⟩) (by simp only; omega)).trans (by simp), (h.cell (p := ⟨w.heap.size, 1, none⟩) (by simp only; omega)).trans (by simp), ?_, ?_⟩
  · have := h.size; simp at this; omega
  · exact (((Below.refl _ _).alloc (Nat.le_refl _) _).drew).trans (h.mono (by omega))
theorem two_boxD {w w1 : World} {p q r s : Int} (h0 : Below ((w.alloc (.cells #[.int .i64 p, .int .i64 q] 23)).alloc (.cells #[.int .i64 r, .int .i64 s] 23)).heap.size (((w.alloc (.cells #[.int .i64 p, .int .i64 q] 23)).alloc (.cells #[.int .i64 r, .int .i64 s] 23)).drew) w1) :
    w1.cell? ⟨w.heap.size, 0, none⟩ = some (.int .i64 p) ∧ w1.cell? ⟨w.heap.size, 1, none⟩ = some (.int .i64 q) ∧ w1.cell? ⟨w.heap.size + 1, 0, none⟩ = some (.int .i64 r) ∧ w1.cell? ⟨w.heap.size + 1, 1, none⟩ = some (.int .i64 s) ∧
    w1.frozen? ⟨w.heap.size + 1, 0, none⟩ = false ∧ w1.frozen? ⟨w.heap.size + 1, 1, none⟩ = false ∧ w.heap.size + 1 < w1.heap.size ∧ Below w.heap.size w w1 := by
  have h : Below (w.heap.size + 1 + 1) (((w.alloc (.cells #[.int .i64 p, .int .i64 q] 23)).alloc (.cells #[.int .i64 r, .int .i64 s] 23)).drew) w1 := by simpa using h0
  refine ⟨(h.cell (p := ⟨w.heap.size, 0, none⟩) (by simp only; omega)).trans (by simp), (h.cell (p := ⟨w.heap.size, 1, none⟩) (by simp only; omega)).trans (by simp), (h.cell (p := ⟨w.heap.size + 1, 0, none⟩) (by simp only; omega)).trans (by simp), (h.cell (p := ⟨w.heap.size + 1, 1, none⟩) (by simp only; omega)).trans (by simp),
    (h.frozen (p := ⟨w.heap.size + 1, 0, none⟩) (by simp only; omega)).trans (by go_simp), (h.frozen (p := ⟨w.heap.size + 1, 1, none⟩) (by simp only; omega)).trans (by go_simp), ?_, ?_⟩
  · have := h.size; simp at this; omega
  · exact ((((Below.refl _ _).alloc (Nat.le_refl _) _).alloc (by simp) _).drew).trans (h.mono (by omega))
theorem keep4 {W W' : World} {p1 p2 p3 p4 : Addr} {v1 v2 v3 v4 : Value} (h : (W.cell? p1 = some v1 ∧ W.cell? p2 = some v2) ∧ W.cell? p3 = some v3 ∧ W.cell? p4 = some v4) (hb : Below W.heap.size W W') :
    (W'.cell? p1 = some v1 ∧ W'.cell? p2 = some v2) ∧ W'.cell? p3 = some v3 ∧ W'.cell? p4 = some v4 := ⟨⟨cellKeep h.1.1 hb, cellKeep h.1.2 hb⟩, cellKeep h.2.1 hb, cellKeep h.2.2 hb⟩
theorem frozenKeep {W W' : World} {p : Addr} {v : Value} (h : W.cell? p = some v) (hf : W.frozen? p = false) (hb : Below W.heap.size W W') : W'.frozen? p = false := by
  rw [hb.frozen (World.block_lt_of_cell? W p h)]; exact hf
/-- a store of a span into an owned row -/
theorem own_set {W : World} {B g cap n : Nat} {l : List Sp.Span} {j : Nat} {p q : Int} (h : W.ownsRow B 23 2 (.slice (some ⟨g, 0, none⟩) n cap) n (scells l)) :
    ((W.setCell ⟨g, j * 2, none⟩ (.int .i64 p)).setCell ⟨g, j * 2 + 1, none⟩ (.int .i64 q)).ownsRow B 23 2 (.slice (some ⟨g, 0, none⟩) n cap) n (scells (l.set j (p, q))) ∧ W.grownBy ((W.setCell ⟨g, j * 2, none⟩ (.int .i64 p)).setCell ⟨g, j * 2 + 1, none⟩ (.int .i64 q)) (some g) := by
  obtain ⟨s1, g1⟩ := h.stored (j * 2) (.int .i64 p)
  obtain ⟨s2, g2⟩ := s1.stored (j * 2 + 1) (.int .i64 q)
  rw [scells_set] at s2
  exact ⟨s2, grown_trans g1 g2⟩

set_option maxRecDepth 100000 in
set_option maxHeartbeats 3200000 in
theorem norm_any (v : Value) (l : List Sp.Span) (w : World) (hv : SpansAt w v l) (hl : l.length ≤ 1000000) :
    Calls Try.prog 22 #[v] w fun e w' => (∃ v', e = .returned v' ∧ w'.ownsRow w.heap.size 23 2 v' (Sp.norm l).length (scells (Sp.norm l))) ∧ Below w.heap.size w w' := by
  unfold Sp.norm
  have hlr := rights_length l
  go_enter Try.func22, Try.ntmps22
  go_wp2_with fail
  refine (rights_any v l _ hv hl).mono ?_; rintro e w1 ⟨⟨va, rfl, hown⟩, hb1⟩
  go_wp2_with fail
  refine (rise_any va (Sp.rights l) _ _ hown (by omega)).mono ?_; rintro e w2 ⟨rfl, hown2, hgr2⟩
  have hb2 : Below w.heap.size w w2 := hb1.grown hgr2 hb1.size (fun q hq => (hown.lt q hq).1)
  have hlen : (Sp.rise (Sp.rights l)).length = (Sp.rights l).length := Sp.riseTo_length _ _
  rw [← hlen] at hown2
  have hln : (Sp.rise (Sp.rights l)).length ≤ 1000000 := by omega
  clear hown hgr2 hb1 hv hlr hlen
  generalize hmm : Sp.rise (Sp.rights l) = m at hown2 hln
  have HMM := hid hmm
  clear hmm
  rcases SpansAt.own hown2 with ⟨rfl, ao, cap, rfl⟩ | ⟨g, off, cap, rfl, hlt, hc⟩
  · clear hown2
    go_wp2
    go_rounds 1
    go_ret
    have hfin := World.ownsRow_nil w2 w.heap.size 23 2
    rw [HMM.out]
    exact ⟨⟨_, rfl, hfin⟩, hb2⟩
  · clear hown2
    have HC := hid hc
    clear hc
    go_wp2
    go_loopw [16, 4] (fun i t wr => ∃ k : Nat, k ≤ m.length ∧ i = .int .i64 k ∧ wr.ownsRow w2.heap.size 23 2 t ((m.take k).foldl Sp.mstep []).length (scells ((m.take k).foldl Sp.mstep [])) ∧ Below w2.heap.size w2 wr) (fun i _ _ => m.length - (intOf i).toNat)
    case atStart => exact ⟨0, by omega, rfl, World.ownsRow_nil _ _ _ _, Below.refl _ _⟩
    case round =>
      obtain ⟨k, hk, rfl, hown, hbel⟩ := hrel
      by_cases hlk : k < m.length
      · obtain ⟨q1, q2⟩ := spans_cells hlk HC.out
        have d1 := (hbel.cell (p := ⟨g, off + k * 2, none⟩) hlt).trans q1
        have d2 := (hbel.cell (p := ⟨g, off + k * 2 + 1, none⟩) hlt).trans q2
        have HS := hid (foldl_snoc Sp.mstep [] m k hlk)
        have hol := foldl_mstep_length (m.take k) []
        rw [List.length_take, List.length_nil] at hol
        clear q1 q2
        generalize m[k] = s at d1 d2 HS
        generalize (m.take k).foldl Sp.mstep [] = out at hown HS hol
        obtain ⟨x, y⟩ := s
        simp only at d1 d2
        have hzr := hbel.size
        rcases own_shape hown with ⟨rfl, rfl⟩ | ⟨go, co, rfl, hgo, hgo2, hne⟩
        · have HM : Hid (Sp.mstep [] (x, y) = [] ++ [(x, y)]) := rfl
          go_wp2_with (first | (at_builtin; refine append_span _ rfl _ _ rfl w2.heap.size _ [] rfl (World.ownsRow_nil _ _ _ _) _ _ _ (by first | rfl | (simp; done)) rfl (by simp) (by simp; omega) ?_; intro v3 w3 hown3 hgrow3; have hb3 := (hbel.alloc hzr _).grown hgrow3 (by simp; omega) (by intro k hk; cases hk); have HO3 := hid hown3; clear hown3 hgrow3))
          go_roundw
          case rel => exact ⟨k + 1, by omega, by go_num, by rw [HS.out, HM.out]; exact HO3.out, hb3⟩
          case measure => simp [intOf]; omega
        · rcases hne with rfl | hol1
          · have HM : Hid (Sp.mstep [] (x, y) = [] ++ [(x, y)]) := rfl
            go_wp2_with (first | (at_builtin; refine append_span _ rfl _ _ rfl w2.heap.size _ [] rfl (hown.alloc _) _ _ _ (by first | rfl | (simp; done)) rfl (by simp) (by simp; omega) ?_; intro v3 w3 hown3 hgrow3; have hb3 := (hbel.alloc hzr _).grown hgrow3 (by simp; omega) (fun q hq => (hown.lt q hq).1); have HO3 := hid hown3; clear hown3 hgrow3))
            go_roundw
            case rel => exact ⟨k + 1, by omega, by go_num, by rw [HS.out, HM.out]; exact HO3.out, hb3⟩
            case measure => simp [intOf]; omega
          have hlast : out.length - 1 < out.length := by omega
          obtain ⟨q1, q2, q3, q4⟩ := own_cells hown (out.length - 1) out[out.length - 1] (List.getElem?_eq_getElem hlast)
          have H1 : Hid (out.getD (out.length - 1) (0, 0) = out[out.length - 1]) := by show _ = _; rw [List.getD_eq_getElem?_getD, List.getElem?_eq_getElem hlast]; rfl
          generalize out[out.length - 1] = p at q1 q2 H1
          obtain ⟨pa, pb⟩ := p
          simp only at q1 q2
          have i1 : (0 : Int) ≤ (out.length : Int) - 1 := by omega
          have i2 : (out.length : Int) - 1 < (out.length : Int) := by omega
          have i3 : ((out.length : Int) - 1).toNat = out.length - 1 := by omega
          have i4 : ¬ (out.length : Int) - 1 < 0 := by omega
          have i5 : go ≠ wr.heap.size := by omega
          have i6 : go < wr.heap.size := hgo2
          have i8 : go ≠ wr.heap.size + 1 := by omega
          have i7 : (1 : Int) ≤ (out.length : Int) := by omega
          have HO := hid hown
          clear hown
          have hjoin := fun W => join_any pa pb x y W
          cases hj : Sp.join (pa, pb) (x, y) with
          | none =>
            rw [hj] at hjoin
            have HJ : Hid (∀ W, Calls Try.prog 12 #[.agg #[.int .i64 pa, .int .i64 pb], .agg #[.int .i64 x, .int .i64 y]] W fun e w' => e = .returned (.tuple #[.agg #[.int .i64 0, .int .i64 0], .bool false]) ∧ Below W.heap.size W w') := hjoin
            have HM : Hid (Sp.mstep out (x, y) = out ++ [(x, y)]) := by
              show _ = _
              unfold Sp.mstep
              rw [if_neg (by omega), H1.out, hj]
            clear hjoin hj
            go_wp2_with fail
            have g1 : (wr.alloc (.cells #[.int .i64 x, .int .i64 y] 23)).cell? ⟨go, (out.length - 1) * 2, none⟩ = some (.int .i64 pa) := (((Below.refl wr.heap.size wr).alloc (Nat.le_refl _) _).cell (p := ⟨go, (out.length - 1) * 2, none⟩) hgo2).trans q1
            have g2 : (wr.alloc (.cells #[.int .i64 x, .int .i64 y] 23)).cell? ⟨go, (out.length - 1) * 2 + 1, none⟩ = some (.int .i64 pb) := (((Below.refl wr.heap.size wr).alloc (Nat.le_refl _) _).cell (p := ⟨go, (out.length - 1) * 2 + 1, none⟩) hgo2).trans q2
            go_region_held3 (fun W => (W.cell? ⟨go, (out.length - 1) * 2, none⟩ = some (.int .i64 pa) ∧ W.cell? ⟨go, (out.length - 1) * 2 + 1, none⟩ = some (.int .i64 pb)) ∧ W.cell? ⟨wr.heap.size, 0, none⟩ = some (.int .i64 x) ∧ W.cell? ⟨wr.heap.size, 1, none⟩ = some (.int .i64 y)) (first | exact hS3 | exact keep4 hS3 ((Below.refl _ _).alloc (Nat.le_refl _) _) | (refine ⟨⟨?_, ?_⟩, ?_, ?_⟩ <;> (go_simp; done)) | assumption) (first | (go_at_call 12; refine (HJ.out _).mono ?_; rintro e w3 ⟨rfl, hb3⟩; have hS3 := keep4 (by assumption) hb3; have hz3 := two_boxD hb3) | (go_at_call 12; refine (HJ.out _).mono ?_; rintro e w3 ⟨rfl, hb3⟩; have hS3 := keep4 (by assumption) hb3; have hz3 := one_box hb3))
            · obtain ⟨f1, f2, f3, f4⟩ := hz3
              have c1 : (w3.alloc (.cells #[.int .i64 0, .int .i64 0] 23)).cell? ⟨wr.heap.size, 0, none⟩ = some (.int .i64 x) := cellKeep f1 ((Below.refl _ _).alloc (Nat.le_refl _) _)
              have c2 : (w3.alloc (.cells #[.int .i64 0, .int .i64 0] 23)).cell? ⟨wr.heap.size, 1, none⟩ = some (.int .i64 y) := cellKeep f2 ((Below.refl _ _).alloc (Nat.le_refl _) _)
              have hW := (own_below HO.out f4).alloc (.cells #[.int .i64 0, .int .i64 0] 23)
              have hBW := hbel.trans ((f4.alloc (Nat.le_of_lt f3) (.cells #[.int .i64 0, .int .i64 0] 23)).mono hzr)
              generalize w3.alloc (.cells #[.int .i64 0, .int .i64 0] 23) = W at c1 c2 hW hBW ⊢
              clear f1 f2 f3 f4 hb3 hS3 g1 g2 q1 q2 q3 q4
              go_wp2_with (first | (at_builtin; refine append_span _ rfl _ _ rfl w2.heap.size _ out rfl hW _ _ _ (by first | rfl | (simp; done)) rfl (by omega) hBW.size ?_; intro v3 w4 hown3 hgrow3; have hb4 := hBW.grown hgrow3 hBW.size (fun q hq => (hW.lt q hq).1); have HO3 := hid hown3; clear hown3 hgrow3))
              go_roundw
              case rel => exact ⟨k + 1, by omega, by go_num, by rw [HS.out, HM.out]; exact HO3.out, hb4⟩
              case measure => simp [intOf]; omega
            · obtain ⟨f1, f2, _, _, _, _, f3, f4⟩ := hz3
              have hBx : Below (wr.heap.size + 1) w3 ((w3.setCell ⟨wr.heap.size + 1, 0, none⟩ (.int .i64 0)).setCell ⟨wr.heap.size + 1, 1, none⟩ (.int .i64 0)) := ((Below.refl _ _).setCell (p := ⟨wr.heap.size + 1, 0, none⟩) (Nat.le_refl _) _).setCell (p := ⟨wr.heap.size + 1, 1, none⟩) (Nat.le_refl _) _
              have c1 := (hBx.cell (p := ⟨wr.heap.size, 0, none⟩) (Nat.lt_succ_self _)).trans f1
              have c2 := (hBx.cell (p := ⟨wr.heap.size, 1, none⟩) (Nat.lt_succ_self _)).trans f2
              have hBy := f4.trans (hBx.mono (Nat.le_succ _))
              have hW := own_below HO.out hBy
              have hBW := hbel.trans (hBy.mono hzr)
              clear hBx
              generalize (w3.setCell ⟨wr.heap.size + 1, 0, none⟩ (.int .i64 0)).setCell ⟨wr.heap.size + 1, 1, none⟩ (.int .i64 0) = W at c1 c2 hW hBW hBy ⊢
              clear f1 f2 f3 f4 hb3 hS3 g1 g2 q1 q2 q3 q4 hBy
              go_wp2_with (first | (at_builtin; refine append_span _ rfl _ _ rfl w2.heap.size _ out rfl hW _ _ _ (by first | rfl | (simp; done)) rfl (by omega) hBW.size ?_; intro v3 w4 hown3 hgrow3; have hb4 := hBW.grown hgrow3 hBW.size (fun q hq => (hW.lt q hq).1); have HO3 := hid hown3; clear hown3 hgrow3))
              go_roundw
              case rel => exact ⟨k + 1, by omega, by go_num, by rw [HS.out, HM.out]; exact HO3.out, hb4⟩
              case measure => simp [intOf]; omega
          | some j =>
            rw [hj] at hjoin
            obtain ⟨ja, jb⟩ := j
            have HJ : Hid (∀ W, Calls Try.prog 12 #[.agg #[.int .i64 pa, .int .i64 pb], .agg #[.int .i64 x, .int .i64 y]] W fun e w' => e = .returned (.tuple #[.agg #[.int .i64 ja, .int .i64 jb], .bool true]) ∧ Below W.heap.size W w') := hjoin
            have HM : Hid (Sp.mstep out (x, y) = out.set (out.length - 1) (ja, jb)) := by
              show _ = _
              unfold Sp.mstep
              rw [if_neg (by omega), H1.out, hj]
            clear hjoin hj
            go_wp2_with fail
            have g1 : (wr.alloc (.cells #[.int .i64 x, .int .i64 y] 23)).cell? ⟨go, (out.length - 1) * 2, none⟩ = some (.int .i64 pa) := (((Below.refl wr.heap.size wr).alloc (Nat.le_refl _) _).cell (p := ⟨go, (out.length - 1) * 2, none⟩) hgo2).trans q1
            have g2 : (wr.alloc (.cells #[.int .i64 x, .int .i64 y] 23)).cell? ⟨go, (out.length - 1) * 2 + 1, none⟩ = some (.int .i64 pb) := (((Below.refl wr.heap.size wr).alloc (Nat.le_refl _) _).cell (p := ⟨go, (out.length - 1) * 2 + 1, none⟩) hgo2).trans q2
            go_region_held3 (fun W => (W.cell? ⟨go, (out.length - 1) * 2, none⟩ = some (.int .i64 pa) ∧ W.cell? ⟨go, (out.length - 1) * 2 + 1, none⟩ = some (.int .i64 pb)) ∧ W.cell? ⟨wr.heap.size, 0, none⟩ = some (.int .i64 x) ∧ W.cell? ⟨wr.heap.size, 1, none⟩ = some (.int .i64 y)) (first | exact hS3 | exact keep4 hS3 ((Below.refl _ _).alloc (Nat.le_refl _) _) | (refine ⟨⟨?_, ?_⟩, ?_, ?_⟩ <;> (go_simp; done)) | assumption) (first | (go_at_call 12; refine (HJ.out _).mono ?_; rintro e w3 ⟨rfl, hb3⟩; have hS3 := keep4 (by assumption) hb3; have hz3 := two_boxD hb3) | (go_at_call 12; refine (HJ.out _).mono ?_; rintro e w3 ⟨rfl, hb3⟩; have hS3 := keep4 (by assumption) hb3; have hz3 := one_box hb3))
            · obtain ⟨f1, f2, f3, f4⟩ := hz3
              have hW := (own_below HO.out f4).alloc (.cells #[.int .i64 ja, .int .i64 jb] 23)
              have c1 : (w3.alloc (.cells #[.int .i64 ja, .int .i64 jb] 23)).cell? ⟨w3.heap.size, 0, none⟩ = some (.int .i64 ja) := by simp
              have c2 : (w3.alloc (.cells #[.int .i64 ja, .int .i64 jb] 23)).cell? ⟨w3.heap.size, 1, none⟩ = some (.int .i64 jb) := by simp
              have hBW := hbel.trans ((f4.alloc (Nat.le_of_lt f3) (.cells #[.int .i64 ja, .int .i64 jb] 23)).mono hzr)
              generalize w3.alloc (.cells #[.int .i64 ja, .int .i64 jb] 23) = W at c1 c2 hW hBW ⊢
              generalize w3.heap.size = gj at c1 c2
              obtain ⟨r1, r2, r3, r4⟩ := own_cells hW (out.length - 1) _ (List.getElem?_eq_getElem hlast)
              have HW := hid hW
              clear f1 f2 f3 f4 hb3 hS3 g1 g2 q1 q2 q3 q4 hW
              go_wp2
              go_roundw
              case rel =>
                obtain ⟨o1, o2⟩ := own_set (j := out.length - 1) (p := ja) (q := jb) HW.out
                refine ⟨k + 1, by omega, by go_num, ?_, hBW.grown o2 hBW.size (fun q hq => by simp only [Option.some.injEq] at hq; omega)⟩
                rw [HS.out, HM.out, List.length_set]
                exact o1
              case measure => simp [intOf]; omega
            · obtain ⟨f1, f2, _, _, _, _, f3, f4⟩ := hz3
              have hBx : Below (wr.heap.size + 1) w3 ((w3.setCell ⟨wr.heap.size + 1, 0, none⟩ (.int .i64 ja)).setCell ⟨wr.heap.size + 1, 1, none⟩ (.int .i64 jb)) := ((Below.refl _ _).setCell (p := ⟨wr.heap.size + 1, 0, none⟩) (Nat.le_refl _) _).setCell (p := ⟨wr.heap.size + 1, 1, none⟩) (Nat.le_refl _) _
              have c1 : ((w3.setCell ⟨wr.heap.size + 1, 0, none⟩ (.int .i64 ja)).setCell ⟨wr.heap.size + 1, 1, none⟩ (.int .i64 jb)).cell? ⟨wr.heap.size + 1, 0, none⟩ = some (.int .i64 ja) := by go_simp
              have c2 : ((w3.setCell ⟨wr.heap.size + 1, 0, none⟩ (.int .i64 ja)).setCell ⟨wr.heap.size + 1, 1, none⟩ (.int .i64 jb)).cell? ⟨wr.heap.size + 1, 1, none⟩ = some (.int .i64 jb) := by go_simp
              have hBy := f4.trans (hBx.mono (Nat.le_succ _))
              have hW := own_below HO.out hBy
              have hBW := hbel.trans (hBy.mono hzr)
              clear hBx
              generalize (w3.setCell ⟨wr.heap.size + 1, 0, none⟩ (.int .i64 ja)).setCell ⟨wr.heap.size + 1, 1, none⟩ (.int .i64 jb) = W at c1 c2 hW hBW hBy ⊢
              obtain ⟨r1, r2, r3, r4⟩ := own_cells hW (out.length - 1) _ (List.getElem?_eq_getElem hlast)
              have HW := hid hW
              clear f1 f2 f3 f4 hb3 hS3 g1 g2 q1 q2 q3 q4 hW hBy
              go_wp2
              go_roundw
              case rel =>
                obtain ⟨o1, o2⟩ := own_set (j := out.length - 1) (p := ja) (q := jb) HW.out
                refine ⟨k + 1, by omega, by go_num, ?_, hBW.grown o2 hBW.size (fun q hq => by simp only [Option.some.injEq] at hq; omega)⟩
                rw [HS.out, HM.out, List.length_set]
                exact o1
              case measure => simp [intOf]; omega
      · have hkl : k = m.length := by omega
        subst hkl
        rw [List.take_length] at hown
        go_wp2
        go_ret
        have hfin := own_mono hown hb2.size
        rw [HMM.out]
        exact ⟨⟨_, rfl, hfin⟩, hb2.trans (hbel.mono hb2.size)⟩
end Go.Proofs.Ytghgiifclocddaa
