/-
  SpanCovers answers true, whatever the spans, the span and the time: the walk. No condition.
-/
import Derived.Test.YtghgiifclocddaaSpanTm
namespace Go.Proofs.Ytghgiifclocddaa
open Go.RowKit

namespace Sp
def anyHas (l : List Span) (t : Int) : Bool := l.any fun s => has s t
theorem any_iff (l : List Span) (t : Int) : anyHas l t = true ↔ mem l t := by simp [anyHas, mem]
theorem any_snoc (l : List Span) (t : Int) (k : Nat) (h : k < l.length) : anyHas (l.take (k + 1)) t = (anyHas (l.take k) t || has l[k] t) := by
  unfold anyHas
  rw [take_snoc l k h, List.any_append]
  simp
theorem covers_mem {l : List Span} {s : Span} (h : s ∈ l) : covers l s = true := (covers_iff l s).2 fun _ ht => ⟨s, h, ht⟩
theorem covers_meet {l : List Span} {s : Span} (b : Span) (h : s ∈ l) : covers l (fst (meet s b)) = true := (covers_iff _ _).2 fun t ht => ⟨s, h, ((has_meet s b t).1 ht).1⟩
theorem covers_join {l : List Span} {a b j : Span} (ha : a ∈ l) (hb : b ∈ l) (h : join a b = some j) : covers l j = true := (covers_iff _ _).2 fun t ht => by
  rcases (has_join h t).1 ht with h2 | h2
  · exact ⟨a, ha, h2⟩
  · exact ⟨b, hb, h2⟩
theorem covers_join2 {l : List Span} {a b : Span} (ha : a ∈ l) (hb : b ∈ l) : (join a b).isSome = false ∨ ((join a b).isSome = true ∧ covers l (fst (join a b)) = true) := by
  cases h : join a b with
  | none => exact .inl rfl
  | some j => exact .inr ⟨rfl, covers_join ha hb h⟩
theorem covers_ways (l : List Span) (s : Span) (t : Int) : ∃ c h m, covers l s = c ∧ has s t = h ∧ anyHas l t = m ∧ (c = false ∨ (c = true ∧ h = false) ∨ (c = true ∧ h = true ∧ m = true)) := by
  refine ⟨_, _, _, rfl, rfl, rfl, ?_⟩
  cases hc : covers l s with
  | false => exact .inl rfl
  | true =>
    cases hh : has s t with
    | false => exact .inr (.inl ⟨rfl, rfl⟩)
    | true => exact .inr (.inr ⟨rfl, rfl, (any_iff l t).2 ((covers_iff l s).1 hc t hh)⟩)
end Sp
theorem no_box {w w1 : World} {n : Nat} (h : Below n w.drew w1) (hn : n = w.heap.size := by first | rfl | simp) : Below w.heap.size w w1 := (Below.refl w.heap.size w).drew.trans (hn ▸ h)
theorem ahead_box {w w1 : World} {n : Nat} (h : Below n (w.alloc (.cells #[.int .i64 0, .int .i64 0] 23)).drew w1) (hn : n = (w.alloc (.cells #[.int .i64 0, .int .i64 0] 23)).heap.size := by first | rfl | simp) :
    Below w.heap.size w w1 ∧ Box w1 w.heap.size 0 0 ∧ w1.frozen? ⟨w.heap.size, 0, none⟩ = false ∧ w1.frozen? ⟨w.heap.size, 1, none⟩ = false := by
  have hn := no_box h hn
  refine ⟨bnext (ba w _) hn, Box.keep Box.new hn, frozenKeep (v := .int .i64 0) (by simp) (by go_simp) hn, frozenKeep (v := .int .i64 0) (by simp) (by go_simp) hn⟩
/-- a span stored into a box: what lies below is as it was -/
theorem box_set {w w1 : World} {x y p q : Int} (hb : Below w.heap.size w w1) (hx : Box w1 w.heap.size x y) :
    Below w.heap.size w ((w1.setCell ⟨w.heap.size, 0, none⟩ (.int .i64 p)).setCell ⟨w.heap.size, 1, none⟩ (.int .i64 q)) ∧ Box ((w1.setCell ⟨w.heap.size, 0, none⟩ (.int .i64 p)).setCell ⟨w.heap.size, 1, none⟩ (.int .i64 q)) w.heap.size p q := by
  refine ⟨(hb.setCell (p := ⟨w.heap.size, 0, none⟩) (Nat.le_refl _) _).setCell (p := ⟨w.heap.size, 1, none⟩) (Nat.le_refl _) _, ?_, ?_, ?_⟩
  · have h1 := hx.1
    have h2 := hx.2.1
    go_simp
  · have h1 := hx.1
    have h2 := hx.2.1
    go_simp
  · have := hx.2.2
    simpa using this

set_option maxRecDepth 100000 in
set_option maxHeartbeats 3200000 in
theorem spanCovers_walk (v : Value) (l : List Sp.Span) (s1 s2 t : Int) (w : World) (hv0 : l.length ≤ maxLen ∧ SpansAt w v l) : Calls Try.prog 7 #[v, .agg #[.int .i64 s1, .int .i64 s2], .int .i64 t] w fun e w' => e = .returned (.bool true) ∧ Below w.heap.size w w' := by
  obtain ⟨hmax, hv⟩ := hv0
  by_cases h40 : 40 < l.length
  · rcases hv with ⟨rfl, ao, cap, rfl⟩ | ⟨g, off, cap, rfl, hlt, hc⟩
    · simp at h40
    · have h40' : (40 : Int) < l.length := by omega
      go_enter Try.func7, Try.ntmps7
      go_wp2_with (go_at_call 21; refine (known_any _).mono ?_; rintro e wn ⟨rfl, hb⟩)
      go_ret
      exact ⟨rfl, bnext (ba _ _) hb⟩
  have hl5 : l.length ≤ 100000 := by omega
  obtain ⟨cv, hs, m, kcv0, khs0, km0, hw0⟩ := Sp.covers_ways l (s1, s2) t
  have kcv := hid kcv0
  have khs := hid khs0
  have km := hid km0
  have hw := hid hw0
  clear kcv0 khs0 km0 hw0
  have HSP := hid (SpansAt.below hv (ba w (.cells #[.int .i64 s1, .int .i64 s2] 23)))
  have HBX := hid (Box.new (w := w) (x := s1) (y := s2))
  have HB0 := hid (ba w (.cells #[.int .i64 s1, .int .i64 s2] 23))
  rcases hv with ⟨rfl, ao, cap, rfl⟩ | ⟨g, off, cap, rfl, hlt, hc⟩
  · obtain rfl : m = false := by rw [← km.out]; rfl
    go_enter Try.func7, Try.ntmps7
    go_wp2
    generalize w.alloc (.cells #[.int .i64 s1, .int .i64 s2] 23) = W0 at HSP HBX HB0 ⊢
    go_loopw [7, 8] (fun h i wr => h = .bool false ∧ i = .int .i64 0 ∧ Below W0.heap.size W0 wr) (fun _ i _ => 0)
    case atStart => exact ⟨rfl, rfl, Below.refl _ _⟩
    case round =>
      obtain ⟨rfl, rfl, hbr⟩ := hrel
      rcases hw.out with rfl | ⟨rfl, rfl⟩ | ⟨rfl, rfl, hq⟩
      all_goals (try (exact absurd hq (by decide)))
      all_goals
        have hsp := SpansAt.below HSP.out hbr
        have bs := Box.keep HBX.out hbr
        have hB := bnext HB0.out hbr
        have c01 := bs.1
        have c02 := bs.2.1
        go_wp2_with (first
          | (go_at_call 24; refine (covers_any _ _ _ _ _ hsp hl5).mono ?_; rintro e wn ⟨rfl, hb⟩; rw [kcv.out]; clear c01 c02; replace bs := Box.keep bs hb; replace hB := bnext hB hb; clear hb; have c01 := bs.1; have c02 := bs.2.1)
          | (go_at_call 16; refine (has_any _ _ _ _).mono ?_; rintro e wn ⟨rfl, hb⟩; rw [khs.out]; replace hB := bnext hB hb; clear hb)
          | (go_at_call 21; refine (known_any _).mono ?_; rintro e wn ⟨rfl, hb⟩; replace hB := bnext hB hb; clear hb))
        go_ret
        exact ⟨rfl, hB⟩
  · have HC := hid hc
    clear hc
    go_enter Try.func7, Try.ntmps7
    go_wp2
    have hlt0 : g < (w.alloc (.cells #[.int .i64 s1, .int .i64 s2] 23)).heap.size := by simp; omega
    have HC0 : Hid (∀ j s, l[j]? = some s → (w.alloc (.cells #[.int .i64 s1, .int .i64 s2] 23)).cell? ⟨g, off + j * 2, none⟩ = some (.int .i64 s.1) ∧ (w.alloc (.cells #[.int .i64 s1, .int .i64 s2] 23)).cell? ⟨g, off + j * 2 + 1, none⟩ = some (.int .i64 s.2)) := fun j s hj => ⟨cellKeep (HC.out j s hj).1 (ba _ _), cellKeep (HC.out j s hj).2 (ba _ _)⟩
    generalize w.alloc (.cells #[.int .i64 s1, .int .i64 s2] 23) = W0 at HSP HBX HB0 HC0 hlt0 ⊢
    have hl4 : ¬ (40 : Int) < l.length := by omega
    go_loopw [7, 8] (fun h i wr => ∃ k : Nat, k ≤ l.length ∧ i = .int .i64 k ∧ h = .bool (Sp.anyHas (l.take k) t) ∧ Below W0.heap.size W0 wr) (fun _ i _ => l.length - (intOf i).toNat)
    case atStart => exact ⟨0, by omega, rfl, rfl, Below.refl _ _⟩
    case round =>
      obtain ⟨k, hk, rfl, rfl, hbr⟩ := hrel
      obtain ⟨wo, rfl⟩ : ∃ wo : World, wo = wr := ⟨_, rfl⟩
      by_cases hlk : k < l.length
      · have hS := hid (Sp.any_snoc l t k hlk)
        have hmem := hid (List.getElem_mem hlk)
        have hcells := hid (HC0.out k l[k] (List.getElem?_eq_getElem hlk))
        generalize Sp.anyHas (l.take k) t = hh at hS
        generalize hlkk : l[k] = s at hS hmem hcells
        clear hlkk
        obtain ⟨sa, sb⟩ := s
        obtain ⟨r, kr, hS2⟩ : ∃ r, Hid (∀ W, Calls Try.prog 16 #[.agg #[.int .i64 sa, .int .i64 sb], .int .i64 t] W fun e w' => e = .returned (.bool r) ∧ Below W.heap.size W w') ∧ Hid (Sp.anyHas (l.take (k + 1)) t = (hh || r)) := ⟨_, fun W => has_any sa sb t W, hS.out⟩
        obtain ⟨mx, my, mo, kmeet, kcm⟩ : ∃ mx my mo, Hid (∀ W, Calls Try.prog 10 #[.agg #[.int .i64 sa, .int .i64 sb], .agg #[.int .i64 s1, .int .i64 s2]] W fun e w' => e = .returned (.tuple #[.agg #[.int .i64 mx, .int .i64 my], .bool mo]) ∧ Below W.heap.size W w') ∧ Hid (Sp.covers l (mx, my) = true) :=
          ⟨_, _, _, fun W => meet_any sa sb s1 s2 W, Sp.covers_meet (s1, s2) hmem.out⟩
        have kc1 := hid (Sp.covers_mem hmem.out)
        clear hS
        have wayOn : ∃ wx, Hid (Below W0.heap.size W0 wx) ∧ wx = wo := ⟨_, hbr, rfl⟩
        have hS0 : (wo.cell? ⟨g, off + k * 2, none⟩ = some (.int .i64 sa) ∧ wo.cell? ⟨g, off + k * 2 + 1, none⟩ = some (.int .i64 sb)) ∧ wo.cell? ⟨w.heap.size, 0, none⟩ = some (.int .i64 s1) ∧ wo.cell? ⟨w.heap.size, 1, none⟩ = some (.int .i64 s2) :=
          ⟨⟨cellKeep hcells.out.1 hbr, cellKeep hcells.out.2 hbr⟩, (Box.keep HBX.out hbr).1, (Box.keep HBX.out hbr).2.1⟩
        clear wayOn
        cases hh
        · have c1 := hS0.1.1
          have c2 := hS0.1.2
          go_wp2_with fail
          refine (kr.out _).mono ?_; rintro e w1 ⟨rfl, hb1⟩
          clear c1 c2
          replace hS0 := keep4 hS0 hb1
          replace hbr := hbr.trans (hb1.mono hbr.size)
          clear hb1
          go_wp2_with fail
          have hz1 := hbr.size
          have hz2 := HBX.out.2.2
          have n1 : g ≠ w1.heap.size := by omega
          have n2 : w.heap.size ≠ w1.heap.size := by omega
          have n3 : g < w1.heap.size := by omega
          have n4 : w.heap.size < w1.heap.size := by omega
          go_region_held3 (fun W => (W.cell? ⟨g, off + k * 2, none⟩ = some (.int .i64 sa) ∧ W.cell? ⟨g, off + k * 2 + 1, none⟩ = some (.int .i64 sb)) ∧ W.cell? ⟨w.heap.size, 0, none⟩ = some (.int .i64 s1) ∧ W.cell? ⟨w.heap.size, 1, none⟩ = some (.int .i64 s2)) (first | exact hS0 | exact hS3 | exact keep4 hS0 ((Below.refl _ _).alloc (Nat.le_refl _) _) | exact keep4 hS3 ((Below.refl _ _).alloc (Nat.le_refl _) _) | (refine ⟨⟨?_, ?_⟩, ?_, ?_⟩ <;> (go_simp; done)) | assumption) (first | (go_at_call 10; refine (kmeet.out _).mono ?_; rintro e w3 ⟨rfl, hb3⟩; have hS3 := keep4 (by assumption) hb3; obtain ⟨hz3, hq2, hq3, hq4⟩ := ahead_box hb3; have hq5 := hq2.1; have hq6 := hq2.2.1) | (go_at_call 10; refine (kmeet.out _).mono ?_; rintro e w3 ⟨rfl, hb3⟩; have hS3 := keep4 (by assumption) hb3; have hz3 := no_box hb3))
          · replace hbr := hbr.trans (hz3.mono hbr.size)
            have hW : Box (w3.alloc (.cells #[.int .i64 mx, .int .i64 my] 23)) w3.heap.size mx my := Box.new
            replace hbr := hbr.alloc hbr.size (.cells #[.int .i64 mx, .int .i64 my] 23)
            generalize w3.alloc (.cells #[.int .i64 mx, .int .i64 my] 23) = W at hW hbr ⊢
            clear hz3 hb3 hS3 hS0
            generalize w3.heap.size = p at hW ⊢
            have c1 := cellKeep hcells.out.1 hbr
            have c2 := cellKeep hcells.out.2 hbr
            have c3 := hW.1
            have c4 := hW.2.1
            have hsp := SpansAt.below HSP.out hbr
            go_wp2_with (go_at_call 24; refine (covers_any _ _ _ _ _ hsp hl5).mono ?_; rintro e wn ⟨rfl, hb⟩; (first | rw [kc1.out] | rw [kcm.out]); clear c1 c2 c3 c4; replace hW := Box.keep hW hb; replace hbr := hbr.trans (hb.mono hbr.size); clear hb; replace hsp := SpansAt.below HSP.out hbr; have c1 := cellKeep hcells.out.1 hbr; have c2 := cellKeep hcells.out.2 hbr; have c3 := hW.1; have c4 := hW.2.1)
            clear c1 c2 c3 c4 hsp
            go_loopw [11] (fun j wr => ∃ q : Nat, q ≤ k ∧ j = .int .i64 q ∧ Below W0.heap.size W0 wr) (fun j _ => k - (intOf j).toNat)
            case atStart => exact ⟨0, by omega, rfl, hbr⟩
            case round =>
              clear hbr hW
              obtain ⟨q, hq, rfl, hbq⟩ := hrel
              by_cases hqk : q < k
              · have hlq : q < l.length := by omega
                have hcq := hid (HC0.out q l[q] (List.getElem?_eq_getElem hlq))
                have hmq := hid (List.getElem_mem hlq)
                generalize hgq : l[q] = s' at hcq hmq
                clear hgq
                obtain ⟨ta, tb⟩ := s'
                obtain ⟨jx, jy, jo, kj, kjc⟩ : ∃ jx jy jo, Hid (∀ W, Calls Try.prog 12 #[.agg #[.int .i64 sa, .int .i64 sb], .agg #[.int .i64 ta, .int .i64 tb]] W fun e w' => e = .returned (.tuple #[.agg #[.int .i64 jx, .int .i64 jy], .bool jo]) ∧ Below W.heap.size W w') ∧ Hid (jo = false ∨ (jo = true ∧ Sp.covers l (jx, jy) = true)) :=
                  ⟨_, _, _, fun W => join_any sa sb ta tb W, Sp.covers_join2 hmem.out hmq.out⟩
                have hS4 : (wr.cell? ⟨g, off + k * 2, none⟩ = some (.int .i64 sa) ∧ wr.cell? ⟨g, off + k * 2 + 1, none⟩ = some (.int .i64 sb)) ∧ wr.cell? ⟨g, off + q * 2, none⟩ = some (.int .i64 ta) ∧ wr.cell? ⟨g, off + q * 2 + 1, none⟩ = some (.int .i64 tb) :=
                  ⟨⟨cellKeep hcells.out.1 hbq, cellKeep hcells.out.2 hbq⟩, cellKeep hcq.out.1 hbq, cellKeep hcq.out.2 hbq⟩
                have hz6 := hbq.size
                have m1 : g ≠ wr.heap.size := by omega
                have m2 : g < wr.heap.size := by omega
                go_wp2_with fail
                go_region_held3 (fun W => (W.cell? ⟨g, off + k * 2, none⟩ = some (.int .i64 sa) ∧ W.cell? ⟨g, off + k * 2 + 1, none⟩ = some (.int .i64 sb)) ∧ W.cell? ⟨g, off + q * 2, none⟩ = some (.int .i64 ta) ∧ W.cell? ⟨g, off + q * 2 + 1, none⟩ = some (.int .i64 tb)) (first | exact hS4 | exact hS5 | exact keep4 hS4 ((Below.refl _ _).alloc (Nat.le_refl _) _) | exact keep4 hS5 ((Below.refl _ _).alloc (Nat.le_refl _) _) | (refine ⟨⟨?_, ?_⟩, ?_, ?_⟩ <;> (go_simp; done)) | assumption) (first | (go_at_call 12; refine (kj.out _).mono ?_; rintro e w5 ⟨rfl, hb5⟩; have hS5 := keep4 (by assumption) hb5; obtain ⟨hz5, hq2, hq3, hq4⟩ := ahead_box hb5; have hq5 := hq2.1; have hq6 := hq2.2.1) | (go_at_call 12; refine (kj.out _).mono ?_; rintro e w5 ⟨rfl, hb5⟩; have hS5 := keep4 (by assumption) hb5; have hz5 := no_box hb5))
                · replace hbq := hbq.trans (hz5.mono hbq.size)
                  have hV : Box (w5.alloc (.cells #[.int .i64 jx, .int .i64 jy] 23)) w5.heap.size jx jy := Box.new
                  replace hbq := hbq.alloc hbq.size (.cells #[.int .i64 jx, .int .i64 jy] 23)
                  generalize w5.alloc (.cells #[.int .i64 jx, .int .i64 jy] 23) = V at hV hbq ⊢
                  clear hz5 hb5 hS5 hS4
                  generalize w5.heap.size = p2 at hV ⊢
                  rcases kjc.out with rfl | ⟨rfl, hcj⟩
                  · go_wp2_with fail
                    go_roundw
                    case rel => exact ⟨q + 1, by omega, by go_num, hbq⟩
                    case measure => simp [intOf]; omega
                  · have c3 := hV.1
                    have c4 := hV.2.1
                    have hsp := SpansAt.below HSP.out hbq
                    go_wp2_with (go_at_call 24; refine (covers_any _ _ _ _ _ hsp hl5).mono ?_; rintro e wn ⟨rfl, hb⟩; rw [hcj]; replace hbq := hbq.trans (hb.mono hbq.size); clear hb)
                    go_roundw
                    case rel => exact ⟨q + 1, by omega, by go_num, hbq⟩
                    case measure => simp [intOf]; omega
                · obtain ⟨q5, hV⟩ := box_set (p := jx) (q := jy) hz5 hq2
                  replace hbq := hbq.trans (q5.mono hbq.size)
                  generalize (w5.setCell ⟨wr.heap.size, 0, none⟩ (.int .i64 jx)).setCell ⟨wr.heap.size, 1, none⟩ (.int .i64 jy) = V at hV hbq ⊢
                  clear hz5 hq2 hq3 hq4 hq5 hq6 q5 hb5 hS5 hS4
                  rcases kjc.out with rfl | ⟨rfl, hcj⟩
                  · go_wp2_with fail
                    go_roundw
                    case rel => exact ⟨q + 1, by omega, by go_num, hbq⟩
                    case measure => simp [intOf]; omega
                  · have c3 := hV.1
                    have c4 := hV.2.1
                    have hsp := SpansAt.below HSP.out hbq
                    go_wp2_with (go_at_call 24; refine (covers_any _ _ _ _ _ hsp hl5).mono ?_; rintro e wn ⟨rfl, hb⟩; rw [hcj]; replace hbq := hbq.trans (hb.mono hbq.size); clear hb)
                    go_roundw
                    case rel => exact ⟨q + 1, by omega, by go_num, hbq⟩
                    case measure => simp [intOf]; omega
              · have hqk2 : q = k := by omega
                subst hqk2
                go_wp2_with fail
                go_roundw
                case rel => exact ⟨q + 1, by omega, by go_num, by simp [hS2.out], hbq⟩
                case measure => simp [intOf]; omega
          · obtain ⟨q5, hW⟩ := box_set (p := mx) (q := my) hz3 hq2
            replace hbr := hbr.trans (q5.mono hbr.size)
            generalize (w3.setCell ⟨w1.heap.size, 0, none⟩ (.int .i64 mx)).setCell ⟨w1.heap.size, 1, none⟩ (.int .i64 my) = W at hW hbr ⊢
            clear hz3 hq2 hq3 hq4 hq5 hq6 q5 hb3 hS3 hS0
            generalize w1.heap.size = p at hW ⊢
            have c1 := cellKeep hcells.out.1 hbr
            have c2 := cellKeep hcells.out.2 hbr
            have c3 := hW.1
            have c4 := hW.2.1
            have hsp := SpansAt.below HSP.out hbr
            go_wp2_with (go_at_call 24; refine (covers_any _ _ _ _ _ hsp hl5).mono ?_; rintro e wn ⟨rfl, hb⟩; (first | rw [kc1.out] | rw [kcm.out]); clear c1 c2 c3 c4; replace hW := Box.keep hW hb; replace hbr := hbr.trans (hb.mono hbr.size); clear hb; replace hsp := SpansAt.below HSP.out hbr; have c1 := cellKeep hcells.out.1 hbr; have c2 := cellKeep hcells.out.2 hbr; have c3 := hW.1; have c4 := hW.2.1)
            clear c1 c2 c3 c4 hsp
            go_loopw [11] (fun j wr => ∃ q : Nat, q ≤ k ∧ j = .int .i64 q ∧ Below W0.heap.size W0 wr) (fun j _ => k - (intOf j).toNat)
            case atStart => exact ⟨0, by omega, rfl, hbr⟩
            case round =>
              clear hbr hW
              obtain ⟨q, hq, rfl, hbq⟩ := hrel
              by_cases hqk : q < k
              · have hlq : q < l.length := by omega
                have hcq := hid (HC0.out q l[q] (List.getElem?_eq_getElem hlq))
                have hmq := hid (List.getElem_mem hlq)
                generalize hgq : l[q] = s' at hcq hmq
                clear hgq
                obtain ⟨ta, tb⟩ := s'
                obtain ⟨jx, jy, jo, kj, kjc⟩ : ∃ jx jy jo, Hid (∀ W, Calls Try.prog 12 #[.agg #[.int .i64 sa, .int .i64 sb], .agg #[.int .i64 ta, .int .i64 tb]] W fun e w' => e = .returned (.tuple #[.agg #[.int .i64 jx, .int .i64 jy], .bool jo]) ∧ Below W.heap.size W w') ∧ Hid (jo = false ∨ (jo = true ∧ Sp.covers l (jx, jy) = true)) :=
                  ⟨_, _, _, fun W => join_any sa sb ta tb W, Sp.covers_join2 hmem.out hmq.out⟩
                have hS4 : (wr.cell? ⟨g, off + k * 2, none⟩ = some (.int .i64 sa) ∧ wr.cell? ⟨g, off + k * 2 + 1, none⟩ = some (.int .i64 sb)) ∧ wr.cell? ⟨g, off + q * 2, none⟩ = some (.int .i64 ta) ∧ wr.cell? ⟨g, off + q * 2 + 1, none⟩ = some (.int .i64 tb) :=
                  ⟨⟨cellKeep hcells.out.1 hbq, cellKeep hcells.out.2 hbq⟩, cellKeep hcq.out.1 hbq, cellKeep hcq.out.2 hbq⟩
                have hz6 := hbq.size
                have m1 : g ≠ wr.heap.size := by omega
                have m2 : g < wr.heap.size := by omega
                go_wp2_with fail
                go_region_held3 (fun W => (W.cell? ⟨g, off + k * 2, none⟩ = some (.int .i64 sa) ∧ W.cell? ⟨g, off + k * 2 + 1, none⟩ = some (.int .i64 sb)) ∧ W.cell? ⟨g, off + q * 2, none⟩ = some (.int .i64 ta) ∧ W.cell? ⟨g, off + q * 2 + 1, none⟩ = some (.int .i64 tb)) (first | exact hS4 | exact hS5 | exact keep4 hS4 ((Below.refl _ _).alloc (Nat.le_refl _) _) | exact keep4 hS5 ((Below.refl _ _).alloc (Nat.le_refl _) _) | (refine ⟨⟨?_, ?_⟩, ?_, ?_⟩ <;> (go_simp; done)) | assumption) (first | (go_at_call 12; refine (kj.out _).mono ?_; rintro e w5 ⟨rfl, hb5⟩; have hS5 := keep4 (by assumption) hb5; obtain ⟨hz5, hq2, hq3, hq4⟩ := ahead_box hb5; have hq5 := hq2.1; have hq6 := hq2.2.1) | (go_at_call 12; refine (kj.out _).mono ?_; rintro e w5 ⟨rfl, hb5⟩; have hS5 := keep4 (by assumption) hb5; have hz5 := no_box hb5))
                · replace hbq := hbq.trans (hz5.mono hbq.size)
                  have hV : Box (w5.alloc (.cells #[.int .i64 jx, .int .i64 jy] 23)) w5.heap.size jx jy := Box.new
                  replace hbq := hbq.alloc hbq.size (.cells #[.int .i64 jx, .int .i64 jy] 23)
                  generalize w5.alloc (.cells #[.int .i64 jx, .int .i64 jy] 23) = V at hV hbq ⊢
                  clear hz5 hb5 hS5 hS4
                  generalize w5.heap.size = p2 at hV ⊢
                  rcases kjc.out with rfl | ⟨rfl, hcj⟩
                  · go_wp2_with fail
                    go_roundw
                    case rel => exact ⟨q + 1, by omega, by go_num, hbq⟩
                    case measure => simp [intOf]; omega
                  · have c3 := hV.1
                    have c4 := hV.2.1
                    have hsp := SpansAt.below HSP.out hbq
                    go_wp2_with (go_at_call 24; refine (covers_any _ _ _ _ _ hsp hl5).mono ?_; rintro e wn ⟨rfl, hb⟩; rw [hcj]; replace hbq := hbq.trans (hb.mono hbq.size); clear hb)
                    go_roundw
                    case rel => exact ⟨q + 1, by omega, by go_num, hbq⟩
                    case measure => simp [intOf]; omega
                · obtain ⟨q5, hV⟩ := box_set (p := jx) (q := jy) hz5 hq2
                  replace hbq := hbq.trans (q5.mono hbq.size)
                  generalize (w5.setCell ⟨wr.heap.size, 0, none⟩ (.int .i64 jx)).setCell ⟨wr.heap.size, 1, none⟩ (.int .i64 jy) = V at hV hbq ⊢
                  clear hz5 hq2 hq3 hq4 hq5 hq6 q5 hb5 hS5 hS4
                  rcases kjc.out with rfl | ⟨rfl, hcj⟩
                  · go_wp2_with fail
                    go_roundw
                    case rel => exact ⟨q + 1, by omega, by go_num, hbq⟩
                    case measure => simp [intOf]; omega
                  · have c3 := hV.1
                    have c4 := hV.2.1
                    have hsp := SpansAt.below HSP.out hbq
                    go_wp2_with (go_at_call 24; refine (covers_any _ _ _ _ _ hsp hl5).mono ?_; rintro e wn ⟨rfl, hb⟩; rw [hcj]; replace hbq := hbq.trans (hb.mono hbq.size); clear hb)
                    go_roundw
                    case rel => exact ⟨q + 1, by omega, by go_num, hbq⟩
                    case measure => simp [intOf]; omega
              · have hqk2 : q = k := by omega
                subst hqk2
                go_wp2_with fail
                go_roundw
                case rel => exact ⟨q + 1, by omega, by go_num, by simp [hS2.out], hbq⟩
                case measure => simp [intOf]; omega
        · go_wp2_with fail
          obtain ⟨w1, rfl⟩ : ∃ w1 : World, w1 = wo := ⟨_, rfl⟩
          have hz1 := hbr.size
          have hz2 := HBX.out.2.2
          have n1 : g ≠ w1.heap.size := by omega
          have n2 : w.heap.size ≠ w1.heap.size := by omega
          have n3 : g < w1.heap.size := by omega
          have n4 : w.heap.size < w1.heap.size := by omega
          go_region_held3 (fun W => (W.cell? ⟨g, off + k * 2, none⟩ = some (.int .i64 sa) ∧ W.cell? ⟨g, off + k * 2 + 1, none⟩ = some (.int .i64 sb)) ∧ W.cell? ⟨w.heap.size, 0, none⟩ = some (.int .i64 s1) ∧ W.cell? ⟨w.heap.size, 1, none⟩ = some (.int .i64 s2)) (first | exact hS0 | exact hS3 | exact keep4 hS0 ((Below.refl _ _).alloc (Nat.le_refl _) _) | exact keep4 hS3 ((Below.refl _ _).alloc (Nat.le_refl _) _) | (refine ⟨⟨?_, ?_⟩, ?_, ?_⟩ <;> (go_simp; done)) | assumption) (first | (go_at_call 10; refine (kmeet.out _).mono ?_; rintro e w3 ⟨rfl, hb3⟩; have hS3 := keep4 (by assumption) hb3; obtain ⟨hz3, hq2, hq3, hq4⟩ := ahead_box hb3; have hq5 := hq2.1; have hq6 := hq2.2.1) | (go_at_call 10; refine (kmeet.out _).mono ?_; rintro e w3 ⟨rfl, hb3⟩; have hS3 := keep4 (by assumption) hb3; have hz3 := no_box hb3))
          · replace hbr := hbr.trans (hz3.mono hbr.size)
            have hW : Box (w3.alloc (.cells #[.int .i64 mx, .int .i64 my] 23)) w3.heap.size mx my := Box.new
            replace hbr := hbr.alloc hbr.size (.cells #[.int .i64 mx, .int .i64 my] 23)
            generalize w3.alloc (.cells #[.int .i64 mx, .int .i64 my] 23) = W at hW hbr ⊢
            clear hz3 hb3 hS3 hS0
            generalize w3.heap.size = p at hW ⊢
            have c1 := cellKeep hcells.out.1 hbr
            have c2 := cellKeep hcells.out.2 hbr
            have c3 := hW.1
            have c4 := hW.2.1
            have hsp := SpansAt.below HSP.out hbr
            go_wp2_with (go_at_call 24; refine (covers_any _ _ _ _ _ hsp hl5).mono ?_; rintro e wn ⟨rfl, hb⟩; (first | rw [kc1.out] | rw [kcm.out]); clear c1 c2 c3 c4; replace hW := Box.keep hW hb; replace hbr := hbr.trans (hb.mono hbr.size); clear hb; replace hsp := SpansAt.below HSP.out hbr; have c1 := cellKeep hcells.out.1 hbr; have c2 := cellKeep hcells.out.2 hbr; have c3 := hW.1; have c4 := hW.2.1)
            clear c1 c2 c3 c4 hsp
            go_loopw [11] (fun j wr => ∃ q : Nat, q ≤ k ∧ j = .int .i64 q ∧ Below W0.heap.size W0 wr) (fun j _ => k - (intOf j).toNat)
            case atStart => exact ⟨0, by omega, rfl, hbr⟩
            case round =>
              clear hbr hW
              obtain ⟨q, hq, rfl, hbq⟩ := hrel
              by_cases hqk : q < k
              · have hlq : q < l.length := by omega
                have hcq := hid (HC0.out q l[q] (List.getElem?_eq_getElem hlq))
                have hmq := hid (List.getElem_mem hlq)
                generalize hgq : l[q] = s' at hcq hmq
                clear hgq
                obtain ⟨ta, tb⟩ := s'
                obtain ⟨jx, jy, jo, kj, kjc⟩ : ∃ jx jy jo, Hid (∀ W, Calls Try.prog 12 #[.agg #[.int .i64 sa, .int .i64 sb], .agg #[.int .i64 ta, .int .i64 tb]] W fun e w' => e = .returned (.tuple #[.agg #[.int .i64 jx, .int .i64 jy], .bool jo]) ∧ Below W.heap.size W w') ∧ Hid (jo = false ∨ (jo = true ∧ Sp.covers l (jx, jy) = true)) :=
                  ⟨_, _, _, fun W => join_any sa sb ta tb W, Sp.covers_join2 hmem.out hmq.out⟩
                have hS4 : (wr.cell? ⟨g, off + k * 2, none⟩ = some (.int .i64 sa) ∧ wr.cell? ⟨g, off + k * 2 + 1, none⟩ = some (.int .i64 sb)) ∧ wr.cell? ⟨g, off + q * 2, none⟩ = some (.int .i64 ta) ∧ wr.cell? ⟨g, off + q * 2 + 1, none⟩ = some (.int .i64 tb) :=
                  ⟨⟨cellKeep hcells.out.1 hbq, cellKeep hcells.out.2 hbq⟩, cellKeep hcq.out.1 hbq, cellKeep hcq.out.2 hbq⟩
                have hz6 := hbq.size
                have m1 : g ≠ wr.heap.size := by omega
                have m2 : g < wr.heap.size := by omega
                go_wp2_with fail
                go_region_held3 (fun W => (W.cell? ⟨g, off + k * 2, none⟩ = some (.int .i64 sa) ∧ W.cell? ⟨g, off + k * 2 + 1, none⟩ = some (.int .i64 sb)) ∧ W.cell? ⟨g, off + q * 2, none⟩ = some (.int .i64 ta) ∧ W.cell? ⟨g, off + q * 2 + 1, none⟩ = some (.int .i64 tb)) (first | exact hS4 | exact hS5 | exact keep4 hS4 ((Below.refl _ _).alloc (Nat.le_refl _) _) | exact keep4 hS5 ((Below.refl _ _).alloc (Nat.le_refl _) _) | (refine ⟨⟨?_, ?_⟩, ?_, ?_⟩ <;> (go_simp; done)) | assumption) (first | (go_at_call 12; refine (kj.out _).mono ?_; rintro e w5 ⟨rfl, hb5⟩; have hS5 := keep4 (by assumption) hb5; obtain ⟨hz5, hq2, hq3, hq4⟩ := ahead_box hb5; have hq5 := hq2.1; have hq6 := hq2.2.1) | (go_at_call 12; refine (kj.out _).mono ?_; rintro e w5 ⟨rfl, hb5⟩; have hS5 := keep4 (by assumption) hb5; have hz5 := no_box hb5))
                · replace hbq := hbq.trans (hz5.mono hbq.size)
                  have hV : Box (w5.alloc (.cells #[.int .i64 jx, .int .i64 jy] 23)) w5.heap.size jx jy := Box.new
                  replace hbq := hbq.alloc hbq.size (.cells #[.int .i64 jx, .int .i64 jy] 23)
                  generalize w5.alloc (.cells #[.int .i64 jx, .int .i64 jy] 23) = V at hV hbq ⊢
                  clear hz5 hb5 hS5 hS4
                  generalize w5.heap.size = p2 at hV ⊢
                  rcases kjc.out with rfl | ⟨rfl, hcj⟩
                  · go_wp2_with fail
                    go_roundw
                    case rel => exact ⟨q + 1, by omega, by go_num, hbq⟩
                    case measure => simp [intOf]; omega
                  · have c3 := hV.1
                    have c4 := hV.2.1
                    have hsp := SpansAt.below HSP.out hbq
                    go_wp2_with (go_at_call 24; refine (covers_any _ _ _ _ _ hsp hl5).mono ?_; rintro e wn ⟨rfl, hb⟩; rw [hcj]; replace hbq := hbq.trans (hb.mono hbq.size); clear hb)
                    go_roundw
                    case rel => exact ⟨q + 1, by omega, by go_num, hbq⟩
                    case measure => simp [intOf]; omega
                · obtain ⟨q5, hV⟩ := box_set (p := jx) (q := jy) hz5 hq2
                  replace hbq := hbq.trans (q5.mono hbq.size)
                  generalize (w5.setCell ⟨wr.heap.size, 0, none⟩ (.int .i64 jx)).setCell ⟨wr.heap.size, 1, none⟩ (.int .i64 jy) = V at hV hbq ⊢
                  clear hz5 hq2 hq3 hq4 hq5 hq6 q5 hb5 hS5 hS4
                  rcases kjc.out with rfl | ⟨rfl, hcj⟩
                  · go_wp2_with fail
                    go_roundw
                    case rel => exact ⟨q + 1, by omega, by go_num, hbq⟩
                    case measure => simp [intOf]; omega
                  · have c3 := hV.1
                    have c4 := hV.2.1
                    have hsp := SpansAt.below HSP.out hbq
                    go_wp2_with (go_at_call 24; refine (covers_any _ _ _ _ _ hsp hl5).mono ?_; rintro e wn ⟨rfl, hb⟩; rw [hcj]; replace hbq := hbq.trans (hb.mono hbq.size); clear hb)
                    go_roundw
                    case rel => exact ⟨q + 1, by omega, by go_num, hbq⟩
                    case measure => simp [intOf]; omega
              · have hqk2 : q = k := by omega
                subst hqk2
                go_wp2_with fail
                go_roundw
                case rel => exact ⟨q + 1, by omega, by go_num, by simp [hS2.out], hbq⟩
                case measure => simp [intOf]; omega
          · obtain ⟨q5, hW⟩ := box_set (p := mx) (q := my) hz3 hq2
            replace hbr := hbr.trans (q5.mono hbr.size)
            generalize (w3.setCell ⟨w1.heap.size, 0, none⟩ (.int .i64 mx)).setCell ⟨w1.heap.size, 1, none⟩ (.int .i64 my) = W at hW hbr ⊢
            clear hz3 hq2 hq3 hq4 hq5 hq6 q5 hb3 hS3 hS0
            generalize w1.heap.size = p at hW ⊢
            have c1 := cellKeep hcells.out.1 hbr
            have c2 := cellKeep hcells.out.2 hbr
            have c3 := hW.1
            have c4 := hW.2.1
            have hsp := SpansAt.below HSP.out hbr
            go_wp2_with (go_at_call 24; refine (covers_any _ _ _ _ _ hsp hl5).mono ?_; rintro e wn ⟨rfl, hb⟩; (first | rw [kc1.out] | rw [kcm.out]); clear c1 c2 c3 c4; replace hW := Box.keep hW hb; replace hbr := hbr.trans (hb.mono hbr.size); clear hb; replace hsp := SpansAt.below HSP.out hbr; have c1 := cellKeep hcells.out.1 hbr; have c2 := cellKeep hcells.out.2 hbr; have c3 := hW.1; have c4 := hW.2.1)
            clear c1 c2 c3 c4 hsp
            go_loopw [11] (fun j wr => ∃ q : Nat, q ≤ k ∧ j = .int .i64 q ∧ Below W0.heap.size W0 wr) (fun j _ => k - (intOf j).toNat)
            case atStart => exact ⟨0, by omega, rfl, hbr⟩
            case round =>
              clear hbr hW
              obtain ⟨q, hq, rfl, hbq⟩ := hrel
              by_cases hqk : q < k
              · have hlq : q < l.length := by omega
                have hcq := hid (HC0.out q l[q] (List.getElem?_eq_getElem hlq))
                have hmq := hid (List.getElem_mem hlq)
                generalize hgq : l[q] = s' at hcq hmq
                clear hgq
                obtain ⟨ta, tb⟩ := s'
                obtain ⟨jx, jy, jo, kj, kjc⟩ : ∃ jx jy jo, Hid (∀ W, Calls Try.prog 12 #[.agg #[.int .i64 sa, .int .i64 sb], .agg #[.int .i64 ta, .int .i64 tb]] W fun e w' => e = .returned (.tuple #[.agg #[.int .i64 jx, .int .i64 jy], .bool jo]) ∧ Below W.heap.size W w') ∧ Hid (jo = false ∨ (jo = true ∧ Sp.covers l (jx, jy) = true)) :=
                  ⟨_, _, _, fun W => join_any sa sb ta tb W, Sp.covers_join2 hmem.out hmq.out⟩
                have hS4 : (wr.cell? ⟨g, off + k * 2, none⟩ = some (.int .i64 sa) ∧ wr.cell? ⟨g, off + k * 2 + 1, none⟩ = some (.int .i64 sb)) ∧ wr.cell? ⟨g, off + q * 2, none⟩ = some (.int .i64 ta) ∧ wr.cell? ⟨g, off + q * 2 + 1, none⟩ = some (.int .i64 tb) :=
                  ⟨⟨cellKeep hcells.out.1 hbq, cellKeep hcells.out.2 hbq⟩, cellKeep hcq.out.1 hbq, cellKeep hcq.out.2 hbq⟩
                have hz6 := hbq.size
                have m1 : g ≠ wr.heap.size := by omega
                have m2 : g < wr.heap.size := by omega
                go_wp2_with fail
                go_region_held3 (fun W => (W.cell? ⟨g, off + k * 2, none⟩ = some (.int .i64 sa) ∧ W.cell? ⟨g, off + k * 2 + 1, none⟩ = some (.int .i64 sb)) ∧ W.cell? ⟨g, off + q * 2, none⟩ = some (.int .i64 ta) ∧ W.cell? ⟨g, off + q * 2 + 1, none⟩ = some (.int .i64 tb)) (first | exact hS4 | exact hS5 | exact keep4 hS4 ((Below.refl _ _).alloc (Nat.le_refl _) _) | exact keep4 hS5 ((Below.refl _ _).alloc (Nat.le_refl _) _) | (refine ⟨⟨?_, ?_⟩, ?_, ?_⟩ <;> (go_simp; done)) | assumption) (first | (go_at_call 12; refine (kj.out _).mono ?_; rintro e w5 ⟨rfl, hb5⟩; have hS5 := keep4 (by assumption) hb5; obtain ⟨hz5, hq2, hq3, hq4⟩ := ahead_box hb5; have hq5 := hq2.1; have hq6 := hq2.2.1) | (go_at_call 12; refine (kj.out _).mono ?_; rintro e w5 ⟨rfl, hb5⟩; have hS5 := keep4 (by assumption) hb5; have hz5 := no_box hb5))
                · replace hbq := hbq.trans (hz5.mono hbq.size)
                  have hV : Box (w5.alloc (.cells #[.int .i64 jx, .int .i64 jy] 23)) w5.heap.size jx jy := Box.new
                  replace hbq := hbq.alloc hbq.size (.cells #[.int .i64 jx, .int .i64 jy] 23)
                  generalize w5.alloc (.cells #[.int .i64 jx, .int .i64 jy] 23) = V at hV hbq ⊢
                  clear hz5 hb5 hS5 hS4
                  generalize w5.heap.size = p2 at hV ⊢
                  rcases kjc.out with rfl | ⟨rfl, hcj⟩
                  · go_wp2_with fail
                    go_roundw
                    case rel => exact ⟨q + 1, by omega, by go_num, hbq⟩
                    case measure => simp [intOf]; omega
                  · have c3 := hV.1
                    have c4 := hV.2.1
                    have hsp := SpansAt.below HSP.out hbq
                    go_wp2_with (go_at_call 24; refine (covers_any _ _ _ _ _ hsp hl5).mono ?_; rintro e wn ⟨rfl, hb⟩; rw [hcj]; replace hbq := hbq.trans (hb.mono hbq.size); clear hb)
                    go_roundw
                    case rel => exact ⟨q + 1, by omega, by go_num, hbq⟩
                    case measure => simp [intOf]; omega
                · obtain ⟨q5, hV⟩ := box_set (p := jx) (q := jy) hz5 hq2
                  replace hbq := hbq.trans (q5.mono hbq.size)
                  generalize (w5.setCell ⟨wr.heap.size, 0, none⟩ (.int .i64 jx)).setCell ⟨wr.heap.size, 1, none⟩ (.int .i64 jy) = V at hV hbq ⊢
                  clear hz5 hq2 hq3 hq4 hq5 hq6 q5 hb5 hS5 hS4
                  rcases kjc.out with rfl | ⟨rfl, hcj⟩
                  · go_wp2_with fail
                    go_roundw
                    case rel => exact ⟨q + 1, by omega, by go_num, hbq⟩
                    case measure => simp [intOf]; omega
                  · have c3 := hV.1
                    have c4 := hV.2.1
                    have hsp := SpansAt.below HSP.out hbq
                    go_wp2_with (go_at_call 24; refine (covers_any _ _ _ _ _ hsp hl5).mono ?_; rintro e wn ⟨rfl, hb⟩; rw [hcj]; replace hbq := hbq.trans (hb.mono hbq.size); clear hb)
                    go_roundw
                    case rel => exact ⟨q + 1, by omega, by go_num, hbq⟩
                    case measure => simp [intOf]; omega
              · have hqk2 : q = k := by omega
                subst hqk2
                go_wp2_with fail
                go_roundw
                case rel => exact ⟨q + 1, by omega, by go_num, by simp [hS2.out], hbq⟩
                case measure => simp [intOf]; omega
      · have hkl : k = l.length := by omega
        subst hkl
        rw [List.take_length, km.out]
        rcases hw.out with rfl | ⟨rfl, rfl⟩ | ⟨rfl, rfl, rfl⟩
        all_goals
          have hsp := SpansAt.below HSP.out hbr
          have bs := Box.keep HBX.out hbr
          have hB := bnext HB0.out hbr
          have c01 := bs.1
          have c02 := bs.2.1
          go_wp2_with (first
            | (go_at_call 24; refine (covers_any _ _ _ _ _ hsp hl5).mono ?_; rintro e wn ⟨rfl, hb⟩; rw [kcv.out]; clear c01 c02; replace bs := Box.keep bs hb; replace hB := bnext hB hb; clear hb; have c01 := bs.1; have c02 := bs.2.1)
            | (go_at_call 16; refine (has_any _ _ _ _).mono ?_; rintro e wn ⟨rfl, hb⟩; rw [khs.out]; replace hB := bnext hB hb; clear hb)
            | (go_at_call 21; refine (known_any _).mono ?_; rintro e wn ⟨rfl, hb⟩; replace hB := bnext hB hb; clear hb))
          go_ret
          exact ⟨rfl, hB⟩
end Go.Proofs.Ytghgiifclocddaa
