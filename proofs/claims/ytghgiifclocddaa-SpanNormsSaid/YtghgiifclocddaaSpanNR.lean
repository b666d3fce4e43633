/-
  memoirref11.Norm and Covers: their contracts. Condition: at most 100000 spans.
-/
import Derived.Test.YtghgiifclocddaaSpanA
namespace Go.Proofs.Ytghgiifclocddaa
open Go.RowKit

theorem normR_len (l : List Sp.Span) : (Sp.normR l).length ≤ l.length := by
  rw [← Sp.norm_eq]
  unfold Sp.norm
  have h1 := foldl_mstep_length (Sp.rise (Sp.rights l)) []
  have h2 : (Sp.rise (Sp.rights l)).length = (Sp.rights l).length := Sp.riseTo_length _ _
  have h3 := rights_length l
  simp at h1
  omega
theorem normR_snoc (l : List Sp.Span) (k : Nat) (h : k < l.length) : Sp.normR (l.take (k + 1)) = if Sp.right l[k] then Sp.add (Sp.normR (l.take k)) l[k] else Sp.normR (l.take k) := by
  unfold Sp.normR
  rw [rights_snoc l k h]
  split
  · rw [List.foldl_append]; rfl
  · rw [List.append_nil]

set_option maxRecDepth 100000 in
set_option maxHeartbeats 3200000 in
theorem normR_any (v : Value) (l : List Sp.Span) (w : World) (hv : SpansAt w v l) (hl : l.length ≤ 100000) :
    Calls Try.prog 23 #[v] w fun e w' => (∃ v', e = .returned v' ∧ w'.ownsRow w.heap.size 23 2 v' (Sp.normR l).length (scells (Sp.normR l))) ∧ Below w.heap.size w w' := by
  obtain ⟨adr, cap, rfl, hcells⟩ : ∃ adr cap, v = .slice adr l.length cap ∧ (∀ k (hk : k < l.length), ∃ g off, adr = some ⟨g, off, none⟩ ∧ g < w.heap.size ∧ w.cell? ⟨g, off + k * 2, none⟩ = some (.int .i64 l[k].1) ∧ w.cell? ⟨g, off + k * 2 + 1, none⟩ = some (.int .i64 l[k].2)) := by
    rcases hv with ⟨rfl, ao, cap, rfl⟩ | ⟨g, off, cap, rfl, hlt, hc⟩
    · exact ⟨ao, cap, rfl, fun k hk => by simp at hk⟩
    · exact ⟨_, cap, rfl, fun k hk => ⟨g, off, rfl, hlt, (hc k l[k] (List.getElem?_eq_getElem hk)).1, (hc k l[k] (List.getElem?_eq_getElem hk)).2⟩⟩
  have HC := hid hcells
  clear hcells hv
  go_enter Try.func23, Try.ntmps23
  go_wp2_with fail
  go_loopw [3, 4] (fun o i wr => ∃ k : Nat, k ≤ l.length ∧ i = .int .i64 k ∧ wr.ownsRow w.heap.size 23 2 o (Sp.normR (l.take k)).length (scells (Sp.normR (l.take k))) ∧ Below w.heap.size w wr) (fun _ i _ => l.length - (intOf i).toNat)
  case atStart => exact ⟨0, by omega, rfl, World.ownsRow_nil _ _ _ _, Below.refl _ _⟩
  case round =>
    obtain ⟨k, hk, rfl, hown, hbel⟩ := hrel
    by_cases hlk : k < l.length
    · obtain ⟨g, off, rfl, hlt, q1, q2⟩ := HC.out k hlk
      have HS := hid (normR_snoc l k hlk)
      have hnl := normR_len (l.take k)
      rw [List.length_take] at hnl
      generalize l[k] = x at q1 q2 HS
      generalize Sp.normR (l.take k) = n at hown HS hnl
      obtain ⟨xa, xb⟩ := x
      simp only at q1 q2
      replace q1 := hkeep q1 hbel
      replace q2 := hkeep q2 hbel
      have hlk' : (k : Int) < l.length := by omega
      have hn6 : n.length ≤ 100000 := by omega
      have hO := hid hown
      clear hown
      cases hr : Sp.right (xa, xb)
      all_goals
        have hR : Hid (∀ W, Calls Try.prog 15 #[.agg #[.int .i64 xa, .int .i64 xb]] W fun e w' => e = .returned (.bool (Sp.right (xa, xb))) ∧ Below W.heap.size W w') := fun W => rightR_below xa xb W
        rw [hr] at hR HS
        clear hr
        obtain ⟨w4, rfl⟩ : ∃ w4 : World, w4 = wr := ⟨_, rfl⟩
        go_wp2_with fail
        refine (hR.out _).mono ?_; rintro e w5 ⟨rfl, hb5⟩
        replace q1 := hkeep q1 hb5
        replace q2 := hkeep q2 hb5
        have hB5 := bnext hbel hb5
        have hO5 := hid (own_below hO.out hb5)
        clear hb5 hbel hO
        go_wp2_with fail
      · go_roundw
        case rel => exact ⟨k + 1, by omega, by go_num, by rw [HS.out]; exact hO5.out, hB5⟩
        case measure => simp [intOf]; omega
      · refine (add_any _ n xa xb _ (SpansAt.own hO5.out) hn6).mono ?_; rintro e w6 ⟨⟨v6, rfl, hown6⟩, hb6⟩
        have hO6 := hid (own_mono (B' := w.heap.size) hown6 hB5.size)
        have hB6 := bnext hB5 hb6
        clear hown6 hb6
        go_wp2_with fail
        go_roundw
        case rel => exact ⟨k + 1, by omega, by go_num, by rw [HS.out]; exact hO6.out, hB6⟩
        case measure => simp [intOf]; omega
    · have hkl : k = l.length := by omega
      subst hkl
      rw [List.take_length] at hown
      go_wp2_with fail
      go_ret
      exact ⟨⟨_, rfl, hown⟩, hbel⟩

def inside (a b : Int) (n : Sp.Span) : Bool := decide (n.1 ≤ a) && decide (b ≤ n.2)
theorem any_take (l : List Sp.Span) (f : Sp.Span → Bool) (k : Nat) (h : k < l.length) (h0 : (l.take k).any f = false) : (l.take (k + 1)).any f = f l[k] := by
  rw [take_snoc l k h, List.any_append, h0]; simp
theorem any_hit (l : List Sp.Span) (f : Sp.Span → Bool) (k : Nat) (h : k < l.length) (h0 : f l[k] = true) : l.any f = true := List.any_eq_true.2 ⟨_, List.getElem_mem h, h0⟩

set_option maxRecDepth 100000 in
set_option maxHeartbeats 3200000 in
theorem coversR_any (v : Value) (l : List Sp.Span) (a b : Int) (w : World) (hv : SpansAt w v l) (hl : l.length ≤ 100000) :
    Calls Try.prog 25 #[v, .agg #[.int .i64 a, .int .i64 b]] w fun e w' => e = .returned (.bool (Sp.coversR l (a, b))) ∧ Below w.heap.size w w' := by
  have hcr : Sp.coversR l (a, b) = (!Sp.right (a, b) || (Sp.normR l).any (inside a b)) := rfl
  have hnl := normR_len l
  have hn := fun W h => normR_any v l W h hl
  have hR : Hid (∀ W, Calls Try.prog 15 #[.agg #[.int .i64 a, .int .i64 b]] W fun e w' => e = .returned (.bool (Sp.right (a, b))) ∧ Below W.heap.size W w') := fun W => rightR_below a b W
  cases hr : Sp.right (a, b)
  · rw [hr] at hR hcr
    have HCR := hid hcr
    clear hr hcr hn
    go_enter Try.func25, Try.ntmps25
    go_wp2_with fail
    refine (hR.out _).mono ?_; rintro e w5 ⟨rfl, hb5⟩
    have hB5 := bnext (hba w (.cells #[.int .i64 a, .int .i64 b] 23)) hb5
    go_wp2_with fail
    go_ret
    rw [HCR.out]
    exact ⟨rfl, hB5⟩
  · rw [hr] at hR hcr
    generalize Sp.normR l = n at hn hcr hnl
    have HCR := hid hcr
    have HN := hid hn
    clear hr hcr hn
    go_enter Try.func25, Try.ntmps25
    go_wp2_with fail
    refine (hR.out _).mono ?_; rintro e w5 ⟨rfl, hb5⟩
    have x1 := Box.keep (Box.new (w := w) (x := a) (y := b)) hb5
    have hB5 := bnext (hba w (.cells #[.int .i64 a, .int .i64 b] 23)) hb5
    clear hb5
    go_wp2_with fail
    refine (HN.out _ (hv.below hB5)).mono ?_; rintro e w6 ⟨⟨vn, rfl, hown⟩, hb6⟩
    replace x1 := Box.keep x1 hb6
    have hB6 := bnext hB5 hb6
    have hs6 := SpansAt.own hown
    clear hown hb6 hB5
    obtain ⟨adr, cap, rfl, hcells⟩ : ∃ adr cap, vn = .slice adr n.length cap ∧ (∀ k (hk : k < n.length), ∃ g off, adr = some ⟨g, off, none⟩ ∧ g < w6.heap.size ∧ w6.cell? ⟨g, off + k * 2, none⟩ = some (.int .i64 n[k].1) ∧ w6.cell? ⟨g, off + k * 2 + 1, none⟩ = some (.int .i64 n[k].2)) := by
      rcases hs6 with ⟨rfl, ao, cap, rfl⟩ | ⟨g, off, cap, rfl, hlt, hc⟩
      · exact ⟨ao, cap, rfl, fun k hk => by simp at hk⟩
      · exact ⟨_, cap, rfl, fun k hk => ⟨g, off, rfl, hlt, (hc k n[k] (List.getElem?_eq_getElem hk)).1, (hc k n[k] (List.getElem?_eq_getElem hk)).2⟩⟩
    have HC := hid hcells
    clear hcells hs6
    have hX := hid x1
    clear x1
    go_wp2_with fail
    go_loopw [6] (fun i wr => ∃ k : Nat, k ≤ n.length ∧ i = .int .i64 k ∧ (n.take k).any (inside a b) = false ∧ Below w6.heap.size w6 wr) (fun i _ => n.length - (intOf i).toNat)
    case atStart => exact ⟨0, by omega, rfl, rfl, Below.refl _ _⟩
    case round =>
      obtain ⟨k, hk, rfl, hno, hbel⟩ := hrel
      obtain ⟨w7, rfl⟩ : ∃ w7 : World, w7 = wr := ⟨_, rfl⟩
      by_cases hlk : k < n.length
      · obtain ⟨g, off, rfl, hlt, q1, q2⟩ := HC.out k hlk
        have HT := hid (any_take n (inside a b) k hlk hno)
        have HH := hid (any_hit n (inside a b) k hlk)
        clear hno
        generalize n[k] = x at q1 q2 HT HH
        obtain ⟨xa, xb⟩ := x
        simp only at q1 q2
        replace q1 := hkeep q1 hbel
        replace q2 := hkeep q2 hbel
        have hlk' : (k : Int) < n.length := by omega
        have hk0 : (0 : Int) ≤ (k : Int) := by omega
        have hB7 := bnext hB6 hbel
        have c1 := (hbel.cell (p := ⟨w.heap.size, 0, none⟩) hX.out.2.2).trans hX.out.1
        have c2 := (hbel.cell (p := ⟨w.heap.size, 1, none⟩) hX.out.2.2).trans hX.out.2.1
        have hin : inside a b (xa, xb) = (decide (xa ≤ a) && decide (b ≤ xb)) := rfl
        by_cases h1 : xa ≤ a
        · by_cases h2 : b ≤ xb
          · have HI : Hid (inside a b (xa, xb) = true) := by show _ = _; rw [hin]; simp [h1, h2]
            have hd1 : decide (xa ≤ a) = true := by simpa using h1
            have hd2 : decide (b ≤ xb) = true := by simpa using h2
            clear hin
            go_wp2_with fail
            go_quiet (fail)
            go_wp2_with fail
            go_ret
            rw [HCR.out, HH.out HI.out]
            exact ⟨rfl, hdrewN hB7 nq⟩
          · have HI : Hid (inside a b (xa, xb) = false) := by show _ = _; rw [hin]; simp [h2]
            have hd1 : decide (xa ≤ a) = true := by simpa using h1
            have hd2 : decide (b ≤ xb) = false := by simpa using h2
            clear hin
            go_wp2_with fail
            go_quiet (fail)
            go_wp2_with fail
            go_roundw
            case rel => exact ⟨k + 1, by omega, by go_num, by rw [HT.out, HI.out], hdrewN hbel nq⟩
            case measure => simp [intOf]; omega
        · have HI : Hid (inside a b (xa, xb) = false) := by show _ = _; rw [hin]; simp [h1]
          have hd1 : decide (xa ≤ a) = false := by simpa using h1
          clear hin
          go_wp2_with fail
          go_quiet (fail)
          go_wp2_with fail
          go_roundw
          case rel => exact ⟨k + 1, by omega, by go_num, by rw [HT.out, HI.out], hdrewN hbel nq⟩
          case measure => simp [intOf]; omega
      · have hkl : k = n.length := by omega
        subst hkl
        rw [List.take_length] at hno
        have HNO := hid hno
        clear hno
        go_wp2_with fail
        go_ret
        rw [HCR.out, HNO.out]
        exact ⟨rfl, bnext hB6 hbel⟩
end Go.Proofs.Ytghgiifclocddaa
