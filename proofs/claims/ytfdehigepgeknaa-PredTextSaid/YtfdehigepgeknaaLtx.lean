/-
  PredText answers true at any two conditions and any schema. No condition.
-/
import Derived.Test.YtfdehigepgeknaaTy
import Derived.Test.YtfdehigepgeknaaLi
namespace Go.Proofs.Ytfdehigepgeknaa
open Go.RowKit Pd

namespace Pd
theorem rightL_whole {cs : List Sc.C} {l : List N} (h : rightL cs l = true) : whole l = true ∧ ∀ x ∈ l, okN cs x = true := by
  unfold rightL at h
  rw [Bool.and_eq_true, List.all_eq_true] at h
  exact h
/-- right conditions: the texts are the same just if they are -/
theorem text_law {cs : List Sc.C} {a b : List N} {x y : List UInt8} (ha : rightL cs a = true) (hb : rightL cs b = true) (na : ∀ z ∈ a, Nok z) (nb : ∀ z ∈ b, Nok z) (hx : txtL a x) (hy : txtL b y) : decide (x = y) = decide (a = b) ∧ x ≠ [] := by
  obtain ⟨wa, oa⟩ := rightL_whole ha
  obtain ⟨wb, ob⟩ := rightL_whole hb
  rcases hx with ⟨h, _⟩ | ⟨t, ht, rfl, _, rfl⟩
  · rw [wa] at h; cases h
  rcases hy with ⟨h, _⟩ | ⟨t', ht', rfl, _, rfl⟩
  · rw [wb] at h; cases h
  refine ⟨?_, txt_pos t⟩
  rw [decide_eq_decide]
  constructor
  · intro e
    have := (txt_split t t' [] [] ht ht' (T.good_of cs t oa na) (T.good_of cs t' ob nb) trivial trivial (by rw [e])).1
    rw [this]
  · intro e
    rw [ser_eq ht ht' e]
end Pd
set_option maxRecDepth 100000 in
set_option maxHeartbeats 6400000 in
theorem predText_walk (v1 : Value) (a : List N) (v2 : Value) (b : List N) (s : Sc.S) (u : Value) (w : World) (ha : a.length ≤ maxLen ∧ NsAt w v1 a ∧ ∀ x ∈ a, Nok x) (hb : b.length ≤ maxLen ∧ NsAt w v2 b ∧ ∀ x ∈ b, Nok x) (hs : SchemaIn w s u) :
    Calls Try.prog 7 #[v1, v2, sv s u] w fun e w' => e = .returned (.bool true) ∧ Below w.heap.size w w' := by
  obtain ⟨_, hva, hna⟩ := ha
  obtain ⟨_, hvb, hnb⟩ := hb
  have NA := hid (hva.below (hba w (.cells #[.string s.name, u, .int .i64 s.keys] 25)))
  have NB := hid (hvb.below (hba w (.cells #[.string s.name, u, .int .i64 s.keys] 25)))
  have SC := hid (hs.1.below (hba w (.cells #[.string s.name, u, .int .i64 s.keys] 25)))
  have L1 := hid (hba w (.cells #[.string s.name, u, .int .i64 s.keys] 25))
  have SX := hid (heap_alloc_new w (.cells #[.string s.name, u, .int .i64 s.keys] 25))
  have KA := hid hna
  have KB := hid hnb
  obtain ⟨adr, cap, rfl⟩ := hva.slc
  obtain ⟨badr, bcap, rfl⟩ := hvb.slc
  obtain ⟨sadr, scap, rfl⟩ := hs.1.slc
  clear hva hvb hna hnb hs
  have la := hid (light_any _ (.slice none 0 0) a [] _ NA.out ⟨none, 0, rfl, fun k hk => absurd hk (Nat.not_lt_zero k)⟩)
  have lb := hid (light_any _ (.slice none 0 0) b [] _ NB.out ⟨none, 0, rfl, fun k hk => absurd hk (Nat.not_lt_zero k)⟩)
  unfold sv
  cases hla : lightB a [] with
  | false =>
    have la' := la.out
    rw [hla] at la'
    replace la := hid la'
    clear la' hla
    go_enter Try.func7, Try.ntmps7
    go_wp2_with fail
    refine la.out.mono ?_; rintro e w1 ⟨rfl, rfl⟩
    go_wp2_with fail
    refine (known_any _).mono ?_; rintro e w9 ⟨rfl, b9⟩
    go_wp2
    go_ret
    exact ⟨rfl, hnext L1.out b9⟩
  | true =>
    obtain ⟨ga, _, _, _⟩ := light_of hla
    have la' := la.out
    rw [hla] at la'
    replace la := hid la'
    clear la' hla
    cases hlb : lightB b [] with
    | false =>
      have lb' := lb.out
      rw [hlb] at lb'
      replace lb := hid lb'
      clear lb' hlb
      go_enter Try.func7, Try.ntmps7
      go_wp2_with fail
      refine la.out.mono ?_; rintro e w1 ⟨rfl, rfl⟩
      go_wp2_with fail
      refine lb.out.mono ?_; rintro e w1 ⟨rfl, rfl⟩
      go_wp2_with fail
      refine (known_any _).mono ?_; rintro e w9 ⟨rfl, b9⟩
      go_wp2
      go_ret
      exact ⟨rfl, hnext L1.out b9⟩
    | true =>
      obtain ⟨gb, _, _, _⟩ := light_of hlb
      have lb' := lb.out
      rw [hlb] at lb'
      replace lb := hid lb'
      clear lb' hlb
      by_cases hcs : 40 < s.cols.length
      · have hcs' : (40 : Int) < (s.cols.length : Int) := by omega
        go_enter Try.func7, Try.ntmps7
        go_wp2_with fail
        refine la.out.mono ?_; rintro e w1 ⟨rfl, rfl⟩
        go_wp2_with fail
        refine lb.out.mono ?_; rintro e w1 ⟨rfl, rfl⟩
        go_wp2_with fail
        refine (known_any _).mono ?_; rintro e w9 ⟨rfl, b9⟩
        go_wp2
        go_ret
        exact ⟨rfl, hnext L1.out b9⟩
      have hcs' : ¬ (40 : Int) < (s.cols.length : Int) := by omega
      have ra0 := pright_any _ a s _ _ NA.out SC.out (by omega) (k_siz KA.out)
      unfold sv at ra0
      cases hra : rightL s.cols a with
      | false =>
        rw [hra] at ra0
        have ra := hid ra0
        clear ra0 hra
        go_enter Try.func7, Try.ntmps7
        go_wp2_with fail
        refine la.out.mono ?_; rintro e w1 ⟨rfl, rfl⟩
        go_wp2_with fail
        refine lb.out.mono ?_; rintro e w1 ⟨rfl, rfl⟩
        go_wp2_with fail
        refine ra.out.mono ?_; rintro e w2 ⟨rfl, b2⟩
        have L2 := hid (hnext L1.out b2)
        clear b2
        go_wp2_with fail
        refine (known_any _).mono ?_; rintro e w9 ⟨rfl, b9⟩
        go_wp2
        go_ret
        exact ⟨rfl, hnext L2.out b9⟩
      | true =>
        rw [hra] at ra0
        have ra := hid ra0
        have HRA := hid hra
        clear ra0 hra
        go_enter Try.func7, Try.ntmps7
        go_wp2_with fail
        refine la.out.mono ?_; rintro e w1 ⟨rfl, rfl⟩
        go_wp2_with fail
        refine lb.out.mono ?_; rintro e w1 ⟨rfl, rfl⟩
        go_wp2_with fail
        refine ra.out.mono ?_; rintro e w2 ⟨rfl, b2⟩
        have L2 := hid (hnext L1.out b2)
        have NA2 := hid (NA.out.below b2)
        have NB2 := hid (NB.out.below b2)
        have SC2 := hid (SC.out.below b2)
        have SX2 := hid (keepBlock SX.out b2)
        clear b2
        have c2_0 := cell_of_row w2 _ 0 _ _ _ SX2.out
        have c2_1 := cell_of_row w2 _ 1 _ _ _ SX2.out
        have c2_2 := cell_of_row w2 _ 2 _ _ _ SX2.out
        simp only [List.getElem?_toArray, List.getElem?_cons_zero, List.getElem?_cons_succ] at c2_0 c2_1 c2_2
        have rb0 := pright_any _ b s _ _ NB2.out SC2.out (by omega) (k_siz KB.out)
        unfold sv at rb0
        cases hrb : rightL s.cols b with
        | false =>
          rw [hrb] at rb0
          have rb := hid rb0
          clear rb0 hrb
          go_wp2_with fail
          refine rb.out.mono ?_; rintro e w3 ⟨rfl, b3⟩
          have L3 := hid (hnext L2.out b3)
          clear b3
          go_wp2_with fail
          refine (known_any _).mono ?_; rintro e w9 ⟨rfl, b9⟩
          go_wp2
          go_ret
          exact ⟨rfl, hnext L3.out b9⟩
        | true =>
          rw [hrb] at rb0
          have rb := hid rb0
          have HRB := hid hrb
          clear rb0 hrb
          go_wp2_with fail
          refine rb.out.mono ?_; rintro e w3 ⟨rfl, b3⟩
          have L3 := hid (hnext L2.out b3)
          have NA3 := hid (NA2.out.below b3)
          have NB3 := hid (NB2.out.below b3)
          clear b3 c2_0 c2_1 c2_2
          go_wp2_with fail
          refine (pshow_any _ a _ NA3.out (by omega) KA.out).mono ?_; rintro e w4 ⟨x, rfl, hx, b4⟩
          have NA4 := hid (NA3.out.below b4)
          have NB4 := hid (NB3.out.below b4)
          have L4 := hid (hnext L3.out b4)
          clear b4
          go_wp2_with fail
          refine (pshow_any _ b _ NB4.out (by omega) KB.out).mono ?_; rintro e w5 ⟨y, rfl, hy, b5⟩
          have NA5 := hid (NA4.out.below b5)
          have NB5 := hid (NB4.out.below b5)
          have L5 := hid (hnext L4.out b5)
          obtain ⟨hxy, _⟩ := text_law HRA.out HRB.out KA.out KB.out hx hy
          have qx : ((bstr x).toList == (bstr y).toList) = decide (a = b) := by rw [str_beq, ByteArray.toList_eq, bstr_toList]; exact hxy
          generalize hd : decide (a = b) = d at qx
          have HD := hid hd
          clear b5 hx hy hxy hd
          go_wp2_with fail
          have cs0 := psame_any _ _ a b _ NA5.out NB5.out (by omega) (by omega)
          rw [HD.out] at cs0
          refine cs0.mono ?_; rintro e w6 ⟨rfl, b6⟩
          have NA6 := hid (NA5.out.below b6)
          have L6 := hid (hnext L5.out b6)
          clear b6 cs0
          go_wp2_with fail
          refine (pshow_any _ a _ NA6.out (by omega) KA.out).mono ?_; rintro e w7 ⟨z, rfl, hz, b7⟩
          have L7 := hid (hnext L6.out b7)
          have hz0 := (text_law HRA.out HRA.out KA.out KA.out hz hz).2
          have qz : ((bstr z).toList == []) = false := by rw [str_beq]; exact decide_eq_false hz0
          have qz' : (bstr z).toList.isEmpty = false := by rw [ByteArray.toList_eq, bstr_toList]; cases z with | nil => exact absurd rfl hz0 | cons c r => rfl
          clear b7 hz hz0
          go_wp2_with fail
          refine (known_any _).mono ?_; rintro e w9 ⟨rfl, b9⟩
          go_wp2
          go_ret
          exact ⟨rfl, hnext L7.out b9⟩
end Go.Proofs.Ytfdehigepgeknaa
