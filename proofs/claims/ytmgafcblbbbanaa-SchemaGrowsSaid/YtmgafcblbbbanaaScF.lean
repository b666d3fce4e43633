/-
  Which rows fit a schema, plainly; holds of schema: its contract. Condition: the texts have at most 2^63 - 1 bytes.
-/
import Derived.Test.YtmgafcblbbbanaaScQ
namespace Go.Proofs.Ytmgafcblbbbanaa
open Go.RowKit
namespace Sc
def holdsB (c : C) (v : Cd.V) : Bool := v.right && (if v.k = 0 then !c.need else decide (v.k = c.kind))
def fitAll (cs : List C) (l : List Cd.V) : Bool := (cs.zip l).all fun p => holdsB p.1 p.2
/-- what is wrong with a row -/
def fits (s : S) (l : List Cd.V) : Int := if right s = false then 11 else if l.length ≠ s.cols.length then 10 else if fitAll s.cols l then 0 else 10
theorem fit_no {cs : List C} {l : List Cd.V} {k : Nat} (h1 : k < cs.length) (h2 : k < l.length) (h : holdsB cs[k] l[k] = false) : fitAll cs l = false := by
  unfold fitAll
  rw [List.all_eq_false]
  refine ⟨(cs[k], l[k]), ?_, by simp [h]⟩
  rw [List.mem_iff_getElem]
  exact ⟨k, by simp; omega, by simp⟩
/-- the first k values fit -/
def fitTo (cs : List C) (l : List Cd.V) (k : Nat) : Bool := ((cs.zip l).take k).all fun p => holdsB p.1 p.2
theorem fitTo_zero (cs : List C) (l : List Cd.V) : fitTo cs l 0 = true := by unfold fitTo; simp
theorem fitTo_next {cs : List C} {l : List Cd.V} {k : Nat} (h1 : k < cs.length) (h2 : k < l.length) (h : fitTo cs l k = true) (h0 : holdsB cs[k] l[k] = true) : fitTo cs l (k + 1) = true := by
  unfold fitTo at *
  rw [List.take_succ_eq_append_getElem (by simp; omega), List.all_append, h]
  simp [h0]
theorem fitTo_all {cs : List C} {l : List Cd.V} (hl : l.length = cs.length) (h : fitTo cs l cs.length = true) : fitAll cs l = true := by
  unfold fitTo at h
  rw [List.take_of_length_le (by simp; omega)] at h
  exact h
end Sc

set_option maxRecDepth 100000 in
set_option maxHeartbeats 3200000 in
theorem holds_any (c : Sc.C) (x : Cd.V) (hx : x.s.size ≤ maxLen) (w : World) : Calls Try.prog 35 #[cv c, vv x.k x.n x.b x.s] w fun e w' => e = .returned (.bool (Sc.holdsB c x)) ∧ Below w.heap.size w w' := by
  have hr := hid (fun W => right_any x.k x.n x.b x.s hx W)
  have hd : Hid (Sc.holdsB c x = (Va.right x.k x.n x.b x.s && (if x.k = 0 then !c.need else decide (x.k = c.kind)))) := rfl
  unfold vv at hr
  unfold cv vv
  obtain ⟨cn, ck, cd⟩ := c
  obtain ⟨k, n, b, s⟩ := x
  simp only at hr hd hx ⊢
  generalize Va.right k n b s = R at hr hd
  have hb := hid (hnext (hba w (.cells #[.string cn, .int .i64 ck, .bool cd] 49)) (hba _ (.cells #[.int .i64 k, .int .i64 n, .int .u64 (b : Int), .string s] 46)))
  by_cases hk : k = 0
  · subst hk
    cases cd
    · have HE : Hid (Sc.holdsB ⟨cn, ck, false⟩ ⟨0, n, b, s⟩ = R) := by show _ = _; rw [hd.out]; simp
      clear hd
      go_enter Try.func35, Try.ntmps35
      go_wp2_with fail
      refine (hr.out _).mono ?_; rintro e w1 ⟨rfl, hb1⟩
      go_wp2_with fail
      go_ret
      rw [HE.out]
      exact ⟨rfl, hnext hb.out hb1⟩
    · have HE : Hid (Sc.holdsB ⟨cn, ck, true⟩ ⟨0, n, b, s⟩ = false) := by show _ = _; rw [hd.out]; simp
      clear hd
      go_enter Try.func35, Try.ntmps35
      go_wp2_with fail
      go_ret
      rw [HE.out]
      exact ⟨rfl, hb.out⟩
  · have e1 : (k == 0) = false := beq_eq_false_iff_ne.2 hk
    by_cases hkk : k = ck
    · have HE : Hid (Sc.holdsB ⟨cn, ck, cd⟩ ⟨k, n, b, s⟩ = R) := by show _ = _; rw [hd.out, if_neg hk, decide_eq_true hkk]; simp
      subst hkk
      clear hd hk
      go_enter Try.func35, Try.ntmps35
      go_wp2_with fail
      refine (hr.out _).mono ?_; rintro e w1 ⟨rfl, hb1⟩
      go_wp2_with fail
      go_ret
      rw [HE.out]
      exact ⟨rfl, hnext hb.out hb1⟩
    · have e2 : (k == ck) = false := beq_eq_false_iff_ne.2 hkk
      have HE : Hid (Sc.holdsB ⟨cn, ck, cd⟩ ⟨k, n, b, s⟩ = false) := by show _ = _; rw [hd.out, if_neg hk, decide_eq_false hkk]; simp
      clear hd hk hkk
      go_enter Try.func35, Try.ntmps35
      go_wp2_with fail
      go_ret
      rw [HE.out]
      exact ⟨rfl, hb.out⟩
end Go.Proofs.Ytmgafcblbbbanaa
