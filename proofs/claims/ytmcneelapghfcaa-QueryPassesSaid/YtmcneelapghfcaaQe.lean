/-
  Contracts and laws of the layers below, put together: Qe. Conditions: where they are named.
-/
import Derived.Test.YtmcneelapghfcaaBb

namespace Go.Proofs.Ytmcneelapghfcaa
open Go.RowKit Pd

namespace Pd
theorem ends_add (l : List N) : ∀ a b, ends (a + b) l = (ends a l).bind fun n => (ends b (l.drop n)).map (n + ·) := by
  induction l with
  | nil =>
    intro a b
    cases a with
    | zero => rw [Nat.zero_add, ends_zero]; cases b <;> rfl
    | succ a => rw [show a + 1 + b = (a + b) + 1 by omega]; rfl
  | cons x r ih =>
    intro a b
    cases a with
    | zero =>
      rw [Nat.zero_add, ends_zero]
      show _ = (ends b (x :: r)).map (0 + ·)
      cases ends b (x :: r) with
      | none => rfl
      | some n => show _ = some (0 + n); rw [Nat.zero_add]
    | succ a =>
      rw [show a + 1 + b = (a + b) + 1 by omega, ends, ends]
      split
      · rfl
      · rw [show a + b + (parts x.op).toNat = a + (parts x.op).toNat + b by omega, ih]
        cases ends (a + (parts x.op).toNat) r with
        | none => rfl
        | some n =>
          show ((ends b (r.drop n)).map (n + ·)).map (· + 1) = (ends b ((x :: r).drop (n + 1))).map (n + 1 + ·)
          rw [List.drop_succ_cons]
          cases ends b (r.drop n) with
          | none => rfl
          | some m => show some (n + m + 1) = some (n + 1 + m); congr 1; omega
theorem endI_ways (l : List N) (i : Int) : endI l i = -1 ∨ (0 ≤ i ∧ i + 1 ≤ endI l i ∧ endI l i ≤ (l.length : Int)) := by
  unfold endI
  split
  · exact .inl rfl
  · cases he : ends 1 (l.drop i.toNat) with
    | none => exact .inl rfl
    | some n =>
      right
      have h1 := ends_le _ _ _ he
      rw [List.length_drop] at h1
      have h2 : 1 ≤ n := by
        cases hd : l.drop i.toNat with
        | nil => rw [hd] at he; cases he
        | cons x r =>
          rw [hd] at he
          unfold ends at he
          split at he
          · cases he
          · cases hh : ends (0 + (parts x.op).toNat) r with
            | none => rw [hh] at he; cases he
            | some m => rw [hh] at he; cases he; exact Nat.le_add_left 1 m
      refine ⟨by omega, ?_, ?_⟩
      · show i + 1 ≤ i + (n : Int); omega
      · show i + (n : Int) ≤ _
        have : n ≤ l.length - i.toNat := h1
        omega
theorem endK_split (l : List N) (q : Nat) {j : Int} (hj : 0 ≤ j) : endK l (q + 1) j = endK l q (endI l j) := by
  have h1 : endI l j = match ends 1 (l.drop j.toNat) with | some n => j + (n : Int) | none => -1 := by unfold endI; rw [if_neg (by omega)]; rfl
  have h2 : endK l (q + 1) j = match ends (q + 1) (l.drop j.toNat) with | some n => j + (n : Int) | none => -1 := by unfold endK; rw [if_neg (by omega), if_neg (by omega)]; rfl
  rw [h2, h1, show q + 1 = 1 + q by omega, ends_add]
  cases ends 1 (l.drop j.toNat) with
  | none =>
    show -1 = endK l q (-1)
    cases q with
    | zero => rfl
    | succ q => exact (endK_neg (by decide)).symm
  | some n =>
    show (match (ends q ((l.drop j.toNat).drop n)).map (n + ·) with | some n => j + (n : Int) | none => -1) = endK l q (j + (n : Int))
    rw [List.drop_drop]
    cases q with
    | zero => rw [ends_zero]; show j + ((n + 0 : Nat) : Int) = j + (n : Int); rw [Nat.add_zero]
    | succ q =>
      unfold endK
      rw [if_neg (by omega), if_neg (by omega), show (j + (n : Int)).toNat = j.toNat + n by omega]
      cases ends (q + 1) (l.drop (j.toNat + n)) with
      | none => rfl
      | some m => show j + ((n + m : Nat) : Int) = j + (n : Int) + (m : Int); omega
theorem endI_bad {l : List N} {j : Nat} (h : j < l.length) (hp : parts l[j].op < 0) : endI l (j : Int) = -1 := (endK_one l j).trans (endK_bad h hp)
theorem endI_next {l : List N} {j p : Nat} (h : j < l.length) (hp : parts l[j].op = (p : Int)) : endI l (j : Int) = endK l p ((j + 1 : Nat) : Int) := by
  rw [endK_one, endK_next h hp, Nat.zero_add]
end Pd
set_option maxRecDepth 100000 in
set_option maxHeartbeats 6400000 in
theorem endR_any (v : Value) (l : List N) (hl : l.length ≤ 1000000) : ∀ (n : Nat) (i : Int) (w : World), NsAt w v l → i ≤ 9223372036854775807 → l.length - i.toNat ≤ n → Calls Try.prog 96 #[v, .int .i64 i] w fun e w' => e = .returned (.int .i64 (endI l i)) ∧ w = w' := by
  intro n
  induction n with
  | zero =>
    intro i w hv hi hn
    obtain ⟨adr, cap, rfl, hc⟩ := hv
    clear hc
    by_cases h0 : i < 0
    · have HR : Hid (endI l i = -1) := by show _ = _; unfold endI; rw [if_pos h0]
      go_enter Try.func96, Try.ntmps96
      go_wp2_with fail
      go_ret
      rw [HR.out]
      exact ⟨rfl, rfl⟩
    · have h1 : (l.length : Int) ≤ i := by omega
      have HR : Hid (endI l i = -1) := (endK_one l i).trans (endK_far h1)
      go_enter Try.func96, Try.ntmps96
      go_wp2_with fail
      go_ret
      rw [HR.out]
      exact ⟨rfl, rfl⟩
  | succ n ih0 =>
    intro i w hv hi hn
    have HV := hid hv
    have HI := hid ih0
    obtain ⟨adr, cap, rfl, hc⟩ := hv
    have HC := hid hc
    clear hc ih0
    by_cases h0 : i < 0
    · have HR : Hid (endI l i = -1) := by show _ = _; unfold endI; rw [if_pos h0]
      go_enter Try.func96, Try.ntmps96
      go_wp2_with fail
      go_ret
      rw [HR.out]
      exact ⟨rfl, rfl⟩
    by_cases h1 : (l.length : Int) ≤ i
    · have HR : Hid (endI l i = -1) := (endK_one l i).trans (endK_far h1)
      go_enter Try.func96, Try.ntmps96
      go_wp2_with fail
      go_ret
      rw [HR.out]
      exact ⟨rfl, rfl⟩
    obtain ⟨m, rfl⟩ : ∃ m : Nat, i = (m : Int) := ⟨i.toNat, by omega⟩
    have hm : m < l.length := by omega
    have hm' : (m : Int) < (l.length : Int) := by omega
    have hm0 : (0 : Int) ≤ (m : Int) := by omega
    have hN : l.length ≤ m + 1 + n := by omega
    clear h0
    obtain ⟨g, off, rfl, q0, _, _, _, _, _⟩ := HC.out m hm
    have HX := hid (endI_bad hm)
    have HN := hid (fun p => endI_next (p := p) hm)
    have CK := hid (fun W => kids_any l[m].op W)
    have hpc := parts_cases l[m].op
    generalize l[m].op = op at q0 HX HN CK hpc
    have hp2 : parts op = -1 ∨ ∃ p : Nat, p ≤ 2 ∧ parts op = (p : Int) := by
      rcases hpc with ⟨h, _⟩ | ⟨h, _⟩ | ⟨h, _⟩ | ⟨h, _⟩
      · exact .inl h
      · exact .inr ⟨0, by omega, h⟩
      · exact .inr ⟨2, by omega, h⟩
      · exact .inr ⟨1, by omega, h⟩
    clear hpc
    rcases hp2 with hp | ⟨p, hp2, hp⟩
    · have HR : Hid (endI l (m : Int) = -1) := HX.out (by omega)
      have CK' := CK.out
      rw [hp] at CK'
      replace CK := hid CK'
      clear CK' HX HN hp
      go_enter Try.func96, Try.ntmps96
      go_wp2_with fail
      refine (CK.out _).mono ?_; rintro e w1 ⟨rfl, rfl⟩
      go_wp2_with fail
      go_ret
      rw [HR.out]
      exact ⟨rfl, rfl⟩
    · have HE := hid (HN.out p hp)
      have CK' := CK.out
      rw [hp] at CK'
      replace CK := hid CK'
      have hp0 : (0 : Int) ≤ (p : Int) := by omega
      have hp0' : ¬ (p : Int) < 0 := by omega
      have hpz : (p : Int) ≤ 2 := by omega
      have hmB : m + 1 ≤ 1000000 := by omega
      have w1 : IntKind.i64.wrap ((m : Int) + 1) = ((m + 1 : Nat) : Int) := by rw [IntKind.wrap_i64]; omega
      clear CK' HX HN hp hi hn
      go_enter Try.func96, Try.ntmps96
      go_wp2_with fail
      refine (CK.out _).mono ?_; rintro e w1 ⟨rfl, rfl⟩
      go_wp2_with fail
      go_loopw [6, 5] (fun kv av wr => ∃ (k : Nat) (j : Int), kv = .int .i64 (k : Int) ∧ av = .int .i64 j ∧ k ≤ p ∧ Hid (endI l (m : Int) = endK l (p - k) j) ∧ Hid (j = -1 ∨ ((m + 1 : Nat) : Int) ≤ j) ∧ Hid (j ≤ 1000000) ∧ wr = w) (fun kv _ _ => p - (intOf kv).toNat)
      case atStart => exact ⟨0, ((m + 1 : Nat) : Int), rfl, by first | rfl | go_num, by omega, HE.out, .inr (Int.le_refl _), by show _ ≤ _; omega, rfl⟩
      case round =>
        obtain ⟨k, j, rfl, rfl, hk, hE, hB, hJ, rfl⟩ := hrel
        have hk0 : (0 : Int) ≤ (k : Int) := by omega
        by_cases hkp : k < p
        · have hkp' : (k : Int) < (p : Int) := by omega
          by_cases hj : j = -1
          · subst hj
            have HR : Hid (endI l (m : Int) = -1) := by
              show _ = _
              rw [hE.out, show p - k = (p - k - 1) + 1 by omega]
              exact endK_neg (by decide)
            clear hE hB hJ
            go_wp2_with fail
            refine (CK.out _).mono ?_; rintro e w1 ⟨rfl, rfl⟩
            go_wp2_with fail
            go_ret
            rw [HR.out]
            exact ⟨rfl, rfl⟩
          · have hj0 : 0 ≤ j := by rcases hB.out with h | h; exact absurd h hj; omega
            have hj1 : ((m + 1 : Nat) : Int) ≤ j := by rcases hB.out with h | h; exact absurd h hj; exact h
            have hj0' : (0 : Int) ≤ j := hj0
            have HE2 : Hid (endI l (m : Int) = endK l (p - (k + 1)) (endI l j)) := by
              show _ = _
              rw [hE.out, show p - k = (p - (k + 1)) + 1 by omega]
              exact endK_split l _ hj0
            have hways := endI_ways l j
            have hjm := hJ.out
            have CI := hid (HI.out j wr HV.out (by omega) (by omega))
            have HJ2 : Hid (endI l j ≤ 1000000) := by show _ ≤ _; omega
            have HB2 : Hid (endI l j = -1 ∨ ((m + 1 : Nat) : Int) ≤ endI l j) := by show _ ∨ _; omega
            generalize endI l j = z at HE2 CI HJ2 HB2
            clear hE hB hJ hways hj hj1 hjm
            go_wp2_with fail
            refine (CK.out _).mono ?_; rintro e w1 ⟨rfl, rfl⟩
            go_wp2_with fail
            refine CI.out.mono ?_; rintro e w1 ⟨rfl, rfl⟩
            go_wp2_with fail
            go_roundw
            case rel => exact ⟨k + 1, z, by first | rfl | go_num, rfl, by omega, HE2.out, HB2.out, HJ2.out, by first | rfl | trivial⟩
            case measure => simp [intOf]; omega
        · obtain rfl : k = p := by omega
          have HR : Hid (endI l (m : Int) = j) := by
            show _ = _
            rw [hE.out, Nat.sub_self]; rfl
          clear hE hB hJ hkp
          go_wp2_with fail
          refine (CK.out _).mono ?_; rintro e w1 ⟨rfl, rfl⟩
          go_wp2_with fail
          go_ret
          rw [HR.out]
          exact ⟨rfl, rfl⟩
set_option maxRecDepth 100000 in
set_option maxHeartbeats 6400000 in
theorem wholeR_any (v : Value) (l : List N) (w : World) (hv : NsAt w v l) (hl : l.length ≤ 1000000) : Calls Try.prog 67 #[v] w fun e w' => e = .returned (.bool (whole l)) ∧ w = w' := by
  have ce := hid (endR_any v l hl l.length 0 w hv (by decide) (by omega))
  obtain ⟨adr, cap, rfl⟩ := hv.slc
  clear hv
  by_cases h2 : l.length ≤ 40
  · have h2' : (l.length : Int) ≤ 40 := by omega
    have HE : Hid (whole l = decide (endI l 0 = (l.length : Int))) := by
      show _ = _
      unfold whole
      by_cases h1 : 0 < l.length
      · rw [decide_eq_true h1, decide_eq_true h2, Bool.true_and, Bool.true_and, decide_eq_decide]
        unfold endI
        rw [if_neg (by omega), show (0 : Int).toNat = 0 from rfl, List.drop_zero]
        cases ends 1 l with
        | none => constructor
                  · intro h; cases h
                  · intro h; exact absurd h (by show ¬ (-1 : Int) = _; omega)
        | some n => constructor
                    · intro h; cases h; show (0 : Int) + (l.length : Int) = _; omega
                    · intro h
                      have h' : (0 : Int) + (n : Int) = (l.length : Int) := h
                      rw [show n = l.length by omega]
      · rw [decide_eq_false h1, Bool.false_and]
        symm
        rw [decide_eq_false_iff_not]
        obtain rfl : l = [] := List.length_eq_zero_iff.1 (by omega)
        decide
    generalize endI l 0 = z at ce HE
    have hb : (z == (l.length : Int)) = decide (z = (l.length : Int)) := by rw [Bool.eq_iff_iff]; simp
    generalize decide (z = (l.length : Int)) = r at hb HE
    go_enter Try.func67, Try.ntmps67
    go_wp2_with fail
    refine ce.out.mono ?_; rintro e w1 ⟨rfl, rfl⟩
    go_wp2_with fail
    go_ret
    rw [HE.out]
    exact ⟨rfl, rfl⟩
  · have h2' : ¬ (l.length : Int) ≤ 40 := by omega
    have HE : Hid (whole l = false) := by show _ = _; unfold whole; rw [decide_eq_false h2, Bool.false_and, Bool.and_false]
    go_enter Try.func67, Try.ntmps67
    go_wp2_with fail
    go_ret
    rw [HE.out]
    exact ⟨rfl, rfl⟩
set_option maxRecDepth 100000 in
set_option maxHeartbeats 6400000 in
theorem leafR_any (x : N) (y : Cd.V) (h0 : 1 ≤ x.op) (h1 : x.op ≤ 8) (hx : x.v.s.size ≤ maxLen) (hy : y.s.size ≤ maxLen) (hxb : x.v.b < 18446744073709551616) (hyb : y.b < 18446744073709551616) (w : World) : Calls Try.prog 100 #[nv x, vv y.k y.n y.b y.s] w fun e w' => e = .returned (.int .i64 (leafV x y)) ∧ Below w.heap.size w w' := by
  have cc0 := fun W => compareR_any y x.v hy hx hyb hxb W
  rw [← Ky.cmp_eq y x.v hyb hxb] at cc0
  have cc := hid cc0
  clear cc0
  have ct := hid (fun b W => truthR_any b W)
  obtain ⟨op, c, ⟨xk, xn, xb, xs⟩⟩ := x
  obtain ⟨k, n, b, s⟩ := y
  unfold nv vv at *
  simp only at h0 h1 ⊢
  have LB := hid (hnext (hba w (.cells #[.int .i64 op, .int .i64 c, .int .i64 xk, .int .i64 xn, .int .u64 (xb : Int), .string xs] 83)) (hba _ (.cells #[.int .i64 k, .int .i64 n, .int .u64 (b : Int), .string s] 36)))
  by_cases e7 : op = 7
  · subst e7
    by_cases hk : k = 0
    · subst hk
      have HE : Hid (leafV ⟨7, c, ⟨xk, xn, xb, xs⟩⟩ ⟨0, n, b, s⟩ = tr true) := by show _ = _; unfold leafV; simp
      go_enter Try.func100, Try.ntmps100
      go_wp2_with fail
      refine (ct.out _ _).mono ?_; rintro e w1 ⟨rfl, rfl⟩
      go_wp2_with fail
      go_ret
      rw [HE.out]
      exact ⟨rfl, LB.out⟩
    · have hk' : (k == 0) = false := by rw [beq_eq_false_iff_ne]; exact hk
      have hk2 : (k != 0) = true := by rw [bne_iff_ne]; exact hk
      have HE : Hid (leafV ⟨7, c, ⟨xk, xn, xb, xs⟩⟩ ⟨k, n, b, s⟩ = tr false) := by show _ = _; unfold leafV; simp [hk]
      clear hk
      go_enter Try.func100, Try.ntmps100
      go_wp2_with fail
      refine (ct.out _ _).mono ?_; rintro e w1 ⟨rfl, rfl⟩
      go_wp2_with fail
      go_ret
      rw [HE.out]
      exact ⟨rfl, LB.out⟩
  by_cases e8 : op = 8
  · subst e8
    by_cases hk : k = 0
    · subst hk
      have HE : Hid (leafV ⟨8, c, ⟨xk, xn, xb, xs⟩⟩ ⟨0, n, b, s⟩ = tr false) := by show _ = _; unfold leafV; simp
      go_enter Try.func100, Try.ntmps100
      go_wp2_with fail
      refine (ct.out _ _).mono ?_; rintro e w1 ⟨rfl, rfl⟩
      go_wp2_with fail
      go_ret
      rw [HE.out]
      exact ⟨rfl, LB.out⟩
    · have hk' : (k == 0) = false := by rw [beq_eq_false_iff_ne]; exact hk
      have hk2 : (k != 0) = true := by rw [bne_iff_ne]; exact hk
      have HE : Hid (leafV ⟨8, c, ⟨xk, xn, xb, xs⟩⟩ ⟨k, n, b, s⟩ = tr true) := by show _ = _; unfold leafV; simp [hk]
      clear hk
      go_enter Try.func100, Try.ntmps100
      go_wp2_with fail
      refine (ct.out _ _).mono ?_; rintro e w1 ⟨rfl, rfl⟩
      go_wp2_with fail
      go_ret
      rw [HE.out]
      exact ⟨rfl, LB.out⟩
  have n7 : (op == 7) = false := by rw [beq_eq_false_iff_ne]; exact e7
  have n8 : (op == 8) = false := by rw [beq_eq_false_iff_ne]; exact e8
  by_cases hk : k = 0
  · subst hk
    have HE : Hid (leafV ⟨op, c, ⟨xk, xn, xb, xs⟩⟩ ⟨0, n, b, s⟩ = -1) := by show _ = _; unfold leafV; rw [if_neg e7, if_neg e8]; simp
    go_enter Try.func100, Try.ntmps100
    go_wp2_with fail
    go_ret
    rw [HE.out]
    exact ⟨rfl, LB.out⟩
  have hk' : (k == 0) = false := by rw [beq_eq_false_iff_ne]; exact hk
  by_cases hxk : xk = 0
  · subst hxk
    have HE : Hid (leafV ⟨op, c, ⟨0, xn, xb, xs⟩⟩ ⟨k, n, b, s⟩ = -1) := by show _ = _; unfold leafV; rw [if_neg e7, if_neg e8]; simp
    go_enter Try.func100, Try.ntmps100
    go_wp2_with fail
    go_ret
    rw [HE.out]
    exact ⟨rfl, LB.out⟩
  have hxk' : (xk == 0) = false := by rw [beq_eq_false_iff_ne]; exact hxk
  have HE0 : Hid (leafV ⟨op, c, ⟨xk, xn, xb, xs⟩⟩ ⟨k, n, b, s⟩ = tr (opB op (Ky.cmp ⟨k, n, b, s⟩ ⟨xk, xn, xb, xs⟩))) := by show _ = _; unfold leafV; rw [if_neg e7, if_neg e8, if_neg (by rintro (h | h); exact hk h; exact hxk h)]
  generalize Ky.cmp ⟨k, n, b, s⟩ ⟨xk, xn, xb, xs⟩ = z at cc HE0
  obtain ⟨b1, hb1⟩ : ∃ r, (z == 0) = r := ⟨_, rfl⟩
  obtain ⟨b3, hb3⟩ : ∃ r, decide (z < 0) = r := ⟨_, rfl⟩
  obtain ⟨b4, hb4⟩ : ∃ r, decide (z ≤ 0) = r := ⟨_, rfl⟩
  obtain ⟨b5, hb5⟩ : ∃ r, decide (0 < z) = r := ⟨_, rfl⟩
  obtain ⟨b6, hb6⟩ : ∃ r, decide (0 ≤ z) = r := ⟨_, rfl⟩
  have hb2 : (z != 0) = !b1 := by rw [← hb1]; rfl
  have hb1' : decide (z = 0) = b1 := by rw [← hb1]; rfl
  clear hk hxk e7 e8
  obtain rfl | rfl | rfl | rfl | rfl | rfl : op = 1 ∨ op = 2 ∨ op = 3 ∨ op = 4 ∨ op = 5 ∨ op = 6 := by have := beq_eq_false_iff_ne.1 n7; have := beq_eq_false_iff_ne.1 n8; omega
  · have HE : Hid (leafV ⟨1, c, ⟨xk, xn, xb, xs⟩⟩ ⟨k, n, b, s⟩ = tr (b1)) := by show _ = _; rw [HE0.out, ← hb1']; rfl
    clear HE0
    go_enter Try.func100, Try.ntmps100
    go_wp2_with fail
    refine (cc.out _).mono ?_; rintro e w1 ⟨rfl, b7⟩
    have V1 := BN.keep (BN.keep (BN.new 83 w ⟨1, c, ⟨xk, xn, xb, xs⟩⟩) (hba _ (.cells #[.int .i64 k, .int .i64 n, .int .u64 (b : Int), .string s] 36))) b7
    have LB1 := hid (hnext LB.out b7)
    clear b7
    obtain ⟨q0, q1, q2, q3, q4, q5, qf0, qf1, qf2, qf3, qf4, qf5, ql⟩ := V1.cells
    simp only at q0 q1 q2 q3 q4 q5
    go_wp2_with fail
    refine (ct.out _ _).mono ?_; rintro e w2 ⟨rfl, rfl⟩
    go_wp2_with fail
    go_ret
    rw [HE.out]
    exact ⟨rfl, LB1.out⟩
  · have HE : Hid (leafV ⟨2, c, ⟨xk, xn, xb, xs⟩⟩ ⟨k, n, b, s⟩ = tr (!b1)) := by show _ = _; rw [HE0.out, ← hb1']; rfl
    clear HE0
    go_enter Try.func100, Try.ntmps100
    go_wp2_with fail
    refine (cc.out _).mono ?_; rintro e w1 ⟨rfl, b7⟩
    have V1 := BN.keep (BN.keep (BN.new 83 w ⟨2, c, ⟨xk, xn, xb, xs⟩⟩) (hba _ (.cells #[.int .i64 k, .int .i64 n, .int .u64 (b : Int), .string s] 36))) b7
    have LB1 := hid (hnext LB.out b7)
    clear b7
    obtain ⟨q0, q1, q2, q3, q4, q5, qf0, qf1, qf2, qf3, qf4, qf5, ql⟩ := V1.cells
    simp only at q0 q1 q2 q3 q4 q5
    go_wp2_with fail
    refine (ct.out _ _).mono ?_; rintro e w2 ⟨rfl, rfl⟩
    go_wp2_with fail
    go_ret
    rw [HE.out]
    exact ⟨rfl, LB1.out⟩
  · have HE : Hid (leafV ⟨3, c, ⟨xk, xn, xb, xs⟩⟩ ⟨k, n, b, s⟩ = tr (b3)) := by show _ = _; rw [HE0.out, ← hb3]; rfl
    clear HE0
    go_enter Try.func100, Try.ntmps100
    go_wp2_with fail
    refine (cc.out _).mono ?_; rintro e w1 ⟨rfl, b7⟩
    have V1 := BN.keep (BN.keep (BN.new 83 w ⟨3, c, ⟨xk, xn, xb, xs⟩⟩) (hba _ (.cells #[.int .i64 k, .int .i64 n, .int .u64 (b : Int), .string s] 36))) b7
    have LB1 := hid (hnext LB.out b7)
    clear b7
    obtain ⟨q0, q1, q2, q3, q4, q5, qf0, qf1, qf2, qf3, qf4, qf5, ql⟩ := V1.cells
    simp only at q0 q1 q2 q3 q4 q5
    go_wp2_with fail
    refine (ct.out _ _).mono ?_; rintro e w2 ⟨rfl, rfl⟩
    go_wp2_with fail
    go_ret
    rw [HE.out]
    exact ⟨rfl, LB1.out⟩
  · have HE : Hid (leafV ⟨4, c, ⟨xk, xn, xb, xs⟩⟩ ⟨k, n, b, s⟩ = tr (b4)) := by show _ = _; rw [HE0.out, ← hb4]; rfl
    clear HE0
    go_enter Try.func100, Try.ntmps100
    go_wp2_with fail
    refine (cc.out _).mono ?_; rintro e w1 ⟨rfl, b7⟩
    have V1 := BN.keep (BN.keep (BN.new 83 w ⟨4, c, ⟨xk, xn, xb, xs⟩⟩) (hba _ (.cells #[.int .i64 k, .int .i64 n, .int .u64 (b : Int), .string s] 36))) b7
    have LB1 := hid (hnext LB.out b7)
    clear b7
    obtain ⟨q0, q1, q2, q3, q4, q5, qf0, qf1, qf2, qf3, qf4, qf5, ql⟩ := V1.cells
    simp only at q0 q1 q2 q3 q4 q5
    go_wp2_with fail
    refine (ct.out _ _).mono ?_; rintro e w2 ⟨rfl, rfl⟩
    go_wp2_with fail
    go_ret
    rw [HE.out]
    exact ⟨rfl, LB1.out⟩
  · have HE : Hid (leafV ⟨5, c, ⟨xk, xn, xb, xs⟩⟩ ⟨k, n, b, s⟩ = tr (b5)) := by show _ = _; rw [HE0.out, ← hb5]; rfl
    clear HE0
    go_enter Try.func100, Try.ntmps100
    go_wp2_with fail
    refine (cc.out _).mono ?_; rintro e w1 ⟨rfl, b7⟩
    have V1 := BN.keep (BN.keep (BN.new 83 w ⟨5, c, ⟨xk, xn, xb, xs⟩⟩) (hba _ (.cells #[.int .i64 k, .int .i64 n, .int .u64 (b : Int), .string s] 36))) b7
    have LB1 := hid (hnext LB.out b7)
    clear b7
    obtain ⟨q0, q1, q2, q3, q4, q5, qf0, qf1, qf2, qf3, qf4, qf5, ql⟩ := V1.cells
    simp only at q0 q1 q2 q3 q4 q5
    go_wp2_with fail
    refine (ct.out _ _).mono ?_; rintro e w2 ⟨rfl, rfl⟩
    go_wp2_with fail
    go_ret
    rw [HE.out]
    exact ⟨rfl, LB1.out⟩
  · have HE : Hid (leafV ⟨6, c, ⟨xk, xn, xb, xs⟩⟩ ⟨k, n, b, s⟩ = tr (b6)) := by show _ = _; rw [HE0.out, ← hb6]; rfl
    clear HE0
    go_enter Try.func100, Try.ntmps100
    go_wp2_with fail
    refine (cc.out _).mono ?_; rintro e w1 ⟨rfl, b7⟩
    have V1 := BN.keep (BN.keep (BN.new 83 w ⟨6, c, ⟨xk, xn, xb, xs⟩⟩) (hba _ (.cells #[.int .i64 k, .int .i64 n, .int .u64 (b : Int), .string s] 36))) b7
    have LB1 := hid (hnext LB.out b7)
    clear b7
    obtain ⟨q0, q1, q2, q3, q4, q5, qf0, qf1, qf2, qf3, qf4, qf5, ql⟩ := V1.cells
    simp only at q0 q1 q2 q3 q4 q5
    go_wp2_with fail
    refine (ct.out _ _).mono ?_; rintro e w2 ⟨rfl, rfl⟩
    go_wp2_with fail
    go_ret
    rw [HE.out]
    exact ⟨rfl, LB1.out⟩
set_option maxRecDepth 100000 in
set_option maxHeartbeats 6400000 in
theorem evalR_tree (v u : Value) (l : List N) (row : List Cd.V) (hl : l.length ≤ 1000000) (hok : ∀ x ∈ l, x.v.s.size ≤ maxLen ∧ x.v.b < 18446744073709551616) (hrk : ∀ x ∈ row, x.s.size ≤ maxLen ∧ x.b < 18446744073709551616) (t : T) : t.ok → ∀ (i : Nat) (rest : List N) (w : World), NsAt w v l → VsAt w u row → l.drop i = t.ser ++ rest → colsOk t.ser row.length = true → Calls Try.prog 72 #[v, .int .i64 (i : Int), u] w fun e w' => e = .returned (.int .i64 (t.ev row)) ∧ Below w.heap.size w w' := by
  have HOK := hid hok
  have HRK := hid hrk
  have HLL := hid hl
  clear hok hrk
  induction t with
  | leaf x =>
    intro ht i rest w hv hu hd hcols
    have hi : i < l.length := by
      apply Classical.byContradiction
      intro h
      rw [List.drop_of_length_le (by omega)] at hd
      cases hd
    have hx : l[i] = x := by
      rw [List.drop_eq_getElem_cons hi] at hd
      exact (List.cons.inj hd).1
    have hxs := HOK.out x (hx ▸ List.getElem_mem hi)
    obtain ⟨adr, cap, rfl, hc⟩ := hv
    obtain ⟨uadr, ucap, rfl, huc⟩ := hu
    obtain ⟨g, off, rfl, q0, q1, q2, q3, q4, q5⟩ := hc i hi
    rw [hx] at q0 q1 q2 q3 q4 q5
    have hcl : 0 ≤ x.col ∧ x.col < (row.length : Int) := by
      have := List.all_eq_true.1 hcols x (by simp [T.ser])
      simp at this; exact this
    obtain ⟨op, col, ⟨xk, xn, xb, xs⟩⟩ := x
    simp only at q0 q1 q2 q3 q4 q5 hcl hxs
    obtain ⟨cn, rfl⟩ : ∃ cn : Nat, col = (cn : Int) := ⟨col.toNat, by omega⟩
    have hcn : cn < row.length := by omega
    have hcn' : (cn : Int) < (row.length : Int) := by omega
    have hi' : (i : Int) < (l.length : Int) := by omega
    have hi0 : (0 : Int) ≤ (i : Int) := by omega
    obtain ⟨ug, uoff, rfl, y0, y1, y2, y3⟩ := huc cn hcn
    have hy := HRK.out row[cn] (List.getElem_mem hcn)
    have ho1 : op ≤ 8 := ht.2
    have cl0 := fun W => leafR_any ⟨op, (cn : Int), ⟨xk, xn, xb, xs⟩⟩ row[cn] ht.1 ht.2 hxs.1 hy.1 hxs.2 hy.2 W
    have HR : Hid (T.ev row (.leaf ⟨op, (cn : Int), ⟨xk, xn, xb, xs⟩⟩) = leafV ⟨op, (cn : Int), ⟨xk, xn, xb, xs⟩⟩ row[cn]) := by
      show leafV _ (row.getD (cn : Int).toNat nul) = _
      rw [Int.toNat_natCast, List.getD_eq_getElem?_getD, List.getElem?_eq_getElem hcn]; rfl
    rw [HR.out]
    clear HR hx hd hc huc hcols ht hcl hxs
    generalize row[cn] = y at y0 y1 y2 y3 cl0 hy ⊢
    obtain ⟨yk, yn, yb, ys⟩ := y
    simp only at y0 y1 y2 y3
    unfold nv vv at cl0
    have cl := hid cl0
    generalize leafV ⟨op, (cn : Int), ⟨xk, xn, xb, xs⟩⟩ ⟨yk, yn, yb, ys⟩ = z at cl ⊢
    clear cl0 hy
    go_enter Try.func72, Try.ntmps72
    go_wp2_with fail
    refine wp_region_held_drew (S := fun _ => True) (by kernel_rfl) trivial (fun hS => ?_)
    obtain ⟨w20, hw20⟩ : ∃ w20, (w.alloc (.cells #[.int .i64 op, .int .i64 (cn : Int), .int .i64 xk, .int .i64 xn, .int .u64 (xb : Int), .string xs] 83)).drew = w20 := ⟨_, rfl⟩
    have hd20 : Below w.heap.size w w20 := hw20 ▸ (hba w (.cells #[.int .i64 op, .int .i64 (cn : Int), .int .i64 xk, .int .i64 xn, .int .u64 (xb : Int), .string xs] 83)).drew
    rw [hw20]
    have B20 := hid hd20
    have y0' := hkeep y0 hd20
    have y1' := hkeep y1 hd20
    have y2' := hkeep y2 hd20
    have y3' := hkeep y3 hd20
    have BX := BN.keep (BN.new 83 w ⟨op, (cn : Int), ⟨xk, xn, xb, xs⟩⟩) (hw20 ▸ (Below.refl _ _).drew : Below (w.alloc (.cells #[.int .i64 op, .int .i64 (cn : Int), .int .i64 xk, .int .i64 xn, .int .u64 (xb : Int), .string xs] 83)).heap.size (w.alloc (.cells #[.int .i64 op, .int .i64 (cn : Int), .int .i64 xk, .int .i64 xn, .int .u64 (xb : Int), .string xs] 83)) w20)
    obtain ⟨x0, x1, x2, x3, x4, x5, _, _, _, _, _, _, xl⟩ := BX.cells
    simp only at x0 x1 x2 x3 x4 x5
    clear BX y0 y1 y2 y3 q0 q1 q2 q3 q4 q5
    clear hd20 hw20
    refine wT 1 hS ?_
    refine wT 2 hS ?_
    refine wpAnyH_ready (rs := [0, 3]) (by kernel_rfl) (by simp) ?_
    refine wC (fun K hK => ?_) (wC (fun K hK => ?_) AllReadyH.nil)
    · go_simp
      refine hK.out _ _ trivial (fun _ => ?_)
      clear hK K
      (try simp only [Act.put, List.setIfInBounds_toArray, List.set_cons_zero, List.set_cons_succ])
      refine wpAnyH_ready (rs := [3]) (by kernel_rfl) (by simp) ?_
      refine wC (fun K hK => ?_) AllReadyH.nil
      go_simp
      refine hK.out _ _ trivial (fun _ => ?_)
      clear hK K
      (try simp only [Act.put, List.setIfInBounds_toArray, List.set_cons_zero, List.set_cons_succ])
      refine wT 4 hS ?_
      refine wpAnyH_ready (rs := [5]) (by kernel_rfl) (by simp) ?_
      refine wC (fun K hK => ?_) AllReadyH.nil
      go_simp
      refine hK.out _ _ trivial (fun _ => ?_)
      clear hK K
      (try simp only [Act.put, List.setIfInBounds_toArray, List.set_cons_zero, List.set_cons_succ])
      refine wpAnyH_ready (rs := [6]) (by kernel_rfl) (by simp) ?_
      refine wC (fun K hK => ?_) AllReadyH.nil
      go_simp
      refine (cl.out _).mono ?_; rintro e w21 ⟨rfl, b21⟩
      have B21 := hid (hnext B20.out b21)
      clear b21
      go_wp2_with fail
      refine hK.out _ _ trivial (fun _ => ?_)
      clear hK K
      (try simp only [Act.put, List.setIfInBounds_toArray, List.set_cons_zero, List.set_cons_succ])
      refine wT 7 hS ?_
      refine wpAnyH_done (by kernel_rfl) ?_ _
      go_wp2_with fail
      go_ret
      exact ⟨rfl, B21.out⟩
    · go_simp
      refine hK.out _ _ trivial (fun _ => ?_)
      clear hK K
      (try simp only [Act.put, List.setIfInBounds_toArray, List.set_cons_zero, List.set_cons_succ])
      refine wT 4 hS ?_
      refine wpAnyH_ready (rs := [0, 5]) (by kernel_rfl) (by simp) ?_
      refine wC (fun K hK => ?_) (wC (fun K hK => ?_) AllReadyH.nil)
      · go_simp
        refine hK.out _ _ trivial (fun _ => ?_)
        clear hK K
        (try simp only [Act.put, List.setIfInBounds_toArray, List.set_cons_zero, List.set_cons_succ])
        refine wpAnyH_ready (rs := [5]) (by kernel_rfl) (by simp) ?_
        refine wC (fun K hK => ?_) AllReadyH.nil
        go_simp
        refine hK.out _ _ trivial (fun _ => ?_)
        clear hK K
        (try simp only [Act.put, List.setIfInBounds_toArray, List.set_cons_zero, List.set_cons_succ])
        refine wpAnyH_ready (rs := [6]) (by kernel_rfl) (by simp) ?_
        refine wC (fun K hK => ?_) AllReadyH.nil
        go_simp
        refine (cl.out _).mono ?_; rintro e w21 ⟨rfl, b21⟩
        have B21 := hid (hnext B20.out b21)
        clear b21
        go_wp2_with fail
        refine hK.out _ _ trivial (fun _ => ?_)
        clear hK K
        (try simp only [Act.put, List.setIfInBounds_toArray, List.set_cons_zero, List.set_cons_succ])
        refine wT 7 hS ?_
        refine wpAnyH_done (by kernel_rfl) ?_ _
        go_wp2_with fail
        go_ret
        exact ⟨rfl, B21.out⟩
      · go_simp
        refine hK.out _ _ trivial (fun _ => ?_)
        clear hK K
        (try simp only [Act.put, List.setIfInBounds_toArray, List.set_cons_zero, List.set_cons_succ])
        refine wpAnyH_ready (rs := [0]) (by kernel_rfl) (by simp) ?_
        refine wC (fun K hK => ?_) AllReadyH.nil
        go_simp
        refine hK.out _ _ trivial (fun _ => ?_)
        clear hK K
        (try simp only [Act.put, List.setIfInBounds_toArray, List.set_cons_zero, List.set_cons_succ])
        refine wpAnyH_ready (rs := [6]) (by kernel_rfl) (by simp) ?_
        refine wC (fun K hK => ?_) AllReadyH.nil
        go_simp
        refine (cl.out _).mono ?_; rintro e w21 ⟨rfl, b21⟩
        have B21 := hid (hnext B20.out b21)
        clear b21
        go_wp2_with fail
        refine hK.out _ _ trivial (fun _ => ?_)
        clear hK K
        (try simp only [Act.put, List.setIfInBounds_toArray, List.set_cons_zero, List.set_cons_succ])
        refine wT 7 hS ?_
        refine wpAnyH_done (by kernel_rfl) ?_ _
        go_wp2_with fail
        go_ret
        exact ⟨rfl, B21.out⟩
  | not x t ih =>
    intro ht i rest w hv hu hd hcols
    have hi : i < l.length := by
      apply Classical.byContradiction
      intro h
      rw [List.drop_of_length_le (by omega)] at hd
      cases hd
    have hdc := hd
    rw [List.drop_eq_getElem_cons hi] at hdc
    obtain ⟨hx, hr⟩ := List.cons.inj hdc
    have HV := hid hv
    have HU := hid hu
    obtain ⟨adr, cap, rfl, hc⟩ := hv
    obtain ⟨uadr, ucap, rfl, _⟩ := hu
    obtain ⟨g, off, rfl, q0, q1, q2, q3, q4, q5⟩ := hc i hi
    rw [hx] at q0 q1 q2 q3 q4 q5
    have hi' : (i : Int) < (l.length : Int) := by omega
    have hi0 : (0 : Int) ≤ (i : Int) := by omega
    have wi : IntKind.i64.wrap ((i : Int) + 1) = ((i + 1 : Nat) : Int) := by rw [IntKind.wrap_i64]; omega
    have hct : colsOk t.ser row.length = true := by
      have h := hcols
      rw [show T.ser (.not x t) = [x] ++ t.ser from rfl, show colsOk ([x] ++ t.ser) row.length = (colsOk [x] row.length && colsOk t.ser row.length) from List.all_append, Bool.and_eq_true] at h
      exact h.2
    obtain ⟨op, col, ⟨xk, xn, xb, xs⟩⟩ := x
    obtain rfl : op = 11 := ht.1
    simp only at q0 q1 q2 q3 q4 q5
    have bx := hba w (.cells #[.int .i64 11, .int .i64 col, .int .i64 xk, .int .i64 xn, .int .u64 (xb : Int), .string xs] 83)
    have CI := hid (ih ht.2 (i + 1) rest (w.alloc (.cells #[.int .i64 11, .int .i64 col, .int .i64 xk, .int .i64 xn, .int .u64 (xb : Int), .string xs] 83)) (HV.out.below bx) (HU.out.below bx) hr hct)
    have LB := hid bx
    have BX0 := hid (BN.new 83 w ⟨11, col, ⟨xk, xn, xb, xs⟩⟩)
    have hrange := T.ev_range row t
    show Calls _ _ _ _ fun e w' => e = .returned (.int .i64 (notI (t.ev row))) ∧ _
    clear hx hr hd hc hcols ht ih hct bx hdc
    generalize t.ev row = z at CI hrange ⊢
    have hz3 : z = -1 ∨ z = 0 ∨ z = 1 := by omega
    clear hrange
    go_enter Try.func72, Try.ntmps72
    go_wp2_with fail
    refine CI.out.mono ?_; rintro e w1 ⟨rfl, b1⟩
    have LB1 := hid (hnext LB.out b1)
    obtain ⟨x0, x1, x2, x3, x4, x5, xf0, xf1, xf2, xf3, xf4, xf5, xl⟩ := (BX0.out.keep b1).cells
    simp only at x0 x1 x2 x3 x4 x5
    clear b1
    rcases hz3 with rfl | rfl | rfl
    all_goals
      go_wp2_with fail
      go_ret
      exact ⟨rfl, LB1.out⟩
  | bin x a b iha ihb =>
    intro ht i rest w hv hu hd hcols
    have hi : i < l.length := by
      apply Classical.byContradiction
      intro h
      rw [List.drop_of_length_le (by omega)] at hd
      cases hd
    have hdc := hd
    rw [List.drop_eq_getElem_cons hi] at hdc
    obtain ⟨hx, hr⟩ := List.cons.inj hdc
    have HV := hid hv
    have HU := hid hu
    obtain ⟨adr, cap, rfl, hc⟩ := hv
    obtain ⟨uadr, ucap, rfl, _⟩ := hu
    obtain ⟨g, off, rfl, q0, q1, q2, q3, q4, q5⟩ := hc i hi
    rw [hx] at q0 q1 q2 q3 q4 q5
    have hi' : (i : Int) < (l.length : Int) := by omega
    have hi0 : (0 : Int) ≤ (i : Int) := by omega
    have wi : IntKind.i64.wrap ((i : Int) + 1) = ((i + 1 : Nat) : Int) := by rw [IntKind.wrap_i64]; omega
    have hct : colsOk a.ser row.length = true ∧ colsOk b.ser row.length = true := by
      have h := hcols
      rw [show T.ser (.bin x a b) = [x] ++ (a.ser ++ b.ser) from rfl, show colsOk ([x] ++ (a.ser ++ b.ser)) row.length = (colsOk [x] row.length && colsOk (a.ser ++ b.ser) row.length) from List.all_append, show colsOk (a.ser ++ b.ser) row.length = (colsOk a.ser row.length && colsOk b.ser row.length) from List.all_append, Bool.and_eq_true, Bool.and_eq_true] at h
      exact h.2
    have hr1 : l.drop (i + 1) = a.ser ++ (b.ser ++ rest) := by rw [← List.append_assoc]; exact hr
    have hr2 : l.drop (i + 1 + a.ser.length) = b.ser ++ rest := by rw [← List.drop_drop, hr1, List.drop_left]
    have hend : endI l ((i + 1 : Nat) : Int) = ((i + 1 + a.ser.length : Nat) : Int) := by
      unfold endI
      rw [if_neg (by omega), Int.toNat_natCast, hr1, show ends 1 (a.ser ++ (b.ser ++ rest)) = _ from ends_ser a ht.2.1 0 (b.ser ++ rest), ends_zero]
      show ((i + 1 : Nat) : Int) + ((0 + a.ser.length : Nat) : Int) = _
      omega
    obtain ⟨op, col, ⟨xk, xn, xb, xs⟩⟩ := x
    simp only at q0 q1 q2 q3 q4 q5
    have hop : op = 9 ∨ op = 10 := ht.1
    have bx := hba w (.cells #[.int .i64 op, .int .i64 col, .int .i64 xk, .int .i64 xn, .int .u64 (xb : Int), .string xs] 83)
    have CI := hid (iha ht.2.1 (i + 1) (b.ser ++ rest) (w.alloc (.cells #[.int .i64 op, .int .i64 col, .int .i64 xk, .int .i64 xn, .int .u64 (xb : Int), .string xs] 83)) (HV.out.below bx) (HU.out.below bx) hr1 hct.1)
    have CE0 := fun W (h : NsAt W (.slice (some ⟨g, off, none⟩) l.length cap) l) => endR_any _ l HLL.out l.length ((i + 1 : Nat) : Int) W h (by omega) (by omega)
    rw [hend] at CE0
    have CE := hid CE0
    have CJ := hid (fun W h1 h2 => ihb ht.2.2 (i + 1 + a.ser.length) rest W h1 h2 hr2 hct.2)
    have LB := hid bx
    have BX0 := hid (BN.new 83 w ⟨op, col, ⟨xk, xn, xb, xs⟩⟩)
    have HV1 := hid (HV.out.below bx)
    have HU1 := hid (HU.out.below bx)
    have hra := T.ev_range row a
    have hrb := T.ev_range row b
    show Calls _ _ _ _ fun e w' => e = .returned (.int .i64 (if op = 9 then andI (a.ev row) (b.ev row) else orI (a.ev row) (b.ev row))) ∧ _
    clear hx hr hd hc hcols ht iha ihb hct bx hdc hr1 hr2 hend CE0
    generalize a.ev row = z at CI hra ⊢
    generalize b.ev row = y at CJ hrb ⊢
    generalize i + 1 + a.ser.length = J at CE CJ
    have hz3 : z = -1 ∨ z = 0 ∨ z = 1 := by omega
    have hy3 : y = -1 ∨ y = 0 ∨ y = 1 := by omega
    clear hra hrb
    rcases hop with rfl | rfl
    · go_enter Try.func72, Try.ntmps72
      go_wp2_with fail
      refine CI.out.mono ?_; rintro e w1 ⟨rfl, b1⟩
      have LB1 := hid (hnext LB.out b1)
      have HV2 := hid (HV1.out.below b1)
      have HU2 := hid (HU1.out.below b1)
      have BX1 := hid (BX0.out.keep b1)
      obtain ⟨x0, x1, x2, x3, x4, x5, xf0, xf1, xf2, xf3, xf4, xf5, xl⟩ := BX1.out.cells
      simp only at x0 x1 x2 x3 x4 x5
      clear b1
      go_wp2_with fail
      refine (CE.out _ HV2.out).mono ?_; rintro e w2 ⟨rfl, rfl⟩
      go_wp2_with fail
      refine (CJ.out _ HV2.out HU2.out).mono ?_; rintro e w3 ⟨rfl, b3⟩
      have LB3 := hid (hnext LB1.out b3)
      clear x0 x1 x2 x3 x4 x5 xf0 xf1 xf2 xf3 xf4 xf5 xl
      obtain ⟨x0, x1, x2, x3, x4, x5, xf0, xf1, xf2, xf3, xf4, xf5, xl⟩ := (BX1.out.keep b3).cells
      simp only at x0 x1 x2 x3 x4 x5
      clear b3
      rcases hz3 with rfl | rfl | rfl
      all_goals
        rcases hy3 with rfl | rfl | rfl
        all_goals
          go_wp2_with fail
          go_ret
          exact ⟨rfl, LB3.out⟩
    · go_enter Try.func72, Try.ntmps72
      go_wp2_with fail
      refine CI.out.mono ?_; rintro e w1 ⟨rfl, b1⟩
      have LB1 := hid (hnext LB.out b1)
      have HV2 := hid (HV1.out.below b1)
      have HU2 := hid (HU1.out.below b1)
      have BX1 := hid (BX0.out.keep b1)
      obtain ⟨x0, x1, x2, x3, x4, x5, xf0, xf1, xf2, xf3, xf4, xf5, xl⟩ := BX1.out.cells
      simp only at x0 x1 x2 x3 x4 x5
      clear b1
      go_wp2_with fail
      refine (CE.out _ HV2.out).mono ?_; rintro e w2 ⟨rfl, rfl⟩
      go_wp2_with fail
      refine (CJ.out _ HV2.out HU2.out).mono ?_; rintro e w3 ⟨rfl, b3⟩
      have LB3 := hid (hnext LB1.out b3)
      clear x0 x1 x2 x3 x4 x5 xf0 xf1 xf2 xf3 xf4 xf5 xl
      obtain ⟨x0, x1, x2, x3, x4, x5, xf0, xf1, xf2, xf3, xf4, xf5, xl⟩ := (BX1.out.keep b3).cells
      simp only at x0 x1 x2 x3 x4 x5
      clear b3
      rcases hz3 with rfl | rfl | rfl
      all_goals
        rcases hy3 with rfl | rfl | rfl
        all_goals
          go_wp2_with fail
          go_ret
          exact ⟨rfl, LB3.out⟩
set_option maxRecDepth 100000 in
set_option maxHeartbeats 6400000 in
theorem evalR_any (v u : Value) (l : List N) (row : List Cd.V) (w : World) (hv : NsAt w v l) (hu : VsAt w u row) (hl : l.length ≤ 1000000) (hok : ∀ x ∈ l, x.v.s.size ≤ maxLen ∧ x.v.b < 18446744073709551616) (hrk : ∀ x ∈ row, x.s.size ≤ maxLen ∧ x.b < 18446744073709551616) : Calls Try.prog 34 #[v, u] w fun e w' => e = .returned (.int .i64 (evalI l row)) ∧ Below w.heap.size w w' := by
  have cw0 := wholeR_any v l w hv hl
  have CT := hid (fun t ht => evalR_tree v u l row hl hok hrk t ht 0 [] w hv hu)
  obtain ⟨adr, cap, rfl, hc⟩ := hv
  obtain ⟨uadr, ucap, rfl, _⟩ := hu
  have HC := hid hc
  clear hc hok hrk
  cases hw : whole l with
  | false =>
    have HR : Hid (evalI l row = -1) := if_pos hw
    rw [hw] at cw0
    have cw := hid cw0
    clear cw0 hw CT
    go_enter Try.func34, Try.ntmps34
    go_wp2_with fail
    refine cw.out.mono ?_; rintro e w1 ⟨rfl, rfl⟩
    go_wp2_with fail
    go_ret
    rw [HR.out]
    exact ⟨rfl, Below.refl _ _⟩
  | true =>
    have HW := hid hw
    have HR1 : Hid (evalI l row = if colsOk l row.length = false then -1 else (stack row l).headD 0) := if_neg (by rw [hw]; decide)
    rw [hw] at cw0
    have cw := hid cw0
    clear cw0 hw
    go_enter Try.func34, Try.ntmps34
    go_wp2_with fail
    refine cw.out.mono ?_; rintro e w1 ⟨rfl, rfl⟩
    go_wp2_with fail
    go_loopw [5] (fun i wr => ∃ k : Nat, k ≤ l.length ∧ i = .int .i64 (k : Int) ∧ Hid (∀ j (hj : j < l.length), j < k → 0 ≤ l[j].col ∧ l[j].col < (row.length : Int)) ∧ wr = w) (fun i _ => l.length - (intOf i).toNat)
    case atStart => exact ⟨0, by omega, rfl, hid (fun j _ hj => absurd hj (Nat.not_lt_zero j)), rfl⟩
    case round =>
      obtain ⟨k, hk, rfl, hall, rfl⟩ := hrel
      have hk0 : (0 : Int) ≤ (k : Int) := by omega
      by_cases hkl : k < l.length
      · have hkl' : (k : Int) < (l.length : Int) := by omega
        obtain ⟨g, off, rfl, _, q1, _, _, _, _⟩ := HC.out k hkl
        have HN := hid (colsOk_no (n := row.length) hkl)
        have HA : Hid (∀ h : 0 ≤ l[k].col ∧ l[k].col < (row.length : Int), ∀ j (hj : j < l.length), j < k + 1 → 0 ≤ l[j].col ∧ l[j].col < (row.length : Int)) := fun h j hj hjk => if e : j < k then hall.out j hj e else by
          have : j = k := by omega
          subst this; exact h
        generalize l[k].col = col at q1 HN HA
        clear hall
        by_cases c1 : col < 0
        · have HR : Hid (evalI l row = -1) := by show _ = _; rw [HR1.out, if_pos (HN.out (.inl c1))]
          clear HN HA
          go_wp2_with fail
          go_ret
          rw [HR.out]
          exact ⟨rfl, Below.refl _ _⟩
        · by_cases c2 : (row.length : Int) ≤ col
          · have HR : Hid (evalI l row = -1) := by show _ = _; rw [HR1.out, if_pos (HN.out (.inr c2))]
            clear HN HA
            go_wp2_with fail
            go_ret
            rw [HR.out]
            exact ⟨rfl, Below.refl _ _⟩
          · have HA2 := hid (HA.out ⟨by omega, by omega⟩)
            clear HN HA
            go_wp2_with fail
            go_roundw
            case rel => exact ⟨k + 1, by omega, by go_num, HA2, by first | rfl | trivial⟩
            case measure => simp [intOf]; omega
      · obtain rfl : k = l.length := by omega
        have hcol := colsOk_yes (fun j (hj : j < l.length) => hall.out j hj hj)
        obtain ⟨t, ht, ht2⟩ := tree (whole_ends HW.out).1
        have h40 := (whole_ends HW.out).2.2
        have HT := hid (CT.out t ht (by rw [List.drop_zero, List.append_nil]; exact ht2) (by rw [← ht2]; exact hcol))
        have HR : Hid (evalI l row = t.ev row) := by
          show _ = _
          rw [ht2] at hcol h40 ⊢
          exact evalI_tree row ht h40 hcol
        clear hall HR1 CT hcol ht ht2 h40
        go_wp2_with fail
        refine HT.out.mono ?_; rintro e w2 ⟨rfl, b2⟩
        go_wp2_with fail
        go_ret
        rw [HR.out]
        exact ⟨rfl, b2⟩
end Go.Proofs.Ytmcneelapghfcaa
