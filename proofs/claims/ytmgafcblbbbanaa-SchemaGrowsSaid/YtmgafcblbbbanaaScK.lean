/-
  Key of schema, and the reference's: their contracts. Condition: the texts have at most 2^63 - 1 bytes.
-/
import Derived.Test.YtmgafcblbbbanaaScH
import Derived.Test.YtmgafcblbbbanaaOp
import Derived.Test.YtmgafcblbbbanaaVc
import Derived.Laws.AppendOwnNone
namespace Go.Proofs.Ytmgafcblbbbanaa
open Go.RowKit

/-- a row's key -/
def Sc.key (s : Sc.S) (l : List Cd.V) : List Cd.V := if Sc.fits s l = 0 then l.take s.keys.toNat else []
theorem Sc.fits_zero {s : Sc.S} {l : List Cd.V} (h : Sc.fits s l = 0) : Sc.right s = true ∧ l.length = s.cols.length ∧ 1 ≤ s.keys ∧ s.keys ≤ 8 ∧ s.keys ≤ (s.cols.length : Int) ∧ s.cols.length ≤ 16 ∧ Sc.fitAll s.cols l = true := by
  unfold Sc.fits at h
  split at h
  · omega
  · split at h
    · omega
    · split at h
      · rename_i h1 h2 h3
        have hr : Sc.right s = true := by simpa using h1
        refine ⟨hr, by simpa using h2, ?_⟩
        unfold Sc.right at hr
        simp only [Bool.and_eq_true, decide_eq_true_eq] at hr
        obtain ⟨⟨⟨⟨⟨_, a1⟩, a2⟩, a3⟩, a4⟩, _⟩ := hr
        exact ⟨a2, a3, a4, a1, h3⟩
      · omega
/-- a row's cells at a place -/
theorem VsAt.at {w : World} {adr : Option Addr} {cap n : Nat} {l : List Cd.V} (h : VsAt w (.slice adr n cap) l) (hl : 0 < l.length) : n = l.length ∧ ∃ g off, adr = some ⟨g, off, none⟩ ∧ ∀ j u, (vcells l)[j]? = some u → w.cell? ⟨g, off + j, none⟩ = some u := by
  obtain ⟨adr', cap', e, hc⟩ := h
  cases e
  refine ⟨rfl, ?_⟩
  obtain ⟨g, off, rfl, _⟩ := hc 0 hl
  refine ⟨g, off, rfl, fun j u hj => ?_⟩
  have hjl : j < l.length * 4 := by
    have := (List.getElem?_eq_some_iff.1 hj).1
    rw [vcells_length] at this; exact this
  obtain ⟨q, r, rfl, hr⟩ : ∃ q r, j = q * 4 + r ∧ r < 4 := ⟨j / 4, j % 4, by omega, by omega⟩
  have hq : q < l.length := by omega
  obtain ⟨g', off', e, q0, q1, q2, q3⟩ := hc q hq
  cases e
  obtain ⟨g0, g1, g2, g3⟩ := vcells_get (List.getElem?_eq_getElem hq)
  have hr' : r = 0 ∨ r = 1 ∨ r = 2 ∨ r = 3 := by omega
  rcases hr' with rfl | rfl | rfl | rfl
  · rw [Nat.add_zero] at hj ⊢
    rw [g0] at hj; cases hj; exact q0
  · rw [g1] at hj; cases hj; rw [← Nat.add_assoc]; exact q1
  · rw [g2] at hj; cases hj; rw [← Nat.add_assoc]; exact q2
  · rw [g3] at hj; cases hj; rw [← Nat.add_assoc]; exact q3
/-- 'append(out, row...)', out of the call's own -/
theorem append_row (w : World) {ops : Array Oper} {rest : List Oper} {o : Oper} {a : Act} {Q : Exit → Act → World → Prop} (hgd : o.guard = none) (s x : Operand)
    (ho : o.op = .call { callee := .builtin .append, args := #[s, x], argTypes := #[32, 32] })
    (B : Nat) (v : Value) (l : List Cd.V) (hs : a.eval s = v) (hown : w.ownsRow B 46 4 v l.length (vcells l)) (r : List Cd.V) (xv : Value) (hx : a.eval x = xv) (adr : Option Addr) (n cap : Nat) (hxv : xv = .slice adr n cap) (hr : VsAt w xv r)
    (hc : adr = none → cap = 0) (hlen : l.length + r.length ≤ 1000000) (hB : B ≤ w.heap.size)
    (hK : ∀ v' w', w'.ownsRow B 46 4 v' (l ++ r).length (vcells (l ++ r)) → w.grownBy w' v.ownBlock → wpList Try.prog ops Q rest (a.put o.dst v') w') :
    wpList Try.prog ops Q (o :: rest) a w := by
  obtain ⟨i0, hi, hz0, hz1, hz2⟩ := info_parts Try.infoValue
  have hn : n = r.length := by obtain ⟨_, _, e, _⟩ := hr; rw [hxv] at e; cases e; rfl
  subst hn
  cases adr with
  | none =>
    have hr0 : r = [] := by
      cases r with
      | nil => rfl
      | cons y r' => obtain ⟨_, _, e, hcc⟩ := hr; rw [hxv] at e; cases e; obtain ⟨_, _, e, _⟩ := hcc 0 (by simp); cases e
    subst hr0
    have hc0 := hc rfl
    subst hc0
    refine wpList_append_own_none hgd s x 32 ho B 46 i0 4 Try.underlying32 hi v l.length (vcells l) hs hown (by rw [hx, hxv]; rfl) ?_
    refine hK v w (by rw [List.append_nil]; exact hown) ⟨rfl, rfl, rfl, Nat.le_refl _, fun _ _ _ => rfl⟩
  | some ad =>
    have hcell : ∀ j u, (vcells r)[j]? = some u → w.cell? (ad.add j) = some u := by
      intro j u hj
      have hr0 : 0 < r.length := by
        have := (List.getElem?_eq_some_iff.1 hj).1
        rw [vcells_length] at this; omega
      rw [hxv] at hr
      obtain ⟨_, g, off, e, hh⟩ := hr.at hr0
      cases e
      have hadd : (⟨g, off, none⟩ : Addr).add j = ⟨g, off + j, none⟩ := by unfold Addr.add; split <;> simp_all
      rw [hadd]
      exact hh j u hj
    refine wpList_append_own _ hgd s x 32 ho B 46 i0 (.agg #[.int .i64 0, .int .i64 0, .int .u64 0, .string ⟨#[]⟩]) 4 40 Try.underlying32 hi hz0 hz1 hz2 rfl (by decide) v l.length (vcells l) hs hown ad r.length cap (vcells r) (by rw [hx, hxv]) (vcells_length r) hcell (vcells_one_cell r) ?_ ?_ hB ?_
    · unfold maxLen; omega
    · omega
    · intro v' w' hown' hgrow _
      exact hK v' w' (by rw [vcells_append, List.length_append]; exact hown') hgrow
theorem VsAt.take {w : World} {adr : Option Addr} {cap : Nat} {l : List Cd.V} (h : VsAt w (.slice adr l.length cap) l) (n : Nat) (hn : n ≤ l.length) (cap' : Nat) : VsAt w (.slice adr n cap') (l.take n) := by
  obtain ⟨adr', cap'', e, hc⟩ := h
  cases e
  refine ⟨adr, cap', by rw [List.length_take, Nat.min_eq_left hn], fun k hk => ?_⟩
  have hk' : k < l.length := by rw [List.length_take] at hk; omega
  have hg : (l.take n)[k] = l[k] := List.getElem_take ..
  rw [hg]
  exact hc k hk'
/-- a row in memory, with what its slice may hold -/
def RsAt (w : World) (v : Value) (l : List Cd.V) : Prop := VsAt w v l ∧ ∃ adr cap, v = .slice adr l.length cap ∧ l.length ≤ cap ∧ cap ≤ maxLen ∧ (adr = none → cap = 0)
theorem RsAt.below {w w' : World} {v : Value} {l : List Cd.V} (h : RsAt w v l) (hb : Below w.heap.size w w') : RsAt w' v l := ⟨h.1.below hb, h.2⟩
theorem RsAt.len {w : World} {v : Value} {l : List Cd.V} (h : RsAt w v l) : l.length ≤ maxLen := by
  obtain ⟨_, _, _, _, h1, h2, _⟩ := h
  exact Nat.le_trans h1 h2
theorem RsAt.own {w : World} {B : Nat} {v : Value} {l : List Cd.V} (h : w.ownsRow B 46 4 v l.length (vcells l)) : RsAt w v l := by
  refine ⟨VsAt.own h, ?_⟩
  rcases h.2 with ⟨rfl, hn⟩ | ⟨g, cap, cur, rfl, _, _, h1, h2, _⟩
  · exact ⟨none, 0, by rw [hn], by omega, by decide, fun _ => rfl⟩
  · exact ⟨_, cap, rfl, h1, h2, fun e => by cases e⟩
theorem RsAt.nil (w : World) : RsAt w (.slice none 0 0) [] := ⟨⟨none, 0, rfl, fun k hk => absurd hk (Nat.not_lt_zero k)⟩, none, 0, rfl, Nat.le_refl _, by decide, fun _ => rfl⟩
theorem open_rows {H : Type} {enc : TypeId × Value → H} {W : World} {base b0 : Nat} {sp : Nat → Bool} {hd : Bool} {r : Reach} {v : Value} {d : DataW H} {p : List MemPlace} (hv : Value.okWide Try.prog W r b0 32 v) (h : DataW.Trod enc Try.prog W base sp hd 32 v d p) :
    ∃ l : List Cd.V, RsAt W v l ∧ ∀ x ∈ l, Vok x := by
  obtain ⟨l, h1, h2, h3⟩ := open_values hv h
  refine ⟨l, ⟨h2, ?_⟩, h3⟩
  obtain ⟨adr, cap, rfl, _⟩ := h2
  obtain ⟨fuel, hf⟩ := h
  rcases Go.Deep.open_slice Try.underlying32 hf with ⟨e, _⟩ | ⟨a', len', cap', m, n, D, Pl, e, hb, hl, hc, _⟩
  · simp [Value.cells] at e
    obtain ⟨rfl, e1, rfl⟩ := e
    exact ⟨none, 0, rfl, by rw [e1]; exact Nat.le_refl _, by decide, fun _ => rfl⟩
  · simp [Value.cells] at e
    obtain ⟨rfl, rfl, rfl⟩ := e
    exact ⟨_, _, rfl, hl, hc, fun e => by cases e⟩
/-- what Key leaves -/
def KeyP (l : List Cd.V) (w : World) (e : Ending) (w' : World) : Prop := (∃ v', e = .returned v' ∧ w'.ownsRow w.heap.size 46 4 v' l.length (vcells l)) ∧ Below w.heap.size w w'
set_option maxRecDepth 100000 in
set_option maxHeartbeats 6400000 in
theorem key_any (s : Sc.S) (v : Value) (l : List Cd.V) (u : Value) (w : World) (h : CsAt w v s.cols) (hsz : Sok s) (hu0 : RsAt w u l) (hrk : Rok l) :
    Calls Try.prog 26 #[sv s v, u] w (KeyP (Sc.key s l) w) := by
  have hu := hu0.1
  have hl := hu0.len
  have hbox := hba w (.cells #[.string s.name, v, .int .i64 s.keys] 24)
  have hR := hid (fits_any s v l u _ (h.below hbox) hsz (hu.below hbox) hl hrk)
  have hU := hid (hu.below hbox)
  obtain ⟨adr, cap, rfl, hc1, hc2, hc⟩ := h
  obtain ⟨adr2, cap2, rfl, hcap, _, hnone⟩ := hu0.2
  have HBOX := hid hbox
  have HS0 := hid (BS.new w s.name (.slice adr s.cols.length cap) s.keys)
  clear hbox hu hu0 hc
  by_cases hz : Sc.fits s l = 0
  · obtain ⟨_, f1, f2, f3, f4, f5, _⟩ := Sc.fits_zero hz
    have HE : Hid (Sc.key s l = l.take s.keys.toNat) := by show _ = _; unfold Sc.key; rw [if_pos hz]
    rw [hz] at hR
    unfold sv at hR ⊢
    obtain ⟨ks, hks⟩ : ∃ ks : Nat, s.keys = (ks : Int) := ⟨s.keys.toNat, by omega⟩
    rw [hks] at hR HE HS0 f2 f3 f4 HBOX hU ⊢
    rw [Int.toNat_natCast] at HE
    have hkl : ks ≤ l.length := by omega
    have hkl' : (ks : Int) ≤ (l.length : Int) := by omega
    have hk0 : (0 : Int) ≤ (ks : Int) := by omega
    have hl16 : l.length ≤ 16 := by omega
    have HL := hid hl16
    have hcap' : (ks : Int) ≤ (cap2 : Int) := by omega
    clear hz hl16 hl hrk hsz f1 f5 hks
    go_enter Try.func26, Try.ntmps26
    go_wp2_with fail
    refine (hR.out).mono ?_; rintro e w1 ⟨rfl, hb1⟩
    have hS1 := HS0.out.keep hb1
    have hU1 := hid ((hU.out.below hb1).take ks hkl cap2)
    have hB1 := hid (hnext HBOX.out hb1)
    clear hb1 hU HBOX
    obtain ⟨s0, s1, s2, sl⟩ := hS1.cells
    go_wp2_with (at_builtin; refine append_row _ rfl _ _ rfl w.heap.size _ [] rfl (World.ownsRow_nil _ _ _ _) (l.take ks) _ rfl adr2 ks cap2 (by first | rfl | (simp; done)) hU1.out hnone (by simp; have := HL.out; omega) hB1.out.size ?_; intro v6 w6 hown6 hgrow6; have hO6 := hid hown6; have hG6 := hid hgrow6; clear hown6 hgrow6)
    go_ret
    rw [HE.out]
    exact ⟨⟨_, rfl, hO6.out⟩, hB1.out.grown hG6.out hB1.out.size (fun q hq => by cases hq)⟩
  · have HE : Hid (Sc.key s l = []) := by show _ = _; unfold Sc.key; rw [if_neg hz]
    unfold sv at hR ⊢
    obtain ⟨fz, hfz⟩ : ∃ fz, Sc.fits s l = fz := ⟨_, rfl⟩
    rw [hfz] at hR hz
    have e1 : (fz != 0) = true := by rw [bne_iff_ne]; exact hz
    clear hz hfz
    go_enter Try.func26, Try.ntmps26
    go_wp2_with fail
    refine (hR.out).mono ?_; rintro e w1 ⟨rfl, hb1⟩
    go_wp2_with fail
    go_ret
    rw [HE.out]
    exact ⟨⟨_, rfl, World.ownsRow_nil _ _ _ _⟩, hnext HBOX.out hb1⟩
set_option maxRecDepth 100000 in
set_option maxHeartbeats 6400000 in
theorem keyR_any (s : Sc.S) (v : Value) (l : List Cd.V) (u : Value) (w : World) (h : CsAt w v s.cols) (hsz : Sok s) (hu0 : RsAt w u l) (hrk : Rok l) (hrb : ∀ x ∈ l, x.b < 18446744073709551616) :
    Calls Try.prog 27 #[sv s v, u] w (KeyP (Sc.key s l) w) := by
  have hu := hu0.1
  have hl := hu0.len
  have hbox := hba w (.cells #[.string s.name, v, .int .i64 s.keys] 24)
  have hR := hid (fitsR_any s v l u _ (h.below hbox) hsz (hu.below hbox) hl hrk hrb)
  have hU := hid (hu.below hbox)
  obtain ⟨adr, cap, rfl, hc1, hc2, hc⟩ := h
  obtain ⟨adr2, cap2, rfl, hcap, _, hnone⟩ := hu0.2
  have HBOX := hid hbox
  have HS0 := hid (BS.new w s.name (.slice adr s.cols.length cap) s.keys)
  clear hbox hu hu0 hc
  by_cases hz : Sc.fits s l = 0
  · obtain ⟨_, f1, f2, f3, f4, f5, _⟩ := Sc.fits_zero hz
    have HE : Hid (Sc.key s l = l.take s.keys.toNat) := by show _ = _; unfold Sc.key; rw [if_pos hz]
    rw [hz] at hR
    unfold sv at hR ⊢
    obtain ⟨ks, hks⟩ : ∃ ks : Nat, s.keys = (ks : Int) := ⟨s.keys.toNat, by omega⟩
    rw [hks] at hR HE HS0 f2 f3 f4 HBOX hU ⊢
    rw [Int.toNat_natCast] at HE
    have hkl : ks ≤ l.length := by omega
    have hkl' : (ks : Int) ≤ (l.length : Int) := by omega
    have hk0 : (0 : Int) ≤ (ks : Int) := by omega
    have hl16 : l.length ≤ 16 := by omega
    have HL := hid hl16
    have hcap' : (ks : Int) ≤ (cap2 : Int) := by omega
    clear hz hl16 hl hrk hsz f1 f5 hks
    go_enter Try.func27, Try.ntmps27
    go_wp2_with fail
    refine (hR.out).mono ?_; rintro e w1 ⟨rfl, hb1⟩
    have hS1 := HS0.out.keep hb1
    have hU1 := hid ((hU.out.below hb1).take ks hkl cap2)
    have hB1 := hid (hnext HBOX.out hb1)
    clear hb1 hU HBOX
    obtain ⟨s0, s1, s2, sl⟩ := hS1.cells
    go_wp2_with (at_builtin; refine append_row _ rfl _ _ rfl w.heap.size _ [] rfl (World.ownsRow_nil _ _ _ _) (l.take ks) _ rfl adr2 ks cap2 (by first | rfl | (simp; done)) hU1.out hnone (by simp; have := HL.out; omega) hB1.out.size ?_; intro v6 w6 hown6 hgrow6; have hO6 := hid hown6; have hG6 := hid hgrow6; clear hown6 hgrow6)
    go_ret
    rw [HE.out]
    exact ⟨⟨_, rfl, hO6.out⟩, hB1.out.grown hG6.out hB1.out.size (fun q hq => by cases hq)⟩
  · have HE : Hid (Sc.key s l = []) := by show _ = _; unfold Sc.key; rw [if_neg hz]
    unfold sv at hR ⊢
    obtain ⟨fz, hfz⟩ : ∃ fz, Sc.fits s l = fz := ⟨_, rfl⟩
    rw [hfz] at hR hz
    have e1 : (fz != 0) = true := by rw [bne_iff_ne]; exact hz
    clear hz hfz
    go_enter Try.func27, Try.ntmps27
    go_wp2_with fail
    refine (hR.out).mono ?_; rintro e w1 ⟨rfl, hb1⟩
    go_wp2_with fail
    go_ret
    rw [HE.out]
    exact ⟨⟨_, rfl, World.ownsRow_nil _ _ _ _⟩, hnext HBOX.out hb1⟩
end Go.Proofs.Ytmgafcblbbbanaa
