/-
  The reference's Name; schemas in memory; Same of both: their contracts. Condition: the texts have at most 2^63 - 1 bytes.
-/
import Derived.Test.YtmgafcblbbbanaaScN
import Derived.Test.YtmgafcblbbbanaaRo
namespace Go.Proofs.Ytmgafcblbbbanaa
open Go.RowKit

set_option maxRecDepth 100000 in
set_option maxHeartbeats 3200000 in
theorem nameR_any (s : ByteArray) (hs : s.size ≤ maxLen) (w : World) : Calls Try.prog 14 #[.string s] w fun e w' => e = .returned (.bool (Sc.nameB s)) ∧ w = w' := by
  unfold maxLen at hs
  go_enter Try.func14, Try.ntmps14
  go_wp2_with fail
  go_loop [3, 4, 5] (fun a _ _ => ∃ p : Nat, p ≤ s.size ∧ a = .int .i64 (p : Int) ∧ Hid (Sc.nameTo s p = true)) (fun a _ _ => s.size - (intOf a).toNat)
  case atStart => exact ⟨0, by omega, rfl, rfl⟩
  case round =>
    obtain ⟨p, hp, rfl, hN⟩ := hrel
    by_cases hlt : p < s.size
    · have hp0 : (0 : Int) ≤ (p : Int) := by omega
      have hlt' : (p : Int) < s.size := by omega
      have hno : Hid (Sc.okAt p s[p].toNat = false → Sc.nameB s = false) := Sc.name_no hlt
      have hyes : Hid (Sc.okAt p s[p].toNat = true → Sc.nameTo s (p + 1) = true) := fun h => by rw [Sc.nameTo_succ s p hlt, hN.out, h]; rfl
      have hcc := okAt_cases p s[p].toNat
      obtain ⟨c, hc⟩ : ∃ c, s[p].toNat = c := ⟨_, rfl⟩
      rw [hc] at hno hyes hcc
      rcases hcc with ⟨hok, hcs⟩ | ⟨hok, hcs⟩
      · have HT := hid (hyes.out hok)
        clear hok hno hyes hN
        have fin : p + 1 ≤ s.size := hlt
        rcases hcs with h1 | h1 | h1
        · have h2 : (97 : Int) ≤ (c : Int) := by omega
          have h3 : (c : Int) ≤ 122 := by omega
          go_wp2_with fail
          go_round
          case rel => exact ⟨p + 1, fin, by go_num, HT⟩
          case measure => simp [intOf]; omega
        · obtain rfl : 95 = c := h1.symm
          go_wp2_with fail
          go_round
          case rel => exact ⟨p + 1, fin, by go_num, HT⟩
          case measure => simp [intOf]; omega
        · have h2 : (48 : Int) ≤ (c : Int) := by omega
          have h3 : (c : Int) ≤ 57 := by omega
          have h4 : ((c : Int) == 95) = false := by rw [beq_eq_false_iff_ne]; omega
          have h5 : ((p : Int) == 0) = false := by rw [beq_eq_false_iff_ne]; omega
          have h6 : decide ((57 : Int) < (c : Int)) = false := decide_eq_false (by omega)
          go_wp2_with fail
          go_round
          case rel => exact ⟨p + 1, fin, by go_num, HT⟩
          case measure => simp [intOf]; omega
      · have HF := hid (hno.out hok)
        clear hok hno hyes hN
        have h4 : ((c : Int) == 95) = false := by rw [beq_eq_false_iff_ne]; omega
        rcases hcs with h1 | h1 | h1 | h1 | h1
        · have h2 : (c : Int) < 48 := by omega
          obtain ⟨p5, h5⟩ : ∃ b, ((p : Int) == 0) = b := ⟨_, rfl⟩
          cases p5
          all_goals
            go_wp2_with fail
            go_ret
            rw [HF.out]
            exact ⟨rfl, rfl⟩
        · have h2 : (57 : Int) < (c : Int) := by omega
          have h3 : (c : Int) < 95 := by omega
          obtain ⟨p5, h5⟩ : ∃ b, ((p : Int) == 0) = b := ⟨_, rfl⟩
          have h6 : decide ((57 : Int) < (c : Int)) = true := decide_eq_true (by omega)
          cases p5
          all_goals
            go_wp2_with fail
            go_ret
            rw [HF.out]
            exact ⟨rfl, rfl⟩
        · obtain rfl : 96 = c := h1.symm
          obtain ⟨p5, h5⟩ : ∃ b, ((p : Int) == 0) = b := ⟨_, rfl⟩
          cases p5
          all_goals
            go_wp2_with fail
            go_ret
            rw [HF.out]
            exact ⟨rfl, rfl⟩
        · have h2 : (122 : Int) < (c : Int) := by omega
          have h6 : decide ((c : Int) ≤ 122) = false := decide_eq_false (by omega)
          have h7 : decide ((57 : Int) < (c : Int)) = true := decide_eq_true (by omega)
          obtain ⟨p5, h5⟩ : ∃ b, ((p : Int) == 0) = b := ⟨_, rfl⟩
          cases p5
          all_goals
            go_wp2_with fail
            go_ret
            rw [HF.out]
            exact ⟨rfl, rfl⟩
        · obtain ⟨h1, h2, rfl⟩ := h1
          have h3 : (48 : Int) ≤ (c : Int) := by omega
          have h5 : (c : Int) ≤ 57 := by omega
          go_wp2_with fail
          go_ret
          rw [HF.out]
          exact ⟨rfl, rfl⟩
    · obtain rfl : p = s.size := by omega
      have HE := hid (Sc.name_end hN.out)
      clear hN hp
      by_cases h0 : s.size = 0
      · have h2 : (s.size : Int) < 1 := by omega
        have HE2 : Hid (Sc.nameB s = false) := by show _ = _; rw [HE.out, h0]; rfl
        clear h0
        go_wp2_with fail
        go_ret
        rw [HE2.out]
        exact ⟨rfl, rfl⟩
      · have h2 : (1 : Int) ≤ (s.size : Int) := by omega
        have HE2 : Hid (Sc.nameB s = decide ((s.size : Int) ≤ 32)) := by show _ = _; rw [HE.out, decide_eq_true (show 1 ≤ s.size by omega), Bool.true_and, Bool.eq_iff_iff]; simp only [decide_eq_true_eq]; omega
        clear h0
        go_wp2_with fail
        all_goals
          go_ret
          rw [HE2.out]
          first | exact ⟨rfl, rfl⟩ | exact ⟨by rw [decide_eq_true (by omega)], rfl⟩ | exact ⟨by rw [decide_eq_false (by omega)], rfl⟩

/-- columns in memory -/
def CsAt (w : World) (v : Value) (l : List Sc.C) : Prop :=
  ∃ adr cap, v = .slice adr l.length cap ∧ l.length ≤ cap ∧ cap ≤ maxLen ∧ ∀ k (hk : k < l.length), ∃ g off, adr = some ⟨g, off, none⟩ ∧ w.cell? ⟨g, off + k * 3, none⟩ = some (.string l[k].name) ∧ w.cell? ⟨g, off + k * 3 + 1, none⟩ = some (.int .i64 l[k].kind) ∧
    w.cell? ⟨g, off + k * 3 + 2, none⟩ = some (.bool l[k].need)
theorem CsAt.below {w w' : World} {v : Value} {l : List Sc.C} (h : CsAt w v l) (hb : Below w.heap.size w w') : CsAt w' v l := by
  obtain ⟨adr, cap, rfl, h1, h2, hc⟩ := h
  refine ⟨adr, cap, rfl, h1, h2, fun k hk => ?_⟩
  obtain ⟨g, off, rfl, q0, q1, q2⟩ := hc k hk
  exact ⟨g, off, rfl, hkeep q0 hb, hkeep q1 hb, hkeep q2 hb⟩
/-- a schema as a value, its columns being v -/
def sv (s : Sc.S) (v : Value) : Value := .agg #[.string s.name, v, .int .i64 s.keys]
/-- what texts a schema has -/
def Sok (s : Sc.S) : Prop := s.name.size ≤ maxLen ∧ ∀ c ∈ s.cols, c.name.size ≤ maxLen
theorem Try.cHeld : Try.prog.stoodInHeld 49 = false := by kernel_rfl
/-- a column as a value -/
def cv (c : Sc.C) : Value := .agg #[.string c.name, .int .i64 c.kind, .bool c.need]
theorem c_equalIn (a b : Sc.C) (w : World) : (Op.equalIn 10000 49 (cv a) (cv b)).run Try.prog w = .ok (decide (a = b)) w := by
  have hd : decide (a = b) = (a.name.toList == b.name.toList && (a.kind == b.kind && a.need == b.need)) := by
    rw [bytes_beq, Bool.eq_iff_iff]
    cases a; cases b
    simp
  rw [hd]
  unfold cv
  rw [run_equalIn_agg w 9999 49 _ _ (by kernel_rfl) Try.cHeld]
  cases h1 : (a.name.toList == b.name.toList) <;> cases h2 : (a.kind == b.kind) <;> cases h3 : (a.need == b.need)
  all_goals
    go_simp
theorem c_eql (a b : Sc.C) (r : Bool) (h : decide (a = b) = r) (w : World) : (binOp .eql 49 (cv a) (cv b)).run Try.prog w = .ok (.bool r) w := by
  subst h
  have h := c_equalIn a b w
  unfold cv at h ⊢
  simp [binOp, Op.equal, Op.maxDepth, h]
theorem c_neq (a b : Sc.C) (r : Bool) (h : decide (a = b) = r) (w : World) : (binOp .neq 49 (cv a) (cv b)).run Try.prog w = .ok (.bool (!r)) w := by
  subst h
  have h := c_equalIn a b w
  unfold cv at h ⊢
  simp [binOp, Op.equal, Op.maxDepth, h]
end Go.Proofs.Ytmgafcblbbbanaa
