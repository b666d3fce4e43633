/-
  Right of the reference of schema: its contract. Condition: the texts have at most 2^63 - 1 bytes.
-/
import Derived.Test.YtmgafcblbbbanaaScR
namespace Go.Proofs.Ytmgafcblbbbanaa
open Go.RowKit

set_option maxRecDepth 100000 in
set_option maxHeartbeats 12800000 in
theorem rightR_sc (s : Sc.S) (v : Value) (w : World) (h : CsAt w v s.cols) (hsz : Sok s) :
    Calls Try.prog 12 #[sv s v] w fun e w' => e = .returned (.bool (Sc.right s)) ∧ Below w.heap.size w w' := by
  obtain ⟨adr, cap, rfl, hc1, hc2, hc⟩ := h
  have HC := hid hc
  unfold maxLen at hc2
  clear hc
  have hways := head_ways s
  have hno : Hid (∀ k (hk : k < s.cols.length), (Sc.colOk s.keys k s.cols[k] && Sc.fresh s.cols k s.cols[k].name) = false → Sc.right s = false) := fun k hk h => Sc.right_no hk h
  have hgo : Hid (∀ k (hk : k < s.cols.length), Sc.goodTo s (k + 1) = (Sc.goodTo s k && (Sc.colOk s.keys k s.cols[k] && Sc.fresh s.cols k s.cols[k].name))) := fun k hk => Sc.goodTo_succ s k hk
  have hg0 : Hid (Sc.goodTo s 0 = true) := rfl
  obtain ⟨hsz1, hsz2⟩ := hsz
  have HSZ := hid hsz2
  clear hsz2
  have hn := hid (fun W => nameR_any s.name hsz1 W)
  generalize Sc.right s = R at hways hno ⊢
  generalize Sc.goodTo s = G at hways hgo hg0
  unfold sv
  obtain ⟨nm, cs, ks⟩ := s
  simp only at hc1 HC hways hno hgo hsz1 HSZ hn ⊢
  rcases hways with ⟨hF, hw⟩ | ⟨h1, h2, h3, h4, h5, hG⟩
  · have HF := hid hF
    clear hF hno hgo hg0
    rcases hw with h1 | ⟨h1, hw⟩
    · rw [h1] at hn
      clear h1
      go_enter Try.func12, Try.ntmps12
      go_wp2_with fail
      refine (hn.out _).mono ?_; rintro e w1 ⟨rfl, rfl⟩
      have hS1 := BS.new w nm (.slice adr cs.length cap) ks
      have hB1 := hba w (.cells #[.string nm, .slice adr cs.length cap, .int .i64 ks] 24)
      generalize w.alloc (.cells #[.string nm, .slice adr cs.length cap, .int .i64 ks] 24) = w1 at *
      obtain ⟨s0, s1, s2, sl⟩ := hS1.cells
      go_wp2_with fail
      all_goals
        go_ret
        rw [HF.out]
        exact ⟨rfl, hB1⟩
    rw [h1] at hn
    clear h1
    rcases hw with h2 | ⟨h2, hw⟩
    · have h2' : (16 : Int) < (cs.length : Int) := by omega
      go_enter Try.func12, Try.ntmps12
      go_wp2_with fail
      refine (hn.out _).mono ?_; rintro e w1 ⟨rfl, rfl⟩
      have hS1 := BS.new w nm (.slice adr cs.length cap) ks
      have hB1 := hba w (.cells #[.string nm, .slice adr cs.length cap, .int .i64 ks] 24)
      generalize w.alloc (.cells #[.string nm, .slice adr cs.length cap, .int .i64 ks] 24) = w1 at *
      obtain ⟨s0, s1, s2, sl⟩ := hS1.cells
      go_wp2_with fail
      all_goals
        go_ret
        rw [HF.out]
        exact ⟨rfl, hB1⟩
    have h2' : ¬ (16 : Int) < (cs.length : Int) := by omega
    rcases hw with h3 | ⟨h3, hw⟩
    · skip
      go_enter Try.func12, Try.ntmps12
      go_wp2_with fail
      refine (hn.out _).mono ?_; rintro e w1 ⟨rfl, rfl⟩
      have hS1 := BS.new w nm (.slice adr cs.length cap) ks
      have hB1 := hba w (.cells #[.string nm, .slice adr cs.length cap, .int .i64 ks] 24)
      generalize w.alloc (.cells #[.string nm, .slice adr cs.length cap, .int .i64 ks] 24) = w1 at *
      obtain ⟨s0, s1, s2, sl⟩ := hS1.cells
      go_wp2_with fail
      all_goals
        go_ret
        rw [HF.out]
        exact ⟨rfl, hB1⟩
    have h3' : ¬ ks < 1 := by omega
    rcases hw with h8 | ⟨h8, h9⟩
    · skip
      go_enter Try.func12, Try.ntmps12
      go_wp2_with fail
      refine (hn.out _).mono ?_; rintro e w1 ⟨rfl, rfl⟩
      have hS1 := BS.new w nm (.slice adr cs.length cap) ks
      have hB1 := hba w (.cells #[.string nm, .slice adr cs.length cap, .int .i64 ks] 24)
      generalize w.alloc (.cells #[.string nm, .slice adr cs.length cap, .int .i64 ks] 24) = w1 at *
      obtain ⟨s0, s1, s2, sl⟩ := hS1.cells
      go_wp2_with fail
      all_goals
        go_ret
        rw [HF.out]
        exact ⟨rfl, hB1⟩
    · have h8' : ¬ 8 < ks := by omega
      go_enter Try.func12, Try.ntmps12
      go_wp2_with fail
      refine (hn.out _).mono ?_; rintro e w1 ⟨rfl, rfl⟩
      have hS1 := BS.new w nm (.slice adr cs.length cap) ks
      have hB1 := hba w (.cells #[.string nm, .slice adr cs.length cap, .int .i64 ks] 24)
      generalize w.alloc (.cells #[.string nm, .slice adr cs.length cap, .int .i64 ks] 24) = w1 at *
      obtain ⟨s0, s1, s2, sl⟩ := hS1.cells
      go_wp2_with fail
      all_goals
        go_ret
        rw [HF.out]
        exact ⟨rfl, hB1⟩
  · rw [h1] at hn
    clear h1
    have h2' : ¬ (16 : Int) < (cs.length : Int) := by omega
    have h3' : ¬ ks < 1 := by omega
    have h4' : ¬ 8 < ks := by omega
    have h5' : ¬ (cs.length : Int) < ks := by omega
    have h6' : ¬ (cs.length : Int) < 1 := by omega
    have HG := hid hG
    clear hG h5
    go_enter Try.func12, Try.ntmps12
    go_wp2_with fail
    refine (hn.out _).mono ?_; rintro e w1 ⟨rfl, rfl⟩
    have hS1 := BS.new w nm (.slice adr cs.length cap) ks
    have hB1 := hba w (.cells #[.string nm, .slice adr cs.length cap, .int .i64 ks] 24)
    generalize w.alloc (.cells #[.string nm, .slice adr cs.length cap, .int .i64 ks] 24) = w1 at *
    obtain ⟨s0, s1, s2, sl⟩ := hS1.cells
    go_wp2_with fail
    clear s0 s1 s2 sl
    go_loopw [4, 5, 6] (fun q _ _ wr => ∃ k : Nat, k ≤ cs.length ∧ q = .int .i64 (k : Int) ∧ Hid (G k = true) ∧ BS wr w.heap.size nm (.slice adr cs.length cap) ks ∧ Below w.heap.size w wr) (fun q _ _ _ => cs.length - (intOf q).toNat)
    case atStart => exact ⟨0, by omega, rfl, hg0, hS1, hB1⟩
    case round =>
      obtain ⟨k, hk, rfl, hGk, hS, hB⟩ := hrel
      clear hS1 hB1
      obtain ⟨w4, rfl⟩ : ∃ w4 : World, w4 = wr := ⟨_, rfl⟩
      obtain ⟨s0, s1, s2, sl⟩ := hS.cells
      have hk0 : (0 : Int) ≤ (k : Int) := by omega
      by_cases hlk : k < cs.length
      · have hlk' : (k : Int) < (cs.length : Int) := by omega
        obtain ⟨g, off, rfl, q0, q1, q2⟩ := HC.out k hlk
        replace q0 := hkeep q0 hB
        replace q1 := hkeep q1 hB
        replace q2 := hkeep q2 hB
        have HN2 := hid (hno.out k hlk)
        have HG2 := hid (hgo.out k hlk)
        have hcw := col_ways ks cs k cs[k]
        have hcs := HSZ.out _ (List.getElem_mem hlk)
        have hnc := hid (fun W => nameR_any cs[k].name hcs W)
        have hfn : Hid (∀ j (hj : j < k), cs[j].name = cs[k].name → Sc.fresh cs k cs[k].name = false) := fun j hj he => Sc.fresh_no (by omega) (by omega) hj he
        generalize cs[k] = c at q0 q1 q2 HN2 HG2 hcw hcs hnc hfn
        have HNW := hid (BC.new w4 c)
        have HSA := hid (hS.keep (hba w4 (.cells #[.string c.name, .int .i64 c.kind, .bool c.need] 49)))
        have HBA := hid (hnext hB (hba w4 (.cells #[.string c.name, .int .i64 c.kind, .bool c.need] 49)))
        clear hB hS
        have HFF : Hid (Sc.fresh cs k c.name = false → R = false) := fun e => HN2.out (by rw [e, Bool.and_false])
        have HTT : Hid (Sc.fresh cs k c.name = true → Sc.colOk ks k c = true → G (k + 1) = true) := fun e e' => by rw [HG2.out, hGk.out, e, e']; rfl
        -- the column itself
        by_cases hok : Sc.colOk ks k c = true
        · have hown : Sc.nameB c.name = true ∧ 1 ≤ c.kind ∧ c.kind ≤ 5 ∧ (ks ≤ (k : Int) ∨ ((k : Int) < ks ∧ c.need = true)) := by
            unfold Sc.colOk at hok
            simp only [Bool.and_eq_true, decide_eq_true_eq, Bool.or_eq_true] at hok
            obtain ⟨⟨⟨a1, a2⟩, a3⟩, a4⟩ := hok
            refine ⟨a1, a2, a3, ?_⟩
            rcases a4 with a4 | a4
            · exact .inl a4
            · by_cases hh : ks ≤ (k : Int)
              · exact .inl hh
              · exact .inr ⟨by omega, a4⟩
          have HOK := hid hok
          clear hok hcw HN2 HG2
          obtain ⟨e1, e3, e4, e5⟩ := hown
          rw [e1] at hnc
          clear e1
          have e3' : ¬ c.kind < 1 := by omega
          have e4' : ¬ 5 < c.kind := by omega
          rcases e5 with e5 | ⟨e5, e6⟩
          · have e5' : ¬ (k : Int) < ks := by omega
            go_wp2_with fail
            refine (hnc.out _).mono ?_; rintro e w5 ⟨rfl, rfl⟩
            have hC5 := HNW.out
            have hS5 := HSA.out
            have hB5 := HBA.out
            obtain ⟨cb, hcb⟩ : ∃ cb, w4.heap.size = cb := ⟨_, rfl⟩
            rw [hcb] at hC5
            generalize w4.alloc (.cells #[.string c.name, .int .i64 c.kind, .bool c.need] 49) = w5 at *
            have hwc : w.heap.size < cb := by rw [← hcb]; exact sl
            rw [hcb]
            clear HNW HSA HBA hcb s0 s1 s2 sl
            obtain ⟨t0, t1, t2, tl⟩ := hC5.cells
            obtain ⟨s0, s1, s2, sl⟩ := hS5.cells
            go_wp2_with fail
            clear s0 s1 s2 sl t0 t1 t2 tl
            go_loopw [6] (fun q wr => ∃ j : Nat, j ≤ k ∧ q = .int .i64 (j : Int) ∧ Hid (Sc.fresh cs j c.name = true) ∧ BS wr w.heap.size nm (.slice (some ⟨g, off, none⟩) cs.length cap) ks ∧ BC wr cb c ∧ Below w.heap.size w wr) (fun q _ => k - (intOf q).toNat)
            case atStart => exact ⟨0, by omega, rfl, Sc.fresh_zero _ _, hS5, hC5, hB5⟩
            case round =>
              obtain ⟨j, hj, rfl, hfj, hS6, hC6, hB6⟩ := hrel
              clear hS5 hC5 hB5
              obtain ⟨w6, rfl⟩ : ∃ w6 : World, w6 = wr := ⟨_, rfl⟩
              obtain ⟨t0, t1, t2, tl⟩ := hC6.cells
              obtain ⟨s0, s1, s2, sl⟩ := hS6.cells
              have hj0 : (0 : Int) ≤ (j : Int) := by omega
              by_cases hjk : j < k
              · have hjl : j < cs.length := by omega
                have hjk' : (j : Int) < (k : Int) := by omega
                have hjl' : (j : Int) < (cs.length : Int) := by omega
                obtain ⟨g2, off2, hgg, p0, p1, p2⟩ := HC.out j hjl
                cases hgg
                replace p0 := hkeep p0 hB6
                have HFS := hid (Sc.fresh_succ cs j c.name hjl)
                have HFN := hid (hfn.out j hjk)
                generalize cs[j] = d at p0 HFS HFN
                clear p1 p2
                by_cases hd : d.name = c.name
                · have hdd : (d.name.toList == c.name.toList) = true := by rw [bytes_beq]; exact decide_eq_true hd
                  have HF : Hid (R = false) := HFF.out (HFN.out hd)
                  have hbq := hid hd
                  clear hd HFS HFN
                  go_wp2_with fail
                  go_quiet (fail)
                  go_wp2_with fail
                  go_ret
                  rw [HF.out]
                  exact ⟨rfl, hdrewN hB6 _⟩
                · have hdd : (d.name.toList == c.name.toList) = false := by rw [bytes_beq]; exact decide_eq_false hd
                  have HT : Hid (Sc.fresh cs (j + 1) c.name = true) := by show _ = _; rw [HFS.out, hfj.out, decide_eq_true (show d.name ≠ c.name from hd)]; rfl
                  clear hd HFS HFN
                  go_wp2_with fail
                  go_quiet (fail)
                  go_wp2_with fail
                  go_roundw
                  case rel => exact ⟨j + 1, by omega, by go_num, HT, hS6, hC6, hdrewN hB6 _⟩
                  case measure => simp [intOf]; omega
              · obtain rfl : j = k := by omega
                have HK := hid (HTT.out hfj.out HOK.out)
                go_wp2_with fail
                go_roundw
                case rel => exact ⟨j + 1, hlk, by go_num, HK, hS6, hB6⟩
                case measure => simp [intOf]; omega
          · have e6' := hid e6
            clear e6
            go_wp2_with fail
            refine (hnc.out _).mono ?_; rintro e w5 ⟨rfl, rfl⟩
            have hC5 := HNW.out
            have hS5 := HSA.out
            have hB5 := HBA.out
            obtain ⟨cb, hcb⟩ : ∃ cb, w4.heap.size = cb := ⟨_, rfl⟩
            rw [hcb] at hC5
            generalize w4.alloc (.cells #[.string c.name, .int .i64 c.kind, .bool c.need] 49) = w5 at *
            have hwc : w.heap.size < cb := by rw [← hcb]; exact sl
            rw [hcb]
            clear HNW HSA HBA hcb s0 s1 s2 sl
            obtain ⟨t0, t1, t2, tl⟩ := hC5.cells
            obtain ⟨s0, s1, s2, sl⟩ := hS5.cells
            rw [e6'.out] at t2
            go_wp2_with fail
            clear s0 s1 s2 sl t0 t1 t2 tl
            go_loopw [6] (fun q wr => ∃ j : Nat, j ≤ k ∧ q = .int .i64 (j : Int) ∧ Hid (Sc.fresh cs j c.name = true) ∧ BS wr w.heap.size nm (.slice (some ⟨g, off, none⟩) cs.length cap) ks ∧ BC wr cb c ∧ Below w.heap.size w wr) (fun q _ => k - (intOf q).toNat)
            case atStart => exact ⟨0, by omega, rfl, Sc.fresh_zero _ _, hS5, hC5, hB5⟩
            case round =>
              obtain ⟨j, hj, rfl, hfj, hS6, hC6, hB6⟩ := hrel
              clear hS5 hC5 hB5
              obtain ⟨w6, rfl⟩ : ∃ w6 : World, w6 = wr := ⟨_, rfl⟩
              obtain ⟨t0, t1, t2, tl⟩ := hC6.cells
              obtain ⟨s0, s1, s2, sl⟩ := hS6.cells
              have hj0 : (0 : Int) ≤ (j : Int) := by omega
              by_cases hjk : j < k
              · have hjl : j < cs.length := by omega
                have hjk' : (j : Int) < (k : Int) := by omega
                have hjl' : (j : Int) < (cs.length : Int) := by omega
                obtain ⟨g2, off2, hgg, p0, p1, p2⟩ := HC.out j hjl
                cases hgg
                replace p0 := hkeep p0 hB6
                have HFS := hid (Sc.fresh_succ cs j c.name hjl)
                have HFN := hid (hfn.out j hjk)
                generalize cs[j] = d at p0 HFS HFN
                clear p1 p2
                by_cases hd : d.name = c.name
                · have hdd : (d.name.toList == c.name.toList) = true := by rw [bytes_beq]; exact decide_eq_true hd
                  have HF : Hid (R = false) := HFF.out (HFN.out hd)
                  have hbq := hid hd
                  clear hd HFS HFN
                  go_wp2_with fail
                  go_quiet (fail)
                  go_wp2_with fail
                  go_ret
                  rw [HF.out]
                  exact ⟨rfl, hdrewN hB6 _⟩
                · have hdd : (d.name.toList == c.name.toList) = false := by rw [bytes_beq]; exact decide_eq_false hd
                  have HT : Hid (Sc.fresh cs (j + 1) c.name = true) := by show _ = _; rw [HFS.out, hfj.out, decide_eq_true (show d.name ≠ c.name from hd)]; rfl
                  clear hd HFS HFN
                  go_wp2_with fail
                  go_quiet (fail)
                  go_wp2_with fail
                  go_roundw
                  case rel => exact ⟨j + 1, by omega, by go_num, HT, hS6, hC6, hdrewN hB6 _⟩
                  case measure => simp [intOf]; omega
              · obtain rfl : j = k := by omega
                have HK := hid (HTT.out hfj.out HOK.out)
                go_wp2_with fail
                go_roundw
                case rel => exact ⟨j + 1, hlk, by go_num, HK, hS6, hB6⟩
                case measure => simp [intOf]; omega
        · have hF : R = false := HN2.out (by rw [Bool.eq_false_iff.2 hok]; rfl)
          have HF := hid hF
          have hok' : Sc.colOk ks k c = false := Bool.eq_false_iff.2 hok
          unfold Sc.colOk at hok'
          clear hF hok hcw HN2 HG2 HFF HTT
          cases e1 : Sc.nameB c.name
          · rw [e1] at hnc
            clear e1 hok'
            go_wp2_with fail
            refine (hnc.out _).mono ?_; rintro e w5 ⟨rfl, rfl⟩
            have hC5 := HNW.out
            have hS5 := HSA.out
            have hB5 := HBA.out
            obtain ⟨cb, hcb⟩ : ∃ cb, w4.heap.size = cb := ⟨_, rfl⟩
            rw [hcb] at hC5
            generalize w4.alloc (.cells #[.string c.name, .int .i64 c.kind, .bool c.need] 49) = w5 at *
            have hwc : w.heap.size < cb := by rw [← hcb]; exact sl
            rw [hcb]
            clear HNW HSA HBA hcb s0 s1 s2 sl
            obtain ⟨t0, t1, t2, tl⟩ := hC5.cells
            obtain ⟨s0, s1, s2, sl⟩ := hS5.cells
            go_wp2_with fail
            go_ret
            rw [HF.out]
            exact ⟨rfl, hB5⟩
          rw [e1] at hnc hok'
          clear e1
          by_cases e3 : c.kind < 1
          · clear hok'
            go_wp2_with fail
            refine (hnc.out _).mono ?_; rintro e w5 ⟨rfl, rfl⟩
            have hC5 := HNW.out
            have hS5 := HSA.out
            have hB5 := HBA.out
            obtain ⟨cb, hcb⟩ : ∃ cb, w4.heap.size = cb := ⟨_, rfl⟩
            rw [hcb] at hC5
            generalize w4.alloc (.cells #[.string c.name, .int .i64 c.kind, .bool c.need] 49) = w5 at *
            have hwc : w.heap.size < cb := by rw [← hcb]; exact sl
            rw [hcb]
            clear HNW HSA HBA hcb s0 s1 s2 sl
            obtain ⟨t0, t1, t2, tl⟩ := hC5.cells
            obtain ⟨s0, s1, s2, sl⟩ := hS5.cells
            go_wp2_with fail
            go_ret
            rw [HF.out]
            exact ⟨rfl, hB5⟩
          have e3' : 1 ≤ c.kind := by omega
          by_cases e4 : 5 < c.kind
          · clear hok'
            go_wp2_with fail
            refine (hnc.out _).mono ?_; rintro e w5 ⟨rfl, rfl⟩
            have hC5 := HNW.out
            have hS5 := HSA.out
            have hB5 := HBA.out
            obtain ⟨cb, hcb⟩ : ∃ cb, w4.heap.size = cb := ⟨_, rfl⟩
            rw [hcb] at hC5
            generalize w4.alloc (.cells #[.string c.name, .int .i64 c.kind, .bool c.need] 49) = w5 at *
            have hwc : w.heap.size < cb := by rw [← hcb]; exact sl
            rw [hcb]
            clear HNW HSA HBA hcb s0 s1 s2 sl
            obtain ⟨t0, t1, t2, tl⟩ := hC5.cells
            obtain ⟨s0, s1, s2, sl⟩ := hS5.cells
            go_wp2_with fail
            go_ret
            rw [HF.out]
            exact ⟨rfl, hB5⟩
          have e4' : c.kind ≤ 5 := by omega
          rw [decide_eq_true e3', decide_eq_true e4'] at hok'
          have hk2 : (k : Int) < ks := by
            by_cases hh : ks ≤ (k : Int)
            · rw [decide_eq_true hh] at hok'; simp at hok'
            · omega
          have hne : c.need = false := by
            rw [decide_eq_false (show ¬ ks ≤ (k : Int) by omega)] at hok'
            simpa using hok'
          have e6' := hid hne
          clear hok' hne
          go_wp2_with fail
          refine (hnc.out _).mono ?_; rintro e w5 ⟨rfl, rfl⟩
          have hC5 := HNW.out
          have hS5 := HSA.out
          have hB5 := HBA.out
          obtain ⟨cb, hcb⟩ : ∃ cb, w4.heap.size = cb := ⟨_, rfl⟩
          rw [hcb] at hC5
          generalize w4.alloc (.cells #[.string c.name, .int .i64 c.kind, .bool c.need] 49) = w5 at *
          have hwc : w.heap.size < cb := by rw [← hcb]; exact sl
          rw [hcb]
          clear HNW HSA HBA hcb s0 s1 s2 sl
          obtain ⟨t0, t1, t2, tl⟩ := hC5.cells
          obtain ⟨s0, s1, s2, sl⟩ := hS5.cells
          rw [e6'.out] at t2
          go_wp2_with fail
          go_ret
          rw [HF.out]
          exact ⟨rfl, hB5⟩
      · obtain rfl : k = cs.length := by omega
        have HR : Hid (R = true) := by show _ = _; rw [HG.out, hGk.out]
        go_wp2_with fail
        go_ret
        rw [HR.out]
        exact ⟨rfl, hB⟩
end Go.Proofs.Ytmgafcblbbbanaa
