/-
  PredPush answers true at any condition, any row and any schema. No condition.
-/
import Derived.Test.YtfdehigepgeknaaQl
import Derived.Test.YtfdehigepgeknaaQr
import Derived.Test.YtfdehigepgeknaaLi
import Derived.Test.YtfdehigepgeknaaBd
namespace Go.Proofs.Ytfdehigepgeknaa
open Go.RowKit Pd

theorem rnode1_new (w : World) (x : N) : NsAt (w.alloc (.cells #[.int .i64 x.op, .int .i64 x.col, .int .i64 x.v.k, .int .i64 x.v.n, .int .u64 (x.v.b : Int), .string x.v.s] 44)) (.slice (some ⟨w.heap.size, 0, none⟩) 1 1) [x] := NsAt.row (l := [x]) (heap_alloc_new w _) rfl
set_option maxRecDepth 100000 in
set_option maxHeartbeats 12800000 in
theorem predPush_walk (v1 : Value) (l : List N) (v2 : Value) (row : List Cd.V) (s : Sc.S) (u : Value) (w : World) (ha : l.length ≤ maxLen ∧ NsAt w v1 l ∧ ∀ x ∈ l, Nok x) (hb : row.length ≤ maxLen ∧ VsAt w v2 row ∧ ∀ x ∈ row, Vok x) (hs : SchemaIn w s u) :
    Calls Try.prog 4 #[v1, v2, sv s u] w fun e w' => e = .returned (.bool true) ∧ Below w.heap.size w w' := by
  obtain ⟨_, hva, hna⟩ := ha
  obtain ⟨_, hvr, hnr⟩ := hb
  have NA := hid (hva.below (hba w (.cells #[.string s.name, u, .int .i64 s.keys] 25)))
  have VR := hid (hvr.below (hba w (.cells #[.string s.name, u, .int .i64 s.keys] 25)))
  have SC := hid (hs.1.below (hba w (.cells #[.string s.name, u, .int .i64 s.keys] 25)))
  have L1 := hid (hba w (.cells #[.string s.name, u, .int .i64 s.keys] 25))
  have SX := hid (heap_alloc_new w (.cells #[.string s.name, u, .int .i64 s.keys] 25))
  have KA := hid hna
  have KR := hid hnr
  obtain ⟨adr, cap, rfl⟩ := hva.slc
  obtain ⟨radr, rcap, rfl⟩ := vs_at VR.out
  obtain ⟨sadr, scap, rfl⟩ := hs.1.slc
  clear hva hvr hna hnr hs
  have la := hid (light_any _ _ l row _ NA.out VR.out)
  unfold sv
  cases hla : lightB l row with
  | false =>
    have la' := la.out
    rw [hla] at la'
    replace la := hid la'
    clear la' hla
    go_enter Try.func4, Try.ntmps4
    go_wp2_with fail
    refine la.out.mono ?_; rintro e w1 ⟨rfl, rfl⟩
    go_wp2_with fail
    refine (known_any _).mono ?_; rintro e w9 ⟨rfl, b9⟩
    go_wp2
    go_ret
    exact ⟨rfl, hnext L1.out b9⟩
  | true =>
    obtain ⟨ga, gr, gs, gt⟩ := light_of hla
    have la' := la.out
    rw [hla] at la'
    replace la := hid la'
    clear la' hla
    by_cases hcs : 40 < s.cols.length
    · have hcs' : (40 : Int) < (s.cols.length : Int) := by omega
      clear hcs gs gt ga gr
      go_enter Try.func4, Try.ntmps4
      go_wp2_with fail
      refine la.out.mono ?_; rintro e w1 ⟨rfl, rfl⟩
      go_wp2_with fail
      refine (known_any _).mono ?_; rintro e w9 ⟨rfl, b9⟩
      go_wp2
      go_ret
      exact ⟨rfl, hnext L1.out b9⟩
    have hcs' : ¬ (40 : Int) < (s.cols.length : Int) := by omega
    have hka : ∀ x ∈ l, x.v.s.size ≤ maxLen := fun x hx => (KA.out x hx).2.2.2.2
    have hkr : ∀ x ∈ row, x.s.size ≤ maxLen ∧ x.b < 18446744073709551616 := fun x hx => ⟨(KR.out x hx).2.2, (KR.out x hx).2.1⟩
    have HLL := hid ga
    have CPU := hid (fun W (h : NsAt W (.slice adr l.length cap) l) => push_any _ l W h (by omega))
    have CEL := hid (fun W (h : NsAt W (.slice adr l.length cap) l) (h2 : VsAt W (.slice radr row.length rcap) row) => eval_any _ _ l row W h h2 (by omega) hka (fun x hx => (hkr x hx).1))
    have cri := fun W (h : NsAt W (.slice adr l.length cap) l) (h2 : CsAt W (.slice sadr s.cols.length scap) s.cols) => pright_any _ l s _ W h h2 (by omega) hka
    unfold sv at cri
    have CRI := hid cri
    have HKA := hid hka
    have HKR := hid hkr
    clear gs gt hcs cri hka hkr
    go_enter Try.func4, Try.ntmps4
    go_wp2_with fail
    refine la.out.mono ?_; rintro e w1 ⟨rfl, rfl⟩
    go_wp2_with fail
    refine (CPU.out _ NA.out).mono ?_; rintro e w2 ⟨pv, p, rfl, hop, hpl, b2⟩
    have L2 := hid (hnext L1.out b2)
    have NA2 := hid (NA.out.below b2)
    have VR2 := hid (VR.out.below b2)
    have SC2 := hid (SC.out.below b2)
    have SX2 := hid (keepBlock SX.out b2)
    have NP2 := hid (NsAt.own hop)
    obtain ⟨padr, pcap, rfl⟩ := NP2.out.slc
    have hlaw := push_law hpl
    clear b2 hop hpl NA VR SC SX
    rcases hlaw with ⟨rfl, hwf⟩ | hlaw
    · have HE := eval_whole (row := row) hwf
      have HRW := right_whole (cs := s.cols) hwf
      have c1 := CEL.out _ NA2.out VR2.out
      rw [HE] at c1
      have C1 := hid c1
      clear c1 HE hwf
      go_wp2_with fail
      go_loopw [8] (fun i wr => i = .int .i64 0 ∧ wr = w2) (fun _ _ => 0)
      case atStart => exact ⟨rfl, rfl⟩
      case round =>
        obtain ⟨rfl, rfl⟩ := hrel
        go_wp2_with fail
        refine C1.out.mono ?_; rintro e w3 ⟨rfl, b3⟩
        have L3 := hid (hnext L2.out b3)
        have NA3 := hid (NA2.out.below b3)
        have SC3 := hid (SC2.out.below b3)
        have SX3 := hid (keepBlock SX2.out b3)
        have c3_0 := cell_of_row w3 _ 0 _ _ _ SX3.out
        have c3_1 := cell_of_row w3 _ 1 _ _ _ SX3.out
        have c3_2 := cell_of_row w3 _ 2 _ _ _ SX3.out
        simp only [List.getElem?_toArray, List.getElem?_cons_zero, List.getElem?_cons_succ] at c3_0 c3_1 c3_2
        have c2 := CRI.out _ NA3.out SC3.out
        rw [HRW] at c2
        have C2 := hid c2
        clear b3 c2 HRW
        go_wp2_with fail
        refine C2.out.mono ?_; rintro e w4 ⟨rfl, b4⟩
        have L4 := hid (hnext L3.out b4)
        clear b4
        go_wp2_with fail
        refine (known_any _).mono ?_; rintro e w9 ⟨rfl, b9⟩
        go_wp2
        go_ret
        exact ⟨rfl, hnext L4.out b9⟩
    · obtain ⟨h0, h40, hl40, hno, hri, hev, hpp, hsz⟩ := hlaw
      have HNO := hid hno
      have HRI := hid (hri s.cols)
      have HEV := hid (hev row)
      have HPP := hid hpp
      have HSZ := hid (hsz HKA.out)
      have h0' : ((p.length : Int) == 0) = false := by rw [beq_eq_false_iff_ne]; omega
      have HP0 := hid h0
      have HP40 := hid h40
      have HPL : p.length ≤ 1000000 := by omega
      clear hno hri hev hpp hsz h0 h40 hl40
      go_wp2_with fail
      go_loopw [8] (fun i wr => ∃ k : Nat, k ≤ p.length ∧ i = .int .i64 (k : Int) ∧ wr = w2) (fun i _ => p.length - (intOf i).toNat)
      case atStart => exact ⟨0, by omega, rfl, rfl⟩
      case round =>
        obtain ⟨k, hk, rfl, rfl⟩ := hrel
        have hk0 : (0 : Int) ≤ (k : Int) := by omega
        by_cases hkp : k < p.length
        · have hkp' : (k : Int) < (p.length : Int) := by omega
          obtain ⟨adr', cap', e', hc⟩ := NP2.out
          cases e'
          obtain ⟨g, off, rfl, q0, _, _, _, _, _⟩ := hc k hkp
          have hop := HNO.out p[k] (List.getElem_mem hkp)
          generalize p[k].op = op at q0 hop
          have ho' : (op == 11) = false := by rw [beq_eq_false_iff_ne]; exact hop
          clear hc hop
          go_wp2_with fail
          go_roundw
          case rel => exact ⟨k + 1, by omega, by first | rfl | go_num, by first | rfl | trivial⟩
          case measure => simp [intOf]; omega
        · obtain rfl : k = p.length := by omega
          clear hkp hk
          obtain ⟨w2, rfl⟩ : ∃ w2, w2 = wr := ⟨_, rfl⟩
          have c2_0 := cell_of_row w2 _ 0 _ _ _ SX2.out
          have c2_1 := cell_of_row w2 _ 1 _ _ _ SX2.out
          have c2_2 := cell_of_row w2 _ 2 _ _ _ SX2.out
          simp only [List.getElem?_toArray, List.getElem?_cons_zero, List.getElem?_cons_succ] at c2_0 c2_1 c2_2
          have c1 := CRI.out _ NA2.out SC2.out
          cases hrl : rightL s.cols l with
          | false =>
            rw [hrl] at c1
            have C1 := hid c1
            clear c1 hrl HRI CRI
            go_wp2_with fail
            refine C1.out.mono ?_; rintro e w3 ⟨rfl, b3⟩
            have L3 := hid (hnext L2.out b3)
            have NA3 := hid (NA2.out.below b3)
            have NP3 := hid (NP2.out.below b3)
            have VR3 := hid (VR2.out.below b3)
            clear b3 c2_0 c2_1 c2_2 NA2 NP2 VR2 SC2 SX2
            go_wp2_with fail
            go_loopw [10, 9] (fun i wh wr => ∃ k : Nat, k ≤ row.length ∧ i = .int .i64 (k : Int) ∧ wh = .bool true ∧ Below w3.heap.size w3 wr) (fun i _ _ => row.length - (intOf i).toNat)
            case atStart => exact ⟨0, by omega, rfl, rfl, Below.refl _ _⟩
            case round =>
              obtain ⟨k, hk, rfl, rfl, hbel⟩ := hrel
              have hk0 : (0 : Int) ≤ (k : Int) := by omega
              obtain ⟨w5, rfl⟩ : ∃ w5, w5 = wr := ⟨_, rfl⟩
              by_cases hkr : k < row.length
              · have hkr' : (k : Int) < (row.length : Int) := by omega
                have HB6 := hid (hnext hbel (hba w5 (.cells #[.int .i64 7, .int .i64 (k : Int), .int .i64 0, .int .i64 0, .int .u64 0, .string ⟨#[]⟩] 44)))
                have CN := hid (evalR_any _ _ [⟨7, (k : Int), nul⟩] row _ (rnode1_new w5 ⟨7, (k : Int), nul⟩) (VR3.out.below HB6.out) (show 1 ≤ 1000000 by decide) (fun x hx => by rw [List.mem_singleton.1 hx]; exact ⟨show (ByteArray.mk #[]).size ≤ maxLen by decide, show 0 < 18446744073709551616 by decide⟩) HKR.out)
                have hz := eval_null hkr
                generalize evalI [⟨7, (k : Int), nul⟩] row = z at CN hz
                clear hbel
                go_wp2_with fail
                refine CN.out.mono ?_; rintro e w7 ⟨rfl, b7⟩
                have HB7 := hid (hnext HB6.out b7)
                clear b7
                go_wp2_with fail
                go_roundw
                case rel => exact ⟨k + 1, by omega, by first | rfl | go_num, by first | rfl | simp, HB7.out⟩
                case measure => simp [intOf]; omega
              · obtain rfl : k = row.length := by omega
                replace L3 := hid (hnext L3.out hbel)
                replace NA3 := hid (NA3.out.below hbel)
                replace NP3 := hid (NP3.out.below hbel)
                replace VR3 := hid (VR3.out.below hbel)
                clear hbel hkr hk
                go_wp2_with fail
                go_loopw [12, 11] (fun i zr wr => ∃ k : Nat, k ≤ l.length ∧ i = .int .i64 (k : Int) ∧ zr = .bool (colsOk (l.take k) row.length) ∧ wr = w5) (fun i _ _ => l.length - (intOf i).toNat)
                case atStart => exact ⟨0, by omega, rfl, rfl, rfl⟩
                case round =>
                  obtain ⟨k, hk, rfl, rfl, rfl⟩ := hrel
                  have hk0 : (0 : Int) ≤ (k : Int) := by omega
                  obtain ⟨w5, rfl⟩ : ∃ w5, w5 = wr := ⟨_, rfl⟩
                  by_cases hkl : k < l.length
                  · have hkl' : (k : Int) < (l.length : Int) := by omega
                    obtain ⟨adr', cap', e', hc⟩ := NA3.out
                    cases e'
                    obtain ⟨g, off, rfl, _, q1, _, _, _, _⟩ := hc k hkl
                    have HCT := hid (cols_take (n := row.length) hkl)
                    generalize l[k].col = col at q1 HCT
                    obtain ⟨b1, hb1⟩ : ∃ b1, colsOk (l.take (k + 1)) row.length = b1 := ⟨_, rfl⟩
                    have HB1 := hid hb1
                    rw [hb1] at HCT
                    clear hb1
                    generalize colsOk (l.take k) row.length = b0 at HCT ⊢
                    clear hc
                    cases b0 with
                    | false =>
                      have HB := HCT.out
                      rw [Bool.false_and] at HB
                      subst HB
                      go_wp2_with fail
                      go_roundw
                      case rel => exact ⟨k + 1, by omega, by first | rfl | go_num, by first | (rw [HB1.out]; done) | (rw [HB1.out]; simp), by first | rfl | trivial⟩
                      case measure => simp [intOf]; omega
                    | true =>
                      have HB := HCT.out
                      rw [Bool.true_and] at HB
                      by_cases c1 : 0 ≤ col
                      · by_cases c2 : col < (row.length : Int)
                        · rw [decide_eq_true c1, decide_eq_true c2, Bool.true_and] at HB
                          subst HB
                          go_wp2_with fail
                          go_roundw
                          case rel => exact ⟨k + 1, by omega, by first | rfl | go_num, by first | (rw [HB1.out]; done) | (rw [HB1.out]; simp), by first | rfl | trivial⟩
                          case measure => simp [intOf]; omega
                        · rw [decide_eq_false c2, Bool.and_false] at HB
                          subst HB
                          go_wp2_with fail
                          go_roundw
                          case rel => exact ⟨k + 1, by omega, by first | rfl | go_num, by first | (rw [HB1.out]; done) | (rw [HB1.out]; simp), by first | rfl | trivial⟩
                          case measure => simp [intOf]; omega
                      · rw [decide_eq_false c1, Bool.false_and] at HB
                        subst HB
                        go_wp2_with fail
                        go_roundw
                        case rel => exact ⟨k + 1, by omega, by first | rfl | go_num, by first | (rw [HB1.out]; done) | (rw [HB1.out]; simp), by first | rfl | trivial⟩
                        case measure => simp [intOf]; omega
                  · obtain rfl : k = l.length := by omega
                    rw [List.take_length]
                    have CQ := hid (fun W (h : NsAt W (.slice padr p.length pcap) p) => push_any _ p W h HPL)
                    cases hcz : colsOk l row.length with
                    | false =>
                      clear hcz HEV CEL hkl hk
                      go_wp2_with fail
                      refine (CQ.out _ NP3.out).mono ?_; rintro e w6 ⟨qv, q, rfl, hoq, hpq, b6⟩
                      obtain rfl := HPP.out q hpq
                      have NQ6 := hid (NsAt.own hoq)
                      obtain ⟨qadr, qcap, rfl⟩ := NQ6.out.slc
                      have NP6 := hid (NP3.out.below b6)
                      have L6 := hid (hnext L3.out b6)
                      clear b6 hoq hpq
                      go_wp2_with fail
                      have cs0 := psame_any _ _ q q _ NQ6.out NP6.out HPL HPL
                      rw [decide_eq_true rfl] at cs0
                      refine cs0.mono ?_; rintro e w7 ⟨rfl, b7⟩
                      have L7 := hid (hnext L6.out b7)
                      clear b7 cs0
                      go_wp2_with fail
                      refine (known_any _).mono ?_; rintro e w9 ⟨rfl, b9⟩
                      go_wp2
                      go_ret
                      exact ⟨rfl, hnext L7.out b9⟩
                    | true =>
                      have c1 := HEV.out hcz
                      have CE1 := eval_any _ _ p row _ NP3.out VR3.out HPL HSZ.out (fun x hx => (HKR.out x hx).1)
                      rw [c1] at CE1
                      have CE := hid CE1
                      generalize evalI l row = z at CE CEL
                      clear hcz HEV hkl hk c1 CE1
                      go_wp2_with fail
                      refine CE.out.mono ?_; rintro e w6 ⟨rfl, b6⟩
                      have L6 := hid (hnext L3.out b6)
                      have NA6 := hid (NA3.out.below b6)
                      have NP6 := hid (NP3.out.below b6)
                      have VR6 := hid (VR3.out.below b6)
                      clear b6
                      go_wp2_with fail
                      refine (CEL.out _ NA6.out VR6.out).mono ?_; rintro e w7 ⟨rfl, b7⟩
                      have L7 := hid (hnext L6.out b7)
                      have NP7 := hid (NP6.out.below b7)
                      clear b7
                      go_wp2_with fail
                      refine (CQ.out _ NP7.out).mono ?_; rintro e w8 ⟨qv, q, rfl, hoq, hpq, b8⟩
                      obtain rfl := HPP.out q hpq
                      have NQ8 := hid (NsAt.own hoq)
                      obtain ⟨qadr, qcap, rfl⟩ := NQ8.out.slc
                      have NP8 := hid (NP7.out.below b8)
                      have L8 := hid (hnext L7.out b8)
                      clear b8 hoq hpq
                      go_wp2_with fail
                      have cs0 := psame_any _ _ q q _ NQ8.out NP8.out HPL HPL
                      rw [decide_eq_true rfl] at cs0
                      refine cs0.mono ?_; rintro e w10 ⟨rfl, b10⟩
                      have L10 := hid (hnext L8.out b10)
                      clear b10 cs0
                      go_wp2_with fail
                      refine (known_any _).mono ?_; rintro e w9 ⟨rfl, b9⟩
                      go_wp2
                      go_ret
                      exact ⟨rfl, hnext L10.out b9⟩
          | true =>
            have cp := fun W (h : NsAt W (.slice padr p.length pcap) p) (h2 : CsAt W (.slice sadr s.cols.length scap) s.cols) => pright_any _ p s _ W h h2 HPL HSZ.out
            unfold sv at cp
            rw [hrl] at c1
            rw [HRI.out hrl] at cp
            have C1 := hid c1
            have CP := hid cp
            clear c1 hrl HRI CRI cp
            go_wp2_with fail
            refine C1.out.mono ?_; rintro e w3 ⟨rfl, b3⟩
            have L3 := hid (hnext L2.out b3)
            have NA3 := hid (NA2.out.below b3)
            have NP3 := hid (NP2.out.below b3)
            have VR3 := hid (VR2.out.below b3)
            have SC3 := hid (SC2.out.below b3)
            have SX3 := hid (keepBlock SX2.out b3)
            have c3_0 := cell_of_row w3 _ 0 _ _ _ SX3.out
            have c3_1 := cell_of_row w3 _ 1 _ _ _ SX3.out
            have c3_2 := cell_of_row w3 _ 2 _ _ _ SX3.out
            simp only [List.getElem?_toArray, List.getElem?_cons_zero, List.getElem?_cons_succ] at c3_0 c3_1 c3_2
            clear b3 c2_0 c2_1 c2_2 NA2 NP2 VR2 SC2 SX2
            go_wp2_with fail
            refine (CP.out _ NP3.out SC3.out).mono ?_; rintro e w4 ⟨rfl, b4⟩
            replace L3 := hid (hnext L3.out b4)
            replace NA3 := hid (NA3.out.below b4)
            replace NP3 := hid (NP3.out.below b4)
            replace VR3 := hid (VR3.out.below b4)
            clear b4 c3_0 c3_1 c3_2 SC3 SX3
            obtain ⟨w3, rfl⟩ : ∃ w3, w3 = w4 := ⟨_, rfl⟩
            go_wp2_with fail
            go_loopw [10, 9] (fun i wh wr => ∃ k : Nat, k ≤ row.length ∧ i = .int .i64 (k : Int) ∧ wh = .bool true ∧ Below w3.heap.size w3 wr) (fun i _ _ => row.length - (intOf i).toNat)
            case atStart => exact ⟨0, by omega, rfl, rfl, Below.refl _ _⟩
            case round =>
              obtain ⟨k, hk, rfl, rfl, hbel⟩ := hrel
              have hk0 : (0 : Int) ≤ (k : Int) := by omega
              obtain ⟨w5, rfl⟩ : ∃ w5, w5 = wr := ⟨_, rfl⟩
              by_cases hkr : k < row.length
              · have hkr' : (k : Int) < (row.length : Int) := by omega
                have HB6 := hid (hnext hbel (hba w5 (.cells #[.int .i64 7, .int .i64 (k : Int), .int .i64 0, .int .i64 0, .int .u64 0, .string ⟨#[]⟩] 44)))
                have CN := hid (evalR_any _ _ [⟨7, (k : Int), nul⟩] row _ (rnode1_new w5 ⟨7, (k : Int), nul⟩) (VR3.out.below HB6.out) (show 1 ≤ 1000000 by decide) (fun x hx => by rw [List.mem_singleton.1 hx]; exact ⟨show (ByteArray.mk #[]).size ≤ maxLen by decide, show 0 < 18446744073709551616 by decide⟩) HKR.out)
                have hz := eval_null hkr
                generalize evalI [⟨7, (k : Int), nul⟩] row = z at CN hz
                clear hbel
                go_wp2_with fail
                refine CN.out.mono ?_; rintro e w7 ⟨rfl, b7⟩
                have HB7 := hid (hnext HB6.out b7)
                clear b7
                go_wp2_with fail
                go_roundw
                case rel => exact ⟨k + 1, by omega, by first | rfl | go_num, by first | rfl | simp, HB7.out⟩
                case measure => simp [intOf]; omega
              · obtain rfl : k = row.length := by omega
                replace L3 := hid (hnext L3.out hbel)
                replace NA3 := hid (NA3.out.below hbel)
                replace NP3 := hid (NP3.out.below hbel)
                replace VR3 := hid (VR3.out.below hbel)
                clear hbel hkr hk
                go_wp2_with fail
                go_loopw [12, 11] (fun i zr wr => ∃ k : Nat, k ≤ l.length ∧ i = .int .i64 (k : Int) ∧ zr = .bool (colsOk (l.take k) row.length) ∧ wr = w5) (fun i _ _ => l.length - (intOf i).toNat)
                case atStart => exact ⟨0, by omega, rfl, rfl, rfl⟩
                case round =>
                  obtain ⟨k, hk, rfl, rfl, rfl⟩ := hrel
                  have hk0 : (0 : Int) ≤ (k : Int) := by omega
                  obtain ⟨w5, rfl⟩ : ∃ w5, w5 = wr := ⟨_, rfl⟩
                  by_cases hkl : k < l.length
                  · have hkl' : (k : Int) < (l.length : Int) := by omega
                    obtain ⟨adr', cap', e', hc⟩ := NA3.out
                    cases e'
                    obtain ⟨g, off, rfl, _, q1, _, _, _, _⟩ := hc k hkl
                    have HCT := hid (cols_take (n := row.length) hkl)
                    generalize l[k].col = col at q1 HCT
                    obtain ⟨b1, hb1⟩ : ∃ b1, colsOk (l.take (k + 1)) row.length = b1 := ⟨_, rfl⟩
                    have HB1 := hid hb1
                    rw [hb1] at HCT
                    clear hb1
                    generalize colsOk (l.take k) row.length = b0 at HCT ⊢
                    clear hc
                    cases b0 with
                    | false =>
                      have HB := HCT.out
                      rw [Bool.false_and] at HB
                      subst HB
                      go_wp2_with fail
                      go_roundw
                      case rel => exact ⟨k + 1, by omega, by first | rfl | go_num, by first | (rw [HB1.out]; done) | (rw [HB1.out]; simp), by first | rfl | trivial⟩
                      case measure => simp [intOf]; omega
                    | true =>
                      have HB := HCT.out
                      rw [Bool.true_and] at HB
                      by_cases c1 : 0 ≤ col
                      · by_cases c2 : col < (row.length : Int)
                        · rw [decide_eq_true c1, decide_eq_true c2, Bool.true_and] at HB
                          subst HB
                          go_wp2_with fail
                          go_roundw
                          case rel => exact ⟨k + 1, by omega, by first | rfl | go_num, by first | (rw [HB1.out]; done) | (rw [HB1.out]; simp), by first | rfl | trivial⟩
                          case measure => simp [intOf]; omega
                        · rw [decide_eq_false c2, Bool.and_false] at HB
                          subst HB
                          go_wp2_with fail
                          go_roundw
                          case rel => exact ⟨k + 1, by omega, by first | rfl | go_num, by first | (rw [HB1.out]; done) | (rw [HB1.out]; simp), by first | rfl | trivial⟩
                          case measure => simp [intOf]; omega
                      · rw [decide_eq_false c1, Bool.false_and] at HB
                        subst HB
                        go_wp2_with fail
                        go_roundw
                        case rel => exact ⟨k + 1, by omega, by first | rfl | go_num, by first | (rw [HB1.out]; done) | (rw [HB1.out]; simp), by first | rfl | trivial⟩
                        case measure => simp [intOf]; omega
                  · obtain rfl : k = l.length := by omega
                    rw [List.take_length]
                    have CQ := hid (fun W (h : NsAt W (.slice padr p.length pcap) p) => push_any _ p W h HPL)
                    cases hcz : colsOk l row.length with
                    | false =>
                      clear hcz HEV CEL hkl hk
                      go_wp2_with fail
                      refine (CQ.out _ NP3.out).mono ?_; rintro e w6 ⟨qv, q, rfl, hoq, hpq, b6⟩
                      obtain rfl := HPP.out q hpq
                      have NQ6 := hid (NsAt.own hoq)
                      obtain ⟨qadr, qcap, rfl⟩ := NQ6.out.slc
                      have NP6 := hid (NP3.out.below b6)
                      have L6 := hid (hnext L3.out b6)
                      clear b6 hoq hpq
                      go_wp2_with fail
                      have cs0 := psame_any _ _ q q _ NQ6.out NP6.out HPL HPL
                      rw [decide_eq_true rfl] at cs0
                      refine cs0.mono ?_; rintro e w7 ⟨rfl, b7⟩
                      have L7 := hid (hnext L6.out b7)
                      clear b7 cs0
                      go_wp2_with fail
                      refine (known_any _).mono ?_; rintro e w9 ⟨rfl, b9⟩
                      go_wp2
                      go_ret
                      exact ⟨rfl, hnext L7.out b9⟩
                    | true =>
                      have c1 := HEV.out hcz
                      have CE1 := eval_any _ _ p row _ NP3.out VR3.out HPL HSZ.out (fun x hx => (HKR.out x hx).1)
                      rw [c1] at CE1
                      have CE := hid CE1
                      generalize evalI l row = z at CE CEL
                      clear hcz HEV hkl hk c1 CE1
                      go_wp2_with fail
                      refine CE.out.mono ?_; rintro e w6 ⟨rfl, b6⟩
                      have L6 := hid (hnext L3.out b6)
                      have NA6 := hid (NA3.out.below b6)
                      have NP6 := hid (NP3.out.below b6)
                      have VR6 := hid (VR3.out.below b6)
                      clear b6
                      go_wp2_with fail
                      refine (CEL.out _ NA6.out VR6.out).mono ?_; rintro e w7 ⟨rfl, b7⟩
                      have L7 := hid (hnext L6.out b7)
                      have NP7 := hid (NP6.out.below b7)
                      clear b7
                      go_wp2_with fail
                      refine (CQ.out _ NP7.out).mono ?_; rintro e w8 ⟨qv, q, rfl, hoq, hpq, b8⟩
                      obtain rfl := HPP.out q hpq
                      have NQ8 := hid (NsAt.own hoq)
                      obtain ⟨qadr, qcap, rfl⟩ := NQ8.out.slc
                      have NP8 := hid (NP7.out.below b8)
                      have L8 := hid (hnext L7.out b8)
                      clear b8 hoq hpq
                      go_wp2_with fail
                      have cs0 := psame_any _ _ q q _ NQ8.out NP8.out HPL HPL
                      rw [decide_eq_true rfl] at cs0
                      refine cs0.mono ?_; rintro e w10 ⟨rfl, b10⟩
                      have L10 := hid (hnext L8.out b10)
                      clear b10 cs0
                      go_wp2_with fail
                      refine (known_any _).mono ?_; rintro e w9 ⟨rfl, b9⟩
                      go_wp2
                      go_ret
                      exact ⟨rfl, hnext L10.out b9⟩
end Go.Proofs.Ytfdehigepgeknaa
