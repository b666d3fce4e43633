/-
  SchemaKeys answers true at any schema and rows. No condition.
-/
import Derived.Test.YtmgafcblbbbanaaScP
import Derived.Test.YtmgafcblbbbanaaLro
namespace Go.Proofs.Ytmgafcblbbbanaa
open Go.RowKit

theorem VsAt.drop {w : World} {g off cap n : Nat} {l : List Cd.V} (h : VsAt w (.slice (some ⟨g, off, none⟩) n cap) l) (k m cap' : Nat) (hm : m = n - k) : VsAt w (.slice (some ⟨g, off + k * 4, none⟩) m cap') (l.drop k) := by
  obtain ⟨adr', cap'', e, hc⟩ := h
  cases e
  refine ⟨_, cap', by rw [List.length_drop, hm], fun j hj => ?_⟩
  have hj' : k + j < l.length := by rw [List.length_drop] at hj; omega
  obtain ⟨g', off', e, q0, q1, q2, q3⟩ := hc (k + j) hj'
  cases e
  have hg : (l.drop k)[j] = l[k + j] := List.getElem_drop ..
  rw [hg]
  have e0 : off + k * 4 + j * 4 = off + (k + j) * 4 := by omega
  exact ⟨g, off + k * 4, rfl, by rw [e0]; exact q0, by rw [e0]; exact q1, by rw [e0]; exact q2, by rw [e0]; exact q3⟩
theorem own_ge {w : World} {B e size n : Nat} {v : Value} {xs : List Value} (h : w.ownsRow B e size v n xs) : ∀ q, v.ownBlock = some q → B ≤ q := by
  intro q hq
  rcases h.2 with ⟨rfl, _⟩ | ⟨g, cap, cur, rfl, hB, _⟩
  · cases hq
  · cases hq; exact hB
theorem Sc.key_start {s : Sc.S} {l : List Cd.V} (h : Sc.fits s l = 0) : s.keys = ((Sc.key s l).length : Int) ∧ ∀ k, k < (Sc.key s l).length → ∃ (h' : k < l.length), (Sc.key s l)[k]? = some l[k] ∧ l[k].k ≠ 0 := by
  obtain ⟨_, f1, f2, f3, f4, f5, _⟩ := Sc.fits_zero h
  have hl : (Sc.key s l).length = s.keys.toNat := by rw [Sc.key_of h, List.length_take]; omega
  refine ⟨by rw [hl]; omega, fun k hk => ⟨by omega, ?_, Sc.key_kind h (by omega) (by omega)⟩⟩
  rw [Sc.key_of h, List.getElem?_take, if_pos (by omega), List.getElem?_eq_getElem (by omega)]
theorem Sc.key_starts {s : Sc.S} {l : List Cd.V} (h : Sc.fits s l = 0) (r : List Cd.V) (hf : Sc.fits s (Sc.key s l ++ r) = 0) : Sc.key s (Sc.key s l ++ r) = Sc.key s l := by
  have h1 := (Sc.key_start h).1
  rw [Sc.key_of hf, List.take_left' (by omega)]
theorem Sc.key_ok {s : Sc.S} {l : List Cd.V} (h : Rok l) : Rok (Sc.key s l) := by
  unfold Sc.key
  split
  · exact fun x hx => h x (List.mem_of_mem_take hx)
  · exact fun x hx => absurd hx (by simp)
set_option maxRecDepth 100000 in
set_option maxHeartbeats 12800000 in
theorem schemaKeys_walk (s : Sc.S) (v : Value) (u : Value) (l : List Cd.V) (u2 : Value) (m : List Cd.V) (w : World) (hs : SchemaIn w s v) (hr : RowIn w l u) (ho : RowIn w m u2) :
    Calls Try.prog 8 #[sv s v, u, u2] w fun e w' => e = .returned (.bool true) ∧ Below w.heap.size w w' := by
  obtain ⟨ca, za⟩ := hs
  have HCA := hid ca
  have HRA := hid hr.1
  have HMA := hid ho.1
  have hrk := hr.rok
  have HMK := hid ho.rok
  have hln := hr.1.len
  have hl1 := hid (fun W h h' => light_any s v l u W h h')
  have hl2 := hid (fun W h h' => light_any s v m u2 W h h')
  have hly := hid (fun h => lightB_yes (s := s) (l := l) h)
  have hmy := hid (fun h => lightB_yes (s := s) (l := m) h)
  obtain ⟨adr, cap, rfl⟩ := ca.slc
  obtain ⟨adr2, cap2, rfl⟩ := hr.1.1.len
  obtain ⟨adr3, cap3, rfl⟩ := ho.1.1.len
  have ck := hid (fun W h (h' : RsAt W (.slice adr2 l.length cap2) l) => key_any s (.slice adr s.cols.length cap) l _ W h za h' hrk)
  have cf := hid (fun W h (h' : RsAt W (.slice adr2 l.length cap2) l) => fits_any s (.slice adr s.cols.length cap) l _ W h za h'.1 hln hrk)
  have ckx := hid (fun W X vx h (h' : RsAt W vx X) (hx : Rok X) => key_any s (.slice adr s.cols.length cap) X vx W h za h' hx)
  have cfx := hid (fun W X vx h (h' : RsAt W vx X) (hx : Rok X) => fits_any s (.slice adr s.cols.length cap) X vx W h za h'.1 h'.len hx)
  have hkl := hid (key_length s l)
  have hks := hid (fun h => Sc.key_start (s := s) (l := l) h)
  have hkt := hid (fun h => Sc.key_starts (s := s) (l := l) h)
  have hkn := hid (fun h => Sc.key_none (s := s) (l := l) h)
  have hko := hid (Sc.key_ok (s := s) hrk)
  clear ca za hr hrk hln ho
  obtain ⟨nm, cs, ks⟩ := s
  unfold sv at *
  simp only at HCA hl1 hl2 hly hmy ck cf ckx cfx hkl hks hkt hkn hko ⊢
  have S0 := hid (BS.new w nm (.slice adr cs.length cap) ks)
  have L0 := hid (hba w (.cells #[.string nm, .slice adr cs.length cap, .int .i64 ks] 24))
  cases hli : lightB ⟨nm, cs, ks⟩ l
  · rw [hli] at hl1
    clear hli hly hmy
    go_enter Try.func8, Try.ntmps8
    go_wp2_with fail
    refine (hl1.out _ (HCA.out.below L0.out) (HRA.out.1.below L0.out)).mono ?_; rintro e w1 ⟨rfl, b1⟩
    go_wp2_with fail
    refine (known_any _).mono ?_; rintro e w3 ⟨rfl, b3⟩
    go_wp2
    go_ret
    exact ⟨rfl, hnext (hnext L0.out b1) b3⟩
  rw [hli] at hl1
  obtain ⟨y1, _, y3, _, _⟩ := hly.out hli
  have Y3 := hid y3
  clear hly hli y1 y3
  cases hmi : lightB ⟨nm, cs, ks⟩ m
  · rw [hmi] at hl2
    clear hmi hmy
    go_enter Try.func8, Try.ntmps8
    go_wp2_with fail
    refine (hl1.out _ (HCA.out.below L0.out) (HRA.out.1.below L0.out)).mono ?_; rintro e w1 ⟨rfl, b1⟩
    have S1 := S0.out.keep b1
    have L1 := hid (hnext L0.out b1)
    clear b1 S0
    obtain ⟨s0, s1, s2, sl⟩ := S1.cells
    go_wp2_with fail
    refine (hl2.out _ (HCA.out.below L1.out) (HMA.out.1.below L1.out)).mono ?_; rintro e w2 ⟨rfl, b2⟩
    go_wp2_with fail
    refine (known_any _).mono ?_; rintro e w3 ⟨rfl, b3⟩
    go_wp2
    go_ret
    exact ⟨rfl, hnext (hnext L1.out b2) b3⟩
  rw [hmi] at hl2
  obtain ⟨_, _, z3, _, _⟩ := hmy.out hmi
  have Z3 := hid z3
  clear hmy hmi z3
  go_enter Try.func8, Try.ntmps8
  go_wp2_with fail
  refine (hl1.out _ (HCA.out.below L0.out) (HRA.out.1.below L0.out)).mono ?_; rintro e w1 ⟨rfl, b1⟩
  have S1 := S0.out.keep b1
  have L1 := hid (hnext L0.out b1)
  clear b1 S0
  obtain ⟨s0, s1, s2, sl⟩ := S1.cells
  go_wp2_with fail
  refine (hl2.out _ (HCA.out.below L1.out) (HMA.out.1.below L1.out)).mono ?_; rintro e w2 ⟨rfl, b2⟩
  have S2 := S1.keep b2
  have L2 := hid (hnext L1.out b2)
  clear b2 S1 s0 s1 s2 sl
  obtain ⟨s0, s1, s2, sl⟩ := S2.cells
  go_wp2_with fail
  refine (ck.out _ (HCA.out.below L2.out) (HRA.out.below L2.out)).mono ?_; rintro e w3 ⟨⟨vk, rfl, ok⟩, b3⟩
  obtain ⟨adrk, capk, rfl⟩ := (VsAt.own ok).len
  have S3 := S2.keep b3
  have K3 := hid (RsAt.own ok)
  have L3 := hid (hnext L2.out b3)
  clear b3 ok S2 s0 s1 s2 sl hl1 hl2
  obtain ⟨s0, s1, s2, sl⟩ := S3.cells
  go_wp2_with fail
  refine (cf.out _ (HCA.out.below L3.out) (HRA.out.below L3.out)).mono ?_; rintro e w4 ⟨rfl, b4⟩
  have S4 := S3.keep b4
  have K4 := hid (K3.out.below b4)
  have L4 := hid (hnext L3.out b4)
  clear b4 S3 s0 s1 s2 sl K3 ck cf
  obtain ⟨s0, s1, s2, sl⟩ := S4.cells
  by_cases hz : Sc.fits ⟨nm, cs, ks⟩ l = 0
  · have HKS := hid (hks.out hz)
    have HKT := hid (hkt.out hz)
    rw [hz]
    clear hz hks hkt hkn
    generalize hkg : Sc.key ⟨nm, cs, ks⟩ l = kl at *
    clear hkg
    obtain ⟨hks1, hks2⟩ := HKS.out
    have HKS2 := hid hks2
    clear hks2 HKS
    subst hks1
    go_wp2_with fail
    go_loopw [8] (fun i wr => ∃ k : Nat, k ≤ kl.length ∧ i = .int .i64 (k : Int) ∧ Below w4.heap.size w4 wr) (fun i _ => kl.length - (intOf i).toNat)
    case atStart => exact ⟨0, by omega, rfl, Below.refl _ _⟩
    case round =>
      obtain ⟨k, hk, rfl, hbel⟩ := hrel
      obtain ⟨w5, rfl⟩ : ∃ w5 : World, w5 = wr := ⟨_, rfl⟩
      by_cases hlk : k < kl.length
      · obtain ⟨hkr, hkq, hkz⟩ := HKS2.out k hlk
        have hx : kl[k] = l[k] := by
          have h := List.getElem?_eq_getElem hlk
          rw [h] at hkq
          exact Option.some.inj hkq
        obtain ⟨_, _, ea, hc⟩ := K4.out.1
        cases ea
        obtain ⟨g, off, rfl, q0, q1, q2, q3⟩ := hc k hlk
        obtain ⟨_, _, eb, hd⟩ := (HRA.out.below L4.out).1
        cases eb
        obtain ⟨g2, off2, rfl, p0, p1, p2, p3⟩ := hd k hkr
        rw [hx] at q0 q1 q2 q3
        clear hx hkq hc hd
        generalize l[k] = x at q0 q1 q2 q3 p0 p1 p2 p3 hkz
        have e0 : (x.k == 0) = false := by rw [beq_eq_false_iff_ne]; exact hkz
        have hq := va_neq x.k x.n x.b x.s x.k x.n x.b x.s _ (v_beq x x)
        rw [decide_eq_true rfl] at hq
        unfold vv at hq
        replace q0 := hkeep q0 hbel
        replace q1 := hkeep q1 hbel
        replace q2 := hkeep q2 hbel
        replace q3 := hkeep q3 hbel
        replace p0 := hkeep p0 hbel
        replace p1 := hkeep p1 hbel
        replace p2 := hkeep p2 hbel
        replace p3 := hkeep p3 hbel
        have hlk1 : (k : Int) < kl.length := by omega
        have hlk2 : (k : Int) < l.length := by omega
        have hk0 : (0 : Int) ≤ (k : Int) := by omega
        have hk30 : k < 30 := by have := hkl.out; have := Y3.out; omega
        clear hkz
        go_wp2_with fail
        go_quiet (fail)
        go_wp2_with fail
        go_roundw
        case rel => exact ⟨k + 1, by omega, by go_num, hdrewN hbel _⟩
        case measure => simp [intOf]; omega
      · obtain rfl : k = kl.length := by omega
        have S5 := S4.keep hbel
        have K5 := hid (K4.out.below hbel)
        have L5 := hid (hnext L4.out hbel)
        clear hbel S4 s0 s1 s2 sl K4 HKS2
        obtain ⟨s0, s1, s2, sl⟩ := S5.cells
        have hk6 : Hid (kl.length ≤ 1000000) := by have := hkl.out; have := Y3.out; show _ ≤ _; omega
        have KN : Hid (adrk = none → capk = 0) := by
          obtain ⟨_, _, e, _, _, h⟩ := K5.out.2
          cases e
          exact h
        have O5 : Hid ((w5.alloc (.cells #[] 46)).ownsRow w5.heap.size 46 4 (.slice (some ⟨w5.heap.size, 0, none⟩) 0 0) ([] : List Cd.V).length (vcells [])) := BR.own (l := []) (heap_alloc_new w5 _) (Nat.le_refl _) (by decide)
        have HA5 := hid (hba w5 (.cells #[] 46))
        have KA := hid (K5.out.below HA5.out)
        by_cases hlt : kl.length < m.length
        · have hlt' : (kl.length : Int) < (m.length : Int) := by omega
          have hle' : (kl.length : Int) ≤ (m.length : Int) := by omega
          have hcne : ¬ cap3 = kl.length := by
            obtain ⟨_, _, e, h, _⟩ := HMA.out.2
            cases e
            omega
          obtain ⟨_, _, e3, hc3⟩ := HMA.out.1
          cases e3
          obtain ⟨g3, off3, rfl, h3⟩ := hc3 0 (by omega)
          clear h3 hc3 hlt
          go_wp2_with (at_builtin; first | (refine append_row _ rfl _ _ rfl w5.heap.size _ [] rfl O5.out kl _ rfl adrk kl.length capk (by first | rfl | (simp; done)) KA.out.1 KN.out (by simp; have := hk6.out; omega) HA5.out.size ?_; intro v6 w6 own6 gr6; have O6 := hid own6; have G6 := hid gr6; clear own6 gr6; rw [List.nil_append] at O6; have B6 : Hid (Below w5.heap.size w5 w6) := below_grown (Below.refl _ _) G6.out; have S6 := S5.keep B6.out; have K6 := hid (K5.out.below B6.out); have L6 := hid (hnext L5.out B6.out); have VX6 := hid (RsAt.own O6.out); have HS6 := hid B6.out.size; obtain ⟨adr6, cap6, hv6⟩ := VX6.out.1.len; subst hv6; obtain ⟨s0, s1, s2, sl⟩ := S6.cells; have MD := hid ((HMA.out.1.below L6.out).drop kl.length _ (cap3 - kl.length) rfl)) | (refine append_row _ rfl _ _ rfl w5.heap.size _ kl rfl O6.out (m.drop kl.length) (.slice (some ⟨g3, off3 + kl.length * 4, none⟩) (m.length - kl.length) (cap3 - kl.length)) (by first | rfl | (simp [Act.eval, Operand.eval, hcne]; done)) (some ⟨g3, off3 + kl.length * 4, none⟩) (m.length - kl.length) (cap3 - kl.length) rfl MD.out (fun e => by cases e) (by rw [List.length_drop]; have := hk6.out; have := Z3.out; omega) HS6.out ?_; intro v7 w7 own7 gr7; have O7 := hid own7; have G7 := hid gr7; clear own7 gr7; have B7 : Hid (Below w5.heap.size w5 w7) := B6.out.grown G7.out HS6.out (own_ge O6.out); have S7 := S5.keep B7.out; have K7 := hid (K5.out.below B7.out); have L7 := hid (hnext L5.out B7.out); have VX7 := hid (RsAt.own O7.out); clear s0 s1 s2 sl; obtain ⟨s0, s1, s2, sl⟩ := S7.cells))
          have HKX := hid (HKT.out (m.drop kl.length))
          have HOX : Hid (Rok (kl ++ m.drop kl.length)) := fun x hx => by
            rcases List.mem_append.1 hx with h | h
            · exact hko.out x h
            · exact HMK.out x (List.mem_of_mem_drop h)
          generalize kl ++ m.drop kl.length = X at VX7 HKX HOX O7
          clear S5 S6 K5 K6 VX6 O5 O6 KA MD B6 G6 G7 B7
          obtain ⟨adrx, capx, rfl⟩ := VX7.out.1.len
          have cf1 := hid (cfx.out _ X (.slice adrx X.length capx) (HCA.out.below L7.out) VX7.out HOX.out)
          by_cases hfx : Sc.fits ⟨nm, cs, (kl.length : Int)⟩ X = 0
          · have HKY := hid (HKX.out hfx)
            rw [hfx] at cf1
            clear hfx
            go_wp2_with fail
            refine (cf1.out).mono ?_; rintro e w8 ⟨rfl, b8⟩
            have S8 := S7.keep b8
            have K8 := hid (K7.out.below b8)
            have V8 := hid (VX7.out.below b8)
            have L8 := hid (hnext L7.out b8)
            clear b8 S7 s0 s1 s2 sl
            obtain ⟨s0, s1, s2, sl⟩ := S8.cells
            go_wp2_with fail
            refine (ckx.out _ X _ (HCA.out.below L8.out) V8.out HOX.out).mono ?_; rintro e w9 ⟨⟨vz, rfl, oz⟩, b9⟩
            rw [HKY.out] at oz
            obtain ⟨adrz, capz, rfl⟩ := (VsAt.own oz).len
            have S9 := S8.keep b9
            have K9 := hid (K8.out.below b9)
            have Z9 := hid (VsAt.own oz)
            have L9 := hid (hnext L8.out b9)
            clear b9 oz S8 s0 s1 s2 sl
            obtain ⟨s0, s1, s2, sl⟩ := S9.cells
            go_wp2_with fail
            refine (rows_any _ _ kl kl _ Z9.out K9.out.1 hk6.out hk6.out).mono ?_; rintro e wA ⟨rfl, bA⟩
            rw [decide_eq_true rfl]
            have LA := hid (hnext L9.out bA)
            go_wp2_with fail
            refine (known_any _).mono ?_; rintro e wZ ⟨rfl, bZ⟩
            go_wp2
            go_ret
            exact ⟨rfl, hnext LA.out bZ⟩
          · generalize Sc.fits ⟨nm, cs, (kl.length : Int)⟩ X = fz at hfx cf1
            have e1 : (fz != 0) = true := by rw [bne_iff_ne]; exact hfx
            clear hfx
            go_wp2_with fail
            refine (cf1.out).mono ?_; rintro e w8 ⟨rfl, b8⟩
            have L8 := hid (hnext L7.out b8)
            clear b8
            go_wp2_with fail
            refine (known_any _).mono ?_; rintro e wZ ⟨rfl, bZ⟩
            go_wp2
            go_ret
            exact ⟨rfl, hnext L8.out bZ⟩
        · have hle' : (m.length : Int) ≤ (kl.length : Int) := by omega
          clear hlt
          go_wp2_with (at_builtin; refine append_row _ rfl _ _ rfl w5.heap.size _ [] rfl O5.out kl _ rfl adrk kl.length capk (by first | rfl | (simp; done)) KA.out.1 KN.out (by simp; have := hk6.out; omega) HA5.out.size ?_; intro v6 w6 own6 gr6; have O6 := hid own6; have G6 := hid gr6; clear own6 gr6; rw [List.nil_append] at O6; have B6 : Hid (Below w5.heap.size w5 w6) := below_grown (Below.refl _ _) G6.out; have S6 := S5.keep B6.out; have K6 := hid (K5.out.below B6.out); have L6 := hid (hnext L5.out B6.out); have VX6 := hid (RsAt.own O6.out); have HS6 := hid B6.out.size; obtain ⟨adr6, cap6, hv6⟩ := VX6.out.1.len; subst hv6; obtain ⟨s0, s1, s2, sl⟩ := S6.cells)
          have HKX := hid (HKT.out [])
          rw [List.append_nil] at HKX
          have HOX := hko
          clear S5 K5 O5 O6 KA
          have cf1 := hid (cfx.out _ kl (.slice adr6 kl.length cap6) (HCA.out.below L6.out) VX6.out HOX.out)
          by_cases hfx : Sc.fits ⟨nm, cs, (kl.length : Int)⟩ kl = 0
          · have HKY := hid (HKX.out hfx)
            rw [hfx] at cf1
            clear hfx
            go_wp2_with fail
            refine (cf1.out).mono ?_; rintro e w8 ⟨rfl, b8⟩
            have S8 := S6.keep b8
            have K8 := hid (K6.out.below b8)
            have V8 := hid (VX6.out.below b8)
            have L8 := hid (hnext L6.out b8)
            clear b8 S6 s0 s1 s2 sl
            obtain ⟨s0, s1, s2, sl⟩ := S8.cells
            go_wp2_with fail
            refine (ckx.out _ kl _ (HCA.out.below L8.out) V8.out HOX.out).mono ?_; rintro e w9 ⟨⟨vz, rfl, oz⟩, b9⟩
            rw [HKY.out] at oz
            obtain ⟨adrz, capz, rfl⟩ := (VsAt.own oz).len
            have S9 := S8.keep b9
            have K9 := hid (K8.out.below b9)
            have Z9 := hid (VsAt.own oz)
            have L9 := hid (hnext L8.out b9)
            clear b9 oz S8 s0 s1 s2 sl
            obtain ⟨s0, s1, s2, sl⟩ := S9.cells
            go_wp2_with fail
            refine (rows_any _ _ kl kl _ Z9.out K9.out.1 hk6.out hk6.out).mono ?_; rintro e wA ⟨rfl, bA⟩
            rw [decide_eq_true rfl]
            have LA := hid (hnext L9.out bA)
            go_wp2_with fail
            refine (known_any _).mono ?_; rintro e wZ ⟨rfl, bZ⟩
            go_wp2
            go_ret
            exact ⟨rfl, hnext LA.out bZ⟩
          · generalize Sc.fits ⟨nm, cs, (kl.length : Int)⟩ kl = fz at hfx cf1
            have e1 : (fz != 0) = true := by rw [bne_iff_ne]; exact hfx
            clear hfx
            go_wp2_with fail
            refine (cf1.out).mono ?_; rintro e w8 ⟨rfl, b8⟩
            have L8 := hid (hnext L6.out b8)
            clear b8
            go_wp2_with fail
            refine (known_any _).mono ?_; rintro e wZ ⟨rfl, bZ⟩
            go_wp2
            go_ret
            exact ⟨rfl, hnext L8.out bZ⟩
  · have HN := hkn.out hz
    rw [HN] at K4 ⊢
    obtain ⟨fz, hfz⟩ : ∃ fz, Sc.fits ⟨nm, cs, ks⟩ l = fz := ⟨_, rfl⟩
    rw [hfz] at hz ⊢
    have e1 : (fz != 0) = true := by rw [bne_iff_ne]; exact hz
    clear hz hfz HN hks hkt hkn
    go_wp2_with fail
    refine (known_any _).mono ?_; rintro e w5 ⟨rfl, b5⟩
    go_wp2
    go_ret
    exact ⟨rfl, hnext L4.out b5⟩
end Go.Proofs.Ytmgafcblbbbanaa
