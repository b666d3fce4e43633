/-
  FrameBack answers true at any transaction and any bytes. No condition.
-/
import Derived.Test.YtmmegicaeaifaaaGl
namespace Go.Proofs.Ytmmegicaeaifaaa
open Go.RowKit Fr

set_option maxRecDepth 100000 in
theorem fdecode_body (t : Tx) (W : World) (h : body t ≠ []) (hk : Hok t.cs) : Calls Try.prog 25 #[.string (bstr (body t))] W fun e w' => ∃ v, e = .returned (.tuple #[tv t v, .int .i64 0]) ∧ HsAt w' v t.cs ∧ Below W.heap.size W w' :=
  (fdecode_any (bstr (body t)) (by have := body_size t; rw [bstr_size]; omega) W).mono fun e w' hd => by
    obtain ⟨r, v, er, rfl, hv, hkr, hb, hd⟩ := hd
    obtain ⟨h1, h2⟩ := dec_pair hkr hk hd (.inl ⟨rfl, h, rfl⟩)
    subst h1 h2
    exact ⟨v, rfl, hv, hb⟩
set_option maxRecDepth 100000 in
set_option maxHeartbeats 12800000 in
theorem frameBack_walk (t : Tx) (u : Value) (tail b : ByteArray) (w : World) (ht : TIn w t u) (_ : tail.size ≤ maxLen) (_ : b.size ≤ maxLen) :
    Calls Try.prog 5 #[tv t u, .string tail, .string b] w fun e w' => e = .returned (.bool true) ∧ Below w.heap.size w w' := by
  obtain ⟨hv, hk⟩ := ht
  have BX := hid (BT.new w t u)
  have L := hid (hba w (.cells #[.int .i64 t.seq, .int .i64 t.time, u] 24))
  have HV := hid (hv.below (hba w (.cells #[.int .i64 t.seq, .int .i64 t.time, u] 24)))
  have KT := hid hk
  obtain ⟨adr, cap, rfl⟩ := hv.slc
  have cl := fun W (h : HsAt W (.slice adr t.cs.length cap) t.cs) => flight_full t _ W h hk
  have ce := fun W (h : HsAt W (.slice adr t.cs.length cap) t.cs) => fencode_any t _ W h hk
  have cb := fun W (h : HsAt W (.slice adr t.cs.length cap) t.cs) => fbody_any t _ W h hk
  have cr := fun W (h : HsAt W (.slice adr t.cs.length cap) t.cs) => fright_any t _ W h hk
  unfold tv at cl ce cb cr
  have CL := hid cl
  have CE := hid ce
  have CB := hid cb
  have CR := hid cr
  clear hv hk cl ce cb cr
  unfold tv
  by_cases hbt : body t = []
  · have hs := CE.out
    rw [frame_no hbt] at hs
    replace CE := hid hs
    have HB := hid hbt
    clear hs hbt
    have q1 : ((bstr []).toList == []) = true := by rw [empty_eq]; exact decide_eq_true rfl
    have q2 : (bstr []).toList.isEmpty = true := by rw [empty_eq']; exact decide_eq_true rfl
    have hfs : (bstr []).size ≤ 100008 := by decide
    generalize bstr [] = S at *
    obtain ⟨s0, s1, s2, _, _, _, _⟩ := BX.out.cells
    go_enter Try.func5, Try.ntmps5
    go_wp2_with fail
    refine (CL.out _ HV.out).mono ?_; rintro e w1 ⟨⟨z, rfl, hz⟩, b⟩
    have HZ := hid hz
    clear hz s0 s1 s2
    replace L := hid (hnext L.out b)
    replace BX := hid (BX.out.keep b)
    replace HV := hid (HV.out.below b)
    clear b
    cases z with
    | false =>
      go_wp2_with fail
      refine (known_any _).mono ?_; rintro e w2 ⟨rfl, b⟩
      go_wp2
      go_ret
      exact ⟨rfl, hnext L.out b⟩
    | true =>
      have hrf : txB t = false := by
        cases hq : txB t with
        | false => rfl
        | true => exact absurd HB.out (HZ.out rfl hq)
      have cr := CR.out
      rw [hrf] at cr
      replace CR := hid cr
      clear cr hrf HZ HB
      by_cases h1 : 1000 < tail.size
      · have h1' : (1000 : Int) < (tail.size : Int) := by omega
        clear h1
        go_wp2_with fail
        refine (known_any _).mono ?_; rintro e w2 ⟨rfl, b⟩
        go_wp2
        go_ret
        exact ⟨rfl, hnext L.out b⟩
      have h1' : ¬ (1000 : Int) < (tail.size : Int) := by omega
      by_cases h2 : 2000 < b.size
      · have h2' : (2000 : Int) < (b.size : Int) := by omega
        clear h2
        go_wp2_with fail
        refine (known_any _).mono ?_; rintro e w2 ⟨rfl, b⟩
        go_wp2
        go_ret
        exact ⟨rfl, hnext L.out b⟩
      have h2' : ¬ (2000 : Int) < (b.size : Int) := by omega
      have CD := hid (fun W => fdecode_any b (by omega) W)
      have hadd : ¬ 9223372036854775807 < S.size + tail.size := by omega
      clear h1 h2
      obtain ⟨s0, s1, s2, _, _, _, _⟩ := BX.out.cells
      go_wp2_with fail
      refine (CE.out _ HV.out).mono ?_; rintro e w2 ⟨rfl, b⟩
      replace L := hid (hnext L.out b)
      replace BX := hid (BX.out.keep b)
      replace HV := hid (HV.out.below b)
      clear b
      clear s0 s1 s2
      go_wp2_with fail
      refine (CD.out _).mono ?_; rintro e w3 ⟨r, vr, e1, rfl, hr, hkr, b, hd⟩
      obtain ⟨at1, ct1, rfl⟩ := hr.slc
      replace L := hid (hnext L.out b)
      replace BX := hid (BX.out.keep b)
      replace HV := hid (HV.out.below b)
      have HT := hid hr
      have KR := hid hkr
      clear hr b hkr
      unfold tv
      rcases hd with h | h
      · obtain ⟨h1, h2, h3⟩ := h
        subst h1
        subst h3
        have hrr := (body_full h2).1
        have BR := hid (fun W h => fbody_any r (.slice at1 r.cs.length ct1) W h KR.out)
        have cr := fun W h => fright_any r (.slice at1 r.cs.length ct1) W h KR.out
        rw [hrr] at cr
        have RR := hid cr
        clear h2 hrr cr
        unfold tv at BR RR
        obtain ⟨y0, y1, y2, _, _, _, _⟩ := (BT.new w3 r (.slice at1 r.cs.length ct1)).cells
        generalize bstr (body r) = B at *
        go_wp2_with fail
        clear y0 y1 y2
        have BY := hid (heap_alloc_new w3 (.cells #[.int .i64 r.seq, .int .i64 r.time, .slice at1 r.cs.length ct1] 24))
        have b := hba w3 (.cells #[.int .i64 r.seq, .int .i64 r.time, .slice at1 r.cs.length ct1] 24)
        replace L := hid (hnext L.out b)
        replace BX := hid (BX.out.keep b)
        replace HV := hid (HV.out.below b)
        replace HT := hid (HT.out.below b)
        clear b
        obtain ⟨gy, hgy⟩ : ∃ g, w3.heap.size = g := ⟨_, rfl⟩
        rw [hgy] at BY
        (try rw [hgy])
        clear hgy
        generalize w3.alloc (.cells #[.int .i64 r.seq, .int .i64 r.time, .slice at1 r.cs.length ct1] 24) = w4 at *
        refine (BR.out _ HT.out).mono ?_; rintro e w5 ⟨rfl, b⟩
        replace L := hid (hnext L.out b)
        replace BX := hid (BX.out.keep b)
        replace HV := hid (HV.out.below b)
        replace HT := hid (HT.out.below b)
        replace BY := hid (keepBlock BY.out b)
        clear b
        have y0 := cell_of_row w5 gy 0 _ _ _ BY.out
        have y1 := cell_of_row w5 gy 1 _ _ _ BY.out
        have y2 := cell_of_row w5 gy 2 _ _ _ BY.out
        simp only [List.getElem?_toArray, List.getElem?_cons_zero, List.getElem?_cons_succ] at y0 y1 y2
        go_wp2_with fail
        refine (RR.out _ HT.out).mono ?_; rintro e w6 ⟨rfl, b⟩
        replace L := hid (hnext L.out b)
        replace BX := hid (BX.out.keep b)
        replace HV := hid (HV.out.below b)
        replace HT := hid (HT.out.below b)
        replace BY := hid (keepBlock BY.out b)
        clear b
        clear y0 y1 y2
        obtain ⟨s0, s1, s2, _, _, _, _⟩ := BX.out.cells
        go_wp2_with fail
        refine (CR.out _ HV.out).mono ?_; rintro e w7 ⟨rfl, b⟩
        replace L := hid (hnext L.out b)
        replace BX := hid (BX.out.keep b)
        replace HV := hid (HV.out.below b)
        replace HT := hid (HT.out.below b)
        replace BY := hid (keepBlock BY.out b)
        clear b
        clear s0 s1 s2
        go_wp2_with fail
        refine (known_any _).mono ?_; rintro e w8 ⟨rfl, b⟩
        go_wp2
        go_ret
        exact ⟨rfl, hnext L.out b⟩
      · obtain ⟨h1, h2, _⟩ := h
        subst h1
        clear h2
        obtain ⟨s0, s1, s2, _, _, _, _⟩ := (BX.out.keep (hba w3 (.cells #[.int .i64 r.seq, .int .i64 r.time, .slice at1 r.cs.length ct1] 24))).cells
        go_wp2_with fail
        clear s0 s1 s2
        have BY := hid (heap_alloc_new w3 (.cells #[.int .i64 r.seq, .int .i64 r.time, .slice at1 r.cs.length ct1] 24))
        have b := hba w3 (.cells #[.int .i64 r.seq, .int .i64 r.time, .slice at1 r.cs.length ct1] 24)
        replace L := hid (hnext L.out b)
        replace BX := hid (BX.out.keep b)
        replace HV := hid (HV.out.below b)
        replace HT := hid (HT.out.below b)
        clear b
        obtain ⟨gy, hgy⟩ : ∃ g, w3.heap.size = g := ⟨_, rfl⟩
        rw [hgy] at BY
        (try rw [hgy])
        clear hgy
        generalize w3.alloc (.cells #[.int .i64 r.seq, .int .i64 r.time, .slice at1 r.cs.length ct1] 24) = w4 at *
        refine (CR.out _ HV.out).mono ?_; rintro e w5 ⟨rfl, b⟩
        replace L := hid (hnext L.out b)
        replace BX := hid (BX.out.keep b)
        replace HV := hid (HV.out.below b)
        replace HT := hid (HT.out.below b)
        replace BY := hid (keepBlock BY.out b)
        clear b
        go_wp2_with fail
        refine (known_any _).mono ?_; rintro e w6 ⟨rfl, b⟩
        go_wp2
        go_ret
        exact ⟨rfl, hnext L.out b⟩
  have hf := frame_fr hbt
  have hsz : (body t).length ≤ 100000 := body_size t
  have CN0 : Hid (∀ W, tail.size ≤ 1000 → Calls Try.prog 21 #[.string (bstr (frame t) ++ tail)] W fun e w' => e = .returned (.tuple #[.string (bstr (body t)), .int .i64 ((bstr (frame t)).size : Int), .int .i64 0]) ∧ Below W.heap.size W w') := by
    intro W h
    have hsz1 := frame_size t
    have := fnext_any (bstr (frame t) ++ tail) (by rw [ByteArray.size_append]; omega) W
    have e : bstr (frame t) ++ tail = bstr (fr (body t) ++ tail.data.toList) := by rw [hf, ← bstr_append, bstr_of]
    rw [e, next_frame hsz] at this
    rw [e, hf, bstr_size, fr_len]
    exact this
  have CX : Hid (∀ W, Calls Try.prog 25 #[.string (bstr (body t))] W fun e w' => ∃ v, e = .returned (.tuple #[tv t v, .int .i64 0]) ∧ HsAt w' v t.cs ∧ Below W.heap.size W w') := fun W => fdecode_body t W hbt KT.out
  have q1 : ((bstr (frame t)).toList == []) = false := by rw [empty_eq]; exact decide_eq_false (fun h => hbt (frame_nil.1 h))
  have q2 : (bstr (frame t)).toList.isEmpty = false := by rw [empty_eq']; exact decide_eq_false (fun h => hbt (frame_nil.1 h))
  have hfs := frame_size t
  generalize bstr (frame t) = S at *
  generalize bstr (body t) = X at *
  clear hf hsz hbt
  obtain ⟨s0, s1, s2, _, _, _, _⟩ := BX.out.cells
  go_enter Try.func5, Try.ntmps5
  go_wp2_with fail
  refine (CL.out _ HV.out).mono ?_; rintro e w1 ⟨⟨z, rfl, hz⟩, b⟩
  have HZ := hid hz
  clear hz s0 s1 s2
  replace L := hid (hnext L.out b)
  replace BX := hid (BX.out.keep b)
  replace HV := hid (HV.out.below b)
  clear b
  cases z with
  | false =>
    go_wp2_with fail
    refine (known_any _).mono ?_; rintro e w2 ⟨rfl, b⟩
    go_wp2
    go_ret
    exact ⟨rfl, hnext L.out b⟩
  | true =>
    by_cases h1 : 1000 < tail.size
    · have h1' : (1000 : Int) < (tail.size : Int) := by omega
      clear h1
      go_wp2_with fail
      refine (known_any _).mono ?_; rintro e w2 ⟨rfl, b⟩
      go_wp2
      go_ret
      exact ⟨rfl, hnext L.out b⟩
    have h1' : ¬ (1000 : Int) < (tail.size : Int) := by omega
    by_cases h2 : 2000 < b.size
    · have h2' : (2000 : Int) < (b.size : Int) := by omega
      clear h2
      go_wp2_with fail
      refine (known_any _).mono ?_; rintro e w2 ⟨rfl, b⟩
      go_wp2
      go_ret
      exact ⟨rfl, hnext L.out b⟩
    have h2' : ¬ (2000 : Int) < (b.size : Int) := by omega
    have CD := hid (fun W => fdecode_any b (by omega) W)
    have hadd : ¬ 9223372036854775807 < S.size + tail.size := by omega
    have CN := hid (fun W => CN0.out W (by omega))
    clear CN0
    clear h1 h2
    obtain ⟨s0, s1, s2, _, _, _, _⟩ := BX.out.cells
    go_wp2_with fail
    refine (CE.out _ HV.out).mono ?_; rintro e w2 ⟨rfl, b⟩
    replace L := hid (hnext L.out b)
    replace BX := hid (BX.out.keep b)
    replace HV := hid (HV.out.below b)
    clear b
    clear s0 s1 s2
    go_wp2_with fail
    refine (CD.out _).mono ?_; rintro e w3 ⟨r, vr, e1, rfl, hr, hkr, b, hd⟩
    obtain ⟨at1, ct1, rfl⟩ := hr.slc
    replace L := hid (hnext L.out b)
    replace BX := hid (BX.out.keep b)
    replace HV := hid (HV.out.below b)
    have HT := hid hr
    have KR := hid hkr
    clear hr b hkr
    unfold tv
    rcases hd with h | h
    · obtain ⟨h1, h2, h3⟩ := h
      subst h1
      subst h3
      have hrr := (body_full h2).1
      have BR := hid (fun W h => fbody_any r (.slice at1 r.cs.length ct1) W h KR.out)
      have cr := fun W h => fright_any r (.slice at1 r.cs.length ct1) W h KR.out
      rw [hrr] at cr
      have RR := hid cr
      clear h2 hrr cr
      unfold tv at BR RR
      obtain ⟨y0, y1, y2, _, _, _, _⟩ := (BT.new w3 r (.slice at1 r.cs.length ct1)).cells
      generalize bstr (body r) = B at *
      go_wp2_with fail
      clear y0 y1 y2
      have BY := hid (heap_alloc_new w3 (.cells #[.int .i64 r.seq, .int .i64 r.time, .slice at1 r.cs.length ct1] 24))
      have b := hba w3 (.cells #[.int .i64 r.seq, .int .i64 r.time, .slice at1 r.cs.length ct1] 24)
      replace L := hid (hnext L.out b)
      replace BX := hid (BX.out.keep b)
      replace HV := hid (HV.out.below b)
      replace HT := hid (HT.out.below b)
      clear b
      obtain ⟨gy, hgy⟩ : ∃ g, w3.heap.size = g := ⟨_, rfl⟩
      rw [hgy] at BY
      (try rw [hgy])
      clear hgy
      generalize w3.alloc (.cells #[.int .i64 r.seq, .int .i64 r.time, .slice at1 r.cs.length ct1] 24) = w4 at *
      refine (BR.out _ HT.out).mono ?_; rintro e w5 ⟨rfl, b⟩
      replace L := hid (hnext L.out b)
      replace BX := hid (BX.out.keep b)
      replace HV := hid (HV.out.below b)
      replace HT := hid (HT.out.below b)
      replace BY := hid (keepBlock BY.out b)
      clear b
      have y0 := cell_of_row w5 gy 0 _ _ _ BY.out
      have y1 := cell_of_row w5 gy 1 _ _ _ BY.out
      have y2 := cell_of_row w5 gy 2 _ _ _ BY.out
      simp only [List.getElem?_toArray, List.getElem?_cons_zero, List.getElem?_cons_succ] at y0 y1 y2
      go_wp2_with fail
      refine (RR.out _ HT.out).mono ?_; rintro e w6 ⟨rfl, b⟩
      replace L := hid (hnext L.out b)
      replace BX := hid (BX.out.keep b)
      replace HV := hid (HV.out.below b)
      replace HT := hid (HT.out.below b)
      replace BY := hid (keepBlock BY.out b)
      clear b
      clear y0 y1 y2
      obtain ⟨s0, s1, s2, _, _, _, _⟩ := BX.out.cells
      go_wp2_with fail
      refine (CN.out _).mono ?_; rintro e w7 ⟨rfl, b⟩
      replace L := hid (hnext L.out b)
      replace BX := hid (BX.out.keep b)
      replace HV := hid (HV.out.below b)
      replace HT := hid (HT.out.below b)
      replace BY := hid (keepBlock BY.out b)
      clear b
      clear s0 s1 s2
      go_wp2_with fail
      refine (CX.out _).mono ?_; rintro e w8 ⟨vx, rfl, hx, b⟩
      obtain ⟨at2, ct2, rfl⟩ := hx.slc
      replace L := hid (hnext L.out b)
      replace BX := hid (BX.out.keep b)
      replace HV := hid (HV.out.below b)
      replace HT := hid (HT.out.below b)
      replace BY := hid (keepBlock BY.out b)
      have HX := hid hx
      clear hx b
      unfold tv
      obtain ⟨s0, s1, s2, _, _, _, _⟩ := (BX.out.keep (hba w8 (.cells #[.int .i64 t.seq, .int .i64 t.time, .slice at2 t.cs.length ct2] 24))).cells
      obtain ⟨v0, v1, v2, _, _, _, _⟩ := (BT.new w8 t (.slice at2 t.cs.length ct2)).cells
      go_wp2_with fail
      clear s0 s1 s2 v0 v1 v2
      have BV := hid (heap_alloc_new w8 (.cells #[.int .i64 t.seq, .int .i64 t.time, .slice at2 t.cs.length ct2] 24))
      have b := hba w8 (.cells #[.int .i64 t.seq, .int .i64 t.time, .slice at2 t.cs.length ct2] 24)
      replace L := hid (hnext L.out b)
      replace BX := hid (BX.out.keep b)
      replace HV := hid (HV.out.below b)
      replace HT := hid (HT.out.below b)
      replace BY := hid (keepBlock BY.out b)
      replace HX := hid (HX.out.below b)
      clear b
      obtain ⟨gv, hgv⟩ : ∃ g, w8.heap.size = g := ⟨_, rfl⟩
      rw [hgv] at BV
      (try rw [hgv])
      clear hgv
      generalize w8.alloc (.cells #[.int .i64 t.seq, .int .i64 t.time, .slice at2 t.cs.length ct2] 24) = w9 at *
      have cu := fsameR_any t t _ _ _ HX.out HV.out KT.out KT.out
      rw [decide_eq_true (rfl : t = t)] at cu
      refine cu.mono ?_; rintro e w10 ⟨rfl, b⟩
      replace L := hid (hnext L.out b)
      replace BX := hid (BX.out.keep b)
      replace HV := hid (HV.out.below b)
      replace HT := hid (HT.out.below b)
      replace BY := hid (keepBlock BY.out b)
      replace HX := hid (HX.out.below b)
      replace BV := hid (keepBlock BV.out b)
      clear b cu
      go_wp2_with fail
      refine (known_any _).mono ?_; rintro e w11 ⟨rfl, b⟩
      go_wp2
      go_ret
      exact ⟨rfl, hnext L.out b⟩
    · obtain ⟨h1, h2, _⟩ := h
      subst h1
      clear h2
      obtain ⟨s0, s1, s2, _, _, _, _⟩ := (BX.out.keep (hba w3 (.cells #[.int .i64 r.seq, .int .i64 r.time, .slice at1 r.cs.length ct1] 24))).cells
      go_wp2_with fail
      clear s0 s1 s2
      have BY := hid (heap_alloc_new w3 (.cells #[.int .i64 r.seq, .int .i64 r.time, .slice at1 r.cs.length ct1] 24))
      have b := hba w3 (.cells #[.int .i64 r.seq, .int .i64 r.time, .slice at1 r.cs.length ct1] 24)
      replace L := hid (hnext L.out b)
      replace BX := hid (BX.out.keep b)
      replace HV := hid (HV.out.below b)
      replace HT := hid (HT.out.below b)
      clear b
      obtain ⟨gy, hgy⟩ : ∃ g, w3.heap.size = g := ⟨_, rfl⟩
      rw [hgy] at BY
      (try rw [hgy])
      clear hgy
      generalize w3.alloc (.cells #[.int .i64 r.seq, .int .i64 r.time, .slice at1 r.cs.length ct1] 24) = w4 at *
      refine (CN.out _).mono ?_; rintro e w5 ⟨rfl, b⟩
      replace L := hid (hnext L.out b)
      replace BX := hid (BX.out.keep b)
      replace HV := hid (HV.out.below b)
      replace HT := hid (HT.out.below b)
      replace BY := hid (keepBlock BY.out b)
      clear b
      go_wp2_with fail
      refine (CX.out _).mono ?_; rintro e w6 ⟨vx, rfl, hx, b⟩
      obtain ⟨at2, ct2, rfl⟩ := hx.slc
      replace L := hid (hnext L.out b)
      replace BX := hid (BX.out.keep b)
      replace HV := hid (HV.out.below b)
      replace HT := hid (HT.out.below b)
      replace BY := hid (keepBlock BY.out b)
      have HX := hid hx
      clear hx b
      unfold tv
      obtain ⟨s0, s1, s2, _, _, _, _⟩ := (BX.out.keep (hba w6 (.cells #[.int .i64 t.seq, .int .i64 t.time, .slice at2 t.cs.length ct2] 24))).cells
      obtain ⟨v0, v1, v2, _, _, _, _⟩ := (BT.new w6 t (.slice at2 t.cs.length ct2)).cells
      go_wp2_with fail
      clear s0 s1 s2 v0 v1 v2
      have BV := hid (heap_alloc_new w6 (.cells #[.int .i64 t.seq, .int .i64 t.time, .slice at2 t.cs.length ct2] 24))
      have b := hba w6 (.cells #[.int .i64 t.seq, .int .i64 t.time, .slice at2 t.cs.length ct2] 24)
      replace L := hid (hnext L.out b)
      replace BX := hid (BX.out.keep b)
      replace HV := hid (HV.out.below b)
      replace HT := hid (HT.out.below b)
      replace BY := hid (keepBlock BY.out b)
      replace HX := hid (HX.out.below b)
      clear b
      obtain ⟨gv, hgv⟩ : ∃ g, w6.heap.size = g := ⟨_, rfl⟩
      rw [hgv] at BV
      (try rw [hgv])
      clear hgv
      generalize w6.alloc (.cells #[.int .i64 t.seq, .int .i64 t.time, .slice at2 t.cs.length ct2] 24) = w7 at *
      have cu := fsameR_any t t _ _ _ HX.out HV.out KT.out KT.out
      rw [decide_eq_true (rfl : t = t)] at cu
      refine cu.mono ?_; rintro e w8 ⟨rfl, b⟩
      replace L := hid (hnext L.out b)
      replace BX := hid (BX.out.keep b)
      replace HV := hid (HV.out.below b)
      replace HT := hid (HT.out.below b)
      replace BY := hid (keepBlock BY.out b)
      replace HX := hid (HX.out.below b)
      replace BV := hid (keepBlock BV.out b)
      clear b cu
      go_wp2_with fail
      refine (known_any _).mono ?_; rintro e w9 ⟨rfl, b⟩
      go_wp2
      go_ret
      exact ⟨rfl, hnext L.out b⟩
end Go.Proofs.Ytmmegicaeaifaaa
