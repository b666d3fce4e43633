/-
  FrameOne answers true at any bytes and any transaction. No condition.
-/
import Derived.Test.YtmmegicaeaifaaaGl
namespace Go.Proofs.Ytmmegicaeaifaaa
open Go.RowKit Fr

set_option maxRecDepth 100000 in
set_option maxHeartbeats 12800000 in
theorem frameOne_walk (s : ByteArray) (t : Tx) (u : Value) (w : World) (_ : s.size ≤ maxLen) (ht : TIn w t u) :
    Calls Try.prog 8 #[.string s, tv t u] w fun e w' => e = .returned (.bool true) ∧ Below w.heap.size w w' := by
  obtain ⟨hv, hk⟩ := ht
  have BX := hid (BT.new w t u)
  have L := hid (hba w (.cells #[.int .i64 t.seq, .int .i64 t.time, u] 24))
  have HV := hid (hv.below (hba w (.cells #[.int .i64 t.seq, .int .i64 t.time, u] 24)))
  have KT := hid hk
  obtain ⟨adr, cap, rfl⟩ := hv.slc
  have cl := fun W (h : HsAt W (.slice adr t.cs.length cap) t.cs) => flight_full t _ W h hk
  have ce := fun W (h : HsAt W (.slice adr t.cs.length cap) t.cs) => fencode_any t _ W h hk
  have cb := fun W (h : HsAt W (.slice adr t.cs.length cap) t.cs) => fbody_any t _ W h hk
  have cr := fun W (h : HsAt W (.slice adr t.cs.length cap) t.cs) => fright_any t _ W h hk
  unfold tv at cl ce cb cr
  have CL := hid cl
  have CE := hid ce
  have CB := hid cb
  have CR := hid cr
  clear hv hk cl ce cb cr
  unfold tv
  by_cases h1 : 1000 < s.size
  · have h1' : (1000 : Int) < (s.size : Int) := by omega
    clear h1
    obtain ⟨s0, s1, s2, _, _, _, _⟩ := BX.out.cells
    go_enter Try.func8, Try.ntmps8
    go_wp2_with fail
    refine (known_any _).mono ?_; rintro e w9 ⟨rfl, b9⟩
    go_wp2
    go_ret
    exact ⟨rfl, hnext L.out b9⟩
  have h1' : ¬ (1000 : Int) < (s.size : Int) := by omega
  have hfs := frame_size t
  have cn := fun W => fnext_any s (by omega) W
  have cm := fun W => fnext_any (bstr (frame t) ++ s) (by rw [ByteArray.size_append]; omega) W
  have cs := fun W => fsplit_any (bstr (frame t) ++ s) (by rw [ByteArray.size_append]; omega) W
  have ct := fun W => fsplit_any s (by omega) W
  unfold SplitP at cs ct
  have hq := splitR_len s
  have hone := next_one (s := s)
  have hbad := next_ways s
  by_cases hbt : body t = []
  · rw [frame_no hbt] at hfs
    have hs := CE.out
    rw [frame_no hbt] at hs cm cs
    replace CE := hid hs
    have HB := hid hbt
    have q1 : ((bstr []).toList == []) = true := by rw [empty_eq]; exact decide_eq_true rfl
    have q2 : (bstr []).toList.isEmpty = true := by rw [empty_eq']; exact decide_eq_true rfl
    clear hs hbt
    generalize bstr [] = S at *
    generalize nextR (S ++ s) = pp at cm
    generalize splitR (S ++ s) = qq at cs
    obtain ⟨b1, m1, g1⟩ := pp
    obtain ⟨l1, k1, h1⟩ := qq
    have hadd : ¬ 9223372036854775807 < S.size + s.size := by omega
    generalize splitR s = r at *
    obtain ⟨sx, sy, sz⟩ := r
    generalize nextR s = p at *
    obtain ⟨a, n, e0⟩ := p
    simp only at cn cm cs ct hq hone hbad
    have CM := hid cm
    have CS := hid cs
    have CT := hid ct
    clear cm cs ct
    by_cases he : e0 = 0
    · subst he
      obtain ⟨g1, g2, g3⟩ := hone rfl
      obtain ⟨m, rfl⟩ : ∃ m, n = m + 4 := ⟨n - 4, by omega⟩
      have CN := hid cn
      rw [show m + 4 - 4 = m by omega] at g3
      have w1 : ((m + 4 : Nat) : Int) - 4 = (m : Int) := by omega
      have w2 : IntKind.i64.wrap (((m + 4 : Nat) : Int) - 4) = (m : Int) := by rw [IntKind.wrap_i64]; omega
      have w3 : IntKind.i64.wrap ((a.size : Int) + 8) = ((m + 4 : Nat) : Int) := by rw [IntKind.wrap_i64]; omega
      have w4 : ¬ (s.size : Int) < ((m + 4 : Nat) : Int) := by omega
      have w5 : (4 : Int) ≤ (m : Int) := by omega
      have w6 : (m : Int) ≤ (s.size : Int) := by omega
      have w7 : (0 : Int) ≤ (m : Int) := by omega
      have w8 : (m : Int).toNat = m := Int.toNat_natCast _
      have w9 : IntKind.i64.wrap ((sx.length : Int) + 1) = ((sx.length + 1 : Nat) : Int) := by rw [IntKind.wrap_i64]; omega
      have w10 : IntKind.i64.wrap ((S.size : Int) + (sy : Int)) = ((S.size + sy : Nat) : Int) := by rw [IntKind.wrap_i64]; omega
      generalize m + 4 = n at *
      clear cn hone hbad g1 g2 hq
      obtain ⟨s0, s1, s2, _, _, _, _⟩ := BX.out.cells
      go_enter Try.func8, Try.ntmps8
      go_wp2_with fail
      refine (CL.out _ HV.out).mono ?_; rintro e w1 ⟨⟨z, rfl, hz⟩, b⟩
      have HZ := hid hz
      clear hz s0 s1 s2
      replace L := hid (hnext L.out b)
      replace BX := hid (BX.out.keep b)
      replace HV := hid (HV.out.below b)
      clear b
      cases z with
      | false =>
        go_wp2_with fail
        refine (known_any _).mono ?_; rintro e w2 ⟨rfl, b⟩
        go_wp2
        go_ret
        exact ⟨rfl, hnext L.out b⟩
      | true =>
        have hrf : txB t = false := by
          cases hq : txB t with
          | false => rfl
          | true => exact absurd HB.out (HZ.out rfl hq)
        have cr := CR.out
        rw [hrf] at cr
        replace CR := hid cr
        clear cr hrf HZ HB
        obtain ⟨s0, s1, s2, _, _, _, _⟩ := BX.out.cells
        go_wp2_with fail
        refine (CE.out _ HV.out).mono ?_; rintro e w2 ⟨rfl, b⟩
        replace L := hid (hnext L.out b)
        replace BX := hid (BX.out.keep b)
        replace HV := hid (HV.out.below b)
        clear b
        clear s0 s1 s2
        go_wp2_with fail
        refine (CN.out _).mono ?_; rintro e w3 ⟨rfl, b⟩
        replace L := hid (hnext L.out b)
        replace BX := hid (BX.out.keep b)
        replace HV := hid (HV.out.below b)
        clear b
        go_wp2_with fail
        refine (CM.out _).mono ?_; rintro e w4 ⟨rfl, b⟩
        replace L := hid (hnext L.out b)
        replace BX := hid (BX.out.keep b)
        replace HV := hid (HV.out.below b)
        clear b
        go_wp2_with fail
        refine (CS.out _).mono ?_; rintro e w5 ⟨v5, rfl, ho, b⟩
        replace L := hid (hnext L.out b)
        replace BX := hid (BX.out.keep b)
        replace HV := hid (HV.out.below b)
        obtain ⟨a5, c5, rfl⟩ := ho.at.slc
        clear ho b
        go_wp2_with fail
        refine (CT.out _).mono ?_; rintro e w6 ⟨v6, rfl, ho, b⟩
        replace L := hid (hnext L.out b)
        replace BX := hid (BX.out.keep b)
        replace HV := hid (HV.out.below b)
        obtain ⟨a6, c6, rfl⟩ := ho.at.slc
        clear ho b
        obtain ⟨s0, s1, s2, _, _, _, _⟩ := BX.out.cells
        go_wp2_with fail
        refine (CR.out _ HV.out).mono ?_; rintro e w7 ⟨rfl, b⟩
        replace L := hid (hnext L.out b)
        replace BX := hid (BX.out.keep b)
        replace HV := hid (HV.out.below b)
        clear b
        clear s0 s1 s2
        go_wp2_with fail
        refine (known_any _).mono ?_; rintro e w8 ⟨rfl, b⟩
        go_wp2
        go_ret
        exact ⟨rfl, hnext L.out b⟩
    · have hz : a = ⟨#[]⟩ ∧ n = 0 := by
        rcases hbad with ⟨_, h, h'⟩ | ⟨h, _⟩
        · exact ⟨h, h'⟩
        · exact absurd h he
      obtain ⟨rfl, rfl⟩ := hz
      have CN := hid cn
      have he' : (e0 == 0) = false := by simpa using he
      have w9 : IntKind.i64.wrap ((sx.length : Int) + 1) = ((sx.length + 1 : Nat) : Int) := by rw [IntKind.wrap_i64]; omega
      have w10 : IntKind.i64.wrap ((S.size : Int) + (sy : Int)) = ((S.size + sy : Nat) : Int) := by rw [IntKind.wrap_i64]; omega
      clear cn hone hbad hq
      obtain ⟨s0, s1, s2, _, _, _, _⟩ := BX.out.cells
      go_enter Try.func8, Try.ntmps8
      go_wp2_with fail
      refine (CL.out _ HV.out).mono ?_; rintro e w1 ⟨⟨z, rfl, hz⟩, b⟩
      have HZ := hid hz
      clear hz s0 s1 s2
      replace L := hid (hnext L.out b)
      replace BX := hid (BX.out.keep b)
      replace HV := hid (HV.out.below b)
      clear b
      cases z with
      | false =>
        go_wp2_with fail
        refine (known_any _).mono ?_; rintro e w2 ⟨rfl, b⟩
        go_wp2
        go_ret
        exact ⟨rfl, hnext L.out b⟩
      | true =>
        have hrf : txB t = false := by
          cases hq : txB t with
          | false => rfl
          | true => exact absurd HB.out (HZ.out rfl hq)
        have cr := CR.out
        rw [hrf] at cr
        replace CR := hid cr
        clear cr hrf HZ HB
        obtain ⟨s0, s1, s2, _, _, _, _⟩ := BX.out.cells
        go_wp2_with fail
        refine (CE.out _ HV.out).mono ?_; rintro e w2 ⟨rfl, b⟩
        replace L := hid (hnext L.out b)
        replace BX := hid (BX.out.keep b)
        replace HV := hid (HV.out.below b)
        clear b
        clear s0 s1 s2
        go_wp2_with fail
        refine (CN.out _).mono ?_; rintro e w3 ⟨rfl, b⟩
        replace L := hid (hnext L.out b)
        replace BX := hid (BX.out.keep b)
        replace HV := hid (HV.out.below b)
        clear b
        go_wp2_with fail
        refine (CM.out _).mono ?_; rintro e w4 ⟨rfl, b⟩
        replace L := hid (hnext L.out b)
        replace BX := hid (BX.out.keep b)
        replace HV := hid (HV.out.below b)
        clear b
        go_wp2_with fail
        refine (CS.out _).mono ?_; rintro e w5 ⟨v5, rfl, ho, b⟩
        replace L := hid (hnext L.out b)
        replace BX := hid (BX.out.keep b)
        replace HV := hid (HV.out.below b)
        obtain ⟨a5, c5, rfl⟩ := ho.at.slc
        clear ho b
        go_wp2_with fail
        refine (CT.out _).mono ?_; rintro e w6 ⟨v6, rfl, ho, b⟩
        replace L := hid (hnext L.out b)
        replace BX := hid (BX.out.keep b)
        replace HV := hid (HV.out.below b)
        obtain ⟨a6, c6, rfl⟩ := ho.at.slc
        clear ho b
        obtain ⟨s0, s1, s2, _, _, _, _⟩ := BX.out.cells
        go_wp2_with fail
        refine (CR.out _ HV.out).mono ?_; rintro e w7 ⟨rfl, b⟩
        replace L := hid (hnext L.out b)
        replace BX := hid (BX.out.keep b)
        replace HV := hid (HV.out.below b)
        clear b
        clear s0 s1 s2
        go_wp2_with fail
        refine (known_any _).mono ?_; rintro e w8 ⟨rfl, b⟩
        go_wp2
        go_ret
        exact ⟨rfl, hnext L.out b⟩
  have hf := frame_fr hbt
  have hsz : (body t).length ≤ 100000 := body_size t
  have e : bstr (frame t) ++ s = bstr (fr (body t) ++ s.data.toList) := by rw [hf, ← bstr_append, bstr_of]
  rw [e, next_frame hsz] at cm
  rw [e, split_frame hsz] at cs
  rw [← e] at cm cs
  rw [← fr_len, ← hf, ← bstr_size] at cm
  rw [← hf, ← bstr_size] at cs
  have q1 : ((bstr (frame t)).toList == []) = false := by rw [empty_eq]; exact decide_eq_false (fun h => hbt (frame_nil.1 h))
  have q2 : (bstr (frame t)).toList.isEmpty = false := by rw [empty_eq']; exact decide_eq_false (fun h => hbt (frame_nil.1 h))
  generalize bstr (frame t) = S at *
  generalize bstr (body t) = X at *
  clear hf hsz hbt e
  have hadd : ¬ 9223372036854775807 < S.size + s.size := by omega
  generalize splitR s = r at *
  obtain ⟨sx, sy, sz⟩ := r
  generalize nextR s = p at *
  obtain ⟨a, n, e0⟩ := p
  simp only at cn cm cs ct hq hone hbad
  have CM := hid cm
  have CS := hid cs
  have CT := hid ct
  clear cm cs ct
  by_cases he : e0 = 0
  · subst he
    obtain ⟨g1, g2, g3⟩ := hone rfl
    obtain ⟨m, rfl⟩ : ∃ m, n = m + 4 := ⟨n - 4, by omega⟩
    have CN := hid cn
    rw [show m + 4 - 4 = m by omega] at g3
    have w1 : ((m + 4 : Nat) : Int) - 4 = (m : Int) := by omega
    have w2 : IntKind.i64.wrap (((m + 4 : Nat) : Int) - 4) = (m : Int) := by rw [IntKind.wrap_i64]; omega
    have w3 : IntKind.i64.wrap ((a.size : Int) + 8) = ((m + 4 : Nat) : Int) := by rw [IntKind.wrap_i64]; omega
    have w4 : ¬ (s.size : Int) < ((m + 4 : Nat) : Int) := by omega
    have w5 : (4 : Int) ≤ (m : Int) := by omega
    have w6 : (m : Int) ≤ (s.size : Int) := by omega
    have w7 : (0 : Int) ≤ (m : Int) := by omega
    have w8 : (m : Int).toNat = m := Int.toNat_natCast _
    have w9 : IntKind.i64.wrap ((sx.length : Int) + 1) = ((sx.length + 1 : Nat) : Int) := by rw [IntKind.wrap_i64]; omega
    have w10 : IntKind.i64.wrap ((S.size : Int) + (sy : Int)) = ((S.size + sy : Nat) : Int) := by rw [IntKind.wrap_i64]; omega
    generalize m + 4 = n at *
    clear cn hone hbad g1 g2 hq
    obtain ⟨s0, s1, s2, _, _, _, _⟩ := BX.out.cells
    go_enter Try.func8, Try.ntmps8
    go_wp2_with fail
    refine (CL.out _ HV.out).mono ?_; rintro e w1 ⟨⟨z, rfl, hz⟩, b⟩
    have HZ := hid hz
    clear hz s0 s1 s2
    replace L := hid (hnext L.out b)
    replace BX := hid (BX.out.keep b)
    replace HV := hid (HV.out.below b)
    clear b
    cases z with
    | false =>
      go_wp2_with fail
      refine (known_any _).mono ?_; rintro e w2 ⟨rfl, b⟩
      go_wp2
      go_ret
      exact ⟨rfl, hnext L.out b⟩
    | true =>
      obtain ⟨s0, s1, s2, _, _, _, _⟩ := BX.out.cells
      go_wp2_with fail
      refine (CE.out _ HV.out).mono ?_; rintro e w2 ⟨rfl, b⟩
      replace L := hid (hnext L.out b)
      replace BX := hid (BX.out.keep b)
      replace HV := hid (HV.out.below b)
      clear b
      clear s0 s1 s2
      go_wp2_with fail
      refine (CN.out _).mono ?_; rintro e w3 ⟨rfl, b⟩
      replace L := hid (hnext L.out b)
      replace BX := hid (BX.out.keep b)
      replace HV := hid (HV.out.below b)
      clear b
      go_wp2_with fail
      refine (CM.out _).mono ?_; rintro e w4 ⟨rfl, b⟩
      replace L := hid (hnext L.out b)
      replace BX := hid (BX.out.keep b)
      replace HV := hid (HV.out.below b)
      clear b
      go_wp2_with fail
      refine (CS.out _).mono ?_; rintro e w5 ⟨v5, rfl, ho, b⟩
      replace L := hid (hnext L.out b)
      replace BX := hid (BX.out.keep b)
      replace HV := hid (HV.out.below b)
      obtain ⟨a5, c5, rfl⟩ := ho.at.slc
      clear ho b
      go_wp2_with fail
      refine (CT.out _).mono ?_; rintro e w6 ⟨v6, rfl, ho, b⟩
      replace L := hid (hnext L.out b)
      replace BX := hid (BX.out.keep b)
      replace HV := hid (HV.out.below b)
      obtain ⟨a6, c6, rfl⟩ := ho.at.slc
      clear ho b
      obtain ⟨s0, s1, s2, _, _, _, _⟩ := BX.out.cells
      go_wp2_with fail
      refine (CB.out _ HV.out).mono ?_; rintro e w7 ⟨rfl, b⟩
      replace L := hid (hnext L.out b)
      replace BX := hid (BX.out.keep b)
      replace HV := hid (HV.out.below b)
      clear b
      clear s0 s1 s2
      go_wp2_with fail
      refine (known_any _).mono ?_; rintro e w8 ⟨rfl, b⟩
      go_wp2
      go_ret
      exact ⟨rfl, hnext L.out b⟩
  · have hz : a = ⟨#[]⟩ ∧ n = 0 := by
      rcases hbad with ⟨_, h, h'⟩ | ⟨h, _⟩
      · exact ⟨h, h'⟩
      · exact absurd h he
    obtain ⟨rfl, rfl⟩ := hz
    have CN := hid cn
    have he' : (e0 == 0) = false := by simpa using he
    have w9 : IntKind.i64.wrap ((sx.length : Int) + 1) = ((sx.length + 1 : Nat) : Int) := by rw [IntKind.wrap_i64]; omega
    have w10 : IntKind.i64.wrap ((S.size : Int) + (sy : Int)) = ((S.size + sy : Nat) : Int) := by rw [IntKind.wrap_i64]; omega
    clear cn hone hbad hq
    obtain ⟨s0, s1, s2, _, _, _, _⟩ := BX.out.cells
    go_enter Try.func8, Try.ntmps8
    go_wp2_with fail
    refine (CL.out _ HV.out).mono ?_; rintro e w1 ⟨⟨z, rfl, hz⟩, b⟩
    have HZ := hid hz
    clear hz s0 s1 s2
    replace L := hid (hnext L.out b)
    replace BX := hid (BX.out.keep b)
    replace HV := hid (HV.out.below b)
    clear b
    cases z with
    | false =>
      go_wp2_with fail
      refine (known_any _).mono ?_; rintro e w2 ⟨rfl, b⟩
      go_wp2
      go_ret
      exact ⟨rfl, hnext L.out b⟩
    | true =>
      obtain ⟨s0, s1, s2, _, _, _, _⟩ := BX.out.cells
      go_wp2_with fail
      refine (CE.out _ HV.out).mono ?_; rintro e w2 ⟨rfl, b⟩
      replace L := hid (hnext L.out b)
      replace BX := hid (BX.out.keep b)
      replace HV := hid (HV.out.below b)
      clear b
      clear s0 s1 s2
      go_wp2_with fail
      refine (CN.out _).mono ?_; rintro e w3 ⟨rfl, b⟩
      replace L := hid (hnext L.out b)
      replace BX := hid (BX.out.keep b)
      replace HV := hid (HV.out.below b)
      clear b
      go_wp2_with fail
      refine (CM.out _).mono ?_; rintro e w4 ⟨rfl, b⟩
      replace L := hid (hnext L.out b)
      replace BX := hid (BX.out.keep b)
      replace HV := hid (HV.out.below b)
      clear b
      go_wp2_with fail
      refine (CS.out _).mono ?_; rintro e w5 ⟨v5, rfl, ho, b⟩
      replace L := hid (hnext L.out b)
      replace BX := hid (BX.out.keep b)
      replace HV := hid (HV.out.below b)
      obtain ⟨a5, c5, rfl⟩ := ho.at.slc
      clear ho b
      go_wp2_with fail
      refine (CT.out _).mono ?_; rintro e w6 ⟨v6, rfl, ho, b⟩
      replace L := hid (hnext L.out b)
      replace BX := hid (BX.out.keep b)
      replace HV := hid (HV.out.below b)
      obtain ⟨a6, c6, rfl⟩ := ho.at.slc
      clear ho b
      obtain ⟨s0, s1, s2, _, _, _, _⟩ := BX.out.cells
      go_wp2_with fail
      refine (CB.out _ HV.out).mono ?_; rintro e w7 ⟨rfl, b⟩
      replace L := hid (hnext L.out b)
      replace BX := hid (BX.out.keep b)
      replace HV := hid (HV.out.below b)
      clear b
      clear s0 s1 s2
      go_wp2_with fail
      refine (known_any _).mono ?_; rintro e w8 ⟨rfl, b⟩
      go_wp2
      go_ret
      exact ⟨rfl, hnext L.out b⟩
end Go.Proofs.Ytmmegicaeaifaaa
