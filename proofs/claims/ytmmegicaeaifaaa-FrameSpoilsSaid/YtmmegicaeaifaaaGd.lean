/-
  The first frame of bytes: plainly, and the contracts of Next, of the program and of the reference. Condition: at most 1000000 bytes.
-/
import Derived.Test.YtmmegicaeaifaaaGc
namespace Go.Proofs.Ytmmegicaeaifaaa
open Go.RowKit Fr

namespace Fr
/-- the number of bytes, the highest first -/
def val (l : List UInt8) : Nat := l.foldl (fun n c => 256 * n + c.toNat) 0
theorem val_snoc (l : List UInt8) (c : UInt8) : val (l ++ [c]) = 256 * val l + c.toNat := by unfold val; rw [List.foldl_append]; rfl
theorem val_lt (l : List UInt8) : val l < 256 ^ l.length := by
  have h : ∀ (l : List UInt8) (n : Nat), l.foldl (fun n c => 256 * n + c.toNat) n < (n + 1) * 256 ^ l.length := by
    intro l
    induction l with
    | nil => intro n; simp
    | cons c l ih =>
      intro n
      have h1 := ih (256 * n + c.toNat)
      have h2 := c.toNat_lt
      rw [List.foldl_cons, List.length_cons, Nat.pow_succ]
      refine Nat.lt_of_lt_of_le h1 ?_
      rw [Nat.mul_comm (256 ^ l.length) 256, ← Nat.mul_assoc]
      exact Nat.mul_le_mul_right _ (by omega)
  have := h l 0
  rw [Nat.zero_add, Nat.one_mul] at this
  exact this
theorem val_take {l : List UInt8} {k : Nat} (h : k < l.length) : val (l.take (k + 1)) = 256 * val (l.take k) + l[k].toNat := by
  rw [List.take_succ_eq_append_getElem h, val_snoc]
theorem val_take_lt (l : List UInt8) (k : Nat) (h : k ≤ 4) : val (l.take k) < 4294967296 := by
  have h1 := val_lt (l.take k)
  have h2 : (l.take k).length ≤ k := by rw [List.length_take]; omega
  have h3 : 256 ^ (l.take k).length ≤ 256 ^ 4 := Nat.pow_le_pow_right (by decide) (by omega)
  omega
def lenR (s : ByteArray) : Nat := val (s.data.toList.take 4)
/-- the first frame's body, how long the frame is, what is wrong -/
def nextR (s : ByteArray) : ByteArray × Nat × Int :=
  if s.size < 4 then (⟨#[]⟩, 0, 8) else if 100000 < lenR s then (⟨#[]⟩, 0, 19) else if s.size < lenR s + 8 then (⟨#[]⟩, 0, 8)
  else if (Crc.take (s.extract 4 (lenR s + 8)).data.toList).2 = false then (⟨#[]⟩, 0, 9) else (bstr (Crc.take (s.extract 4 (lenR s + 8)).data.toList).1, lenR s + 8, 0)
theorem frm_short {s : ByteArray} (h : s.size < 4) : nextR s = (⟨#[]⟩, 0, 8) := by unfold nextR; rw [if_pos h]
theorem frm_big {s : ByteArray} (h : ¬ s.size < 4) (h1 : 100000 < lenR s) : nextR s = (⟨#[]⟩, 0, 19) := by unfold nextR; rw [if_neg h, if_pos h1]
theorem frm_cut {s : ByteArray} (h : ¬ s.size < 4) (h1 : ¬ 100000 < lenR s) (h2 : s.size < lenR s + 8) : nextR s = (⟨#[]⟩, 0, 8) := by unfold nextR; rw [if_neg h, if_neg h1, if_pos h2]
theorem frm_crc {s : ByteArray} (h : ¬ s.size < 4) (h1 : ¬ 100000 < lenR s) (h2 : ¬ s.size < lenR s + 8) (h3 : (Crc.take (s.extract 4 (lenR s + 8)).data.toList).2 = false) : nextR s = (⟨#[]⟩, 0, 9) := by unfold nextR; rw [if_neg h, if_neg h1, if_neg h2, if_pos h3]
theorem frm_ok {s : ByteArray} (h : ¬ s.size < 4) (h1 : ¬ 100000 < lenR s) (h2 : ¬ s.size < lenR s + 8) (h3 : (Crc.take (s.extract 4 (lenR s + 8)).data.toList).2 = true) : nextR s = (bstr (Crc.take (s.extract 4 (lenR s + 8)).data.toList).1, lenR s + 8, 0) := by unfold nextR; rw [if_neg h, if_neg h1, if_neg h2, if_neg (by rw [h3]; decide)]
end Fr
theorem ofInt_nat (n : Nat) (h : n < 18446744073709551616) : (BitVec.ofInt 64 (n : Int)).toNat = n := by
  rw [BitVec.toNat_ofInt]
  have e : (n : Int) % ((2 ^ 64 : Nat) : Int) = (n : Int) := Int.emod_eq_of_lt (by omega) (by omega)
  rw [e, Int.toNat_natCast]
theorem or_256 (a c : Nat) (ha : a < 4294967296) (hc : c < 256) : bits .or .i64 ((a : Int) * 256) (c : Int) = ((256 * a + c : Nat) : Int) := by
  rw [show (a : Int) * 256 = ((a * 256 : Nat) : Int) by omega]
  show IntKind.i64.wrap ((BitVec.ofInt 64 ((a * 256 : Nat) : Int) ||| BitVec.ofInt 64 (c : Int)).toNat : Int) = _
  rw [BitVec.toNat_or, ofInt_nat _ (by omega), ofInt_nat _ (by omega), show a * 256 = a <<< 8 by rw [Nat.shiftLeft_eq], ← Nat.shiftLeft_add_eq_or_of_lt (by omega), Nat.shiftLeft_eq, IntKind.wrap_i64]
  omega
theorem cells_of_string (w : World) (s : ByteArray) (cap e : Nat) (l : List UInt8) (hl : s = bstr l) (j : Nat) (hj : j < l.length) :
    ((w.alloc (.cells (bytesRow s cap) e ((bytesRow s cap).size, (bytesRow s cap).size + 1))).drew).cell? ⟨w.heap.size, j, none⟩ = some (.int .u8 (l[j].toNat : Int)) := by
  subst hl
  show (w.alloc _).cell? _ = _
  rw [cell_of_row _ _ _ _ _ _ (heap_alloc_new w _)]
  have h2 : j < (bstr l).data.size := by show j < l.toArray.size; simpa using hj
  rw [bytesRow_at (bstr l) cap j h2]
  rfl
set_option maxRecDepth 100000 in
set_option maxHeartbeats 6400000 in
theorem fnext_any (s : ByteArray) (hs : s.size ≤ 1000000) (w : World) : Calls Try.prog 21 #[.string s] w fun e w' => e = .returned (.tuple #[.string (nextR s).1, .int .i64 ((nextR s).2.1 : Int), .int .i64 (nextR s).2.2]) ∧ Below w.heap.size w w' := by
  by_cases h4 : s.size < 4
  · have h4' : (s.size : Int) < 4 := by omega
    have HR := hid (frm_short h4)
    clear h4
    go_enter Try.func21, Try.ntmps21
    go_wp2_with fail
    refine bodyPost_ret (v := .tuple #[.string ⟨#[]⟩, .int .i64 0, .int .i64 8]) (by simp [results, Try.results21, go_sem]) rfl ?_
    rw [HR.out]
    exact ⟨rfl, Below.refl _ _⟩
  have h4' : ¬ (s.size : Int) < 4 := by omega
  have HV := hid (fun k hk => val_take_lt s.data.toList k hk)
  have HT := hid (fun k (hk : k < s.data.toList.length) => val_take hk)
  have hsz : s.data.toList.length = s.size := by simp
  have HSZ := hid hsz
  clear hsz
  obtain ⟨t, ht⟩ : ∃ t, s.data.toList.take 4 = t := ⟨_, rfl⟩
  have hx : s.extract 0 4 = bstr t := by
    rw [← ht, ← extract_take s 4]; rfl
  have htl : t.length = 4 := by rw [← ht, List.length_take]; have := HSZ.out; omega
  have HTL := hid htl
  have hts : (bstr t).size = 4 := htl
  have HLT : Hid (lenR s = val t) := by show _ = _; unfold lenR; rw [ht]
  have HV2 := hid (fun k hk => val_take_lt t k hk)
  have HT2 := hid (fun k (hk : k < t.length) => val_take hk)
  clear HV HT ht htl
  have hconv := fun (w : World) => run_bytes_of_string (P := Try.prog) w 9 51 5 (bstr t) Try.underlying9 Try.underlying51 Try.underlying5
  have hcl := cells_of_string w (bstr t) (grownCap w (bstr t).size 0 5) 5 t rfl
  rw [hts] at hcl
  have HC := hid hcl
  clear hcl
  go_enter Try.func21, Try.ntmps21
  go_wp2_with fail
  have hlay : Below w.heap.size w (w.alloc (.cells (bytesRow (bstr t) (grownCap w 4 0 5)) 5 ((bytesRow (bstr t) (grownCap w 4 0 5)).size, (bytesRow (bstr t) (grownCap w 4 0 5)).size + 1))).drew := (hba _ _).drew
  have LB := hid hlay
  clear hlay hconv hx
  generalize (w.alloc (.cells (bytesRow (bstr t) (grownCap w 4 0 5)) 5 ((bytesRow (bstr t) (grownCap w 4 0 5)).size, (bytesRow (bstr t) (grownCap w 4 0 5)).size + 1))).drew = w2 at *
  generalize grownCap w 4 0 5 = cap at *
  generalize w.heap.size = g1 at HC ⊢
  go_loopw [18, 5] (fun i nv wr => ∃ k : Nat, k ≤ 4 ∧ i = .int .i64 (k : Int) ∧ nv = .int .i64 (val (t.take k) : Int) ∧ wr = w2) (fun i _ _ => 4 - (intOf i).toNat)
  case atStart => exact ⟨0, by omega, rfl, by rw [List.take_zero]; rfl, rfl⟩
  case round =>
    obtain ⟨k, hk, rfl, rfl, rfl⟩ := hrel
    have hk0 : (0 : Int) ≤ (k : Int) := by omega
    by_cases hkl : k < 4
    · have hkl' : (k : Int) < 4 := by omega
      have hkt : k < t.length := by have := HTL.out; omega
      have hc := HC.out k hkt
      have hv := HV2.out k (by omega)
      have HN := hid (HT2.out k hkt)
      have hB := t[k].toNat_lt
      generalize t[k].toNat = c at hc HN hB
      generalize val (t.take k) = a at hv HN ⊢
      have wc : IntKind.i64.wrap (c : Int) = (c : Int) := by rw [IntKind.wrap_i64]; omega
      have wm : IntKind.i64.wrap ((a : Int) * 256) = (a : Int) * 256 := by rw [IntKind.wrap_i64]; omega
      have wo := or_256 a c hv (by omega)
      go_wp2_with fail
      go_roundw
      case rel => exact ⟨k + 1, by omega, by first | rfl | go_num, by rw [HN.out]; first | rfl | exact int_eq wo | (refine int_eq ?_; omega), by first | rfl | trivial⟩
      case measure => simp [intOf]; omega
    · obtain rfl : k = 4 := by omega
      clear hkl hk hk0
      rw [List.take_of_length_le (Nat.le_of_eq HTL.out), ← HLT.out]
      have HV := hid (show lenR s < 4294967296 by have := HV2.out 4 (Nat.le_refl _); rw [List.take_of_length_le (Nat.le_of_eq HTL.out), ← HLT.out] at this; exact this)
      clear HC HV2 HT2 HLT hts
      have hb := HV.out
      have HB1 := hid (frm_big h4)
      have HB2 := hid (frm_cut h4)
      have HB3 := hid (frm_crc h4)
      have HB4 := hid (frm_ok h4)
      have CT := hid (fun W => take_any (s.extract 4 (lenR s + 8)) W (by rw [ByteArray.size_extract]; omega))
      generalize lenR s = n at *
      clear HV h4
      have wn : IntKind.i64.wrap ((n : Int) + 8) = ((n + 8 : Nat) : Int) := by rw [IntKind.wrap_i64]; omega
      by_cases h1 : 100000 < n
      · have h1' : (100000 : Int) < (n : Int) := by omega
        have HR := hid (HB1.out h1)
        clear HB1 HB2 HB3 HB4 h1
        go_wp2_with fail
        refine bodyPost_ret (v := .tuple #[.string ⟨#[]⟩, .int .i64 0, .int .i64 19]) (by simp [results, Try.results21, go_sem]) rfl ?_
        rw [HR.out]
        exact ⟨rfl, LB.out⟩
      have h1' : ¬ (100000 : Int) < (n : Int) := by omega
      by_cases h2 : s.size < n + 8
      · have h2' : (s.size : Int) < ((n + 8 : Nat) : Int) := by omega
        have HR := hid (HB2.out h1 h2)
        clear HB1 HB2 HB3 HB4 h1 h2
        go_wp2_with fail
        refine bodyPost_ret (v := .tuple #[.string ⟨#[]⟩, .int .i64 0, .int .i64 8]) (by simp [results, Try.results21, go_sem]) rfl ?_
        rw [HR.out]
        exact ⟨rfl, LB.out⟩
      have h2' : ¬ (s.size : Int) < ((n + 8 : Nat) : Int) := by omega
      have h3' : (4 : Int) ≤ ((n + 8 : Nat) : Int) := by omega
      have h2'' : ((n + 8 : Nat) : Int) ≤ (s.size : Int) := by omega
      have h0' : (0 : Int) ≤ ((n + 8 : Nat) : Int) := by omega
      replace HB3 := hid (HB3.out h1 h2)
      replace HB4 := hid (HB4.out h1 h2)
      clear HB1 HB2
      have hm : ((n + 8 : Nat) : Int).toNat = n + 8 := Int.toNat_natCast _
      generalize hE : s.extract 4 (n + 8) = E at *
      have HE := hid hE
      generalize hM : n + 8 = M at *
      clear hE hM
      generalize hC : Crc.take E.data.toList = ct at *
      obtain ⟨cb, ok⟩ := ct
      simp only at CT HB3 HB4
      clear hC
      go_wp2_with fail
      (try rw [hm])
      (try rw [HE.out])
      refine (CT.out _).mono ?_; rintro e w5 ⟨rfl, b5⟩
      have L5 := hid (hnext LB.out b5)
      clear b5
      cases ok with
      | false =>
        have HR := hid (HB3.out rfl)
        clear HB3 HB4
        go_wp2_with fail
        refine bodyPost_ret (v := .tuple #[.string ⟨#[]⟩, .int .i64 0, .int .i64 9]) (by simp [results, Try.results21, go_sem]) rfl ?_
        rw [HR.out]
        exact ⟨rfl, L5.out⟩
      | true =>
        have HR := hid (HB4.out rfl)
        clear HB3 HB4
        go_wp2_with fail
        refine bodyPost_ret (v := .tuple #[.string (bstr cb), .int .i64 (M : Int), .int .i64 0]) (by simp [results, Try.results21, go_sem]) rfl ?_
        rw [HR.out]
        exact ⟨rfl, L5.out⟩
set_option maxRecDepth 100000 in
set_option maxHeartbeats 6400000 in
theorem fnextR_any (s : ByteArray) (hs : s.size ≤ 1000000) (w : World) : Calls Try.prog 22 #[.string s] w fun e w' => e = .returned (.tuple #[.string (nextR s).1, .int .i64 ((nextR s).2.1 : Int), .int .i64 (nextR s).2.2]) ∧ Below w.heap.size w w' := by
  by_cases h4 : s.size < 4
  · have h4' : (s.size : Int) < 4 := by omega
    have HR := hid (frm_short h4)
    clear h4
    go_enter Try.func22, Try.ntmps22
    go_wp2_with fail
    refine bodyPost_ret (v := .tuple #[.string ⟨#[]⟩, .int .i64 0, .int .i64 8]) (by simp [results, Try.results22, go_sem]) rfl ?_
    rw [HR.out]
    exact ⟨rfl, Below.refl _ _⟩
  have h4' : ¬ (s.size : Int) < 4 := by omega
  have HV := hid (fun k hk => val_take_lt s.data.toList k hk)
  have HT := hid (fun k (hk : k < s.data.toList.length) => val_take hk)
  have hsz : s.data.toList.length = s.size := by simp
  have HSZ := hid hsz
  clear hsz
  go_enter Try.func22, Try.ntmps22
  go_wp2_with fail
  have LB := hid (Below.refl w.heap.size w)
  go_loopw [6, 5] (fun i nv wr => ∃ k : Nat, k ≤ 4 ∧ i = .int .i64 (k : Int) ∧ nv = .int .i64 (val (s.data.toList.take k) : Int) ∧ wr = w) (fun i _ _ => 4 - (intOf i).toNat)
  case atStart => exact ⟨0, by omega, rfl, by rw [List.take_zero]; rfl, rfl⟩
  case round =>
    obtain ⟨k, hk, rfl, rfl, rfl⟩ := hrel
    have hk0 : (0 : Int) ≤ (k : Int) := by omega
    by_cases hkl : k < 4
    · have hkl' : (k : Int) < 4 := by omega
      have hks : k < s.size := by omega
      have hks' : (k : Int) < (s.size : Int) := by omega
      have hv := HV.out k (by omega)
      have HN := hid (HT.out k (by have := HSZ.out; omega))
      have HI : Hid (s.data.toList[k]'(by have := HSZ.out; omega) = s[k]) := by show _ = _; rfl
      rw [HI.out] at HN
      have HB := hid (s[k].toNat_lt)
      generalize val (s.data.toList.take k) = a at hv HN ⊢
      have wc : IntKind.i64.wrap (s[k].toNat : Int) = (s[k].toNat : Int) := by have := HB.out; rw [IntKind.wrap_i64]; omega
      have wm : IntKind.i64.wrap (256 * (a : Int)) = 256 * (a : Int) := by rw [IntKind.wrap_i64]; omega
      have wa : IntKind.i64.wrap (256 * (a : Int) + (s[k].toNat : Int)) = ((256 * a + s[k].toNat : Nat) : Int) := by have := HB.out; rw [IntKind.wrap_i64]; omega
      clear HI
      go_wp2_with fail
      go_roundw
      case rel => exact ⟨k + 1, by omega, by first | rfl | go_num, by rw [HN.out]; first | rfl | exact int_eq wa | (refine int_eq ?_; omega), by first | rfl | trivial⟩
      case measure => simp [intOf]; omega
    · obtain rfl : k = 4 := by omega
      clear hkl hk hk0
      have HL : Hid (lenR s = val (s.data.toList.take 4)) := rfl
      have hb := HV.out 4 (Nat.le_refl _)
      rw [← HL.out] at hb ⊢
      have HB1 := hid (frm_big h4)
      have HB2 := hid (frm_cut h4)
      have HB3 := hid (frm_crc h4)
      have HB4 := hid (frm_ok h4)
      have CT := hid (fun W => takeR_any (s.extract 4 (lenR s + 8)) W (by rw [ByteArray.size_extract]; omega))
      generalize lenR s = n at *
      clear HL HV HT h4
      have wn : IntKind.i64.wrap ((n : Int) + 8) = ((n + 8 : Nat) : Int) := by rw [IntKind.wrap_i64]; omega
      by_cases h1 : 100000 < n
      · have h1' : (100000 : Int) < (n : Int) := by omega
        have HR := hid (HB1.out h1)
        clear HB1 HB2 HB3 HB4 h1
        go_wp2_with fail
        refine bodyPost_ret (v := .tuple #[.string ⟨#[]⟩, .int .i64 0, .int .i64 19]) (by simp [results, Try.results22, go_sem]) rfl ?_
        rw [HR.out]
        exact ⟨rfl, LB.out⟩
      have h1' : ¬ (100000 : Int) < (n : Int) := by omega
      by_cases h2 : s.size < n + 8
      · have h2' : (s.size : Int) < ((n + 8 : Nat) : Int) := by omega
        have HR := hid (HB2.out h1 h2)
        clear HB1 HB2 HB3 HB4 h1 h2
        go_wp2_with fail
        refine bodyPost_ret (v := .tuple #[.string ⟨#[]⟩, .int .i64 0, .int .i64 8]) (by simp [results, Try.results22, go_sem]) rfl ?_
        rw [HR.out]
        exact ⟨rfl, LB.out⟩
      have h2' : ¬ (s.size : Int) < ((n + 8 : Nat) : Int) := by omega
      have h3' : (4 : Int) ≤ ((n + 8 : Nat) : Int) := by omega
      have h2'' : ((n + 8 : Nat) : Int) ≤ (s.size : Int) := by omega
      have h0' : (0 : Int) ≤ ((n + 8 : Nat) : Int) := by omega
      replace HB3 := hid (HB3.out h1 h2)
      replace HB4 := hid (HB4.out h1 h2)
      clear HB1 HB2
      have hm : ((n + 8 : Nat) : Int).toNat = n + 8 := Int.toNat_natCast _
      generalize hE : s.extract 4 (n + 8) = E at *
      have HE := hid hE
      generalize hM : n + 8 = M at *
      clear hE hM
      generalize hC : Crc.take E.data.toList = ct at *
      obtain ⟨cb, ok⟩ := ct
      simp only at CT HB3 HB4
      clear hC
      go_wp2_with fail
      (try rw [hm])
      (try rw [HE.out])
      refine (CT.out _).mono ?_; rintro e w5 ⟨rfl, b5⟩
      have L5 := hid (hnext LB.out b5)
      clear b5
      cases ok with
      | false =>
        have HR := hid (HB3.out rfl)
        clear HB3 HB4
        go_wp2_with fail
        refine bodyPost_ret (v := .tuple #[.string ⟨#[]⟩, .int .i64 0, .int .i64 9]) (by simp [results, Try.results22, go_sem]) rfl ?_
        rw [HR.out]
        exact ⟨rfl, L5.out⟩
      | true =>
        have HR := hid (HB4.out rfl)
        clear HB3 HB4
        go_wp2_with fail
        refine bodyPost_ret (v := .tuple #[.string (bstr cb), .int .i64 (M : Int), .int .i64 0]) (by simp [results, Try.results22, go_sem]) rfl ?_
        rw [HR.out]
        exact ⟨rfl, L5.out⟩
end Go.Proofs.Ytmmegicaeaifaaa
