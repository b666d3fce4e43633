/-
  Slices of values in memory; code.Row, the reference's Row and Rows: their contracts. Condition: at most 1000000 values, each of which can be.
-/
import Derived.Test.YtanmomlkdfnakaaCdV
namespace Go.Proofs.Ytanmomlkdfnakaa
open Go.RowKit

/-- a value that can stand in memory -/
def Vok (v : Cd.V) : Prop := (-9223372036854775808 ≤ v.n ∧ v.n ≤ 9223372036854775807) ∧ v.b < 18446744073709551616 ∧ v.s.size ≤ maxLen
/-- the slice v holds the values l -/
def VsAt (w : World) (v : Value) (l : List Cd.V) : Prop :=
  ∃ adr cap, v = .slice adr l.length cap ∧ ∀ k (hk : k < l.length), ∃ g off, adr = some ⟨g, off, none⟩ ∧ w.cell? ⟨g, off + k * 4, none⟩ = some (.int .i64 l[k].k) ∧ w.cell? ⟨g, off + k * 4 + 1, none⟩ = some (.int .i64 l[k].n) ∧
    w.cell? ⟨g, off + k * 4 + 2, none⟩ = some (.int .u64 (l[k].b : Int)) ∧ w.cell? ⟨g, off + k * 4 + 3, none⟩ = some (.string l[k].s)
theorem VsAt.below {w w' : World} {v : Value} {l : List Cd.V} (h : VsAt w v l) (hb : Below w.heap.size w w') : VsAt w' v l := by
  obtain ⟨adr, cap, rfl, hc⟩ := h
  refine ⟨adr, cap, rfl, fun k hk => ?_⟩
  obtain ⟨g, off, rfl, q0, q1, q2, q3⟩ := hc k hk
  exact ⟨g, off, rfl, hkeep q0 hb, hkeep q1 hb, hkeep q2 hb, hkeep q3 hb⟩

theorem text_length (s : ByteArray) : (Cd.text s).length ≤ 10 + s.size := by
  unfold Cd.text; have := (Cd.enc_length s.size).2; simp; omega
theorem value_length (k n : Int) (b : Nat) (s : ByteArray) : (Cd.value k n b s).length ≤ 5000 := by
  rcases value_shape k n b s with ⟨_, h⟩ | ⟨_, ⟨_, h⟩ | ⟨_, _, _, h⟩ | ⟨_, h⟩ | ⟨_, h⟩ | ⟨_, h2, h⟩ | ⟨_, h2, h⟩⟩
  all_goals rw [h]
  · simp
  · simp
  · simp
  · have := (Cd.enc_length (Cd.zig n)).2; simp; omega
  · have : (Cd.eight b).length = 8 := Cd.low_length 8 b
    simp; omega
  · have := text_length s; simp; omega
  · have := text_length s; simp; omega
theorem value_nil (k n : Int) (b : Nat) (s : ByteArray) : (bstr (Cd.value k n b s)).toList.isEmpty = !Va.right k n b s := by
  have e : ∀ l : List UInt8, (bstr l).toList = l := fun l => by rw [ByteArray.toList_eq]; rfl
  rw [e]
  rcases value_shape k n b s with ⟨h1, h⟩ | ⟨h1, ⟨_, h⟩ | ⟨_, _, _, h⟩ | ⟨_, h⟩ | ⟨_, h⟩ | ⟨_, h2, h⟩ | ⟨_, h2, h⟩⟩
  all_goals rw [h, h1]; rfl
theorem flat_length (l : List Cd.V) : (l.flatMap Cd.V.bytes).length ≤ l.length * 5000 := by
  induction l with
  | nil => simp
  | cons v l ih =>
    have := value_length v.k v.n v.b v.s
    rw [List.flatMap_cons, List.length_append]
    have h2 : v.bytes.length ≤ 5000 := this
    simp only [List.length_cons]
    omega
theorem take_next {α : Type} (l : List α) (k : Nat) (h : k < l.length) : l.take (k + 1) = l.take k ++ [l[k]] := by rw [List.take_succ_eq_append_getElem h]
theorem flat_next (l : List Cd.V) (k : Nat) (h : k < l.length) : (l.take (k + 1)).flatMap Cd.V.bytes = (l.take k).flatMap Cd.V.bytes ++ Cd.value l[k].k l[k].n l[k].b l[k].s := by
  rw [take_next l k h, List.flatMap_append]; simp [Cd.V.bytes]
theorem all_next (l : List Cd.V) (k : Nat) (h : k < l.length) (h0 : (l.take k).all Cd.V.right = true) : (l.take (k + 1)).all Cd.V.right = Va.right l[k].k l[k].n l[k].b l[k].s := by
  rw [take_next l k h, List.all_append, h0]; simp [Cd.V.right]
theorem row_no (l : List Cd.V) (k : Nat) (h : k < l.length) (h0 : Va.right l[k].k l[k].n l[k].b l[k].s = false) : Cd.row l = [] := by
  unfold Cd.row
  rw [if_neg]
  intro hh
  have := List.all_eq_true.1 hh l[k] (List.getElem_mem h)
  rw [show Cd.V.right l[k] = Va.right l[k].k l[k].n l[k].b l[k].s from rfl, h0] at this
  cases this
theorem row_yes (l : List Cd.V) (h : l.all Cd.V.right = true) : Cd.row l = Cd.enc l.length ++ l.flatMap Cd.V.bytes := by unfold Cd.row; rw [if_pos h]

set_option maxRecDepth 100000 in
set_option maxHeartbeats 1600000 in
theorem row_any (v : Value) (l : List Cd.V) (w : World) (hv : VsAt w v l) (hok : ∀ x ∈ l, Vok x) (hl : l.length ≤ 1000000) : Calls Try.prog 21 #[v] w fun e w' => e = .returned (.string (bstr (Cd.row l))) ∧ Below w.heap.size w w' := by
  obtain ⟨adr, cap, rfl, hc⟩ := hv
  have HC := hid hc
  have HOK := hid hok
  clear hc hok
  have hle : (bstr (Cd.enc l.length)).size ≤ 10 := (Cd.enc_length _).2
  go_enter Try.func21, Try.ntmps21
  go_wp2_with fail
  refine (uint_any l.length (by omega) _).mono ?_; rintro e w1 ⟨rfl, hb1⟩
  go_wp2_with fail
  go_loopw [12, 3] (fun i s wr => ∃ k : Nat, k ≤ l.length ∧ i = .int .i64 (k : Int) ∧ s = .string (bstr (Cd.enc l.length ++ (l.take k).flatMap Cd.V.bytes)) ∧ Hid ((l.take k).all Cd.V.right = true) ∧ Below w.heap.size w wr) (fun i _ _ => l.length - (intOf i).toNat)
  case atStart => exact ⟨0, by omega, rfl, by simp, rfl, hb1⟩
  case round =>
    obtain ⟨k, hk, rfl, rfl, hall, hbel⟩ := hrel
    obtain ⟨w4, rfl⟩ : ∃ w4 : World, w4 = wr := ⟨_, rfl⟩
    by_cases hlk : k < l.length
    · obtain ⟨g, off, rfl, q0, q1, q2, q3⟩ := HC.out k hlk
      have HF := hid (flat_next l k hlk)
      have HA := hid (all_next l k hlk hall.out)
      have HN := hid (row_no l k hlk)
      have hfl := flat_length (l.take k)
      rw [List.length_take] at hfl
      have hvl := value_length l[k].k l[k].n l[k].b l[k].s
      obtain ⟨⟨hn0, hn1⟩, hb, hs⟩ := HOK.out l[k] (List.getElem_mem hlk)
      generalize l[k] = x at q0 q1 q2 q3 HF HA HN hn0 hn1 hb hs hvl
      obtain ⟨xk, xn, xb, xs⟩ := x
      simp only at q0 q1 q2 q3 hn0 hn1 hb hs hvl
      generalize (l.take k).flatMap Cd.V.bytes = pre at hfl HF ⊢
      replace q0 := hkeep q0 hbel
      replace q1 := hkeep q1 hbel
      replace q2 := hkeep q2 hbel
      replace q3 := hkeep q3 hbel
      have hlk' : (k : Int) < l.length := by omega
      have hps : (bstr (Cd.enc l.length ++ pre)).size ≤ 5000000010 := by rw [bstr_size]; rw [bstr_size] at hle; simp; omega
      have hvs : (bstr (Cd.value xk xn xb xs)).size ≤ 5000 := hvl
      have hR := fun W => right_any xk xn xb xs hs W
      have hV := hid (fun W => value_any xk xn xb xs hs hn0 hn1 hb W)
      unfold vv at hR hV
      clear hvl
      cases hr : Va.right xk xn xb xs
      · rw [hr] at hR
        have HR := hid hR
        have HNN := hid (HN.out hr)
        clear hR hr
        go_wp2_with fail
        refine (HR.out _).mono ?_; rintro e w5 ⟨rfl, hb5⟩
        have hB5 := hnext (hbel.alloc hbel.size _) hb5
        go_wp2_with fail
        go_ret
        rw [HNN.out]
        exact ⟨rfl, hB5⟩
      · rw [hr] at hR
        have HR := hid hR
        have HAA := hid (HA.out.trans hr)
        clear hR hr
        go_wp2_with fail
        refine (HR.out _).mono ?_; rintro e w5 ⟨rfl, hb5⟩
        have vb := (VBox.new w4 xk xn xb xs).keep hb5
        have hB5 := hnext (hbel.alloc hbel.size _) hb5
        obtain ⟨c0, c1, c2, c3⟩ := id vb
        clear hb5
        go_wp2_with fail
        refine (hV.out _).mono ?_; rintro e w6 ⟨rfl, hb6⟩
        go_wp2_with fail
        go_roundw
        case rel => exact ⟨k + 1, by omega, by go_num, str_eq (by rw [HF.out, bstr_append, List.append_assoc]), HAA, hnext hB5 hb6⟩
        case measure => simp [intOf]; omega
    · obtain rfl : k = l.length := by omega
      have HY := hid (row_yes l (by have := hall.out; rwa [List.take_length] at this))
      rw [List.take_length]
      go_wp2_with fail
      go_ret
      rw [HY.out]
      exact ⟨rfl, hbel⟩

set_option maxRecDepth 100000 in
set_option maxHeartbeats 1600000 in
theorem rowR_any (v : Value) (l : List Cd.V) (w : World) (hv : VsAt w v l) (hok : ∀ x ∈ l, Vok x) (hl : l.length ≤ 1000000) : Calls Try.prog 22 #[v] w fun e w' => e = .returned (.string (bstr (Cd.row l))) ∧ Below w.heap.size w w' := by
  obtain ⟨adr, cap, rfl, hc⟩ := hv
  have HC := hid hc
  have HOK := hid hok
  clear hc hok
  have hle : (bstr (Cd.enc l.length)).size ≤ 10 := (Cd.enc_length _).2
  go_enter Try.func22, Try.ntmps22
  go_wp2_with fail
  refine (uintR_exact l.length (by omega) _).mono ?_; rintro e w1 ⟨rfl, hb1⟩
  go_wp2_with fail
  go_loopw [4, 3] (fun i s wr => ∃ k : Nat, k ≤ l.length ∧ i = .int .i64 (k : Int) ∧ s = .string (bstr (Cd.enc l.length ++ (l.take k).flatMap Cd.V.bytes)) ∧ Hid ((l.take k).all Cd.V.right = true) ∧ Below w.heap.size w wr) (fun i _ _ => l.length - (intOf i).toNat)
  case atStart => exact ⟨0, by omega, rfl, by simp, rfl, hb1⟩
  case round =>
    obtain ⟨k, hk, rfl, rfl, hall, hbel⟩ := hrel
    obtain ⟨w4, rfl⟩ : ∃ w4 : World, w4 = wr := ⟨_, rfl⟩
    by_cases hlk : k < l.length
    · obtain ⟨g, off, rfl, q0, q1, q2, q3⟩ := HC.out k hlk
      have HF := hid (flat_next l k hlk)
      have HA := hid (all_next l k hlk hall.out)
      have HN := hid (row_no l k hlk)
      have hfl := flat_length (l.take k)
      rw [List.length_take] at hfl
      have hvl := value_length l[k].k l[k].n l[k].b l[k].s
      obtain ⟨⟨hn0, hn1⟩, hb, hs⟩ := HOK.out l[k] (List.getElem_mem hlk)
      generalize l[k] = x at q0 q1 q2 q3 HF HA HN hn0 hn1 hb hs hvl
      obtain ⟨xk, xn, xb, xs⟩ := x
      simp only at q0 q1 q2 q3 hn0 hn1 hb hs hvl
      generalize (l.take k).flatMap Cd.V.bytes = pre at hfl HF ⊢
      replace q0 := hkeep q0 hbel
      replace q1 := hkeep q1 hbel
      replace q2 := hkeep q2 hbel
      replace q3 := hkeep q3 hbel
      have hlk' : (k : Int) < l.length := by omega
      have hps : (bstr (Cd.enc l.length ++ pre)).size ≤ 5000000010 := by rw [bstr_size]; rw [bstr_size] at hle; simp; omega
      have hvs : (bstr (Cd.value xk xn xb xs)).size ≤ 5000 := hvl
      have hV := hid (fun W => valueR_any xk xn xb xs hs hn0 hn1 hb W)
      have hnil := value_nil xk xn xb xs
      unfold vv at hV
      clear hvl
      cases hr : Va.right xk xn xb xs
      · rw [hr] at hnil
        have HNN := hid (HN.out hr)
        have hnil2 := hid hnil
        simp only [Bool.not_false] at hnil
        clear hr
        go_wp2_with fail
        refine (hV.out _).mono ?_; rintro e w5 ⟨rfl, hb5⟩
        go_wp2_with fail
        go_ret
        rw [HNN.out]
        exact ⟨rfl, hnext hbel hb5⟩
      · rw [hr] at hnil
        have HAA := hid (HA.out.trans hr)
        simp only [Bool.not_true] at hnil
        clear hr
        go_wp2_with fail
        refine (hV.out _).mono ?_; rintro e w6 ⟨rfl, hb6⟩
        go_wp2_with fail
        go_roundw
        case rel => exact ⟨k + 1, by omega, by go_num, str_eq (by rw [HF.out, bstr_append, List.append_assoc]), HAA, hnext hbel hb6⟩
        case measure => simp [intOf]; omega
    · obtain rfl : k = l.length := by omega
      have HY := hid (row_yes l (by have := hall.out; rwa [List.take_length] at this))
      rw [List.take_length]
      go_wp2_with fail
      go_ret
      rw [HY.out]
      exact ⟨rfl, hbel⟩
end Go.Proofs.Ytanmomlkdfnakaa
