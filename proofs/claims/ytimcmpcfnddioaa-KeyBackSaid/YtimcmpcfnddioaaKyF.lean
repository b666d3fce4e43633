/-
  key.Of and the reference's Of: their contracts. Condition: the values can stand in memory.
-/
import Derived.Test.YtimcmpcfnddioaaKyP
namespace Go.Proofs.Ytimcmpcfnddioaa
open Go.RowKit

/-- a key's bytes -/
def Ky.bytes (x : Cd.V) : List UInt8 := Ky.one x.k x.n x.b x.s
def Ky.of (l : List Cd.V) : List UInt8 := if Ky.right l then l.flatMap Ky.bytes ++ [0] else []
theorem Ky.right_inv {l : List Cd.V} (h : Ky.right l = true) : (∀ x ∈ l, x.right = true) ∧ l.length ≤ 8 := by
  unfold Ky.right at h
  simp only [Bool.and_eq_true, decide_eq_true_eq, List.all_eq_true] at h
  exact h
theorem Ky.one_length {k n : Int} {b : Nat} {s : ByteArray} (hr : Va.right k n b s = true) : (Ky.one k n b s).length ≤ 9000 := by
  have h8 : ∀ b, (Cd.eight b).length = 8 := fun b => Cd.low_length 8 b
  have hel := Ky.esc_length s.data.toList
  have hsl : s.data.toList.length = s.size := by simp
  have h : ∀ c : UInt8, (c :: (Ky.esc s.data.toList ++ [0, 1])).length = (Ky.esc s.data.toList).length + 3 := fun c => by simp
  rcases right_kinds hr with rfl | ⟨rfl, _⟩ | rfl | rfl | ⟨rfl, hs⟩ | ⟨rfl, hs⟩
  · show 1 ≤ _; decide
  · show 2 ≤ _; decide
  · show (Cd.eight _).length + 1 ≤ _; rw [h8]; decide
  · show (Cd.eight _).length + 1 ≤ _; rw [h8]; decide
  · show (5 :: (Ky.esc s.data.toList ++ [0, 1])).length ≤ _; rw [h]; omega
  · show (6 :: (Ky.esc s.data.toList ++ [0, 1])).length ≤ _; rw [h]; omega
theorem Ky.flat_next (l : List Cd.V) (k : Nat) (h : k < l.length) : (l.take (k + 1)).flatMap Ky.bytes = (l.take k).flatMap Ky.bytes ++ Ky.one l[k].k l[k].n l[k].b l[k].s := by
  rw [take_next l k h, List.flatMap_append]; simp [Ky.bytes]
theorem Ky.flat_length (l : List Cd.V) (h : ∀ x ∈ l, x.right = true) : (l.flatMap Ky.bytes).length ≤ l.length * 9000 := by
  induction l with
  | nil => simp
  | cons v l ih =>
    have h1 := Ky.one_length (h v (by simp))
    have h2 := ih fun x hx => h x (by simp [hx])
    rw [List.flatMap_cons, List.length_append, List.length_cons]
    unfold Ky.bytes at h2 ⊢
    omega
theorem Ky.of_length (l : List Cd.V) : (Ky.of l).length ≤ 72001 := by
  unfold Ky.of
  split
  · rename_i h
    obtain ⟨h1, h2⟩ := Ky.right_inv h
    have h3 := Ky.flat_length l h1
    rw [List.length_append]
    show _ + 1 ≤ _
    omega
  · simp
theorem Vok.rok {l : List Cd.V} (h : ∀ x ∈ l, Vok x) : Rok l := fun x hx => (h x hx).2.2
set_option maxRecDepth 100000 in
set_option maxHeartbeats 1600000 in
theorem of_any (v : Value) (l : List Cd.V) (w : World) (hv : VsAt w v l) (hok : ∀ x ∈ l, Vok x) (hl : l.length ≤ maxLen) : Calls Try.prog 12 #[v] w fun e w' => e = .returned (.string (bstr (Ky.of l))) ∧ Below w.heap.size w w' := by
  have cr := hid (kright_any v l w hv (Vok.rok hok) hl)
  obtain ⟨adr, cap, rfl, hc⟩ := hv
  have HC := hid hc
  have HOK := hid hok
  unfold maxLen at hl
  clear hc hok
  cases hr : Ky.right l
  · rw [hr] at cr
    have HE : Hid (bstr (Ky.of l) = ⟨#[]⟩) := by show _ = _; unfold Ky.of; rw [hr]; rfl
    clear hr
    go_enter Try.func12, Try.ntmps12
    go_wp2_with fail
    refine (cr.out).mono ?_; rintro e w1 ⟨rfl, b1⟩
    go_wp2_with fail
    go_ret
    rw [HE.out]
    exact ⟨rfl, b1⟩
  · rw [hr] at cr
    have HE : Hid (Ky.of l = l.flatMap Ky.bytes ++ [0]) := by show _ = _; unfold Ky.of; rw [hr]; rfl
    obtain ⟨hall, hl8⟩ := Ky.right_inv hr
    have HA := hid hall
    have HFL := hid (Ky.flat_length l hall)
    clear hr hall
    go_enter Try.func12, Try.ntmps12
    go_wp2_with fail
    refine (cr.out).mono ?_; rintro e w1 ⟨rfl, b1⟩
    go_wp2_with fail
    go_loopw [11, 3] (fun i s wr => ∃ k : Nat, k ≤ l.length ∧ i = .int .i64 (k : Int) ∧ s = .string (bstr ((l.take k).flatMap Ky.bytes)) ∧ Below w.heap.size w wr) (fun i _ _ => l.length - (intOf i).toNat)
    case atStart => exact ⟨0, by omega, rfl, rfl, b1⟩
    case round =>
      obtain ⟨k, hk, rfl, rfl, hbel⟩ := hrel
      obtain ⟨w4, rfl⟩ : ∃ w4 : World, w4 = wr := ⟨_, rfl⟩
      have hps : (bstr ((l.take k).flatMap Ky.bytes)).size ≤ 72000 := by
        have h := Ky.flat_length (l.take k) fun x hx => HA.out x (List.mem_of_mem_take hx)
        rw [List.length_take] at h
        rw [bstr_size]
        omega
      by_cases hlk : k < l.length
      · obtain ⟨g, off, rfl, q0, q1, q2, q3⟩ := HC.out k hlk
        have HF := hid (Ky.flat_next l k hlk)
        obtain ⟨⟨hn0, hn1⟩, hb, hs⟩ := HOK.out l[k] (List.getElem_mem hlk)
        have hrx := HA.out l[k] (List.getElem_mem hlk)
        unfold Cd.V.right at hrx
        generalize l[k] = x at q0 q1 q2 q3 HF hn0 hn1 hb hs hrx
        obtain ⟨xk, xn, xb, xs⟩ := x
        simp only at q0 q1 q2 q3 HF hn0 hn1 hb hs hrx
        generalize (l.take k).flatMap Ky.bytes = pre at hps HF ⊢
        replace q0 := hkeep q0 hbel
        replace q1 := hkeep q1 hbel
        replace q2 := hkeep q2 hbel
        replace q3 := hkeep q3 hbel
        have hlk' : (k : Int) < l.length := by omega
        have hk0 : (0 : Int) ≤ (k : Int) := by omega
        have hvs : (bstr (Ky.one xk xn xb xs)).size ≤ 9000 := Ky.one_length hrx
        have co := hid (fun W => one_any xk xn xb xs hrx hn0 hn1 hb W)
        unfold vv at co
        generalize Ky.one xk xn xb xs = y at hvs co HF
        clear hrx
        go_wp2_with fail
        refine (co.out _).mono ?_; rintro e w5 ⟨rfl, hb5⟩
        have hB5 := hnext (hbel.alloc hbel.size _) hb5
        go_wp2_with fail
        go_roundw
        case rel => exact ⟨k + 1, by omega, by go_num, by rw [HF.out]; exact congrArg Value.string (bstr_append _ _), hB5⟩
        case measure => simp [intOf]; omega
      · obtain rfl : k = l.length := by omega
        rw [List.take_length] at hps ⊢
        generalize l.flatMap Ky.bytes = pre at hps HE ⊢
        go_wp2_with fail
        go_ret
        rw [HE.out]
        exact ⟨congrArg (fun x => Ending.returned (.string x)) (bstr_append _ [0]), hbel⟩
set_option maxRecDepth 100000 in
set_option maxHeartbeats 1600000 in
theorem ofR_any (v : Value) (l : List Cd.V) (w : World) (hv : VsAt w v l) (hok : ∀ x ∈ l, Vok x) (hl : l.length ≤ maxLen) : Calls Try.prog 13 #[v] w fun e w' => e = .returned (.string (bstr (Ky.of l))) ∧ Below w.heap.size w w' := by
  have cr := hid (krightR_any v l w hv (Vok.rok hok) (fun x hx => (hok x hx).2.1) hl)
  obtain ⟨adr, cap, rfl, hc⟩ := hv
  have HC := hid hc
  have HOK := hid hok
  unfold maxLen at hl
  clear hc hok
  cases hr : Ky.right l
  · rw [hr] at cr
    have HE : Hid (bstr (Ky.of l) = ⟨#[]⟩) := by show _ = _; unfold Ky.of; rw [hr]; rfl
    clear hr
    go_enter Try.func13, Try.ntmps13
    go_wp2_with fail
    refine (cr.out).mono ?_; rintro e w1 ⟨rfl, b1⟩
    go_wp2_with fail
    go_ret
    rw [HE.out]
    exact ⟨rfl, b1⟩
  · rw [hr] at cr
    have HE : Hid (Ky.of l = l.flatMap Ky.bytes ++ [0]) := by show _ = _; unfold Ky.of; rw [hr]; rfl
    obtain ⟨hall, hl8⟩ := Ky.right_inv hr
    have HA := hid hall
    have HFL := hid (Ky.flat_length l hall)
    clear hr hall
    go_enter Try.func13, Try.ntmps13
    go_wp2_with fail
    refine (cr.out).mono ?_; rintro e w1 ⟨rfl, b1⟩
    go_wp2_with fail
    go_loopw [4, 3] (fun i s wr => ∃ k : Nat, k ≤ l.length ∧ i = .int .i64 (k : Int) ∧ s = .string (bstr ((l.take k).flatMap Ky.bytes)) ∧ Below w.heap.size w wr) (fun i _ _ => l.length - (intOf i).toNat)
    case atStart => exact ⟨0, by omega, rfl, rfl, b1⟩
    case round =>
      obtain ⟨k, hk, rfl, rfl, hbel⟩ := hrel
      obtain ⟨w4, rfl⟩ : ∃ w4 : World, w4 = wr := ⟨_, rfl⟩
      have hps : (bstr ((l.take k).flatMap Ky.bytes)).size ≤ 72000 := by
        have h := Ky.flat_length (l.take k) fun x hx => HA.out x (List.mem_of_mem_take hx)
        rw [List.length_take] at h
        rw [bstr_size]
        omega
      by_cases hlk : k < l.length
      · obtain ⟨g, off, rfl, q0, q1, q2, q3⟩ := HC.out k hlk
        have HF := hid (Ky.flat_next l k hlk)
        obtain ⟨⟨hn0, hn1⟩, hb, hs⟩ := HOK.out l[k] (List.getElem_mem hlk)
        have hrx := HA.out l[k] (List.getElem_mem hlk)
        unfold Cd.V.right at hrx
        generalize l[k] = x at q0 q1 q2 q3 HF hn0 hn1 hb hs hrx
        obtain ⟨xk, xn, xb, xs⟩ := x
        simp only at q0 q1 q2 q3 HF hn0 hn1 hb hs hrx
        generalize (l.take k).flatMap Ky.bytes = pre at hps HF ⊢
        replace q0 := hkeep q0 hbel
        replace q1 := hkeep q1 hbel
        replace q2 := hkeep q2 hbel
        replace q3 := hkeep q3 hbel
        have hlk' : (k : Int) < l.length := by omega
        have hk0 : (0 : Int) ≤ (k : Int) := by omega
        have hvs : (bstr (Ky.one xk xn xb xs)).size ≤ 9000 := Ky.one_length hrx
        have co := hid (fun W => oneR_any xk xn xb xs hrx hn0 hn1 hb W)
        unfold vv at co
        generalize Ky.one xk xn xb xs = y at hvs co HF
        clear hrx
        go_wp2_with fail
        refine (co.out _).mono ?_; rintro e w5 ⟨rfl, hb5⟩
        have hB5 := hnext hbel hb5
        go_wp2_with fail
        go_roundw
        case rel => exact ⟨k + 1, by omega, by go_num, by rw [HF.out]; exact congrArg Value.string (bstr_append _ _), hB5⟩
        case measure => simp [intOf]; omega
      · obtain rfl : k = l.length := by omega
        rw [List.take_length] at hps ⊢
        generalize l.flatMap Ky.bytes = pre at hps HE ⊢
        go_wp2_with fail
        go_ret
        rw [HE.out]
        exact ⟨congrArg (fun x => Ending.returned (.string x)) (bstr_append _ [0]), hbel⟩
end Go.Proofs.Ytimcmpcfnddioaa
