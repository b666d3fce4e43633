/-
  key's reader: value: its contract. Condition: the text has at most 1000000 bytes.
-/
import Derived.Test.YtimcmpcfnddioaaKyU
import Derived.Test.YtimcmpcfnddioaaKyO
import Derived.Test.YtimcmpcfnddioaaRd3
namespace Go.Proofs.Ytimcmpcfnddioaa
open Go.RowKit

namespace Ky
/-- the number of eight bytes as a number with a sign -/
def unmoved (m : Nat) : Int := (m : Int) - 9223372036854775808
/-- a value of a kind, what is left, and whether something was wrong -/
def raw (k : Int) (r : List UInt8) (b : Bool) : Cd.V × List UInt8 × Bool :=
  if k = 1 then (⟨1, (num (tk 1 r b).1 : Int), 0, ⟨#[]⟩⟩, (tk 1 r b).2)
  else if k = 2 then (⟨2, unmoved (num (tk 8 r b).1), 0, ⟨#[]⟩⟩, (tk 8 r b).2)
  else if k = 3 then (⟨3, 0, straight (num (tk 8 r b).1), ⟨#[]⟩⟩, (tk 8 r b).2)
  else if k = 4 ∨ k = 5 then (⟨k, 0, 0, bstr (tx [] r).1⟩, (tx [] r).2)
  else (⟨k, 0, 0, ⟨#[]⟩⟩, r, b)
/-- the same, told wrong where the value is not right -/
def fin (c : UInt8) (r : List UInt8) (b : Bool) : Cd.V × List UInt8 × Bool :=
  ((raw ((c.toNat : Int) - 1) r b).1, (raw ((c.toNat : Int) - 1) r b).2.1, (raw ((c.toNat : Int) - 1) r b).2.2 || !(raw ((c.toNat : Int) - 1) r b).1.right)
/-- the next value of bytes -/
def vl : List UInt8 → Cd.V × List UInt8 × Bool
  | [] => fin 0 [] true
  | c :: r => fin c r false
theorem c2 : ((2 : UInt8).toNat : Int) = 2 := rfl
theorem num_one (t : List UInt8) (h : t.length = 1) : ∃ d, t = [d] ∧ num t = d.toNat := by
  match t, h with
  | [d], _ => exact ⟨d, rfl, by show 256 * 0 + d.toNat = _; omega⟩
theorem fin_of {c : UInt8} {r : List UInt8} {b : Bool} {v : Cd.V} {r2 : List UInt8} {b2 : Bool} (h : raw ((c.toNat : Int) - 1) r b = (v, r2, b2)) : fin c r b = (v, r2, b2 || !v.right) := by unfold fin; rw [h]
theorem tx_size (acc r : List UInt8) : (tx acc r).1.length ≤ acc.length + r.length := by
  match r with
  | [] => rw [tx_no]; simp
  | [c] =>
    by_cases h : c = 0
    · subst h; rw [tx_short]; simp
    · rw [tx_byte _ _ _ h, tx_no]; simp
  | c :: d :: r =>
    by_cases h : c = 0
    · subst h
      by_cases h1 : d = 1
      · subst h1; rw [tx_end]; simp
      · by_cases h2 : d = 255
        · subst h2
          have := tx_size (acc ++ [0]) r
          rw [tx_zero]; simp at this ⊢; omega
        · rw [tx_bad _ _ _ h1 h2]; simp
    · have := tx_size (acc ++ [c]) (d :: r)
      rw [tx_byte _ _ _ h]; simp at this ⊢; omega
termination_by r.length
end Ky
theorem Kr.setO {w : World} {g r o : Nat} {l : List UInt8} {b : Bool} (h : Kr w g l b) (v : Value) (hne : r ≠ g) : Kr (w.setCell ⟨r, o, none⟩ v) g l b :=
  (heap_setCell_other w ⟨r, o, none⟩ g v (by simpa [eq_comm] using hne)).trans h
theorem BV.upd {w w' : World} {g r : Nat} {k n : Int} {b : Nat} {s : ByteArray} (h : BV w g k n b s) (hb : Upd r w w') (hne : g ≠ r) : BV w' g k n b s := by
  show w'.heap[g]? = _
  rw [hb.block g h.cells.2.2.2.2.2.2.2.2 (by simpa using hne)]; exact h
theorem BV.new (w : World) (k n : Int) (b : Nat) (s : ByteArray) : BV (w.alloc (.cells #[.int .i64 k, .int .i64 n, .int .u64 (b : Int), .string s] 39)) w.heap.size k n b s := heap_alloc_new w _
theorem BV.setK {w : World} {g : Nat} {k n : Int} {b : Nat} {s : ByteArray} (h : BV w g k n b s) (m : Int) : BV (w.setCell ⟨g, 0, none⟩ (.int .i64 m)) g m n b s := heap_setCell_same w g 0 _ _ (.int .i64 m) h
theorem BV.setN {w : World} {g : Nat} {k n : Int} {b : Nat} {s : ByteArray} (h : BV w g k n b s) (m : Int) : BV (w.setCell ⟨g, 1, none⟩ (.int .i64 m)) g k m b s := heap_setCell_same w g 1 _ _ (.int .i64 m) h
theorem BV.setB {w : World} {g : Nat} {k n : Int} {b : Nat} {s : ByteArray} (h : BV w g k n b s) (m : Nat) : BV (w.setCell ⟨g, 2, none⟩ (.int .u64 (m : Int))) g k n m s := heap_setCell_same w g 2 _ _ (.int .u64 (m : Int)) h
theorem BV.setS {w : World} {g : Nat} {k n : Int} {b : Nat} {s : ByteArray} (h : BV w g k n b s) (t : ByteArray) : BV (w.setCell ⟨g, 3, none⟩ (.string t)) g k n b t := heap_setCell_same w g 3 _ _ (.string t) h
theorem BV.setO {w : World} {g r o : Nat} {k n : Int} {b : Nat} {s : ByteArray} (h : BV w g k n b s) (v : Value) (hne : r ≠ g) : BV (w.setCell ⟨r, o, none⟩ v) g k n b s :=
  (heap_setCell_other w ⟨r, o, none⟩ g v (by simpa [eq_comm] using hne)).trans h
/-- a store into a block that is newer than the call -/
theorem Upd.setNew {g r o : Nat} {w w' : World} (h : Upd g w w') (v : Value) (hr : w.heap.size ≤ r) : Upd g w (w'.setCell ⟨r, o, none⟩ v) := by
  have hb2 : Below r w' (w'.setCell ⟨r, o, none⟩ v) := (Below.refl r w').setCell (p := ⟨r, o, none⟩) (Nat.le_refl _) v
  exact ⟨hb2.os.trans h.os, hb2.tape.trans h.tape, hb2.output.trans h.output, Nat.le_trans h.size hb2.size, fun i hi hn => by
    rw [heap_setCell_other w' ⟨r, o, none⟩ i v (by simp; omega)]; exact h.block i hi hn⟩
def vvV (v : Cd.V) : Value := vv v.k v.n v.b v.s
theorem results_value {W : World} {z : Nat} {k n : Int} {b : Nat} {s : ByteArray} (t : Array Value) (h2 : t[2]? = some (.pointer (some ⟨z, 0, none⟩))) (h : BV W z k n b s) : (results Try.f32 t).run Try.prog W = .ok (.agg #[.int .i64 k, .int .i64 n, .int .u64 (b : Int), .string s]) W := by
  obtain ⟨z0, z1, z2, z3, _, _, _, _, _⟩ := h.cells
  simp [results, Try.results32, go_sem, h2, z0, z1, z2, z3]
theorem un_top (m : Nat) (hm : m < 18446744073709551616) : IntKind.i64.wrap (bits .xor .u64 (m : Int) 9223372036854775808) = Ky.unmoved m := by
  have h := bits_xor_u64_nat m 9223372036854775808 hm (by decide)
  rw [show (9223372036854775808 : Nat) = 2 ^ 63 from rfl, nat_xor_top m hm] at h
  rw [show (9223372036854775808 : Int) = ((2 ^ 63 : Nat) : Int) from rfl, h, IntKind.wrap_i64]
  unfold Ky.unmoved
  split <;> omega
set_option maxRecDepth 100000 in
set_option maxHeartbeats 6400000 in
theorem value1 (g : Nat) (l : List UInt8) (r : List UInt8) (b : Bool) (w : World) (hr : Kr w g l false) (_hrl : r.length ≤ 1000000)
    (ct0 : ∀ W, Kr W g l false → Calls Try.prog 46 #[.pointer (some ⟨g, 0, none⟩), .int .i64 1] W fun e w' => e = .returned (.string (bstr [2])) ∧ Upd g W w' ∧ Kr w' g r b) :
    Calls Try.prog 32 #[.pointer (some ⟨g, 0, none⟩)] w fun e w' => e = .returned (vvV (Ky.fin 2 r b).1) ∧ Upd g w w' ∧ Kr w' g (Ky.fin 2 r b).2.1 (Ky.fin 2 r b).2.2 := by
  have hrl := _hrl
  have ct := hid ct0
  clear ct0
  have hix : ∀ h : 0 < (bstr [2]).size, (bstr [2])[0]'h = 2 := fun _ => rfl
  have hsz1 : (bstr [2]).size = 1 := rfl
  have ht := Ky.tk_length 1 r b
  have c20 := fun W h => take_any g r b 1 (by decide) W h (by omega)
  have HR : Hid (Ky.raw (((2 : UInt8).toNat : Int) - 1) r b = (⟨1, (Ky.num (Ky.tk 1 r b).1 : Int), 0, ⟨#[]⟩⟩, (Ky.tk 1 r b).2)) := rfl
  generalize Ky.tk 1 r b = q at ht c20 HR
  obtain ⟨t, r2, b2⟩ := q
  simp only at ht c20 HR
  obtain ⟨d, rfl, hd⟩ := Ky.num_one t ht
  have hix2 : ∀ h : 0 < (bstr [d]).size, (bstr [d])[0]'h = d := fun _ => rfl
  have hsz2 : (bstr [d]).size = 1 := rfl
  rw [hd, ← IntWalk.wrap64_in (d.toNat : Int) (by have := d.toNat_lt; omega)] at HR
  have HE := hid HR.out
  clear HR hd ht
  have c2 := hid c20
  clear c20
  have hsz : ByteArray.size (⟨#[]⟩ : ByteArray) ≤ maxLen := by decide
  go_enter Try.func32, Try.ntmps32
  go_wp2_with fail
  have hb0 := hba w (.cells #[.int .i64 0, .int .i64 0, .int .u64 0, .string ⟨#[]⟩] 39)
  have hr0 := hr.keep hb0
  have bz0 : BV (w.alloc (.cells #[.int .i64 0, .int .i64 0, .int .u64 0, .string ⟨#[]⟩] 39)) w.heap.size 0 0 0 ⟨#[]⟩ := BV.new w 0 0 0 ⟨#[]⟩
  have hg0 : w.heap.size ≠ g := by have := hr.cells.2.2.2.2; omega
  have hu0 : Upd g w _ := Upd.of hb0
  refine (ct.out _ hr0).mono ?_; rintro e w1 ⟨rfl, hu1, hr1⟩
  have bz1 := bz0.upd hu1 hg0
  replace hu1 := hu0.trans hu1
  clear hb0 hr0 bz0 hu0 hr
  go_wp2_with fail
  have bt1 : BV (w1.alloc (.cells #[.int .i64 1, .int .i64 0, .int .u64 0, .string ⟨#[]⟩] 39)) w1.heap.size 1 0 0 ⟨#[]⟩ := BV.new w1 1 0 0 ⟨#[]⟩
  have hba1 := hba w1 (.cells #[.int .i64 1, .int .i64 0, .int .u64 0, .string ⟨#[]⟩] 39)
  have bz2 := bz1.keep hba1
  have hr2 := hr1.keep hba1
  have hu2 := hu1.trans (Upd.of hba1)
  have hg1 : w1.heap.size ≠ g := by have := hr1.cells.2.2.2.2; omega
  have hg2 : w1.heap.size ≠ w.heap.size := by have := bz1.cells.2.2.2.2.2.2.2.2; omega
  have hg3 : w.heap.size ≤ w1.heap.size := hu1.size
  generalize hz1 : w1.heap.size = b3 at *
  generalize w1.alloc (.cells #[.int .i64 1, .int .i64 0, .int .u64 0, .string ⟨#[]⟩] 39) = w2 at *
  clear hba1 hr1 hu1 bz1 hz1
  refine (c2.out _ hr2).mono ?_; rintro e w3 ⟨rfl, hu3, hr3⟩
  have bz3 := bz2.upd hu3 hg0
  have bt3 := bt1.upd hu3 hg1
  replace hu3 := hu2.trans hu3
  clear hu2 hr2 bz2 bt1 c2 ct
  obtain ⟨t0, t1, t2, t3, tf0, tf1, tf2, tf3, tl⟩ := bt3.cells
  obtain ⟨z0, z1, z2, z3, zf0, zf1, zf2, zf3, zl⟩ := bz3.cells
  obtain ⟨rc0, rc1, rf0, rf1, rl⟩ := hr3.cells
  have hg1s := hg1.symm
  have hg0s := hg0.symm
  have hg2s := hg2.symm
  cases b2 with
  | true =>
    have HF := hid (Ky.fin_of HE.out)
    go_wp2_with fail
    have hrF := (((((hr3.setO (o := 1) (.int .i64 (wrap64 (d.toNat : Int))) hg1).setBad true).setO (o := 0) (.int .i64 1) hg0).setO (o := 1) (.int .i64 (wrap64 (d.toNat : Int))) hg0).setO (o := 2) (.int .u64 0) hg0).setO (o := 3) (.string ⟨#[]⟩) hg0
    have huF := (((((hu3.setNew (o := 1) (.int .i64 (wrap64 (d.toNat : Int))) hg3).trans (Upd.set g 1 _ (.bool true))).setNew (o := 0) (.int .i64 1) (Nat.le_refl _)).setNew (o := 1) (.int .i64 (wrap64 (d.toNat : Int))) (Nat.le_refl _)).setNew (o := 2) (.int .u64 0) (Nat.le_refl _)).setNew (o := 3) (.string ⟨#[]⟩) (Nat.le_refl _)
    refine bodyPost_ret (v := .agg #[.int .i64 1, .int .i64 (wrap64 (d.toNat : Int)), .int .u64 0, .string ⟨#[]⟩]) (by simp [results, Try.results32, go_sem, z0, z1, z2, z3]) rfl ?_
    rw [HF.out]
    exact ⟨rfl, huF, hrF⟩
  | false =>
    have HF := hid (Ky.fin_of HE.out)
    have hRt := fun W => right_any 1 (wrap64 (d.toNat : Int)) 0 ⟨#[]⟩ hsz W
    unfold vv at hRt
    obtain ⟨q, hq⟩ : ∃ q, Va.right 1 (wrap64 (d.toNat : Int)) 0 ⟨#[]⟩ = q := ⟨_, rfl⟩
    have HQ : Hid (Cd.V.right ⟨1, (wrap64 (d.toNat : Int)), 0, ⟨#[]⟩⟩ = q) := hq
    rw [hq] at hRt
    have HRT := hid hRt
    clear hRt hq
    go_wp2_with fail
    clear t0 t1 t2 t3 tf0 tf1 tf2 tf3 tl z0 z1 z2 z3 zf0 zf1 zf2 zf3 zl rc0 rc1 rf0 rf1 rl
    have hrW := hr3.setO (o := 1) (.int .i64 (wrap64 (d.toNat : Int))) hg1
    have btW := bt3.setN (wrap64 (d.toNat : Int))
    have bzW := bz3.setO (o := 1) (.int .i64 (wrap64 (d.toNat : Int))) hg2
    have huW := hu3.setNew (o := 1) (.int .i64 (wrap64 (d.toNat : Int))) hg3
    generalize w3.setCell ⟨b3, 1, none⟩ (.int .i64 (wrap64 (d.toNat : Int))) = w4 at *
    clear hr3 bt3 bz3 hu3 w3
    refine (HRT.out _).mono ?_; rintro e w5 ⟨rfl, hb5⟩
    have bt5 := btW.keep hb5
    have bz5 := bzW.keep hb5
    have hr5 := hrW.keep hb5
    have hu5 := huW.trans (Upd.of hb5)
    clear hb5 huW hrW bzW btW
    obtain ⟨rc0, rc1, rf0, rf1, rl⟩ := hr5.cells
    obtain ⟨t0, t1, t2, t3, tf0, tf1, tf2, tf3, tl⟩ := bt5.cells
    obtain ⟨z0, z1, z2, z3, zf0, zf1, zf2, zf3, zl⟩ := bz5.cells
    go_wp2_with fail
    have hrF := ((((hr5.setBad (!q)).setO (o := 0) (.int .i64 1) hg0).setO (o := 1) (.int .i64 (wrap64 (d.toNat : Int))) hg0).setO (o := 2) (.int .u64 0) hg0).setO (o := 3) (.string ⟨#[]⟩) hg0
    have huF := ((((hu5.trans (Upd.set g 1 _ (.bool (!q)))).setNew (o := 0) (.int .i64 1) (Nat.le_refl _)).setNew (o := 1) (.int .i64 (wrap64 (d.toNat : Int))) (Nat.le_refl _)).setNew (o := 2) (.int .u64 0) (Nat.le_refl _)).setNew (o := 3) (.string ⟨#[]⟩) (Nat.le_refl _)
    refine bodyPost_ret (v := .agg #[.int .i64 1, .int .i64 (wrap64 (d.toNat : Int)), .int .u64 0, .string ⟨#[]⟩]) (by simp [results, Try.results32, go_sem, z0, z1, z2, z3]) rfl ?_
    rw [HF.out, HQ.out]
    exact ⟨rfl, huF, hrF⟩
set_option maxRecDepth 100000 in
set_option maxHeartbeats 6400000 in
theorem value2 (g : Nat) (l : List UInt8) (r : List UInt8) (b : Bool) (w : World) (hr : Kr w g l false) (_hrl : r.length ≤ 1000000)
    (ct0 : ∀ W, Kr W g l false → Calls Try.prog 46 #[.pointer (some ⟨g, 0, none⟩), .int .i64 1] W fun e w' => e = .returned (.string (bstr [3])) ∧ Upd g W w' ∧ Kr w' g r b) :
    Calls Try.prog 32 #[.pointer (some ⟨g, 0, none⟩)] w fun e w' => e = .returned (vvV (Ky.fin 3 r b).1) ∧ Upd g w w' ∧ Kr w' g (Ky.fin 3 r b).2.1 (Ky.fin 3 r b).2.2 := by
  have hrl := _hrl
  have ct := hid ct0
  clear ct0
  have hix : ∀ h : 0 < (bstr [3]).size, (bstr [3])[0]'h = 3 := fun _ => rfl
  have hsz1 : (bstr [3]).size = 1 := rfl
  have c20 := fun W h => number_rd g r b W h (by omega)
  have hm : Ky.num (Ky.tk 8 r b).1 < 18446744073709551616 := by
    have h := Ky.num_lt (Ky.tk 8 r b).1 8 (by rw [Ky.tk_length]; omega)
    rw [List.take_of_length_le (by rw [Ky.tk_length]; omega)] at h
    exact h
  have HR : Hid (Ky.raw (((3 : UInt8).toNat : Int) - 1) r b = (⟨2, Ky.unmoved (Ky.num (Ky.tk 8 r b).1), 0, ⟨#[]⟩⟩, (Ky.tk 8 r b).2)) := rfl
  generalize Ky.num (Ky.tk 8 r b).1 = m at hm c20 HR
  generalize (Ky.tk 8 r b).2 = q at c20 HR
  obtain ⟨r2, b2⟩ := q
  simp only at c20 HR
  have HE := hid HR.out
  clear HR
  have hx := un_top m hm
  generalize Ky.unmoved m = n at hx HE
  have c2 := hid c20
  clear c20
  have hsz : ByteArray.size (⟨#[]⟩ : ByteArray) ≤ maxLen := by decide
  go_enter Try.func32, Try.ntmps32
  go_wp2_with fail
  have hb0 := hba w (.cells #[.int .i64 0, .int .i64 0, .int .u64 0, .string ⟨#[]⟩] 39)
  have hr0 := hr.keep hb0
  have bz0 : BV (w.alloc (.cells #[.int .i64 0, .int .i64 0, .int .u64 0, .string ⟨#[]⟩] 39)) w.heap.size 0 0 0 ⟨#[]⟩ := BV.new w 0 0 0 ⟨#[]⟩
  have hg0 : w.heap.size ≠ g := by have := hr.cells.2.2.2.2; omega
  have hu0 : Upd g w _ := Upd.of hb0
  refine (ct.out _ hr0).mono ?_; rintro e w1 ⟨rfl, hu1, hr1⟩
  have bz1 := bz0.upd hu1 hg0
  replace hu1 := hu0.trans hu1
  clear hb0 hr0 bz0 hu0 hr
  go_wp2_with fail
  have bt1 : BV (w1.alloc (.cells #[.int .i64 2, .int .i64 0, .int .u64 0, .string ⟨#[]⟩] 39)) w1.heap.size 2 0 0 ⟨#[]⟩ := BV.new w1 2 0 0 ⟨#[]⟩
  have hba1 := hba w1 (.cells #[.int .i64 2, .int .i64 0, .int .u64 0, .string ⟨#[]⟩] 39)
  have bz2 := bz1.keep hba1
  have hr2 := hr1.keep hba1
  have hu2 := hu1.trans (Upd.of hba1)
  have hg1 : w1.heap.size ≠ g := by have := hr1.cells.2.2.2.2; omega
  have hg2 : w1.heap.size ≠ w.heap.size := by have := bz1.cells.2.2.2.2.2.2.2.2; omega
  have hg3 : w.heap.size ≤ w1.heap.size := hu1.size
  generalize hz1 : w1.heap.size = b3 at *
  generalize w1.alloc (.cells #[.int .i64 2, .int .i64 0, .int .u64 0, .string ⟨#[]⟩] 39) = w2 at *
  clear hba1 hr1 hu1 bz1 hz1
  refine (c2.out _ hr2).mono ?_; rintro e w3 ⟨rfl, hu3, hr3⟩
  have bz3 := bz2.upd hu3 hg0
  have bt3 := bt1.upd hu3 hg1
  replace hu3 := hu2.trans hu3
  clear hu2 hr2 bz2 bt1 c2 ct
  obtain ⟨t0, t1, t2, t3, tf0, tf1, tf2, tf3, tl⟩ := bt3.cells
  obtain ⟨z0, z1, z2, z3, zf0, zf1, zf2, zf3, zl⟩ := bz3.cells
  obtain ⟨rc0, rc1, rf0, rf1, rl⟩ := hr3.cells
  have hg1s := hg1.symm
  have hg0s := hg0.symm
  have hg2s := hg2.symm
  cases b2 with
  | true =>
    have HF := hid (Ky.fin_of HE.out)
    go_wp2_with fail
    have hrF := (((((hr3.setO (o := 1) (.int .i64 n) hg1).setBad true).setO (o := 0) (.int .i64 2) hg0).setO (o := 1) (.int .i64 n) hg0).setO (o := 2) (.int .u64 0) hg0).setO (o := 3) (.string ⟨#[]⟩) hg0
    have huF := (((((hu3.setNew (o := 1) (.int .i64 n) hg3).trans (Upd.set g 1 _ (.bool true))).setNew (o := 0) (.int .i64 2) (Nat.le_refl _)).setNew (o := 1) (.int .i64 n) (Nat.le_refl _)).setNew (o := 2) (.int .u64 0) (Nat.le_refl _)).setNew (o := 3) (.string ⟨#[]⟩) (Nat.le_refl _)
    refine bodyPost_ret (v := .agg #[.int .i64 2, .int .i64 n, .int .u64 0, .string ⟨#[]⟩]) (by simp [results, Try.results32, go_sem, z0, z1, z2, z3]) rfl ?_
    rw [HF.out]
    exact ⟨rfl, huF, hrF⟩
  | false =>
    have HF := hid (Ky.fin_of HE.out)
    have hRt := fun W => right_any 2 n 0 ⟨#[]⟩ hsz W
    unfold vv at hRt
    obtain ⟨q, hq⟩ : ∃ q, Va.right 2 n 0 ⟨#[]⟩ = q := ⟨_, rfl⟩
    have HQ : Hid (Cd.V.right ⟨2, n, 0, ⟨#[]⟩⟩ = q) := hq
    rw [hq] at hRt
    have HRT := hid hRt
    clear hRt hq
    go_wp2_with fail
    clear t0 t1 t2 t3 tf0 tf1 tf2 tf3 tl z0 z1 z2 z3 zf0 zf1 zf2 zf3 zl rc0 rc1 rf0 rf1 rl
    have hrW := hr3.setO (o := 1) (.int .i64 n) hg1
    have btW := bt3.setN n
    have bzW := bz3.setO (o := 1) (.int .i64 n) hg2
    have huW := hu3.setNew (o := 1) (.int .i64 n) hg3
    generalize w3.setCell ⟨b3, 1, none⟩ (.int .i64 n) = w4 at *
    clear hr3 bt3 bz3 hu3 w3
    refine (HRT.out _).mono ?_; rintro e w5 ⟨rfl, hb5⟩
    have bt5 := btW.keep hb5
    have bz5 := bzW.keep hb5
    have hr5 := hrW.keep hb5
    have hu5 := huW.trans (Upd.of hb5)
    clear hb5 huW hrW bzW btW
    obtain ⟨rc0, rc1, rf0, rf1, rl⟩ := hr5.cells
    obtain ⟨t0, t1, t2, t3, tf0, tf1, tf2, tf3, tl⟩ := bt5.cells
    obtain ⟨z0, z1, z2, z3, zf0, zf1, zf2, zf3, zl⟩ := bz5.cells
    go_wp2_with fail
    have hrF := ((((hr5.setBad (!q)).setO (o := 0) (.int .i64 2) hg0).setO (o := 1) (.int .i64 n) hg0).setO (o := 2) (.int .u64 0) hg0).setO (o := 3) (.string ⟨#[]⟩) hg0
    have huF := ((((hu5.trans (Upd.set g 1 _ (.bool (!q)))).setNew (o := 0) (.int .i64 2) (Nat.le_refl _)).setNew (o := 1) (.int .i64 n) (Nat.le_refl _)).setNew (o := 2) (.int .u64 0) (Nat.le_refl _)).setNew (o := 3) (.string ⟨#[]⟩) (Nat.le_refl _)
    refine bodyPost_ret (v := .agg #[.int .i64 2, .int .i64 n, .int .u64 0, .string ⟨#[]⟩]) (by simp [results, Try.results32, go_sem, z0, z1, z2, z3]) rfl ?_
    rw [HF.out, HQ.out]
    exact ⟨rfl, huF, hrF⟩
set_option maxRecDepth 100000 in
set_option maxHeartbeats 6400000 in
theorem value3 (g : Nat) (l : List UInt8) (r : List UInt8) (b : Bool) (w : World) (hr : Kr w g l false) (_hrl : r.length ≤ 1000000)
    (ct0 : ∀ W, Kr W g l false → Calls Try.prog 46 #[.pointer (some ⟨g, 0, none⟩), .int .i64 1] W fun e w' => e = .returned (.string (bstr [4])) ∧ Upd g W w' ∧ Kr w' g r b) :
    Calls Try.prog 32 #[.pointer (some ⟨g, 0, none⟩)] w fun e w' => e = .returned (vvV (Ky.fin 4 r b).1) ∧ Upd g w w' ∧ Kr w' g (Ky.fin 4 r b).2.1 (Ky.fin 4 r b).2.2 := by
  have hrl := _hrl
  have ct := hid ct0
  clear ct0
  have hix : ∀ h : 0 < (bstr [4]).size, (bstr [4])[0]'h = 4 := fun _ => rfl
  have hsz1 : (bstr [4]).size = 1 := rfl
  have c20 := fun W h => number_rd g r b W h (by omega)
  have hm : Ky.num (Ky.tk 8 r b).1 < 18446744073709551616 := by
    have h := Ky.num_lt (Ky.tk 8 r b).1 8 (by rw [Ky.tk_length]; omega)
    rw [List.take_of_length_le (by rw [Ky.tk_length]; omega)] at h
    exact h
  have HR : Hid (Ky.raw (((4 : UInt8).toNat : Int) - 1) r b = (⟨3, 0, Ky.straight (Ky.num (Ky.tk 8 r b).1), ⟨#[]⟩⟩, (Ky.tk 8 r b).2)) := rfl
  generalize Ky.num (Ky.tk 8 r b).1 = m at hm c20 HR
  generalize (Ky.tk 8 r b).2 = q at c20 HR
  obtain ⟨r2, b2⟩ := q
  simp only at c20 HR
  have HE := hid HR.out
  clear HR
  have cs := hid (fun W => straight_any m hm W)
  generalize Ky.straight m = n at cs HE
  have c2 := hid c20
  clear c20
  have hsz : ByteArray.size (⟨#[]⟩ : ByteArray) ≤ maxLen := by decide
  go_enter Try.func32, Try.ntmps32
  go_wp2_with fail
  have hb0 := hba w (.cells #[.int .i64 0, .int .i64 0, .int .u64 0, .string ⟨#[]⟩] 39)
  have hr0 := hr.keep hb0
  have bz0 : BV (w.alloc (.cells #[.int .i64 0, .int .i64 0, .int .u64 0, .string ⟨#[]⟩] 39)) w.heap.size 0 0 0 ⟨#[]⟩ := BV.new w 0 0 0 ⟨#[]⟩
  have hg0 : w.heap.size ≠ g := by have := hr.cells.2.2.2.2; omega
  have hu0 : Upd g w _ := Upd.of hb0
  refine (ct.out _ hr0).mono ?_; rintro e w1 ⟨rfl, hu1, hr1⟩
  have bz1 := bz0.upd hu1 hg0
  replace hu1 := hu0.trans hu1
  clear hb0 hr0 bz0 hu0 hr
  go_wp2_with fail
  have bt1 : BV (w1.alloc (.cells #[.int .i64 3, .int .i64 0, .int .u64 0, .string ⟨#[]⟩] 39)) w1.heap.size 3 0 0 ⟨#[]⟩ := BV.new w1 3 0 0 ⟨#[]⟩
  have hba1 := hba w1 (.cells #[.int .i64 3, .int .i64 0, .int .u64 0, .string ⟨#[]⟩] 39)
  have bz2 := bz1.keep hba1
  have hr2 := hr1.keep hba1
  have hu2 := hu1.trans (Upd.of hba1)
  have hg1 : w1.heap.size ≠ g := by have := hr1.cells.2.2.2.2; omega
  have hg2 : w1.heap.size ≠ w.heap.size := by have := bz1.cells.2.2.2.2.2.2.2.2; omega
  have hg3 : w.heap.size ≤ w1.heap.size := hu1.size
  generalize hz1 : w1.heap.size = b3 at *
  generalize w1.alloc (.cells #[.int .i64 3, .int .i64 0, .int .u64 0, .string ⟨#[]⟩] 39) = w2 at *
  clear hba1 hr1 hu1 bz1 hz1
  refine (c2.out _ hr2).mono ?_; rintro e w3 ⟨rfl, hu3, hr3⟩
  have bz3 := bz2.upd hu3 hg0
  have bt3 := bt1.upd hu3 hg1
  replace hu3 := hu2.trans hu3
  clear hu2 hr2 bz2 bt1 c2 ct
  go_wp2_with fail
  refine (cs.out _).mono ?_; rintro e w3' ⟨rfl, rfl⟩
  obtain ⟨t0, t1, t2, t3, tf0, tf1, tf2, tf3, tl⟩ := bt3.cells
  obtain ⟨z0, z1, z2, z3, zf0, zf1, zf2, zf3, zl⟩ := bz3.cells
  obtain ⟨rc0, rc1, rf0, rf1, rl⟩ := hr3.cells
  have hg1s := hg1.symm
  have hg0s := hg0.symm
  have hg2s := hg2.symm
  cases b2 with
  | true =>
    have HF := hid (Ky.fin_of HE.out)
    go_wp2_with fail
    have hrF := (((((hr3.setO (o := 2) (.int .u64 (n : Int)) hg1).setBad true).setO (o := 0) (.int .i64 3) hg0).setO (o := 1) (.int .i64 0) hg0).setO (o := 2) (.int .u64 (n : Int)) hg0).setO (o := 3) (.string ⟨#[]⟩) hg0
    have huF := (((((hu3.setNew (o := 2) (.int .u64 (n : Int)) hg3).trans (Upd.set g 1 _ (.bool true))).setNew (o := 0) (.int .i64 3) (Nat.le_refl _)).setNew (o := 1) (.int .i64 0) (Nat.le_refl _)).setNew (o := 2) (.int .u64 (n : Int)) (Nat.le_refl _)).setNew (o := 3) (.string ⟨#[]⟩) (Nat.le_refl _)
    refine bodyPost_ret (v := .agg #[.int .i64 3, .int .i64 0, .int .u64 (n : Int), .string ⟨#[]⟩]) (by simp [results, Try.results32, go_sem, z0, z1, z2, z3]) rfl ?_
    rw [HF.out]
    exact ⟨rfl, huF, hrF⟩
  | false =>
    have HF := hid (Ky.fin_of HE.out)
    have hRt := fun W => right_any 3 0 n ⟨#[]⟩ hsz W
    unfold vv at hRt
    obtain ⟨q, hq⟩ : ∃ q, Va.right 3 0 n ⟨#[]⟩ = q := ⟨_, rfl⟩
    have HQ : Hid (Cd.V.right ⟨3, 0, n, ⟨#[]⟩⟩ = q) := hq
    rw [hq] at hRt
    have HRT := hid hRt
    clear hRt hq
    go_wp2_with fail
    clear t0 t1 t2 t3 tf0 tf1 tf2 tf3 tl z0 z1 z2 z3 zf0 zf1 zf2 zf3 zl rc0 rc1 rf0 rf1 rl
    have hrW := hr3.setO (o := 2) (.int .u64 (n : Int)) hg1
    have btW := bt3.setB n
    have bzW := bz3.setO (o := 2) (.int .u64 (n : Int)) hg2
    have huW := hu3.setNew (o := 2) (.int .u64 (n : Int)) hg3
    generalize w3.setCell ⟨b3, 2, none⟩ (.int .u64 (n : Int)) = w4 at *
    clear hr3 bt3 bz3 hu3 w3
    refine (HRT.out _).mono ?_; rintro e w5 ⟨rfl, hb5⟩
    have bt5 := btW.keep hb5
    have bz5 := bzW.keep hb5
    have hr5 := hrW.keep hb5
    have hu5 := huW.trans (Upd.of hb5)
    clear hb5 huW hrW bzW btW
    obtain ⟨rc0, rc1, rf0, rf1, rl⟩ := hr5.cells
    obtain ⟨t0, t1, t2, t3, tf0, tf1, tf2, tf3, tl⟩ := bt5.cells
    obtain ⟨z0, z1, z2, z3, zf0, zf1, zf2, zf3, zl⟩ := bz5.cells
    go_wp2_with fail
    have hrF := ((((hr5.setBad (!q)).setO (o := 0) (.int .i64 3) hg0).setO (o := 1) (.int .i64 0) hg0).setO (o := 2) (.int .u64 (n : Int)) hg0).setO (o := 3) (.string ⟨#[]⟩) hg0
    have huF := ((((hu5.trans (Upd.set g 1 _ (.bool (!q)))).setNew (o := 0) (.int .i64 3) (Nat.le_refl _)).setNew (o := 1) (.int .i64 0) (Nat.le_refl _)).setNew (o := 2) (.int .u64 (n : Int)) (Nat.le_refl _)).setNew (o := 3) (.string ⟨#[]⟩) (Nat.le_refl _)
    refine bodyPost_ret (v := .agg #[.int .i64 3, .int .i64 0, .int .u64 (n : Int), .string ⟨#[]⟩]) (by simp [results, Try.results32, go_sem, z0, z1, z2, z3]) rfl ?_
    rw [HF.out, HQ.out]
    exact ⟨rfl, huF, hrF⟩
set_option maxRecDepth 100000 in
set_option maxHeartbeats 6400000 in
theorem value4 (g : Nat) (l : List UInt8) (r : List UInt8) (b : Bool) (hbc : b = true → (5 : UInt8) = 0) (w : World) (hr : Kr w g l false) (_hrl : r.length ≤ 1000000)
    (ct0 : ∀ W, Kr W g l false → Calls Try.prog 46 #[.pointer (some ⟨g, 0, none⟩), .int .i64 1] W fun e w' => e = .returned (.string (bstr [5])) ∧ Upd g W w' ∧ Kr w' g r b) :
    Calls Try.prog 32 #[.pointer (some ⟨g, 0, none⟩)] w fun e w' => e = .returned (vvV (Ky.fin 5 r b).1) ∧ Upd g w w' ∧ Kr w' g (Ky.fin 5 r b).2.1 (Ky.fin 5 r b).2.2 := by
  have hrl := _hrl
  have ct := hid ct0
  clear ct0
  have hix : ∀ h : 0 < (bstr [5]).size, (bstr [5])[0]'h = 5 := fun _ => rfl
  have hsz1 : (bstr [5]).size = 1 := rfl
  obtain rfl : b = false := by cases b with | false => rfl | true => exact absurd (hbc rfl) (by decide)
  have c20 := fun W h => text_rd g r W h hrl
  have hsz : (bstr (Ky.tx [] r).1).size ≤ maxLen := by
    have := Ky.tx_size [] r
    show (Ky.tx [] r).1.length ≤ _
    simp at this
    unfold maxLen; omega
  have HR : Hid (Ky.raw (((5 : UInt8).toNat : Int) - 1) r false = (⟨4, 0, 0, bstr (Ky.tx [] r).1⟩, (Ky.tx [] r).2)) := rfl
  generalize bstr (Ky.tx [] r).1 = s at hsz c20 HR
  generalize (Ky.tx [] r).2 = q at c20 HR
  obtain ⟨r2, b2⟩ := q
  simp only at c20 HR
  have HE := hid HR.out
  clear HR
  have c2 := hid c20
  clear c20
  go_enter Try.func32, Try.ntmps32
  go_wp2_with fail
  have hb0 := hba w (.cells #[.int .i64 0, .int .i64 0, .int .u64 0, .string ⟨#[]⟩] 39)
  have hr0 := hr.keep hb0
  have bz0 : BV (w.alloc (.cells #[.int .i64 0, .int .i64 0, .int .u64 0, .string ⟨#[]⟩] 39)) w.heap.size 0 0 0 ⟨#[]⟩ := BV.new w 0 0 0 ⟨#[]⟩
  have hg0 : w.heap.size ≠ g := by have := hr.cells.2.2.2.2; omega
  have hu0 : Upd g w _ := Upd.of hb0
  refine (ct.out _ hr0).mono ?_; rintro e w1 ⟨rfl, hu1, hr1⟩
  have bz1 := bz0.upd hu1 hg0
  replace hu1 := hu0.trans hu1
  clear hb0 hr0 bz0 hu0 hr
  go_wp2_with fail
  have bt1 : BV (w1.alloc (.cells #[.int .i64 4, .int .i64 0, .int .u64 0, .string ⟨#[]⟩] 39)) w1.heap.size 4 0 0 ⟨#[]⟩ := BV.new w1 4 0 0 ⟨#[]⟩
  have hba1 := hba w1 (.cells #[.int .i64 4, .int .i64 0, .int .u64 0, .string ⟨#[]⟩] 39)
  have bz2 := bz1.keep hba1
  have hr2 := hr1.keep hba1
  have hu2 := hu1.trans (Upd.of hba1)
  have hg1 : w1.heap.size ≠ g := by have := hr1.cells.2.2.2.2; omega
  have hg2 : w1.heap.size ≠ w.heap.size := by have := bz1.cells.2.2.2.2.2.2.2.2; omega
  have hg3 : w.heap.size ≤ w1.heap.size := hu1.size
  generalize hz1 : w1.heap.size = b3 at *
  generalize w1.alloc (.cells #[.int .i64 4, .int .i64 0, .int .u64 0, .string ⟨#[]⟩] 39) = w2 at *
  clear hba1 hr1 hu1 bz1 hz1
  refine (c2.out _ hr2).mono ?_; rintro e w3 ⟨rfl, hu3, hr3⟩
  have bz3 := bz2.upd hu3 hg0
  have bt3 := bt1.upd hu3 hg1
  replace hu3 := hu2.trans hu3
  clear hu2 hr2 bz2 bt1 c2 ct
  obtain ⟨t0, t1, t2, t3, tf0, tf1, tf2, tf3, tl⟩ := bt3.cells
  obtain ⟨z0, z1, z2, z3, zf0, zf1, zf2, zf3, zl⟩ := bz3.cells
  obtain ⟨rc0, rc1, rf0, rf1, rl⟩ := hr3.cells
  have hg1s := hg1.symm
  have hg0s := hg0.symm
  have hg2s := hg2.symm
  cases b2 with
  | true =>
    have HF := hid (Ky.fin_of HE.out)
    go_wp2_with fail
    have hrF := (((((hr3.setO (o := 3) (.string s) hg1).setBad true).setO (o := 0) (.int .i64 4) hg0).setO (o := 1) (.int .i64 0) hg0).setO (o := 2) (.int .u64 0) hg0).setO (o := 3) (.string s) hg0
    have huF := (((((hu3.setNew (o := 3) (.string s) hg3).trans (Upd.set g 1 _ (.bool true))).setNew (o := 0) (.int .i64 4) (Nat.le_refl _)).setNew (o := 1) (.int .i64 0) (Nat.le_refl _)).setNew (o := 2) (.int .u64 0) (Nat.le_refl _)).setNew (o := 3) (.string s) (Nat.le_refl _)
    refine bodyPost_ret (v := .agg #[.int .i64 4, .int .i64 0, .int .u64 0, .string s]) (by simp [results, Try.results32, go_sem, z0, z1, z2, z3]) rfl ?_
    rw [HF.out]
    exact ⟨rfl, huF, hrF⟩
  | false =>
    have HF := hid (Ky.fin_of HE.out)
    have hRt := fun W => right_any 4 0 0 s hsz W
    unfold vv at hRt
    obtain ⟨q, hq⟩ : ∃ q, Va.right 4 0 0 s = q := ⟨_, rfl⟩
    have HQ : Hid (Cd.V.right ⟨4, 0, 0, s⟩ = q) := hq
    rw [hq] at hRt
    have HRT := hid hRt
    clear hRt hq
    go_wp2_with fail
    clear t0 t1 t2 t3 tf0 tf1 tf2 tf3 tl z0 z1 z2 z3 zf0 zf1 zf2 zf3 zl rc0 rc1 rf0 rf1 rl
    have hrW := hr3.setO (o := 3) (.string s) hg1
    have btW := bt3.setS s
    have bzW := bz3.setO (o := 3) (.string s) hg2
    have huW := hu3.setNew (o := 3) (.string s) hg3
    generalize w3.setCell ⟨b3, 3, none⟩ (.string s) = w4 at *
    clear hr3 bt3 bz3 hu3 w3
    refine (HRT.out _).mono ?_; rintro e w5 ⟨rfl, hb5⟩
    have bt5 := btW.keep hb5
    have bz5 := bzW.keep hb5
    have hr5 := hrW.keep hb5
    have hu5 := huW.trans (Upd.of hb5)
    clear hb5 huW hrW bzW btW
    obtain ⟨rc0, rc1, rf0, rf1, rl⟩ := hr5.cells
    obtain ⟨t0, t1, t2, t3, tf0, tf1, tf2, tf3, tl⟩ := bt5.cells
    obtain ⟨z0, z1, z2, z3, zf0, zf1, zf2, zf3, zl⟩ := bz5.cells
    go_wp2_with fail
    have hrF := ((((hr5.setBad (!q)).setO (o := 0) (.int .i64 4) hg0).setO (o := 1) (.int .i64 0) hg0).setO (o := 2) (.int .u64 0) hg0).setO (o := 3) (.string s) hg0
    have huF := ((((hu5.trans (Upd.set g 1 _ (.bool (!q)))).setNew (o := 0) (.int .i64 4) (Nat.le_refl _)).setNew (o := 1) (.int .i64 0) (Nat.le_refl _)).setNew (o := 2) (.int .u64 0) (Nat.le_refl _)).setNew (o := 3) (.string s) (Nat.le_refl _)
    refine bodyPost_ret (v := .agg #[.int .i64 4, .int .i64 0, .int .u64 0, .string s]) (by simp [results, Try.results32, go_sem, z0, z1, z2, z3]) rfl ?_
    rw [HF.out, HQ.out]
    exact ⟨rfl, huF, hrF⟩
set_option maxRecDepth 100000 in
set_option maxHeartbeats 6400000 in
theorem value5 (g : Nat) (l : List UInt8) (r : List UInt8) (b : Bool) (hbc : b = true → (6 : UInt8) = 0) (w : World) (hr : Kr w g l false) (_hrl : r.length ≤ 1000000)
    (ct0 : ∀ W, Kr W g l false → Calls Try.prog 46 #[.pointer (some ⟨g, 0, none⟩), .int .i64 1] W fun e w' => e = .returned (.string (bstr [6])) ∧ Upd g W w' ∧ Kr w' g r b) :
    Calls Try.prog 32 #[.pointer (some ⟨g, 0, none⟩)] w fun e w' => e = .returned (vvV (Ky.fin 6 r b).1) ∧ Upd g w w' ∧ Kr w' g (Ky.fin 6 r b).2.1 (Ky.fin 6 r b).2.2 := by
  have hrl := _hrl
  have ct := hid ct0
  clear ct0
  have hix : ∀ h : 0 < (bstr [6]).size, (bstr [6])[0]'h = 6 := fun _ => rfl
  have hsz1 : (bstr [6]).size = 1 := rfl
  obtain rfl : b = false := by cases b with | false => rfl | true => exact absurd (hbc rfl) (by decide)
  have c20 := fun W h => text_rd g r W h hrl
  have hsz : (bstr (Ky.tx [] r).1).size ≤ maxLen := by
    have := Ky.tx_size [] r
    show (Ky.tx [] r).1.length ≤ _
    simp at this
    unfold maxLen; omega
  have HR : Hid (Ky.raw (((6 : UInt8).toNat : Int) - 1) r false = (⟨5, 0, 0, bstr (Ky.tx [] r).1⟩, (Ky.tx [] r).2)) := rfl
  generalize bstr (Ky.tx [] r).1 = s at hsz c20 HR
  generalize (Ky.tx [] r).2 = q at c20 HR
  obtain ⟨r2, b2⟩ := q
  simp only at c20 HR
  have HE := hid HR.out
  clear HR
  have c2 := hid c20
  clear c20
  go_enter Try.func32, Try.ntmps32
  go_wp2_with fail
  have hb0 := hba w (.cells #[.int .i64 0, .int .i64 0, .int .u64 0, .string ⟨#[]⟩] 39)
  have hr0 := hr.keep hb0
  have bz0 : BV (w.alloc (.cells #[.int .i64 0, .int .i64 0, .int .u64 0, .string ⟨#[]⟩] 39)) w.heap.size 0 0 0 ⟨#[]⟩ := BV.new w 0 0 0 ⟨#[]⟩
  have hg0 : w.heap.size ≠ g := by have := hr.cells.2.2.2.2; omega
  have hu0 : Upd g w _ := Upd.of hb0
  refine (ct.out _ hr0).mono ?_; rintro e w1 ⟨rfl, hu1, hr1⟩
  have bz1 := bz0.upd hu1 hg0
  replace hu1 := hu0.trans hu1
  clear hb0 hr0 bz0 hu0 hr
  go_wp2_with fail
  have bt1 : BV (w1.alloc (.cells #[.int .i64 5, .int .i64 0, .int .u64 0, .string ⟨#[]⟩] 39)) w1.heap.size 5 0 0 ⟨#[]⟩ := BV.new w1 5 0 0 ⟨#[]⟩
  have hba1 := hba w1 (.cells #[.int .i64 5, .int .i64 0, .int .u64 0, .string ⟨#[]⟩] 39)
  have bz2 := bz1.keep hba1
  have hr2 := hr1.keep hba1
  have hu2 := hu1.trans (Upd.of hba1)
  have hg1 : w1.heap.size ≠ g := by have := hr1.cells.2.2.2.2; omega
  have hg2 : w1.heap.size ≠ w.heap.size := by have := bz1.cells.2.2.2.2.2.2.2.2; omega
  have hg3 : w.heap.size ≤ w1.heap.size := hu1.size
  generalize hz1 : w1.heap.size = b3 at *
  generalize w1.alloc (.cells #[.int .i64 5, .int .i64 0, .int .u64 0, .string ⟨#[]⟩] 39) = w2 at *
  clear hba1 hr1 hu1 bz1 hz1
  refine (c2.out _ hr2).mono ?_; rintro e w3 ⟨rfl, hu3, hr3⟩
  have bz3 := bz2.upd hu3 hg0
  have bt3 := bt1.upd hu3 hg1
  replace hu3 := hu2.trans hu3
  clear hu2 hr2 bz2 bt1 c2 ct
  obtain ⟨t0, t1, t2, t3, tf0, tf1, tf2, tf3, tl⟩ := bt3.cells
  obtain ⟨z0, z1, z2, z3, zf0, zf1, zf2, zf3, zl⟩ := bz3.cells
  obtain ⟨rc0, rc1, rf0, rf1, rl⟩ := hr3.cells
  have hg1s := hg1.symm
  have hg0s := hg0.symm
  have hg2s := hg2.symm
  cases b2 with
  | true =>
    have HF := hid (Ky.fin_of HE.out)
    go_wp2_with fail
    have hrF := (((((hr3.setO (o := 3) (.string s) hg1).setBad true).setO (o := 0) (.int .i64 5) hg0).setO (o := 1) (.int .i64 0) hg0).setO (o := 2) (.int .u64 0) hg0).setO (o := 3) (.string s) hg0
    have huF := (((((hu3.setNew (o := 3) (.string s) hg3).trans (Upd.set g 1 _ (.bool true))).setNew (o := 0) (.int .i64 5) (Nat.le_refl _)).setNew (o := 1) (.int .i64 0) (Nat.le_refl _)).setNew (o := 2) (.int .u64 0) (Nat.le_refl _)).setNew (o := 3) (.string s) (Nat.le_refl _)
    refine bodyPost_ret (v := .agg #[.int .i64 5, .int .i64 0, .int .u64 0, .string s]) (by simp [results, Try.results32, go_sem, z0, z1, z2, z3]) rfl ?_
    rw [HF.out]
    exact ⟨rfl, huF, hrF⟩
  | false =>
    have HF := hid (Ky.fin_of HE.out)
    have hRt := fun W => right_any 5 0 0 s hsz W
    unfold vv at hRt
    obtain ⟨q, hq⟩ : ∃ q, Va.right 5 0 0 s = q := ⟨_, rfl⟩
    have HQ : Hid (Cd.V.right ⟨5, 0, 0, s⟩ = q) := hq
    rw [hq] at hRt
    have HRT := hid hRt
    clear hRt hq
    go_wp2_with fail
    clear t0 t1 t2 t3 tf0 tf1 tf2 tf3 tl z0 z1 z2 z3 zf0 zf1 zf2 zf3 zl rc0 rc1 rf0 rf1 rl
    have hrW := hr3.setO (o := 3) (.string s) hg1
    have btW := bt3.setS s
    have bzW := bz3.setO (o := 3) (.string s) hg2
    have huW := hu3.setNew (o := 3) (.string s) hg3
    generalize w3.setCell ⟨b3, 3, none⟩ (.string s) = w4 at *
    clear hr3 bt3 bz3 hu3 w3
    refine (HRT.out _).mono ?_; rintro e w5 ⟨rfl, hb5⟩
    have bt5 := btW.keep hb5
    have bz5 := bzW.keep hb5
    have hr5 := hrW.keep hb5
    have hu5 := huW.trans (Upd.of hb5)
    clear hb5 huW hrW bzW btW
    obtain ⟨rc0, rc1, rf0, rf1, rl⟩ := hr5.cells
    obtain ⟨t0, t1, t2, t3, tf0, tf1, tf2, tf3, tl⟩ := bt5.cells
    obtain ⟨z0, z1, z2, z3, zf0, zf1, zf2, zf3, zl⟩ := bz5.cells
    go_wp2_with fail
    have hrF := ((((hr5.setBad (!q)).setO (o := 0) (.int .i64 5) hg0).setO (o := 1) (.int .i64 0) hg0).setO (o := 2) (.int .u64 0) hg0).setO (o := 3) (.string s) hg0
    have huF := ((((hu5.trans (Upd.set g 1 _ (.bool (!q)))).setNew (o := 0) (.int .i64 5) (Nat.le_refl _)).setNew (o := 1) (.int .i64 0) (Nat.le_refl _)).setNew (o := 2) (.int .u64 0) (Nat.le_refl _)).setNew (o := 3) (.string s) (Nat.le_refl _)
    refine bodyPost_ret (v := .agg #[.int .i64 5, .int .i64 0, .int .u64 0, .string s]) (by simp [results, Try.results32, go_sem, z0, z1, z2, z3]) rfl ?_
    rw [HF.out, HQ.out]
    exact ⟨rfl, huF, hrF⟩
set_option maxRecDepth 100000 in
set_option maxHeartbeats 6400000 in
theorem valueO (g : Nat) (l : List UInt8) (c : UInt8) (h1 : (c.toNat : Int) - 1 ≠ 1) (h2 : (c.toNat : Int) - 1 ≠ 2) (h3 : (c.toNat : Int) - 1 ≠ 3) (h4 : (c.toNat : Int) - 1 ≠ 4) (h5 : (c.toNat : Int) - 1 ≠ 5) (r : List UInt8) (b : Bool) (w : World) (hr : Kr w g l false) (_hrl : r.length ≤ 1000000)
    (ct0 : ∀ W, Kr W g l false → Calls Try.prog 46 #[.pointer (some ⟨g, 0, none⟩), .int .i64 1] W fun e w' => e = .returned (.string (bstr [c])) ∧ Upd g W w' ∧ Kr w' g r b) :
    Calls Try.prog 32 #[.pointer (some ⟨g, 0, none⟩)] w fun e w' => e = .returned (vvV (Ky.fin c r b).1) ∧ Upd g w w' ∧ Kr w' g (Ky.fin c r b).2.1 (Ky.fin c r b).2.2 := by
  have hrl := _hrl
  have ct := hid ct0
  clear ct0
  have hix : ∀ h : 0 < (bstr [c]).size, (bstr [c])[0]'h = c := fun _ => rfl
  have hsz1 : (bstr [c]).size = 1 := rfl
  have HR : Hid (Ky.raw ((c.toNat : Int) - 1) r b = (⟨(c.toNat : Int) - 1, 0, 0, ⟨#[]⟩⟩, r, b)) := by
    show _ = _
    unfold Ky.raw
    rw [if_neg (by omega), if_neg (by omega), if_neg (by omega), if_neg (by omega)]
  have hcl := c.toNat_lt
  have hwr0 : wrap64 (c.toNat : Int) = (c.toNat : Int) := IntWalk.wrap64_in _ (by omega)
  have hwr : wrap64 ((c.toNat : Int) - 1) = (c.toNat : Int) - 1 := IntWalk.wrap64_in _ (by omega)
  obtain ⟨kk, hkk⟩ : ∃ kk : Int, (c.toNat : Int) - 1 = kk := ⟨_, rfl⟩
  have e1 : (kk == 1) = false := by rw [beq_eq_false_iff_ne]; omega
  have e2 : (kk == 2) = false := by rw [beq_eq_false_iff_ne]; omega
  have e3 : (kk == 3) = false := by rw [beq_eq_false_iff_ne]; omega
  have e4 : (kk == 4) = false := by rw [beq_eq_false_iff_ne]; omega
  have e5 : (kk == 5) = false := by rw [beq_eq_false_iff_ne]; omega
  rw [hkk] at hwr HR
  have HE : Hid (Ky.raw ((c.toNat : Int) - 1) r b = (⟨kk, 0, 0, ⟨#[]⟩⟩, r, b)) := by show _ = _; rw [hkk]; exact HR.out
  clear HR h1 h2 h3 h4 h5 hcl
  have hsz : ByteArray.size (⟨#[]⟩ : ByteArray) ≤ maxLen := by decide
  cases b with
  | true =>
    go_enter Try.func32, Try.ntmps32
    go_wp2_with fail
    have hb0 := hba w (.cells #[.int .i64 0, .int .i64 0, .int .u64 0, .string ⟨#[]⟩] 39)
    have hr0 := hr.keep hb0
    have bz0 : BV (w.alloc (.cells #[.int .i64 0, .int .i64 0, .int .u64 0, .string ⟨#[]⟩] 39)) w.heap.size 0 0 0 ⟨#[]⟩ := BV.new w 0 0 0 ⟨#[]⟩
    have hg0 : w.heap.size ≠ g := by have := hr.cells.2.2.2.2; omega
    have hu0 : Upd g w _ := Upd.of hb0
    refine (ct.out _ hr0).mono ?_; rintro e w1 ⟨rfl, hu1, hr1⟩
    have bz1 := bz0.upd hu1 hg0
    replace hu1 := hu0.trans hu1
    clear hb0 hr0 bz0 hu0 hr
    have HF := hid (Ky.fin_of HE.out)
    obtain ⟨rc0, rc1, rf0, rf1, rl⟩ := hr1.cells
    obtain ⟨z0, z1, z2, z3, zf0, zf1, zf2, zf3, zl⟩ := bz1.cells
    have hg1' : w1.heap.size ≠ g := by omega
    have hg1s := hg1'.symm
    have hg0s := hg0.symm
    have hg2' : w1.heap.size ≠ w.heap.size := by omega
    have hg2s := hg2'.symm
    go_wp2_with fail
    have hrF := (((((hr1.setBad true).setO (o := 0) (.int .i64 kk) hg0).setO (o := 1) (.int .i64 0) hg0).setO (o := 2) (.int .u64 0) hg0).setO (o := 3) (.string ⟨#[]⟩) hg0).keep (hba _ (.cells #[.int .i64 kk, .int .i64 0, .int .u64 0, .string ⟨#[]⟩] 39))
    have huF := (((((hu1.trans (Upd.set g 1 _ (.bool true))).setNew (o := 0) (.int .i64 kk) (Nat.le_refl _)).setNew (o := 1) (.int .i64 0) (Nat.le_refl _)).setNew (o := 2) (.int .u64 0) (Nat.le_refl _)).setNew (o := 3) (.string ⟨#[]⟩) (Nat.le_refl _)).trans (Upd.of (hba _ (.cells #[.int .i64 kk, .int .i64 0, .int .u64 0, .string ⟨#[]⟩] 39)))
    have bzF := (((((bz1.setO (o := 1) (.bool true) hg0s).setK kk).setN 0).setB 0).setS ⟨#[]⟩).keep (hba _ (.cells #[.int .i64 kk, .int .i64 0, .int .u64 0, .string ⟨#[]⟩] 39))
    refine bodyPost_ret (results_value _ rfl bzF) rfl ?_
    rw [HF.out]
    exact ⟨rfl, huF, hrF⟩
  | false =>
    go_enter Try.func32, Try.ntmps32
    go_wp2_with fail
    have hb0 := hba w (.cells #[.int .i64 0, .int .i64 0, .int .u64 0, .string ⟨#[]⟩] 39)
    have hr0 := hr.keep hb0
    have bz0 : BV (w.alloc (.cells #[.int .i64 0, .int .i64 0, .int .u64 0, .string ⟨#[]⟩] 39)) w.heap.size 0 0 0 ⟨#[]⟩ := BV.new w 0 0 0 ⟨#[]⟩
    have hg0 : w.heap.size ≠ g := by have := hr.cells.2.2.2.2; omega
    have hu0 : Upd g w _ := Upd.of hb0
    refine (ct.out _ hr0).mono ?_; rintro e w1 ⟨rfl, hu1, hr1⟩
    have bz1 := bz0.upd hu1 hg0
    replace hu1 := hu0.trans hu1
    clear hb0 hr0 bz0 hu0 hr
    have HF := hid (Ky.fin_of HE.out)
    have hRt := fun W => right_any kk 0 0 ⟨#[]⟩ hsz W
    unfold vv at hRt
    obtain ⟨q, hq⟩ : ∃ q, Va.right kk 0 0 ⟨#[]⟩ = q := ⟨_, rfl⟩
    have HQ : Hid (Cd.V.right ⟨kk, 0, 0, ⟨#[]⟩⟩ = q) := hq
    rw [hq] at hRt
    have HRT := hid hRt
    clear hRt hq
    obtain ⟨rc0, rc1, rf0, rf1, rl⟩ := hr1.cells
    obtain ⟨z0, z1, z2, z3, zf0, zf1, zf2, zf3, zl⟩ := bz1.cells
    have hg1' : w1.heap.size ≠ g := by omega
    have hg1s := hg1'.symm
    have hg0s := hg0.symm
    have hg2' : w1.heap.size ≠ w.heap.size := by omega
    have hg2s := hg2'.symm
    go_wp2_with fail
    clear rc0 rc1 rf0 rf1 rl z0 z1 z2 z3 zf0 zf1 zf2 zf3 zl hg1s hg2s hg1' hg2'
    have bt1 : BV (w1.alloc (.cells #[.int .i64 kk, .int .i64 0, .int .u64 0, .string ⟨#[]⟩] 39)) w1.heap.size kk 0 0 ⟨#[]⟩ := BV.new w1 kk 0 0 ⟨#[]⟩
    have hba1 := hba w1 (.cells #[.int .i64 kk, .int .i64 0, .int .u64 0, .string ⟨#[]⟩] 39)
    have bz2 := bz1.keep hba1
    have hr2 := hr1.keep hba1
    have hu2 := hu1.trans (Upd.of hba1)
    have hg1 : w1.heap.size ≠ g := by have := hr1.cells.2.2.2.2; omega
    have hg2 : w1.heap.size ≠ w.heap.size := by have := bz1.cells.2.2.2.2.2.2.2.2; omega
    have hg3 : w.heap.size ≤ w1.heap.size := hu1.size
    generalize hz1 : w1.heap.size = b3 at *
    generalize w1.alloc (.cells #[.int .i64 kk, .int .i64 0, .int .u64 0, .string ⟨#[]⟩] 39) = w2 at *
    clear hba1 hr1 hu1 bz1 hz1
    have hr3 := hr2
    have bt3 := bt1
    have bz3 := bz2
    have hu3 := hu2
    clear hr2 bt1 bz2 hu2 ct
    have hrW := hr3
    have btW := bt3
    have bzW := bz3
    have huW := hu3
    clear hr3 bt3 bz3 hu3
    refine (HRT.out _).mono ?_; rintro e w5 ⟨rfl, hb5⟩
    have bt5 := btW.keep hb5
    have bz5 := bzW.keep hb5
    have hr5 := hrW.keep hb5
    have hu5 := huW.trans (Upd.of hb5)
    clear hb5 huW hrW bzW btW
    obtain ⟨rc0, rc1, rf0, rf1, rl⟩ := hr5.cells
    obtain ⟨t0, t1, t2, t3, tf0, tf1, tf2, tf3, tl⟩ := bt5.cells
    obtain ⟨z0, z1, z2, z3, zf0, zf1, zf2, zf3, zl⟩ := bz5.cells
    go_wp2_with fail
    have hrF := ((((hr5.setBad (!q)).setO (o := 0) (.int .i64 kk) hg0).setO (o := 1) (.int .i64 0) hg0).setO (o := 2) (.int .u64 0) hg0).setO (o := 3) (.string ⟨#[]⟩) hg0
    have huF := ((((hu5.trans (Upd.set g 1 _ (.bool (!q)))).setNew (o := 0) (.int .i64 kk) (Nat.le_refl _)).setNew (o := 1) (.int .i64 0) (Nat.le_refl _)).setNew (o := 2) (.int .u64 0) (Nat.le_refl _)).setNew (o := 3) (.string ⟨#[]⟩) (Nat.le_refl _)
    refine bodyPost_ret (v := .agg #[.int .i64 kk, .int .i64 0, .int .u64 0, .string ⟨#[]⟩]) (by simp [results, Try.results32, go_sem, z0, z1, z2, z3]) rfl ?_
    rw [HF.out, HQ.out]
    exact ⟨rfl, huF, hrF⟩
theorem value_rd (g : Nat) (l : List UInt8) (w : World) (hr : Kr w g l false) (hl : l.length ≤ 1000000) :
    Calls Try.prog 32 #[.pointer (some ⟨g, 0, none⟩)] w fun e w' => e = .returned (vvV (Ky.vl l).1) ∧ Upd g w w' ∧ Kr w' g (Ky.vl l).2.1 (Ky.vl l).2.2 := by
  cases l with
  | nil => exact valueO g [] 0 (by decide) (by decide) (by decide) (by decide) (by decide) [] true w hr (by decide) fun W h => take_no g [] false 1 (by decide) W h (by decide)
  | cons c r =>
    have hrl : r.length ≤ 1000000 := by simp at hl; omega
    have ct : ∀ W, Kr W g (c :: r) false → Calls Try.prog 46 #[.pointer (some ⟨g, 0, none⟩), .int .i64 1] W fun e w' => e = .returned (.string (bstr [c])) ∧ Upd g W w' ∧ Kr w' g r false :=
      fun W h => take_ok g (c :: r) false 1 (by decide) W h (by simp) (by omega)
    show Calls _ _ _ _ fun e w' => e = .returned (vvV (Ky.fin c r false).1) ∧ Upd g w w' ∧ Kr w' g (Ky.fin c r false).2.1 (Ky.fin c r false).2.2
    by_cases h2 : c = 2
    · subst h2; exact value1 g _ r false w hr hrl ct
    by_cases h3 : c = 3
    · subst h3; exact value2 g _ r false w hr hrl ct
    by_cases h4 : c = 4
    · subst h4; exact value3 g _ r false w hr hrl ct
    by_cases h5 : c = 5
    · subst h5; exact value4 g _ r false (fun h => by cases h) w hr hrl ct
    by_cases h6 : c = 6
    · subst h6; exact value5 g _ r false (fun h => by cases h) w hr hrl ct
    have hn : ∀ d : UInt8, c ≠ d → c.toNat ≠ d.toNat := fun d h e => h (UInt8.toNat_inj.1 e)
    have n2 := hn 2 h2
    have n3 := hn 3 h3
    have n4 := hn 4 h4
    have n5 := hn 5 h5
    have n6 := hn 6 h6
    simp only [show (2 : UInt8).toNat = 2 from rfl, show (3 : UInt8).toNat = 3 from rfl, show (4 : UInt8).toNat = 4 from rfl, show (5 : UInt8).toNat = 5 from rfl, show (6 : UInt8).toNat = 6 from rfl] at n2 n3 n4 n5 n6
    exact valueO g _ c (by omega) (by omega) (by omega) (by omega) (by omega) r false w hr hrl ct
end Go.Proofs.Ytimcmpcfnddioaa
