/-
  The layers below: bytes, values, numbers, texts, rows written.
-/
import Derived.Test.YtmcneelapghfcaaBa
import Derived.WalkKit
import Derived.WalkSpells
import Derived.WalkLawsBesides
import Derived.Handy
import Derived.Deep.RegionHeld3
import Derived.Below
import Derived.Deep.Draws
import GoSem.Core.Float
import Derived.Laws.Cover2
import Derived.Laws.Externs
import Derived.Deep.QuietTactic
import Derived.BigQuiet
import Derived.Laws.Bits64b

namespace Go.Proofs.Ytmcneelapghfcaa
open Go.RowKit

theorem int_eq {k : IntKind} {a b : Int} (h : a = b) : Value.int k a = Value.int k b := by rw [h]
theorem ret_eq {k : IntKind} {a b : Int} (h : a = b) : Ending.returned (.int k a) = .returned (.int k b) := by rw [h]
theorem str_eq {a b : ByteArray} (h : a = b) : Value.string a = Value.string b := by rw [h]

theorem bnext {w a b : World} (h : Below w.heap.size w a) (k : Below a.heap.size a b) : Below w.heap.size w b := h.trans (k.mono h.size)

/-- a string out of its bytes -/
def bstr (l : List UInt8) : ByteArray := ⟨l.toArray⟩
theorem bstr_toList (l : List UInt8) : (bstr l).data.toList = l := rfl
theorem bstr_append (l r : List UInt8) : bstr l ++ bstr r = bstr (l ++ r) := by
  apply ba_eq
  rw [bstr_toList, ByteArray.data_append, Array.toList_append]; rfl
theorem extract_take (s : ByteArray) (n : Nat) : (s.extract 0 n).data.toList = s.data.toList.take n := by
  rw [ByteArray.data_extract, Array.toList_extract]; simp [List.extract]
theorem extract_drop (s : ByteArray) (n : Nat) : (s.extract n s.size).data.toList = s.data.toList.drop n := by
  rw [ByteArray.data_extract, Array.toList_extract]
  simp only [List.extract]
  rw [List.take_of_length_le]
  simp
theorem extract_bstr (s : ByteArray) (n : Nat) : s.extract 0 n = bstr (s.data.toList.take n) := ba_eq (by rw [extract_take]; rfl)
theorem bstr_size (l : List UInt8) : (bstr l).size = l.length := rfl
theorem bstr_of (s : ByteArray) : bstr s.data.toList = s := by cases s; simp [bstr]

theorem cell_one_byte (w : World) (x : Value) (e : TypeId) (c : UInt8) (h : x = byteV c) : ∀ j u, ([c].map byteV)[j]? = some u → (w.alloc (.cells #[x] e)).cell? ((⟨w.heap.size, 0, none⟩ : Addr).add j) = some u := by
  subst h
  exact cell_one_new w _ _

section
variable {P : Program}

/-- 'string([]byte{c})' -/
theorem run_string_one (w : World) (src dst e : Nat) (x : Value) (c : UInt8) (hx : x = byteV c) (hs : P.underlying src = some (.slice e)) (he : P.underlying e = some (.int .u8)) (hd : P.underlying dst = some .string) :
    (convert src dst (.slice (some ⟨w.heap.size, 0, none⟩) 1 1)).run P (w.alloc (.cells #[x] e)) = .ok (.string (bstr [c])) (w.alloc (.cells #[x] e)) := by
  refine run_convert_bytes_back (w.alloc (.cells #[x] e)) src dst e ⟨w.heap.size, 0, none⟩ 1 [c] hs he hd fun j hj => ?_
  have h0 := cell_one_byte w x e c hx
  exact h0 j _ (by rw [List.getElem?_map, List.getElem?_eq_getElem hj]; rfl)

/-- 'string([]byte{c})', wherever the byte lies -/
theorem run_string_cell (src dst e : Nat) (c : UInt8) (hs : P.underlying src = some (.slice e)) (he : P.underlying e = some (.int .u8)) (hd : P.underlying dst = some .string) :
    ∀ (w : World) (b : Nat), w.cell? ⟨b, 0, none⟩ = some (.int .u8 (c.toNat : Int)) → (convert src dst (.slice (some ⟨b, 0, none⟩) 1 1)).run P w = .ok (.string (bstr [c])) w := by
  intro w b h
  refine run_convert_bytes_back w src dst e ⟨b, 0, none⟩ 1 [c] hs he hd fun j hj => ?_
  have : j = 0 := by simp at hj; omega
  subst this
  exact h

/-- 'string(b)', b a whole block of bytes -/
theorem run_string_block (src dst e : Nat) (l : List UInt8) (cs : Array Value) (fr : Nat × Nat) (hcs : cs = (l.map byteV).toArray) (hs : P.underlying src = some (.slice e)) (he : P.underlying e = some (.int .u8)) (hd : P.underlying dst = some .string) (g n cap : Nat) (hn : l.length = n) :
    ∀ w : World, w.heap[g]? = some (.cells cs e fr) → (convert src dst (.slice (some ⟨g, 0, none⟩) n cap)).run P w = .ok (.string (bstr l)) w := by
  intro w h
  subst hcs
  rw [← hn]
  refine run_convert_bytes_back w src dst e ⟨g, 0, none⟩ cap l hs he hd fun j hj => ?_
  rw [Addr.add_lit, Nat.zero_add, cell_of_row w g j _ e fr h]
  rw [List.getElem?_toArray, List.getElem?_map, List.getElem?_eq_getElem hj]; rfl

end
end Go.Proofs.Ytmcneelapghfcaa

namespace Go.Proofs.Ytmcneelapghfcaa
open Go.RowKit

section
variable {P : Program} {ops : Array Oper} {Q : Exit → Act → World → Prop} {md : Region.Mode} {S S' : World → Prop}
theorem wpOp_imp {i : Nat} {K K' : Act → World → Prop} {a : Act} {w : World} (h : ∀ a w, K a w → K' a w) (hh : wpOp P ops Q i K a w) : wpOp P ops Q i K' a w := wpOp_mono h hh
/-- more is known of the worlds from here on -/
theorem wpAnyH_more (h : ∀ w, S' w → S w) : ∀ (fuel : Nat) (listed : Array Bool) (a : Act) (w : World), wpAnyH P md ops Q S' fuel listed a w → wpAnyH P md ops Q S fuel listed a w
  | 0, _, _, _, hh => hh
  | fuel + 1, _, _, _, hh => ⟨hh.1, fun i hi => wpOp_imp (fun _ _ k => ⟨h _ k.1, wpAnyH_more h fuel _ _ _ k.2⟩) (hh.2 i hi)⟩
end
end Go.Proofs.Ytmcneelapghfcaa

namespace Go.Proofs.Ytmcneelapghfcaa
namespace Va

end Va
end Go.Proofs.Ytmcneelapghfcaa

namespace Go.Proofs.Ytmcneelapghfcaa
open Go.RowKit

end Go.Proofs.Ytmcneelapghfcaa

namespace Go.Proofs.Ytmcneelapghfcaa
open Go.RowKit

end Go.Proofs.Ytmcneelapghfcaa

namespace Go.Proofs.Ytmcneelapghfcaa
namespace Cd

theorem encF_small {n : Nat} (f : Nat) (h : n < 128) : encF f n = [UInt8.ofNat n] := by
  cases f with
  | zero => rfl
  | succ f => show (if n < 128 then _ else _) = _; rw [if_pos h]
theorem enc_next {f m : Nat} (h1 : 128 ≤ m) (h2 : m < 2 * 128 ^ f) : ∃ f', f = f' + 1 ∧ m / 128 < 2 * 128 ^ f' ∧ encF f m = UInt8.ofNat (m % 128 + 128) :: encF f' (m / 128) := by
  cases f with
  | zero => omega
  | succ f =>
    refine ⟨f, rfl, ?_, ?_⟩
    · rw [Nat.pow_succ] at h2
      exact Nat.div_lt_of_lt_mul (by omega)
    · show (if m < 128 then _ else _) = _
      rw [if_neg (by omega)]
theorem encF_length (f : Nat) : ∀ n, 1 ≤ (encF f n).length ∧ (encF f n).length ≤ f + 1 := by
  induction f with
  | zero => intro n; simp [encF]
  | succ f ih =>
    intro n
    unfold encF
    split
    · simp
    · have := ih (n / 128)
      simp only [List.length_cons]
      omega
theorem enc_length (n : Nat) : 1 ≤ (enc n).length ∧ (enc n).length ≤ 10 := encF_length 9 n
theorem u64_bound {n : Nat} (h : n < 18446744073709551616) : n < 2 * 128 ^ 9 := Nat.lt_of_lt_of_le h (by decide)

theorem low_length (k b : Nat) : (low k b).length = k := by
  induction k with
  | zero => rfl
  | succ k ih => simp [low, ih]
end Cd
end Go.Proofs.Ytmcneelapghfcaa

namespace Go.Proofs.Ytmcneelapghfcaa
namespace Cd

def uintF (l : List UInt8) : Nat → Nat → Nat → Nat → R Nat
  | 0, _, n, i => .ok (n, i)
  | f + 1, k, n, i => match l[i]? with
    | none => .error 8
    | some c => if (c.toNat = 0 ∧ 0 < k) ∨ (k = 9 ∧ 1 < c.toNat) then .error 7
      else if c.toNat < 128 then .ok (n + c.toNat * 128 ^ k, i + 1) else uintF l f (k + 1) (n + c.toNat % 128 * 128 ^ k) (i + 1)
def uintR (l : List UInt8) (i : Nat) : R Nat := uintF l 10 0 0 i
def unzig (n : Nat) : Int := if n % 2 = 0 then (n / 2 : Nat) else -((n / 2 : Nat) : Int) - 1
def intR (l : List UInt8) (i : Nat) : R Int := match uintR l i with
  | .error e => .error e
  | .ok (n, j) => .ok (unzig n, j)
def textR (s : ByteArray) (most i : Nat) : R ByteArray := match uintR s.data.toList i with
  | .error e => .error e
  | .ok (n, j) => if most < n then .error 19 else if s.size < j + n then .error 8 else .ok (s.extract j (j + n), j + n)
def nextR (l : List UInt8) (i : Nat) : R Nat := match l[i]? with
  | none => .error 8
  | some c => .ok (c.toNat, i + 1)
def bitsF (l : List UInt8) : Nat → Nat → Nat → R Nat
  | 0, b, i => .ok (b, i)
  | f + 1, b, i => match l[i]? with
    | none => .error 8
    | some c => bitsF l f (256 * b + c.toNat) (i + 1)
/-- a value whose rightness is not asked yet -/
def rawR (s : ByteArray) (i : Nat) : R V := match nextR s.data.toList i with
  | .error e => .error e
  | .ok (k, j) =>
    if k = 1 then match nextR s.data.toList j with
      | .error e => .error e
      | .ok (n, m) => .ok (⟨1, n, 0, ⟨#[]⟩⟩, m)
    else if k = 2 then match intR s.data.toList j with
      | .error e => .error e
      | .ok (n, m) => .ok (⟨2, n, 0, ⟨#[]⟩⟩, m)
    else if k = 3 then match bitsF s.data.toList 8 0 j with
      | .error e => .error e
      | .ok (b, m) => .ok (⟨3, 0, b, ⟨#[]⟩⟩, m)
    else if k = 4 ∨ k = 5 then match textR s 4096 j with
      | .error e => .error e
      | .ok (t, m) => .ok (⟨k, 0, 0, t⟩, m)
    else .ok (⟨k, 0, 0, ⟨#[]⟩⟩, j)
def valueR (s : ByteArray) (i : Nat) : R V := match rawR s i with
  | .error e => .error e
  | .ok (v, j) => if v.right then .ok (v, j) else .error 7
def rowF (s : ByteArray) : Nat → Nat → R (List V)
  | 0, i => .ok ([], i)
  | f + 1, i => match valueR s i with
    | .error e => .error e
    | .ok (v, j) => match rowF s f j with
      | .error e => .error e
      | .ok (l, m) => .ok (v :: l, m)
def rowR (s : ByteArray) (i : Nat) : R (List V) := match uintR s.data.toList i with
  | .error e => .error e
  | .ok (n, j) => if 1000 < n then .error 19 else rowF s n j
/-- a read of a reader at a place, with what was wrong before: what is told, the place, what is wrong then -/
def top {α : Type} (zero : α) (f : Nat → R α) (i : Nat) (e : Int) : α × Nat × Int :=
  if e ≠ 0 then (zero, i, e) else match f i with
    | .error x => (zero, i, x)
    | .ok (v, j) => (v, j, 0)
end Cd
end Go.Proofs.Ytmcneelapghfcaa

namespace Go.Proofs.Ytmcneelapghfcaa
open Go.RowKit

theorem ret_str {a b : ByteArray} (h : a = b) : Ending.returned (.string a) = .returned (.string b) := by rw [h]
theorem one_val (x : Int) (h0 : 0 ≤ x) : Value.int .u8 (x % 256) = byteV (UInt8.ofNat x.toNat) := by
  unfold byteV
  refine int_eq ?_
  rw [UInt8.toNat_ofNat']
  omega
theorem one_any (x : Int) (h0 : 0 ≤ x) (_h1 : x ≤ 18446744073709551615) (w : World) : Calls Try.prog 74 #[.int .u64 x] w fun e w' => e = .returned (.string (bstr [UInt8.ofNat x.toNat])) ∧ Below w.heap.size w w' := by
  have hst := fun W => run_string_one (P := Try.prog) W 62 9 5 _ _ (one_val x h0) Try.underlying62 Try.underlying5 Try.underlying9
  go_enter Try.func74, Try.ntmps74
  go_wp2
  go_ret
  exact ⟨rfl, hba w _⟩

set_option maxRecDepth 100000 in
set_option maxHeartbeats 800000 in
theorem uint_any (n : Nat) (hn : n < 18446744073709551616) (w : World) : Calls Try.prog 36 #[.int .u64 (n : Int)] w fun e w' => e = .returned (.string (bstr (Cd.enc n))) ∧ Below w.heap.size w w' := by
  have hb0 := hid (Cd.u64_bound hn)
  have hn' : (n : Int) ≤ 18446744073709551615 := by omega
  clear hn
  go_enter Try.func36, Try.ntmps36
  go_wp2_with fail
  go_loopw [3, 0] (fun s c wr => ∃ (f m : Nat) (pre : List UInt8), c = .int .u64 (m : Int) ∧ s = .string (bstr pre) ∧ m ≤ n ∧ pre.length + f ≤ 9 ∧ Hid (m < 2 * 128 ^ f) ∧ Hid (pre ++ Cd.encF f m = Cd.enc n) ∧ Below w.heap.size w wr) (fun _ c _ => (intOf c).toNat)
  case atStart => exact ⟨9, n, [], rfl, rfl, Nat.le_refl _, by simp, hb0, rfl, Below.refl _ _⟩
  case round =>
    obtain ⟨f, m, pre, rfl, rfl, hmn, hpl, hm, hpe, hbel⟩ := hrel
    have hps : (bstr pre).size ≤ 9 := by rw [bstr_size]; omega
    have h0 : (0 : Int) ≤ (m : Int) := by omega
    have h1 : (m : Int) ≤ 18446744073709551615 := by omega
    obtain ⟨w4, rfl⟩ : ∃ w4 : World, w4 = wr := ⟨_, rfl⟩
    by_cases hlt : 128 ≤ m
    · obtain ⟨f', rfl, hm', he⟩ := Cd.enc_next hlt hm.out
      have HM := hid hm'
      have HE := hid he
      have hsz1 : ∀ c, (bstr [c]).size = 1 := fun _ => rfl
      have hlt' : (128 : Int) ≤ (m : Int) := by omega
      clear hm' he hm
      go_wp2_with fail
      refine (one_any _ (by omega) (by omega) _).mono ?_; rintro e w5 ⟨rfl, hb5⟩
      go_wp2_with fail
      go_roundw
      case rel => exact ⟨f', m / 128, pre ++ [UInt8.ofNat (m % 128 + 128)], int_eq (by omega), str_eq (by rw [bstr_append]), by omega, by simp; omega, HM, by show _ = _; rw [← hpe.out, HE.out, List.append_assoc]; rfl, bnext hbel hb5⟩
      case measure => simp [intOf]; omega
    · have hE := hid (Cd.encF_small f (show m < 128 by omega))
      have hlt' : ¬ (128 : Int) ≤ (m : Int) := by omega
      have hsz1 : ∀ c, (bstr [c]).size = 1 := fun _ => rfl
      clear hm
      go_wp2_with fail
      refine (one_any _ (by omega) (by omega) _).mono ?_; rintro e w5 ⟨rfl, hb5⟩
      go_wp2_with fail
      go_ret
      rw [← hpe.out, hE.out]
      exact ⟨ret_str (by first | rfl | rw [bstr_append]), bnext hbel hb5⟩

set_option maxRecDepth 100000 in
set_option maxHeartbeats 1600000 in
theorem uintR_any (f : Nat) : ∀ (m : Nat) (w : World), m < 2 * 128 ^ f → m < 18446744073709551616 → f ≤ 9 → Calls Try.prog 41 #[.int .u64 (m : Int)] w fun e w' => e = .returned (.string (bstr (Cd.encF f m))) ∧ Below w.heap.size w w' := by
  induction f with
  | zero =>
    intro m w hm hm2 hf
    have hE := hid (Cd.encF_small 0 (show m < 128 by omega))
    have hlt' : (m : Int) < 128 := by omega
    have hst := fun W => run_string_one (P := Try.prog) W 62 9 5 _ _ (one_val m (by omega)) Try.underlying62 Try.underlying5 Try.underlying9
    rw [show (m : Int) % 256 = m from by omega, Int.toNat_natCast] at hst
    clear hm hm2
    go_enter Try.func41, Try.ntmps41
    go_wp2
    go_ret
    rw [hE.out]
    exact ⟨rfl, hba w _⟩
  | succ f ih =>
    intro m w hm hm2 hf
    have h1 : (m : Int) ≤ 18446744073709551615 := by omega
    by_cases hlt : 128 ≤ m
    · obtain ⟨f', hff, hm', he⟩ := Cd.enc_next hlt hm
      obtain rfl : f = f' := by omega
      have IH := hid (fun W => ih (m / 128) W hm' (by omega) (by omega))
      have HE := hid he
      have hlen := (Cd.encF_length f (m / 128)).2
      have hlt' : ¬ (m : Int) < 128 := by omega
      clear ih hm hm2 hm' he hff
      go_enter Try.func41, Try.ntmps41
      go_wp2_with fail
      have hw1 : (m : Int).tmod 128 = ((m % 128 : Nat) : Int) := by rw [Int.tmod_eq_emod_of_nonneg (by omega)]; rfl
      have hw2 : IntKind.u64.wrap (128 + ((m % 128 : Nat) : Int)) = ((m % 128 + 128 : Nat) : Int) := by rw [IntKind.wrap_u64]; omega
      have hw3 : (m : Int).tdiv 128 = ((m / 128 : Nat) : Int) := by rw [Int.tdiv_eq_ediv_of_nonneg (by omega)]; rfl
      have hw5 : IntKind.u64.wrap ((m / 128 : Nat) : Int) = ((m / 128 : Nat) : Int) := by rw [IntKind.wrap_u64]; omega
      have hw4 : IntKind.u8.wrap ((m % 128 + 128 : Nat) : Int) = ((UInt8.ofNat (m % 128 + 128)).toNat : Int) := by rw [UInt8.toNat_ofNat', IntKind.wrap_u8]; omega
      generalize hL : Cd.encF f (m / 128) = l at IH HE hlen
      generalize UInt8.ofNat (m % 128 + 128) = c at HE hw4
      generalize m % 128 + 128 = x at hw2 hw4
      generalize m % 128 = r at hw1 hw2
      generalize m / 128 = q at hw3 hw5 IH hL
      clear hL
      have hsx : ¬ (9223372036854775807 < (bstr [c]).size + (bstr l).size) := by rw [bstr_size, bstr_size]; simp; omega
      have hsa := run_string_cell (P := Try.prog) 62 9 5 c Try.underlying62 Try.underlying5 Try.underlying9
      clear h1 hlt hlen hf
      obtain ⟨w5, hw5⟩ : ∃ w5, (w).drew = w5 := ⟨_, rfl⟩
      have hd5 : Below (w).heap.size (w) w5 := hw5 ▸ (Below.refl _ _).drew
      have mk5 : ∀ W, Below w5.heap.size w5 W → Below w5.heap.size w5 W := fun _ h => h
      refine wp_region_held_drew (S := (fun W => Below w5.heap.size w5 W)) (by kernel_rfl) (by rw [hw5]; exact mk5 _ (Below.refl _ _)) (fun hS5 => ?_)
      rw [hw5] at hS5 ⊢
      clear hw5
      refine wT 0 hS5 ?_
      refine wT 1 hS5 ?_
      refine wT 2 hS5 ?_
      refine wT 3 hS5 ?_
      refine wT 6 hS5 ?_
      refine wT 7 hS5 ?_
      refine wpAnyH_ready (rs := [4, 8]) (by kernel_rfl) (by simp) ?_
      refine wC (fun K hK => ?_) (wC (fun K hK => ?_) AllReadyH.nil)
      · go_simp
        refine hK.out _ _ (mk5 _ (hS5.alloc hS5.size _)) (fun hS6 => ?_)
        clear hK K
        (try simp only [Act.put, List.setIfInBounds_toArray, List.set_cons_zero, List.set_cons_succ])
        refine wpAnyH_more (S' := (fun W => Below w5.heap.size w5 W ∧ W.cell? ⟨w5.heap.size, 0, none⟩ = some (.int .u8 (c.toNat : Int)))) (fun _ h => h.1) _ _ _ _ ?_
        replace hS6 : (fun W => Below w5.heap.size w5 W ∧ W.cell? ⟨w5.heap.size, 0, none⟩ = some (.int .u8 (c.toNat : Int))) (World.alloc w5 (.cells #[.int .u8 (c.toNat : Int)] 5)) := ⟨hS6, by simp⟩
        generalize World.alloc w5 (.cells #[.int .u8 (c.toNat : Int)] 5) = w6 at *
        refine wT 5 hS6 ?_
        refine wpAnyH_ready (rs := [8]) (by kernel_rfl) (by simp) ?_
        refine wC (fun K hK => ?_) AllReadyH.nil
        go_simp
        refine (IH.out _).mono ?_; rintro e w7 ⟨rfl, hb7⟩
        go_wp2_with fail
        refine hK.out _ _ ⟨(hnext hS6.1 hb7), hkeep hS6.2 hb7⟩ (fun hS7 => ?_)
        clear hK K
        (try simp only [Act.put, List.setIfInBounds_toArray, List.set_cons_zero, List.set_cons_succ])
        clear hb7 hS6
        refine wT 9 hS7 ?_
        refine wT 10 hS7 ?_
        refine wpAnyH_done (by kernel_rfl) ?_ _
        go_wp2_with fail
        go_ret
        rw [HE.out]
        exact ⟨ret_str (by rw [bstr_append]; rfl), hnext hd5 hS7.1⟩
      · go_simp
        refine (IH.out _).mono ?_; rintro e w6 ⟨rfl, hb6⟩
        go_wp2_with fail
        refine hK.out _ _ (mk5 _ (hnext hS5 hb6)) (fun hS6 => ?_)
        clear hK K
        (try simp only [Act.put, List.setIfInBounds_toArray, List.set_cons_zero, List.set_cons_succ])
        clear hb6 hS5
        refine wpAnyH_ready (rs := [4]) (by kernel_rfl) (by simp) ?_
        refine wC (fun K hK => ?_) AllReadyH.nil
        go_simp
        refine hK.out _ _ (mk5 _ (hS6.alloc hS6.size _)) (fun hS7 => ?_)
        clear hK K
        (try simp only [Act.put, List.setIfInBounds_toArray, List.set_cons_zero, List.set_cons_succ])
        refine wpAnyH_more (S' := (fun W => Below w5.heap.size w5 W ∧ W.cell? ⟨w6.heap.size, 0, none⟩ = some (.int .u8 (c.toNat : Int)))) (fun _ h => h.1) _ _ _ _ ?_
        replace hS7 : (fun W => Below w5.heap.size w5 W ∧ W.cell? ⟨w6.heap.size, 0, none⟩ = some (.int .u8 (c.toNat : Int))) (World.alloc w6 (.cells #[.int .u8 (c.toNat : Int)] 5)) := ⟨hS7, by simp⟩
        generalize World.alloc w6 (.cells #[.int .u8 (c.toNat : Int)] 5) = w7 at *
        refine wT 5 hS7 ?_
        refine wT 9 hS7 ?_
        refine wT 10 hS7 ?_
        refine wpAnyH_done (by kernel_rfl) ?_ _
        go_wp2_with fail
        go_ret
        rw [HE.out]
        exact ⟨ret_str (by rw [bstr_append]; rfl), hnext hd5 hS7.1⟩
    · have hE := hid (Cd.encF_small (f + 1) (show m < 128 by omega))
      have hlt' : (m : Int) < 128 := by omega
      have hst := fun W => run_string_one (P := Try.prog) W 62 9 5 _ _ (one_val m (by omega)) Try.underlying62 Try.underlying5 Try.underlying9
      rw [show (m : Int) % 256 = m from by omega, Int.toNat_natCast] at hst
      clear hm hm2 ih
      go_enter Try.func41, Try.ntmps41
      go_wp2
      go_ret
      rw [hE.out]
      exact ⟨rfl, hba w _⟩
end Go.Proofs.Ytmcneelapghfcaa

namespace Go.Proofs.Ytmcneelapghfcaa
open Go.RowKit

theorem xor_zero_u64 (x : Nat) (hx : x < 18446744073709551616) : bits .xor .u64 (x : Int) 0 = (x : Int) := by
  show IntKind.u64.wrap ((BitVec.ofInt 64 (x : Int) ^^^ BitVec.ofInt 64 0).toNat : Int) = _
  rw [show (BitVec.ofInt 64 0) = 0#64 from rfl, BitVec.xor_zero, BitVec.toNat_ofInt, IntKind.wrap_u64]
  omega
theorem xor_ones_u64 (x : Nat) (hx : x < 18446744073709551616) : bits .xor .u64 (x : Int) 18446744073709551615 = ((18446744073709551615 - x : Nat) : Int) := by
  show IntKind.u64.wrap ((BitVec.ofInt 64 (x : Int) ^^^ BitVec.ofInt 64 18446744073709551615).toNat : Int) = _
  rw [show (BitVec.ofInt 64 18446744073709551615) = BitVec.allOnes 64 from by decide, BitVec.xor_allOnes, BitVec.toNat_not, BitVec.toNat_ofInt, IntKind.wrap_u64]
  omega
theorem zig_pos {n : Int} (h0 : 0 ≤ n) (h1 : n ≤ 9223372036854775807) : bits .xor .u64 (n * 2) (n / 9223372036854775808) = (Cd.zig n : Int) := by
  have h := xor_zero_u64 (n * 2).toNat (by omega)
  rw [show (((n * 2).toNat : Nat) : Int) = n * 2 from by omega] at h
  rw [show n / 9223372036854775808 = 0 from by omega, h]
  unfold Cd.zig
  rw [if_pos h0]
  omega
theorem zig_neg {n : Int} (h0 : n < 0) (h1 : -9223372036854775808 ≤ n) : bits .xor .u64 (IntKind.u64.wrap (IntKind.u64.wrap n * 2)) (IntKind.u64.wrap (n / 9223372036854775808)) = (Cd.zig n : Int) := by
  have h := xor_ones_u64 (2 * n + 18446744073709551616).toNat (by omega)
  rw [IntKind.wrap_u64, IntKind.wrap_u64, IntKind.wrap_u64]
  rw [show n / 9223372036854775808 % 18446744073709551616 = 18446744073709551615 from by omega, show n % 18446744073709551616 * 2 % 18446744073709551616 = (((2 * n + 18446744073709551616).toNat : Nat) : Int) from by omega, h]
  unfold Cd.zig
  rw [if_neg (by omega)]
  omega
theorem zig_lt {n : Int} (h0 : -9223372036854775808 ≤ n) (h1 : n ≤ 9223372036854775807) : Cd.zig n < 18446744073709551616 := by
  unfold Cd.zig; split <;> omega

set_option maxRecDepth 100000 in
theorem int_any (n : Int) (h0 : -9223372036854775808 ≤ n) (h1 : n ≤ 9223372036854775807) (w : World) : Calls Try.prog 38 #[.int .i64 n] w fun e w' => e = .returned (.string (bstr (Cd.enc (Cd.zig n)))) ∧ Below w.heap.size w w' := by
  have hz := zig_lt h0 h1
  by_cases hn : 0 ≤ n
  · have hx := zig_pos hn h1
    go_enter Try.func38, Try.ntmps38
    go_wp2_with fail
    refine (uint_any _ hz _).mono ?_; rintro e w1 ⟨rfl, hb1⟩
    go_wp2_with fail
    go_ret
    exact ⟨rfl, hb1⟩
  · have hn' : n < 0 := by omega
    have hx := zig_neg hn' h0
    go_enter Try.func38, Try.ntmps38
    go_wp2_with fail
    refine (uint_any _ hz _).mono ?_; rintro e w1 ⟨rfl, hb1⟩
    go_wp2_with fail
    go_ret
    exact ⟨rfl, hb1⟩
theorem zig_any (n : Int) (h0 : -9223372036854775808 ≤ n) (h1 : n ≤ 9223372036854775807) (w : World) : Calls Try.prog 78 #[.int .i64 n] w fun e w' => e = .returned (.int .u64 (Cd.zig n : Int)) ∧ w = w' := by
  by_cases hn : 0 ≤ n
  · go_enter Try.func78, Try.ntmps78
    go_wp2
    go_ret
    refine ⟨ret_eq ?_, rfl⟩
    unfold Cd.zig; rw [if_pos hn]; omega
  · have hn' : n < 0 := by omega
    go_enter Try.func78, Try.ntmps78
    go_wp2
    go_ret
    refine ⟨ret_eq ?_, rfl⟩
    unfold Cd.zig; rw [if_neg (by omega)]; omega
theorem uintR_exact (n : Nat) (hn : n < 18446744073709551616) (w : World) : Calls Try.prog 41 #[.int .u64 (n : Int)] w fun e w' => e = .returned (.string (bstr (Cd.enc n))) ∧ Below w.heap.size w w' :=
  uintR_any 9 n w (Cd.u64_bound hn) hn (Nat.le_refl _)
set_option maxRecDepth 100000 in
theorem intR_any (n : Int) (h0 : -9223372036854775808 ≤ n) (h1 : n ≤ 9223372036854775807) (w : World) : Calls Try.prog 43 #[.int .i64 n] w fun e w' => e = .returned (.string (bstr (Cd.enc (Cd.zig n)))) ∧ Below w.heap.size w w' := by
  have hz := zig_lt h0 h1
  go_enter Try.func43, Try.ntmps43
  go_wp2_with fail
  refine (zig_any n h0 h1 _).mono ?_; rintro e w1 ⟨rfl, rfl⟩
  go_wp2_with fail
  refine (uintR_exact _ hz _).mono ?_; rintro e w1 ⟨rfl, hb1⟩
  go_wp2_with fail
  go_ret
  exact ⟨rfl, hb1⟩
theorem text_bstr (s : ByteArray) : bstr (Cd.enc s.size) ++ s = bstr (Cd.text s) := by
  unfold Cd.text; rw [← bstr_append, bstr_of]
set_option maxRecDepth 100000 in
theorem text_any (s : ByteArray) (hs : s.size ≤ 1000000000) (w : World) : Calls Try.prog 37 #[.string s] w fun e w' => e = .returned (.string (bstr (Cd.text s))) ∧ Below w.heap.size w w' := by
  have hl : (bstr (Cd.enc s.size)).size ≤ 10 := (Cd.enc_length s.size).2
  go_enter Try.func37, Try.ntmps37
  go_wp2_with fail
  refine (uint_any s.size (by omega) _).mono ?_; rintro e w1 ⟨rfl, hb1⟩
  go_wp2_with fail
  go_ret
  exact ⟨ret_str (text_bstr s), hb1⟩
set_option maxRecDepth 100000 in
theorem textR_any (s : ByteArray) (hs : s.size ≤ 1000000000) (w : World) : Calls Try.prog 42 #[.string s] w fun e w' => e = .returned (.string (bstr (Cd.text s))) ∧ Below w.heap.size w w' := by
  have hl : (bstr (Cd.enc s.size)).size ≤ 10 := (Cd.enc_length s.size).2
  go_enter Try.func42, Try.ntmps42
  go_wp2_with fail
  refine (uintR_exact s.size (by omega) _).mono ?_; rintro e w1 ⟨rfl, hb1⟩
  go_wp2_with fail
  go_ret
  exact ⟨ret_str (text_bstr s), hb1⟩
end Go.Proofs.Ytmcneelapghfcaa

namespace Go.Proofs.Ytmcneelapghfcaa
namespace Cd

theorem zig_unzig (n : Int) : unzig (zig n) = n := by unfold zig unzig; split <;> split <;> omega
theorem unzig_zig (n : Nat) : zig (unzig n) = n := by unfold zig unzig; split <;> split <;> omega

theorem get_drop {l r : List UInt8} {c : UInt8} {i : Nat} (h : l.drop i = c :: r) : l[i]? = some c ∧ l.drop (i + 1) = r := by
  constructor
  · have := congrArg List.head? h
    rwa [List.head?_drop] at this
  · rw [← List.drop_drop, h]; rfl
theorem pow_part (acc m p : Nat) : acc + m % 128 * p + m / 128 * (p * 128) = acc + m * p := by
  have e : m = m / 128 * 128 + m % 128 := by omega
  calc acc + m % 128 * p + m / 128 * (p * 128) = acc + (m / 128 * 128 + m % 128) * p := by rw [Nat.add_mul, Nat.mul_assoc, Nat.mul_comm p 128]; omega
    _ = acc + m * p := by rw [← e]
theorem uintF_enc (l t : List UInt8) (f : Nat) : ∀ k acc i m, f + k = 9 → m < 2 * 128 ^ f → (k = 0 ∨ 0 < m) → l.drop i = encF f m ++ t → uintF l (f + 1) k acc i = .ok (acc + m * 128 ^ k, i + (encF f m).length) ∧ l.drop (i + (encF f m).length) = t := by
  induction f with
  | zero =>
    intro k acc i m hk hm hp hd
    obtain ⟨h1, h2⟩ := get_drop hd
    have hm2 : m < 2 := by simpa using hm
    have hc : (UInt8.ofNat m).toNat = m := by rw [UInt8.toNat_ofNat']; omega
    refine ⟨?_, h2⟩
    unfold uintF
    rw [h1]
    simp only [hc]
    rw [if_neg (by omega), if_pos (by omega)]
    rfl
  | succ f ih =>
    intro k acc i m hk hm hp hd
    by_cases h128 : m < 128
    · rw [encF_small _ h128] at hd ⊢
      obtain ⟨h1, h2⟩ := get_drop hd
      have hc : (UInt8.ofNat m).toNat = m := by rw [UInt8.toNat_ofNat']; omega
      refine ⟨?_, h2⟩
      unfold uintF
      rw [h1]
      simp only [hc]
      rw [if_neg (by omega), if_pos h128]
      rfl
    · obtain ⟨f', hf, hlt, he⟩ := enc_next (by omega) hm
      obtain rfl : f = f' := by omega
      rw [he] at hd ⊢
      obtain ⟨h1, h2⟩ := get_drop hd
      have hc : (UInt8.ofNat (m % 128 + 128)).toNat = m % 128 + 128 := by rw [UInt8.toNat_ofNat']; omega
      obtain ⟨g1, g2⟩ := ih (k + 1) (acc + m % 128 * 128 ^ k) (i + 1) (m / 128) (by omega) hlt (.inr (by omega)) h2
      have hlen : i + (UInt8.ofNat (m % 128 + 128) :: encF f (m / 128)).length = i + 1 + (encF f (m / 128)).length := by rw [List.length_cons]; omega
      rw [hlen]
      refine ⟨?_, g2⟩
      unfold uintF
      rw [h1]
      simp only [hc]
      rw [if_neg (by omega), if_neg (by omega), show (m % 128 + 128) % 128 = m % 128 from by omega, g1, Nat.pow_succ, pow_part]
theorem uint_back {l t : List UInt8} {i n : Nat} (hn : n < 18446744073709551616) (h : l.drop i = enc n ++ t) : uintR l i = .ok (n, i + (enc n).length) ∧ l.drop (i + (enc n).length) = t := by
  have := uintF_enc l t 9 0 0 i n rfl (u64_bound hn) (.inl rfl) h
  simpa [uintR, enc] using this
theorem int_back {l t : List UInt8} {i : Nat} {n : Int} (h0 : -9223372036854775808 ≤ n) (h1 : n ≤ 9223372036854775807) (h : l.drop i = enc (zig n) ++ t) : intR l i = .ok (n, i + (enc (zig n)).length) ∧ l.drop (i + (enc (zig n)).length) = t := by
  obtain ⟨a, b⟩ := uint_back (zig_lt h0 h1) h
  refine ⟨?_, b⟩
  unfold intR
  rw [a]
  simp only [zig_unzig]
end Cd
end Go.Proofs.Ytmcneelapghfcaa

namespace Go.Proofs.Ytmcneelapghfcaa
open Go.RowKit

theorem low_ref (k b : Nat) : Cd.low (k + 1) b = UInt8.ofNat (b / 256 ^ k) :: Cd.low k b := rfl
theorem pow_next (b k : Nat) : b / 256 ^ k / 256 = b / 256 ^ (k + 1) := by rw [Nat.pow_succ, Nat.div_div_eq_div_mul]
theorem byte_val (x : Nat) : Value.int .u8 ((x : Int) % 256) = byteV (UInt8.ofNat x) := by
  unfold byteV
  refine int_eq ?_
  rw [UInt8.toNat_ofNat']
  omega
theorem one_size (c : UInt8) : (bstr [c]).size = 1 := rfl
theorem low_size (k b : Nat) : (bstr (Cd.low k b)).size = k := by rw [bstr_size, Cd.low_length]

set_option maxRecDepth 100000 in
set_option maxHeartbeats 800000 in
theorem eightR_any (b : Nat) (hb : b < 18446744073709551616) (w : World) : Calls Try.prog 103 #[.int .u64 (b : Int)] w fun e w' => e = .returned (.string (bstr (Cd.eight b))) ∧ Below w.heap.size w w' := by
  have hb' : (b : Int) ≤ 18446744073709551615 := by omega
  clear hb
  go_enter Try.func103, Try.ntmps103
  go_wp2_with fail
  go_loopw [3, 4, 0] (fun s i c wr => ∃ (k x : Nat), k ≤ 8 ∧ i = .int .i64 (k : Int) ∧ c = .int .u64 (x : Int) ∧ Hid (x = b / 256 ^ k) ∧ x ≤ b ∧ s = .string (bstr (Cd.low k b)) ∧ Below w.heap.size w wr) (fun _ i _ _ => 8 - (intOf i).toNat)
  case atStart => exact ⟨0, b, by omega, rfl, rfl, by show _ = _; simp, Nat.le_refl _, rfl, Below.refl _ _⟩
  case round =>
    obtain ⟨k, x, hk, rfl, rfl, hx, hxb, rfl, hbel⟩ := hrel
    have h0 : (0 : Int) ≤ (x : Int) := by omega
    have h1 : (x : Int) ≤ 18446744073709551615 := by omega
    by_cases hlt : k < 8
    · have hst := fun W => run_string_one (P := Try.prog) W 62 9 5 _ _ (byte_val x) Try.underlying62 Try.underlying5 Try.underlying9
      have HL := hid (low_ref k b)
      have HP := hid (pow_next b k)
      have hz1 := one_size (UInt8.ofNat x)
      have hz2 := low_size k b
      have HX := hx
      generalize Cd.low k b = l at hz2 HL ⊢
      clear hx
      go_wp2_with fail
      go_roundw
      case rel => exact ⟨k + 1, x / 256, by omega, by go_num, int_eq (by omega), by show _ = _; rw [HX.out, HP.out], by omega, str_eq (by rw [HL.out, ← HX.out]; first | rfl | rw [bstr_append]; rfl), hbel.alloc hbel.size _⟩
      case measure => simp [intOf]; omega
    · obtain rfl : k = 8 := by omega
      clear hx
      go_wp2_with fail
      go_ret
      exact ⟨rfl, hbel⟩

theorem value_shape (k n : Int) (b : Nat) (s : ByteArray) : (Va.right k n b s = false ∧ Cd.value k n b s = []) ∨ (Va.right k n b s = true ∧
    ((k = 0 ∧ Cd.value k n b s = [0]) ∨ (k = 1 ∧ 0 ≤ n ∧ n ≤ 1 ∧ Cd.value k n b s = [1, UInt8.ofNat n.toNat]) ∨ (k = 2 ∧ Cd.value k n b s = 2 :: Cd.enc (Cd.zig n)) ∨ (k = 3 ∧ Cd.value k n b s = 3 :: Cd.eight b) ∨
     (k = 4 ∧ s.size ≤ 4096 ∧ Cd.value k n b s = 4 :: Cd.text s) ∨ (k = 5 ∧ s.size ≤ 4096 ∧ Cd.value k n b s = 5 :: Cd.text s))) := by
  cases hr : Va.right k n b s
  · exact .inl ⟨rfl, by unfold Cd.value; rw [hr]; rfl⟩
  · refine .inr ⟨rfl, ?_⟩
    unfold Cd.value
    rw [hr]
    unfold Va.right at hr
    by_cases h0 : k = 0
    · subst h0; exact .inl ⟨rfl, rfl⟩
    by_cases h1 : k = 1
    · subst h1
      simp at hr
      exact .inr (.inl ⟨rfl, by omega, by omega, rfl⟩)
    by_cases h2 : k = 2
    · subst h2; exact .inr (.inr (.inl ⟨rfl, rfl⟩))
    by_cases h3 : k = 3
    · subst h3; exact .inr (.inr (.inr (.inl ⟨rfl, rfl⟩)))
    by_cases h4 : k = 4
    · subst h4
      simp at hr
      exact .inr (.inr (.inr (.inr (.inl ⟨rfl, by omega, rfl⟩))))
    by_cases h5 : k = 5
    · subst h5
      simp at hr
      exact .inr (.inr (.inr (.inr (.inr ⟨rfl, by omega, rfl⟩))))
    · simp [h0, h1, h2, h3, h4, h5] at hr

set_option maxRecDepth 100000 in
set_option maxHeartbeats 3200000 in
theorem value_any (k n : Int) (b : Nat) (s : ByteArray) (hs : s.size ≤ maxLen) (h0 : -9223372036854775808 ≤ n) (h1 : n ≤ 9223372036854775807) (hb : b < 18446744073709551616) (w : World) :
    Calls Try.prog 73 #[vv k n b s] w fun e w' => e = .returned (.string (bstr (Cd.value k n b s))) ∧ Below w.heap.size w w' := by
  have hr := fun w => right_any k n b s hs w
  have hz1 := one_size
  rcases value_shape k n b s with ⟨hrr, hv⟩ | ⟨hrr, hc⟩
  · have hR := hid hr
    rw [hrr] at hR
    have HV := hid hv
    clear hr hrr hv
    unfold vv at hR ⊢
    go_enter Try.func73, Try.ntmps73
    go_wp2_with fail
    have vb := VBox.new w k n b s
    have hB := hba w (.cells #[.int .i64 k, .int .i64 n, .int .u64 (b : Int), .string s] 36)
    obtain ⟨c0, c1, c2, c3⟩ := id vb
    go_wp2_with fail
    clear c0 c1 c2 c3
    refine (hR.out _).mono ?_; rintro e w1 ⟨rfl, hb1⟩
    replace vb := vb.keep hb1
    replace hB := hnext hB hb1
    clear hb1
    obtain ⟨c0, c1, c2, c3⟩ := id vb
    go_wp2_with fail
    go_ret
    exact ⟨ret_str (by rw [HV.out]; rfl), hB⟩
  · have hR := hid hr
    rw [hrr] at hR
    clear hr hrr
    unfold vv at hR ⊢
    rcases hc with ⟨rfl, hv⟩ | ⟨rfl, hn0, hn1, hv⟩ | ⟨rfl, hv⟩ | ⟨rfl, hv⟩ | ⟨rfl, hs4, hv⟩ | ⟨rfl, hs4, hv⟩
    · have HV := hid hv
      clear hv
      go_enter Try.func73, Try.ntmps73
      go_wp2_with fail
      have vb := VBox.new w 0 n b s
      have hB := hba w (.cells #[.int .i64 0, .int .i64 n, .int .u64 (b : Int), .string s] 36)
      obtain ⟨c0, c1, c2, c3⟩ := id vb
      go_wp2_with fail
      clear c0 c1 c2 c3
      refine (hR.out _).mono ?_; rintro e w1 ⟨rfl, hb1⟩
      replace vb := vb.keep hb1
      replace hB := hnext hB hb1
      clear hb1
      obtain ⟨c0, c1, c2, c3⟩ := id vb
      go_wp2_with fail
      clear c0 c1 c2 c3
      refine (one_any 0 (by omega) (by omega) _).mono ?_; rintro e w2 ⟨rfl, hb2⟩
      replace vb := vb.keep hb2
      replace hB := hnext hB hb2
      clear hb2
      obtain ⟨c0, c1, c2, c3⟩ := id vb
      go_wp2_with fail
      go_ret
      exact ⟨ret_str (by first | (rw [HV.out]; done) | (rw [HV.out]; first | rfl | rw [bstr_append] | (rw [bstr_append]; rfl))), hB⟩
    · have HV := hid hv
      clear hv
      go_enter Try.func73, Try.ntmps73
      go_wp2_with fail
      have vb := VBox.new w 1 n b s
      have hB := hba w (.cells #[.int .i64 1, .int .i64 n, .int .u64 (b : Int), .string s] 36)
      obtain ⟨c0, c1, c2, c3⟩ := id vb
      go_wp2_with fail
      clear c0 c1 c2 c3
      refine (hR.out _).mono ?_; rintro e w1 ⟨rfl, hb1⟩
      replace vb := vb.keep hb1
      replace hB := hnext hB hb1
      clear hb1
      obtain ⟨c0, c1, c2, c3⟩ := id vb
      go_wp2_with fail
      clear c0 c1 c2 c3
      refine (one_any 1 (by omega) (by omega) _).mono ?_; rintro e w2 ⟨rfl, hb2⟩
      replace vb := vb.keep hb2
      replace hB := hnext hB hb2
      clear hb2
      obtain ⟨c0, c1, c2, c3⟩ := id vb
      go_wp2_with fail
      clear c0 c1 c2 c3
      refine (one_any n (by omega) (by omega) _).mono ?_; rintro e w3 ⟨rfl, hb3⟩
      replace vb := vb.keep hb3
      replace hB := hnext hB hb3
      clear hb3
      obtain ⟨c0, c1, c2, c3⟩ := id vb
      go_wp2_with fail
      go_ret
      exact ⟨ret_str (by first | (rw [HV.out]; done) | (rw [HV.out]; first | rfl | rw [bstr_append] | (rw [bstr_append]; rfl))), hB⟩
    · have HV := hid hv
      clear hv
      have hl : (bstr (Cd.enc (Cd.zig n))).size ≤ 10 := (Cd.enc_length _).2
      go_enter Try.func73, Try.ntmps73
      go_wp2_with fail
      have vb := VBox.new w 2 n b s
      have hB := hba w (.cells #[.int .i64 2, .int .i64 n, .int .u64 (b : Int), .string s] 36)
      obtain ⟨c0, c1, c2, c3⟩ := id vb
      go_wp2_with fail
      clear c0 c1 c2 c3
      refine (hR.out _).mono ?_; rintro e w1 ⟨rfl, hb1⟩
      replace vb := vb.keep hb1
      replace hB := hnext hB hb1
      clear hb1
      obtain ⟨c0, c1, c2, c3⟩ := id vb
      go_wp2_with fail
      clear c0 c1 c2 c3
      refine (one_any 2 (by omega) (by omega) _).mono ?_; rintro e w2 ⟨rfl, hb2⟩
      replace vb := vb.keep hb2
      replace hB := hnext hB hb2
      clear hb2
      obtain ⟨c0, c1, c2, c3⟩ := id vb
      go_wp2_with fail
      clear c0 c1 c2 c3
      refine (int_any n h0 h1 _).mono ?_; rintro e w3 ⟨rfl, hb3⟩
      replace vb := vb.keep hb3
      replace hB := hnext hB hb3
      clear hb3
      obtain ⟨c0, c1, c2, c3⟩ := id vb
      go_wp2_with fail
      go_ret
      exact ⟨ret_str (by first | (rw [HV.out]; done) | (rw [HV.out]; first | rfl | rw [bstr_append] | (rw [bstr_append]; rfl))), hB⟩
    · have HV := hid hv
      clear hv
      go_enter Try.func73, Try.ntmps73
      go_wp2_with fail
      have vb := VBox.new w 3 n b s
      have hB := hba w (.cells #[.int .i64 3, .int .i64 n, .int .u64 (b : Int), .string s] 36)
      obtain ⟨c0, c1, c2, c3⟩ := id vb
      go_wp2_with fail
      clear c0 c1 c2 c3
      refine (hR.out _).mono ?_; rintro e w1 ⟨rfl, hb1⟩
      replace vb := vb.keep hb1
      replace hB := hnext hB hb1
      clear hb1
      obtain ⟨c0, c1, c2, c3⟩ := id vb
      go_wp2_with fail
      clear c0 c1 c2 c3
      refine (one_any 3 (by omega) (by omega) _).mono ?_; rintro e w2 ⟨rfl, hb2⟩
      replace vb := vb.keep hb2
      replace hB := hnext hB hb2
      clear hb2
      obtain ⟨c0, c1, c2, c3⟩ := id vb
      go_wp2_with fail
      clear c0 c1 c2 c3
      go_loopw [3, 4] (fun s i wr => ∃ (j : Nat) (pre : List UInt8), j ≤ 8 ∧ i = .int .i64 ((j : Int) - 1) ∧ s = .string (bstr pre) ∧ pre.length + j = 9 ∧ Hid (pre ++ Cd.low j b = 3 :: Cd.eight b) ∧ Below w2.heap.size w2 wr) (fun _ i _ => (intOf i + 1).toNat)
      case atStart => exact ⟨8, [3], by omega, by go_num, rfl, rfl, rfl, Below.refl _ _⟩
      case round =>
        obtain ⟨j, pre, hj, rfl, rfl, hpl, hpe, hbel⟩ := hrel
        obtain ⟨w4, rfl⟩ : ∃ w4 : World, w4 = wr := ⟨_, rfl⟩
        have hps : (bstr pre).size ≤ 9 := by rw [bstr_size]; omega
        have vb4 := vb.keep hbel
        obtain ⟨c0, c1, c2, c3⟩ := vb4
        have hb0 : (0 : Int) ≤ (b : Int) := by omega
        have hb1 : (b : Int) ≤ 18446744073709551615 := by omega
        rcases (show j = 0 ∨ j = 1 ∨ j = 2 ∨ j = 3 ∨ j = 4 ∨ j = 5 ∨ j = 6 ∨ j = 7 ∨ j = 8 by omega) with rfl | rfl | rfl | rfl | rfl | rfl | rfl | rfl | rfl
        · have hE : Hid (pre = 3 :: Cd.eight b) := by have := hpe.out; rwa [show Cd.low 0 b = [] from rfl, List.append_nil] at this
          clear hpe
          rw [show ((0 : Nat) : Int) - 1 = -1 from rfl]
          go_wp2_with fail
          go_ret
          exact ⟨ret_str (by rw [HV.out, hE.out]), hnext hB hbel⟩
        · rw [show ((1 : Nat) : Int) - 1 = 0 from rfl]
          go_wp2_with fail
          clear c0 c1 c2 c3
          refine (one_any _ (by omega) (by omega) _).mono ?_; rintro e w5 ⟨rfl, hb5⟩
          go_wp2_with fail
          go_roundw
          case rel => exact ⟨0, pre ++ [UInt8.ofNat (b / 256 ^ 0)], by omega, by go_num, str_eq (by first | rfl | (rw [bstr_append]; rfl) | rw [Nat.pow_zero, Nat.div_one, bstr_append]), by simp; omega, by show _ = _; rw [← hpe.out, List.append_assoc]; rfl, hnext hbel hb5⟩
          case measure => simp [intOf]
        · rw [show ((2 : Nat) : Int) - 1 = 1 from rfl]
          go_wp2_with fail
          clear c0 c1 c2 c3
          refine (one_any _ (by omega) (by omega) _).mono ?_; rintro e w5 ⟨rfl, hb5⟩
          go_wp2_with fail
          go_roundw
          case rel => exact ⟨1, pre ++ [UInt8.ofNat (b / 256 ^ 1)], by omega, by go_num, str_eq (by first | rfl | (rw [bstr_append]; rfl) | rw [Nat.pow_zero, Nat.div_one, bstr_append]), by simp; omega, by show _ = _; rw [← hpe.out, List.append_assoc]; rfl, hnext hbel hb5⟩
          case measure => simp [intOf]
        · rw [show ((3 : Nat) : Int) - 1 = 2 from rfl]
          go_wp2_with fail
          clear c0 c1 c2 c3
          refine (one_any _ (by omega) (by omega) _).mono ?_; rintro e w5 ⟨rfl, hb5⟩
          go_wp2_with fail
          go_roundw
          case rel => exact ⟨2, pre ++ [UInt8.ofNat (b / 256 ^ 2)], by omega, by go_num, str_eq (by first | rfl | (rw [bstr_append]; rfl) | rw [Nat.pow_zero, Nat.div_one, bstr_append]), by simp; omega, by show _ = _; rw [← hpe.out, List.append_assoc]; rfl, hnext hbel hb5⟩
          case measure => simp [intOf]
        · rw [show ((4 : Nat) : Int) - 1 = 3 from rfl]
          go_wp2_with fail
          clear c0 c1 c2 c3
          refine (one_any _ (by omega) (by omega) _).mono ?_; rintro e w5 ⟨rfl, hb5⟩
          go_wp2_with fail
          go_roundw
          case rel => exact ⟨3, pre ++ [UInt8.ofNat (b / 256 ^ 3)], by omega, by go_num, str_eq (by first | rfl | (rw [bstr_append]; rfl) | rw [Nat.pow_zero, Nat.div_one, bstr_append]), by simp; omega, by show _ = _; rw [← hpe.out, List.append_assoc]; rfl, hnext hbel hb5⟩
          case measure => simp [intOf]
        · rw [show ((5 : Nat) : Int) - 1 = 4 from rfl]
          go_wp2_with fail
          clear c0 c1 c2 c3
          refine (one_any _ (by omega) (by omega) _).mono ?_; rintro e w5 ⟨rfl, hb5⟩
          go_wp2_with fail
          go_roundw
          case rel => exact ⟨4, pre ++ [UInt8.ofNat (b / 256 ^ 4)], by omega, by go_num, str_eq (by first | rfl | (rw [bstr_append]; rfl) | rw [Nat.pow_zero, Nat.div_one, bstr_append]), by simp; omega, by show _ = _; rw [← hpe.out, List.append_assoc]; rfl, hnext hbel hb5⟩
          case measure => simp [intOf]
        · rw [show ((6 : Nat) : Int) - 1 = 5 from rfl]
          go_wp2_with fail
          clear c0 c1 c2 c3
          refine (one_any _ (by omega) (by omega) _).mono ?_; rintro e w5 ⟨rfl, hb5⟩
          go_wp2_with fail
          go_roundw
          case rel => exact ⟨5, pre ++ [UInt8.ofNat (b / 256 ^ 5)], by omega, by go_num, str_eq (by first | rfl | (rw [bstr_append]; rfl) | rw [Nat.pow_zero, Nat.div_one, bstr_append]), by simp; omega, by show _ = _; rw [← hpe.out, List.append_assoc]; rfl, hnext hbel hb5⟩
          case measure => simp [intOf]
        · rw [show ((7 : Nat) : Int) - 1 = 6 from rfl]
          go_wp2_with fail
          clear c0 c1 c2 c3
          refine (one_any _ (by omega) (by omega) _).mono ?_; rintro e w5 ⟨rfl, hb5⟩
          go_wp2_with fail
          go_roundw
          case rel => exact ⟨6, pre ++ [UInt8.ofNat (b / 256 ^ 6)], by omega, by go_num, str_eq (by first | rfl | (rw [bstr_append]; rfl) | rw [Nat.pow_zero, Nat.div_one, bstr_append]), by simp; omega, by show _ = _; rw [← hpe.out, List.append_assoc]; rfl, hnext hbel hb5⟩
          case measure => simp [intOf]
        · rw [show ((8 : Nat) : Int) - 1 = 7 from rfl]
          go_wp2_with fail
          clear c0 c1 c2 c3
          refine (one_any _ (by omega) (by omega) _).mono ?_; rintro e w5 ⟨rfl, hb5⟩
          go_wp2_with fail
          go_roundw
          case rel => exact ⟨7, pre ++ [UInt8.ofNat (b / 256 ^ 7)], by omega, by go_num, str_eq (by first | rfl | (rw [bstr_append]; rfl) | rw [Nat.pow_zero, Nat.div_one, bstr_append]), by simp; omega, by show _ = _; rw [← hpe.out, List.append_assoc]; rfl, hnext hbel hb5⟩
          case measure => simp [intOf]
    · have HV := hid hv
      clear hv
      have hl : (bstr (Cd.text s)).size ≤ 5000 := by rw [bstr_size]; unfold Cd.text; have := (Cd.enc_length s.size).2; simp; omega
      go_enter Try.func73, Try.ntmps73
      go_wp2_with fail
      have vb := VBox.new w 4 n b s
      have hB := hba w (.cells #[.int .i64 4, .int .i64 n, .int .u64 (b : Int), .string s] 36)
      obtain ⟨c0, c1, c2, c3⟩ := id vb
      go_wp2_with fail
      clear c0 c1 c2 c3
      refine (hR.out _).mono ?_; rintro e w1 ⟨rfl, hb1⟩
      replace vb := vb.keep hb1
      replace hB := hnext hB hb1
      clear hb1
      obtain ⟨c0, c1, c2, c3⟩ := id vb
      go_wp2_with fail
      clear c0 c1 c2 c3
      refine (one_any 4 (by omega) (by omega) _).mono ?_; rintro e w2 ⟨rfl, hb2⟩
      replace vb := vb.keep hb2
      replace hB := hnext hB hb2
      clear hb2
      obtain ⟨c0, c1, c2, c3⟩ := id vb
      go_wp2_with fail
      clear c0 c1 c2 c3
      refine (text_any s (by omega) _).mono ?_; rintro e w3 ⟨rfl, hb3⟩
      replace vb := vb.keep hb3
      replace hB := hnext hB hb3
      clear hb3
      obtain ⟨c0, c1, c2, c3⟩ := id vb
      go_wp2_with fail
      go_ret
      exact ⟨ret_str (by first | (rw [HV.out]; done) | (rw [HV.out]; first | rfl | rw [bstr_append] | (rw [bstr_append]; rfl))), hB⟩
    · have HV := hid hv
      clear hv
      have hl : (bstr (Cd.text s)).size ≤ 5000 := by rw [bstr_size]; unfold Cd.text; have := (Cd.enc_length s.size).2; simp; omega
      go_enter Try.func73, Try.ntmps73
      go_wp2_with fail
      have vb := VBox.new w 5 n b s
      have hB := hba w (.cells #[.int .i64 5, .int .i64 n, .int .u64 (b : Int), .string s] 36)
      obtain ⟨c0, c1, c2, c3⟩ := id vb
      go_wp2_with fail
      clear c0 c1 c2 c3
      refine (hR.out _).mono ?_; rintro e w1 ⟨rfl, hb1⟩
      replace vb := vb.keep hb1
      replace hB := hnext hB hb1
      clear hb1
      obtain ⟨c0, c1, c2, c3⟩ := id vb
      go_wp2_with fail
      clear c0 c1 c2 c3
      refine (one_any 5 (by omega) (by omega) _).mono ?_; rintro e w2 ⟨rfl, hb2⟩
      replace vb := vb.keep hb2
      replace hB := hnext hB hb2
      clear hb2
      obtain ⟨c0, c1, c2, c3⟩ := id vb
      go_wp2_with fail
      clear c0 c1 c2 c3
      refine (text_any s (by omega) _).mono ?_; rintro e w3 ⟨rfl, hb3⟩
      replace vb := vb.keep hb3
      replace hB := hnext hB hb3
      clear hb3
      obtain ⟨c0, c1, c2, c3⟩ := id vb
      go_wp2_with fail
      go_ret
      exact ⟨ret_str (by first | (rw [HV.out]; done) | (rw [HV.out]; first | rfl | rw [bstr_append] | (rw [bstr_append]; rfl))), hB⟩

set_option maxRecDepth 100000 in
set_option maxHeartbeats 3200000 in
theorem valueR_any (k n : Int) (b : Nat) (s : ByteArray) (hs : s.size ≤ maxLen) (h0 : -9223372036854775808 ≤ n) (h1 : n ≤ 9223372036854775807) (hb : b < 18446744073709551616) (w : World) :
    Calls Try.prog 77 #[vv k n b s] w fun e w' => e = .returned (.string (bstr (Cd.value k n b s))) ∧ Below w.heap.size w w' := by
  have hr := fun w => rightR_any k n b s hs hb w
  have hz1 := one_size
  rcases value_shape k n b s with ⟨hrr, hv⟩ | ⟨hrr, hc⟩
  · have hR := hid hr
    rw [hrr] at hR
    have HV := hid hv
    clear hr hrr hv
    unfold vv at hR ⊢
    go_enter Try.func77, Try.ntmps77
    go_wp2_with fail
    have vb := VBox.new w k n b s
    have hB := hba w (.cells #[.int .i64 k, .int .i64 n, .int .u64 (b : Int), .string s] 36)
    obtain ⟨c0, c1, c2, c3⟩ := id vb
    go_wp2_with fail
    clear c0 c1 c2 c3
    refine (hR.out _).mono ?_; rintro e w1 ⟨rfl, hb1⟩
    replace vb := vb.keep hb1
    replace hB := hnext hB hb1
    clear hb1
    obtain ⟨c0, c1, c2, c3⟩ := id vb
    go_wp2_with fail
    go_ret
    exact ⟨ret_str (by rw [HV.out]; rfl), hB⟩
  · have hR := hid hr
    rw [hrr] at hR
    clear hr hrr
    unfold vv at hR ⊢
    rcases hc with ⟨rfl, hv⟩ | ⟨rfl, hn0, hn1, hv⟩ | ⟨rfl, hv⟩ | ⟨rfl, hv⟩ | ⟨rfl, hs4, hv⟩ | ⟨rfl, hs4, hv⟩
    · have HV := hid hv
      clear hv
      go_enter Try.func77, Try.ntmps77
      go_wp2_with fail
      have vb := VBox.new w 0 n b s
      have hB := hba w (.cells #[.int .i64 0, .int .i64 n, .int .u64 (b : Int), .string s] 36)
      obtain ⟨c0, c1, c2, c3⟩ := id vb
      go_wp2_with fail
      clear c0 c1 c2 c3
      refine (hR.out _).mono ?_; rintro e w1 ⟨rfl, hb1⟩
      replace vb := vb.keep hb1
      replace hB := hnext hB hb1
      clear hb1
      have hlt1 : w.heap.size < w1.heap.size := World.block_lt_of_cell? w1 _ vb.1
      have hne1 : w.heap.size ≠ w1.heap.size := Nat.ne_of_lt hlt1
      have hst := fun W => run_string_one (P := Try.prog) W 62 9 5 (.int .u8 0) 0 rfl Try.underlying62 Try.underlying5 Try.underlying9
      obtain ⟨c0, c1, c2, c3⟩ := id vb
      go_wp2_with fail
      go_ret
      exact ⟨ret_str (by first | (rw [HV.out]; done) | (rw [HV.out]; first | rfl | rw [bstr_append] | (rw [bstr_append]; rfl))), by first | exact hB | exact hnext hB (hba _ _) | exact hnext (hnext hB (hba _ _)) (hba _ _)⟩
    · have HV := hid hv
      clear hv
      go_enter Try.func77, Try.ntmps77
      go_wp2_with fail
      have vb := VBox.new w 1 n b s
      have hB := hba w (.cells #[.int .i64 1, .int .i64 n, .int .u64 (b : Int), .string s] 36)
      obtain ⟨c0, c1, c2, c3⟩ := id vb
      go_wp2_with fail
      clear c0 c1 c2 c3
      refine (hR.out _).mono ?_; rintro e w1 ⟨rfl, hb1⟩
      replace vb := vb.keep hb1
      replace hB := hnext hB hb1
      clear hb1
      have hlt1 : w.heap.size < w1.heap.size := World.block_lt_of_cell? w1 _ vb.1
      have hne1 : w.heap.size ≠ w1.heap.size := Nat.ne_of_lt hlt1
      have hst := fun W => run_string_one (P := Try.prog) W 62 9 5 (.int .u8 1) 1 rfl Try.underlying62 Try.underlying5 Try.underlying9
      have hst2 : ∀ (W : World) (g : Nat), W.cell? ⟨g, 0, none⟩ = some (.int .u8 n) → (convert 62 9 (.slice (some ⟨g, 0, none⟩) 1 1)).run Try.prog W = .ok (.string (bstr [UInt8.ofNat n.toNat])) W := fun W g h => run_string_cell (P := Try.prog) 62 9 5 (UInt8.ofNat n.toNat) Try.underlying62 Try.underlying5 Try.underlying9 W g (by rw [h]; exact congrArg some (int_eq (by rw [UInt8.toNat_ofNat']; omega)))
      obtain ⟨c0, c1, c2, c3⟩ := id vb
      go_wp2_with fail
      go_ret
      exact ⟨ret_str (by first | (rw [HV.out]; done) | (rw [HV.out]; first | rfl | rw [bstr_append] | (rw [bstr_append]; rfl))), by first | exact hB | exact hnext hB (hba _ _) | exact hnext (hnext hB (hba _ _)) (hba _ _)⟩
    · have HV := hid hv
      clear hv
      have hl : (bstr (Cd.enc (Cd.zig n))).size ≤ 10 := (Cd.enc_length _).2
      go_enter Try.func77, Try.ntmps77
      go_wp2_with fail
      have vb := VBox.new w 2 n b s
      have hB := hba w (.cells #[.int .i64 2, .int .i64 n, .int .u64 (b : Int), .string s] 36)
      obtain ⟨c0, c1, c2, c3⟩ := id vb
      go_wp2_with fail
      clear c0 c1 c2 c3
      refine (hR.out _).mono ?_; rintro e w1 ⟨rfl, hb1⟩
      replace vb := vb.keep hb1
      replace hB := hnext hB hb1
      clear hb1
      have hlt1 : w.heap.size < w1.heap.size := World.block_lt_of_cell? w1 _ vb.1
      have hne1 : w.heap.size ≠ w1.heap.size := Nat.ne_of_lt hlt1
      have hst := fun W => run_string_one (P := Try.prog) W 62 9 5 (.int .u8 2) 2 rfl Try.underlying62 Try.underlying5 Try.underlying9
      obtain ⟨c0, c1, c2, c3⟩ := id vb
      go_wp2_with fail
      clear c0 c1 c2 c3
      refine (intR_any n h0 h1 _).mono ?_; rintro e w2 ⟨rfl, hb2⟩
      replace hb2 := hnext (hba w1 (.cells #[.int .u8 2] 5)) hb2
      replace vb := vb.keep hb2
      replace hB := hnext hB hb2
      clear hb2
      obtain ⟨c0, c1, c2, c3⟩ := id vb
      go_wp2_with fail
      go_ret
      exact ⟨ret_str (by first | (rw [HV.out]; done) | (rw [HV.out]; first | rfl | rw [bstr_append] | (rw [bstr_append]; rfl))), by first | exact hB | exact hnext hB (hba _ _) | exact hnext (hnext hB (hba _ _)) (hba _ _)⟩
    · have HV := hid hv
      clear hv
      have hl : (bstr (Cd.eight b)).size = 8 := low_size 8 b
      go_enter Try.func77, Try.ntmps77
      go_wp2_with fail
      have vb := VBox.new w 3 n b s
      have hB := hba w (.cells #[.int .i64 3, .int .i64 n, .int .u64 (b : Int), .string s] 36)
      obtain ⟨c0, c1, c2, c3⟩ := id vb
      go_wp2_with fail
      clear c0 c1 c2 c3
      refine (hR.out _).mono ?_; rintro e w1 ⟨rfl, hb1⟩
      replace vb := vb.keep hb1
      replace hB := hnext hB hb1
      clear hb1
      have hlt1 : w.heap.size < w1.heap.size := World.block_lt_of_cell? w1 _ vb.1
      have hne1 : w.heap.size ≠ w1.heap.size := Nat.ne_of_lt hlt1
      have hst := fun W => run_string_one (P := Try.prog) W 62 9 5 (.int .u8 3) 3 rfl Try.underlying62 Try.underlying5 Try.underlying9
      obtain ⟨c0, c1, c2, c3⟩ := id vb
      go_wp2_with fail
      clear c0 c1 c2 c3
      refine (eightR_any b hb _).mono ?_; rintro e w2 ⟨rfl, hb2⟩
      replace hb2 := hnext (hba w1 (.cells #[.int .u8 3] 5)) hb2
      replace vb := vb.keep hb2
      replace hB := hnext hB hb2
      clear hb2
      obtain ⟨c0, c1, c2, c3⟩ := id vb
      go_wp2_with fail
      go_ret
      exact ⟨ret_str (by first | (rw [HV.out]; done) | (rw [HV.out]; first | rfl | rw [bstr_append] | (rw [bstr_append]; rfl))), by first | exact hB | exact hnext hB (hba _ _) | exact hnext (hnext hB (hba _ _)) (hba _ _)⟩
    · have HV := hid hv
      clear hv
      have hl : (bstr (Cd.text s)).size ≤ 5000 := by rw [bstr_size]; unfold Cd.text; have := (Cd.enc_length s.size).2; simp; omega
      go_enter Try.func77, Try.ntmps77
      go_wp2_with fail
      have vb := VBox.new w 4 n b s
      have hB := hba w (.cells #[.int .i64 4, .int .i64 n, .int .u64 (b : Int), .string s] 36)
      obtain ⟨c0, c1, c2, c3⟩ := id vb
      go_wp2_with fail
      clear c0 c1 c2 c3
      refine (hR.out _).mono ?_; rintro e w1 ⟨rfl, hb1⟩
      replace vb := vb.keep hb1
      replace hB := hnext hB hb1
      clear hb1
      have hlt1 : w.heap.size < w1.heap.size := World.block_lt_of_cell? w1 _ vb.1
      have hne1 : w.heap.size ≠ w1.heap.size := Nat.ne_of_lt hlt1
      have hst := fun W => run_string_one (P := Try.prog) W 62 9 5 (.int .u8 4) 4 rfl Try.underlying62 Try.underlying5 Try.underlying9
      obtain ⟨c0, c1, c2, c3⟩ := id vb
      go_wp2_with fail
      clear c0 c1 c2 c3
      refine (textR_any s (by omega) _).mono ?_; rintro e w2 ⟨rfl, hb2⟩
      replace hb2 := hnext (hba w1 (.cells #[.int .u8 4] 5)) hb2
      replace vb := vb.keep hb2
      replace hB := hnext hB hb2
      clear hb2
      obtain ⟨c0, c1, c2, c3⟩ := id vb
      go_wp2_with fail
      go_ret
      exact ⟨ret_str (by first | (rw [HV.out]; done) | (rw [HV.out]; first | rfl | rw [bstr_append] | (rw [bstr_append]; rfl))), by first | exact hB | exact hnext hB (hba _ _) | exact hnext (hnext hB (hba _ _)) (hba _ _)⟩
    · have HV := hid hv
      clear hv
      have hl : (bstr (Cd.text s)).size ≤ 5000 := by rw [bstr_size]; unfold Cd.text; have := (Cd.enc_length s.size).2; simp; omega
      go_enter Try.func77, Try.ntmps77
      go_wp2_with fail
      have vb := VBox.new w 5 n b s
      have hB := hba w (.cells #[.int .i64 5, .int .i64 n, .int .u64 (b : Int), .string s] 36)
      obtain ⟨c0, c1, c2, c3⟩ := id vb
      go_wp2_with fail
      clear c0 c1 c2 c3
      refine (hR.out _).mono ?_; rintro e w1 ⟨rfl, hb1⟩
      replace vb := vb.keep hb1
      replace hB := hnext hB hb1
      clear hb1
      have hlt1 : w.heap.size < w1.heap.size := World.block_lt_of_cell? w1 _ vb.1
      have hne1 : w.heap.size ≠ w1.heap.size := Nat.ne_of_lt hlt1
      have hst := fun W => run_string_one (P := Try.prog) W 62 9 5 (.int .u8 5) 5 rfl Try.underlying62 Try.underlying5 Try.underlying9
      obtain ⟨c0, c1, c2, c3⟩ := id vb
      go_wp2_with fail
      clear c0 c1 c2 c3
      refine (textR_any s (by omega) _).mono ?_; rintro e w2 ⟨rfl, hb2⟩
      replace hb2 := hnext (hba w1 (.cells #[.int .u8 5] 5)) hb2
      replace vb := vb.keep hb2
      replace hB := hnext hB hb2
      clear hb2
      obtain ⟨c0, c1, c2, c3⟩ := id vb
      go_wp2_with fail
      go_ret
      exact ⟨ret_str (by first | (rw [HV.out]; done) | (rw [HV.out]; first | rfl | rw [bstr_append] | (rw [bstr_append]; rfl))), by first | exact hB | exact hnext hB (hba _ _) | exact hnext (hnext hB (hba _ _)) (hba _ _)⟩
end Go.Proofs.Ytmcneelapghfcaa

namespace Go.Proofs.Ytmcneelapghfcaa
open Go.RowKit

theorem text_length (s : ByteArray) : (Cd.text s).length ≤ 10 + s.size := by
  unfold Cd.text; have := (Cd.enc_length s.size).2; simp; omega
theorem value_length (k n : Int) (b : Nat) (s : ByteArray) : (Cd.value k n b s).length ≤ 5000 := by
  rcases value_shape k n b s with ⟨_, h⟩ | ⟨_, ⟨_, h⟩ | ⟨_, _, _, h⟩ | ⟨_, h⟩ | ⟨_, h⟩ | ⟨_, h2, h⟩ | ⟨_, h2, h⟩⟩
  all_goals rw [h]
  · simp
  · simp
  · simp
  · have := (Cd.enc_length (Cd.zig n)).2; simp; omega
  · have : (Cd.eight b).length = 8 := Cd.low_length 8 b
    simp; omega
  · have := text_length s; simp; omega
  · have := text_length s; simp; omega
theorem value_nil (k n : Int) (b : Nat) (s : ByteArray) : (bstr (Cd.value k n b s)).toList.isEmpty = !Va.right k n b s := by
  have e : ∀ l : List UInt8, (bstr l).toList = l := fun l => by rw [ByteArray.toList_eq]; rfl
  rw [e]
  rcases value_shape k n b s with ⟨h1, h⟩ | ⟨h1, ⟨_, h⟩ | ⟨_, _, _, h⟩ | ⟨_, h⟩ | ⟨_, h⟩ | ⟨_, h2, h⟩ | ⟨_, h2, h⟩⟩
  all_goals rw [h, h1]; rfl
theorem flat_length (l : List Cd.V) : (l.flatMap Cd.V.bytes).length ≤ l.length * 5000 := by
  induction l with
  | nil => simp
  | cons v l ih =>
    have := value_length v.k v.n v.b v.s
    rw [List.flatMap_cons, List.length_append]
    have h2 : v.bytes.length ≤ 5000 := this
    simp only [List.length_cons]
    omega
theorem flat_next (l : List Cd.V) (k : Nat) (h : k < l.length) : (l.take (k + 1)).flatMap Cd.V.bytes = (l.take k).flatMap Cd.V.bytes ++ Cd.value l[k].k l[k].n l[k].b l[k].s := by
  rw [take_next l k h, List.flatMap_append]; simp [Cd.V.bytes]
theorem all_next (l : List Cd.V) (k : Nat) (h : k < l.length) (h0 : (l.take k).all Cd.V.right = true) : (l.take (k + 1)).all Cd.V.right = Va.right l[k].k l[k].n l[k].b l[k].s := by
  rw [take_next l k h, List.all_append, h0]; simp [Cd.V.right]
theorem row_no (l : List Cd.V) (k : Nat) (h : k < l.length) (h0 : Va.right l[k].k l[k].n l[k].b l[k].s = false) : Cd.row l = [] := by
  unfold Cd.row
  rw [if_neg]
  intro hh
  have := List.all_eq_true.1 hh l[k] (List.getElem_mem h)
  rw [show Cd.V.right l[k] = Va.right l[k].k l[k].n l[k].b l[k].s from rfl, h0] at this
  cases this
theorem row_yes (l : List Cd.V) (h : l.all Cd.V.right = true) : Cd.row l = Cd.enc l.length ++ l.flatMap Cd.V.bytes := by unfold Cd.row; rw [if_pos h]

set_option maxRecDepth 100000 in
set_option maxHeartbeats 1600000 in
theorem row_any (v : Value) (l : List Cd.V) (w : World) (hv : VsAt w v l) (hok : ∀ x ∈ l, Vok x) (hl : l.length ≤ 1000000) : Calls Try.prog 35 #[v] w fun e w' => e = .returned (.string (bstr (Cd.row l))) ∧ Below w.heap.size w w' := by
  obtain ⟨adr, cap, rfl, hc⟩ := hv
  have HC := hid hc
  have HOK := hid hok
  clear hc hok
  have hle : (bstr (Cd.enc l.length)).size ≤ 10 := (Cd.enc_length _).2
  go_enter Try.func35, Try.ntmps35
  go_wp2_with fail
  refine (uint_any l.length (by omega) _).mono ?_; rintro e w1 ⟨rfl, hb1⟩
  go_wp2_with fail
  go_loopw [12, 3] (fun i s wr => ∃ k : Nat, k ≤ l.length ∧ i = .int .i64 (k : Int) ∧ s = .string (bstr (Cd.enc l.length ++ (l.take k).flatMap Cd.V.bytes)) ∧ Hid ((l.take k).all Cd.V.right = true) ∧ Below w.heap.size w wr) (fun i _ _ => l.length - (intOf i).toNat)
  case atStart => exact ⟨0, by omega, rfl, by simp, rfl, hb1⟩
  case round =>
    obtain ⟨k, hk, rfl, rfl, hall, hbel⟩ := hrel
    obtain ⟨w4, rfl⟩ : ∃ w4 : World, w4 = wr := ⟨_, rfl⟩
    by_cases hlk : k < l.length
    · obtain ⟨g, off, rfl, q0, q1, q2, q3⟩ := HC.out k hlk
      have HF := hid (flat_next l k hlk)
      have HA := hid (all_next l k hlk hall.out)
      have HN := hid (row_no l k hlk)
      have hfl := flat_length (l.take k)
      rw [List.length_take] at hfl
      have hvl := value_length l[k].k l[k].n l[k].b l[k].s
      obtain ⟨⟨hn0, hn1⟩, hb, hs⟩ := HOK.out l[k] (List.getElem_mem hlk)
      generalize l[k] = x at q0 q1 q2 q3 HF HA HN hn0 hn1 hb hs hvl
      obtain ⟨xk, xn, xb, xs⟩ := x
      simp only at q0 q1 q2 q3 hn0 hn1 hb hs hvl
      generalize (l.take k).flatMap Cd.V.bytes = pre at hfl HF ⊢
      replace q0 := hkeep q0 hbel
      replace q1 := hkeep q1 hbel
      replace q2 := hkeep q2 hbel
      replace q3 := hkeep q3 hbel
      have hlk' : (k : Int) < l.length := by omega
      have hps : (bstr (Cd.enc l.length ++ pre)).size ≤ 5000000010 := by rw [bstr_size]; rw [bstr_size] at hle; simp; omega
      have hvs : (bstr (Cd.value xk xn xb xs)).size ≤ 5000 := hvl
      have hR := fun W => right_any xk xn xb xs hs W
      have hV := hid (fun W => value_any xk xn xb xs hs hn0 hn1 hb W)
      unfold vv at hR hV
      clear hvl
      cases hr : Va.right xk xn xb xs
      · rw [hr] at hR
        have HR := hid hR
        have HNN := hid (HN.out hr)
        clear hR hr
        go_wp2_with fail
        refine (HR.out _).mono ?_; rintro e w5 ⟨rfl, hb5⟩
        have hB5 := hnext (hbel.alloc hbel.size _) hb5
        go_wp2_with fail
        go_ret
        rw [HNN.out]
        exact ⟨rfl, hB5⟩
      · rw [hr] at hR
        have HR := hid hR
        have HAA := hid (HA.out.trans hr)
        clear hR hr
        go_wp2_with fail
        refine (HR.out _).mono ?_; rintro e w5 ⟨rfl, hb5⟩
        have vb := (VBox.new w4 xk xn xb xs).keep hb5
        have hB5 := hnext (hbel.alloc hbel.size _) hb5
        obtain ⟨c0, c1, c2, c3⟩ := id vb
        clear hb5
        go_wp2_with fail
        refine (hV.out _).mono ?_; rintro e w6 ⟨rfl, hb6⟩
        go_wp2_with fail
        go_roundw
        case rel => exact ⟨k + 1, by omega, by go_num, str_eq (by rw [HF.out, bstr_append, List.append_assoc]), HAA, hnext hB5 hb6⟩
        case measure => simp [intOf]; omega
    · obtain rfl : k = l.length := by omega
      have HY := hid (row_yes l (by have := hall.out; rwa [List.take_length] at this))
      rw [List.take_length]
      go_wp2_with fail
      go_ret
      rw [HY.out]
      exact ⟨rfl, hbel⟩

set_option maxRecDepth 100000 in
set_option maxHeartbeats 1600000 in
theorem rowR_any (v : Value) (l : List Cd.V) (w : World) (hv : VsAt w v l) (hok : ∀ x ∈ l, Vok x) (hl : l.length ≤ 1000000) : Calls Try.prog 40 #[v] w fun e w' => e = .returned (.string (bstr (Cd.row l))) ∧ Below w.heap.size w w' := by
  obtain ⟨adr, cap, rfl, hc⟩ := hv
  have HC := hid hc
  have HOK := hid hok
  clear hc hok
  have hle : (bstr (Cd.enc l.length)).size ≤ 10 := (Cd.enc_length _).2
  go_enter Try.func40, Try.ntmps40
  go_wp2_with fail
  refine (uintR_exact l.length (by omega) _).mono ?_; rintro e w1 ⟨rfl, hb1⟩
  go_wp2_with fail
  go_loopw [4, 3] (fun i s wr => ∃ k : Nat, k ≤ l.length ∧ i = .int .i64 (k : Int) ∧ s = .string (bstr (Cd.enc l.length ++ (l.take k).flatMap Cd.V.bytes)) ∧ Hid ((l.take k).all Cd.V.right = true) ∧ Below w.heap.size w wr) (fun i _ _ => l.length - (intOf i).toNat)
  case atStart => exact ⟨0, by omega, rfl, by simp, rfl, hb1⟩
  case round =>
    obtain ⟨k, hk, rfl, rfl, hall, hbel⟩ := hrel
    obtain ⟨w4, rfl⟩ : ∃ w4 : World, w4 = wr := ⟨_, rfl⟩
    by_cases hlk : k < l.length
    · obtain ⟨g, off, rfl, q0, q1, q2, q3⟩ := HC.out k hlk
      have HF := hid (flat_next l k hlk)
      have HA := hid (all_next l k hlk hall.out)
      have HN := hid (row_no l k hlk)
      have hfl := flat_length (l.take k)
      rw [List.length_take] at hfl
      have hvl := value_length l[k].k l[k].n l[k].b l[k].s
      obtain ⟨⟨hn0, hn1⟩, hb, hs⟩ := HOK.out l[k] (List.getElem_mem hlk)
      generalize l[k] = x at q0 q1 q2 q3 HF HA HN hn0 hn1 hb hs hvl
      obtain ⟨xk, xn, xb, xs⟩ := x
      simp only at q0 q1 q2 q3 hn0 hn1 hb hs hvl
      generalize (l.take k).flatMap Cd.V.bytes = pre at hfl HF ⊢
      replace q0 := hkeep q0 hbel
      replace q1 := hkeep q1 hbel
      replace q2 := hkeep q2 hbel
      replace q3 := hkeep q3 hbel
      have hlk' : (k : Int) < l.length := by omega
      have hps : (bstr (Cd.enc l.length ++ pre)).size ≤ 5000000010 := by rw [bstr_size]; rw [bstr_size] at hle; simp; omega
      have hvs : (bstr (Cd.value xk xn xb xs)).size ≤ 5000 := hvl
      have hV := hid (fun W => valueR_any xk xn xb xs hs hn0 hn1 hb W)
      have hnil := value_nil xk xn xb xs
      unfold vv at hV
      clear hvl
      cases hr : Va.right xk xn xb xs
      · rw [hr] at hnil
        have HNN := hid (HN.out hr)
        have hnil2 := hid hnil
        simp only [Bool.not_false] at hnil
        clear hr
        go_wp2_with fail
        refine (hV.out _).mono ?_; rintro e w5 ⟨rfl, hb5⟩
        go_wp2_with fail
        go_ret
        rw [HNN.out]
        exact ⟨rfl, hnext hbel hb5⟩
      · rw [hr] at hnil
        have HAA := hid (HA.out.trans hr)
        simp only [Bool.not_true] at hnil
        clear hr
        go_wp2_with fail
        refine (hV.out _).mono ?_; rintro e w6 ⟨rfl, hb6⟩
        go_wp2_with fail
        go_roundw
        case rel => exact ⟨k + 1, by omega, by go_num, str_eq (by rw [HF.out, bstr_append, List.append_assoc]), HAA, hnext hbel hb6⟩
        case measure => simp [intOf]; omega
    · obtain rfl : k = l.length := by omega
      have HY := hid (row_yes l (by have := hall.out; rwa [List.take_length] at this))
      rw [List.take_length]
      go_wp2_with fail
      go_ret
      rw [HY.out]
      exact ⟨rfl, hbel⟩
end Go.Proofs.Ytmcneelapghfcaa

namespace Go.Proofs.Ytmcneelapghfcaa
namespace Cd

theorem value_of {k n : Int} {b : Nat} {s : ByteArray} (h : Va.right k n b s = true) : value k n b s = UInt8.ofNat k.toNat :: (if k = 1 then [UInt8.ofNat n.toNat] else if k = 2 then enc (zig n) else if k = 3 then eight b else if k = 4 ∨ k = 5 then text s else []) := by
  unfold value; rw [if_pos h]
theorem rawR_0 {s : ByteArray} {i : Nat} (h : s.data.toList[i]? = some 0) : rawR s i = .ok (⟨0, 0, 0, ⟨#[]⟩⟩, i + 1) := by unfold rawR nextR; rw [h]; rfl
theorem rawR_1 {s : ByteArray} {i : Nat} {c : UInt8} (h : s.data.toList[i]? = some 1) (h2 : s.data.toList[i + 1]? = some c) : rawR s i = .ok (⟨1, (c.toNat : Int), 0, ⟨#[]⟩⟩, i + 2) := by
  have e : nextR s.data.toList (i + 1) = .ok (c.toNat, i + 2) := by unfold nextR; rw [h2]
  have e0 : rawR s i = match nextR s.data.toList (i + 1) with | .error e => .error e | .ok (n, m) => .ok (⟨1, (n : Int), 0, ⟨#[]⟩⟩, m) := by unfold rawR; rw [show nextR s.data.toList i = .ok (1, i + 1) by unfold nextR; rw [h]; rfl]; rfl
  rw [e0, e]
theorem rawR_2 {s : ByteArray} {i : Nat} (h : s.data.toList[i]? = some 2) : rawR s i = match intR s.data.toList (i + 1) with | .error e => .error e | .ok (n, m) => .ok (⟨2, n, 0, ⟨#[]⟩⟩, m) := by unfold rawR nextR; rw [h]; rfl
theorem rawR_3 {s : ByteArray} {i : Nat} (h : s.data.toList[i]? = some 3) : rawR s i = match bitsF s.data.toList 8 0 (i + 1) with | .error e => .error e | .ok (b, m) => .ok (⟨3, 0, b, ⟨#[]⟩⟩, m) := by unfold rawR nextR; rw [h]; rfl
theorem rawR_4 {s : ByteArray} {i : Nat} (h : s.data.toList[i]? = some 4) : rawR s i = match textR s 4096 (i + 1) with | .error e => .error e | .ok (t, m) => .ok (⟨4, 0, 0, t⟩, m) := by unfold rawR nextR; rw [h]; rfl
theorem rawR_5 {s : ByteArray} {i : Nat} (h : s.data.toList[i]? = some 5) : rawR s i = match textR s 4096 (i + 1) with | .error e => .error e | .ok (t, m) => .ok (⟨5, 0, 0, t⟩, m) := by unfold rawR nextR; rw [h]; rfl
theorem right_full {k n : Int} {b : Nat} {s : ByteArray} (h : Va.right k n b s = true) : (k = 0 ∧ n = 0 ∧ b = 0 ∧ s = ⟨#[]⟩) ∨ (k = 1 ∧ (n = 0 ∨ n = 1) ∧ b = 0 ∧ s = ⟨#[]⟩) ∨ (k = 2 ∧ b = 0 ∧ s = ⟨#[]⟩) ∨ (k = 3 ∧ n = 0 ∧ s = ⟨#[]⟩) ∨ ((k = 4 ∨ k = 5) ∧ n = 0 ∧ b = 0 ∧ s.size ≤ 4096) := by
  unfold Va.right at h
  by_cases h0 : k = 0
  · subst h0; simp at h; exact .inl ⟨rfl, h.1.1, h.1.2, h.2⟩
  by_cases h1 : k = 1
  · subst h1; simp at h; exact .inr (.inl ⟨rfl, h.1.1, h.1.2, h.2⟩)
  by_cases h2 : k = 2
  · subst h2; simp at h; exact .inr (.inr (.inl ⟨rfl, h.1, h.2⟩))
  by_cases h3 : k = 3
  · subst h3; simp at h; exact .inr (.inr (.inr (.inl ⟨rfl, h.1.1, h.1.2⟩)))
  by_cases h4 : k = 4 ∨ k = 5
  · rw [if_neg h0, if_neg h1, if_neg h2, if_neg h3, if_pos h4] at h
    simp at h
    exact .inr (.inr (.inr (.inr ⟨h4, h.1.1, h.1.2, h.2⟩)))
  · rw [if_neg h0, if_neg h1, if_neg h2, if_neg h3, if_neg h4] at h
    cases h
theorem drop_len {l a r : List UInt8} {i : Nat} (h : l.drop i = a ++ r) : a ≠ [] → i + a.length ≤ l.length := by
  intro ha
  have := congrArg List.length h
  rw [List.length_drop, List.length_append] at this
  have : 0 < a.length := List.length_pos_iff.2 ha
  omega
theorem drop_more {l a r : List UInt8} {i : Nat} (h : l.drop i = a ++ r) : l.drop (i + a.length) = r := by
  rw [← List.drop_drop, h, List.drop_left]
theorem text_back {s : ByteArray} {t : ByteArray} {r : List UInt8} {i most : Nat} (ht : t.size ≤ most) (hm : most < 18446744073709551616) (h : s.data.toList.drop i = text t ++ r) :
    textR s most i = .ok (t, i + (text t).length) ∧ s.data.toList.drop (i + (text t).length) = r := by
  refine ⟨?_, drop_more h⟩
  unfold text at h ⊢
  rw [List.append_assoc] at h
  obtain ⟨a, b⟩ := uint_back (by omega) h
  have e1 : t.data.toList.length = t.size := by simp
  have hl := congrArg List.length b
  rw [List.length_drop, List.length_append, e1] at hl
  have e2 : s.data.toList.length = s.size := by simp
  unfold textR
  rw [a]
  simp only
  have hs : i + (enc t.size).length + t.size ≤ s.size ∨ t.size = 0 ∧ s.size < i + (enc t.size).length := by omega
  have hs2 : i + (enc t.size).length ≤ s.size := by
    have h1 := drop_len h (by intro e; have := (enc_length t.size).1; rw [e] at this; simp at this)
    omega
  rw [if_neg (by omega), if_neg (by omega)]
  have e3 : s.extract (i + (enc t.size).length) (i + (enc t.size).length + t.size) = t := by
    apply ByteArray.ext
    apply Array.toList_inj.1
    rw [ByteArray.data_extract, Array.toList_extract]
    show List.take _ (List.drop _ _) = _
    rw [b, Nat.add_sub_cancel_left, ← e1, List.take_left]
  rw [e3, List.length_append, e1]
  congr 2
  omega
theorem bits_back (l r : List UInt8) (b : Nat) (f : Nat) : ∀ i acc, l.drop i = low f b ++ r → bitsF l f acc i = .ok (acc * 256 ^ f + b % 256 ^ f, i + f) := by
  induction f with
  | zero => intro i acc h; simp [bitsF]; omega
  | succ f ih =>
    intro i acc h
    obtain ⟨h1, h2⟩ := get_drop (show l.drop i = UInt8.ofNat (b / 256 ^ f) :: (low f b ++ r) from h)
    unfold bitsF
    rw [h1]
    simp only
    rw [ih (i + 1) _ h2]
    have hc : (UInt8.ofNat (b / 256 ^ f)).toNat = b / 256 ^ f % 256 := by rw [UInt8.toNat_ofNat']
    rw [hc]
    have e := Nat.mod_mul (x := b) (a := 256 ^ f) (b := 256)
    rw [Nat.pow_succ, e]
    congr 2
    · rw [Nat.add_mul, Nat.mul_comm 256 acc, Nat.mul_assoc, Nat.mul_comm 256 (256 ^ f), Nat.mul_comm (256 ^ f) (b / 256 ^ f % 256)]
      omega
    · omega
theorem eight_back {l r : List UInt8} {b i : Nat} (hb : b < 18446744073709551616) (h : l.drop i = eight b ++ r) : bitsF l 8 0 i = .ok (b, i + 8) := by
  rw [bits_back l r b 8 i 0 h, Nat.mod_eq_of_lt (Nat.lt_of_lt_of_le hb (by decide))]
  simp
theorem value_back {s : ByteArray} {v : V} {r : List UInt8} {i : Nat} (hr : v.right = true) (hv : Vok v) (h : s.data.toList.drop i = v.bytes ++ r) :
    valueR s i = .ok (v, i + v.bytes.length) ∧ s.data.toList.drop (i + v.bytes.length) = r := by
  refine ⟨?_, drop_more h⟩
  obtain ⟨k, n, b, t⟩ := v
  obtain ⟨⟨n0, n1⟩, hb, ht⟩ := hv
  unfold V.bytes at h ⊢
  have hr2 : Va.right k n b t = true := hr
  have hraw : rawR s i = .ok (⟨k, n, b, t⟩, i + (value k n b t).length) := by
    rcases right_full hr2 with ⟨rfl, rfl, rfl, rfl⟩ | ⟨rfl, hn, rfl, rfl⟩ | ⟨rfl, rfl, rfl⟩ | ⟨rfl, rfl, rfl⟩ | ⟨rfl | rfl, rfl, rfl, ht2⟩
    · have hv : value 0 0 0 ⟨#[]⟩ = [0] := by rw [value_of hr2]; rfl
      rw [hv] at h ⊢
      rw [rawR_0 (get_drop h).1]; rfl
    · have hv : value 1 n 0 ⟨#[]⟩ = [1, UInt8.ofNat n.toNat] := by rw [value_of hr2]; rfl
      rw [hv] at h ⊢
      obtain ⟨g0, g1⟩ := get_drop h
      rw [rawR_1 g0 (get_drop g1).1]
      rcases hn with rfl | rfl <;> rfl
    · have hv : value 2 n 0 ⟨#[]⟩ = 2 :: enc (zig n) := by rw [value_of hr2]; rfl
      rw [hv] at h ⊢
      obtain ⟨g0, g1⟩ := get_drop h
      rw [rawR_2 g0, (int_back n0 n1 g1).1]
      simp only [List.length_cons]
      congr 2
      omega
    · have hv : value 3 0 b ⟨#[]⟩ = 3 :: eight b := by rw [value_of hr2]; rfl
      rw [hv] at h ⊢
      obtain ⟨g0, g1⟩ := get_drop h
      rw [rawR_3 g0, eight_back hb g1]
      simp only [List.length_cons, show (eight b).length = 8 from low_length 8 b]
    · have hv : value 4 0 0 t = 4 :: text t := by rw [value_of hr2]; rfl
      rw [hv] at h ⊢
      obtain ⟨g0, g1⟩ := get_drop h
      rw [rawR_4 g0, (text_back ht2 (by decide) g1).1]
      simp only [List.length_cons]
      congr 2
      omega
    · have hv : value 5 0 0 t = 5 :: text t := by rw [value_of hr2]; rfl
      rw [hv] at h ⊢
      obtain ⟨g0, g1⟩ := get_drop h
      rw [rawR_5 g0, (text_back ht2 (by decide) g1).1]
      simp only [List.length_cons]
      congr 2
      omega
  unfold valueR
  rw [hraw]
  simp only [hr, if_true]
theorem row_back {s : ByteArray} {l : List V} {r : List UInt8} {i : Nat} (hr : l.all V.right = true) (hv : ∀ x ∈ l, Vok x) (hl : l.length ≤ 1000) (h : s.data.toList.drop i = row l ++ r) :
    rowR s i = .ok (l, i + (row l).length) ∧ s.data.toList.drop (i + (row l).length) = r := by
  refine ⟨?_, drop_more h⟩
  rw [row_yes l hr] at h ⊢
  rw [List.append_assoc] at h
  obtain ⟨a, b⟩ := uint_back (by omega) h
  have key : ∀ (l : List V) (i : Nat), l.all V.right = true → (∀ x ∈ l, Vok x) → s.data.toList.drop i = l.flatMap V.bytes ++ r → rowF s l.length i = .ok (l, i + (l.flatMap V.bytes).length) := by
    intro l
    induction l with
    | nil => intro i _ _ _; rfl
    | cons v l ih =>
      intro i h1 h2 h3
      rw [List.all_cons, Bool.and_eq_true] at h1
      rw [List.flatMap_cons, List.append_assoc] at h3
      obtain ⟨q1, q2⟩ := value_back h1.1 (h2 v List.mem_cons_self) h3
      have q3 := ih _ h1.2 (fun x hx => h2 x (List.mem_cons_of_mem _ hx)) q2
      show rowF s (l.length + 1) i = _
      unfold rowF
      rw [q1]
      simp only
      rw [q3]
      simp only [List.flatMap_cons, List.length_append, Nat.add_assoc]
  unfold rowR
  rw [a]
  simp only
  rw [if_neg (by omega), key l _ hr hv b]
  simp only [List.length_append, Nat.add_assoc]
end Cd
end Go.Proofs.Ytmcneelapghfcaa
