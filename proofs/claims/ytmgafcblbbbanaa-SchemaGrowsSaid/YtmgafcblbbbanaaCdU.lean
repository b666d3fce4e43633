/-
  code.one, Uint, and the reference's Uint: their contracts. Condition: the number is below 2^64.
-/
import Derived.Test.YtmgafcblbbbanaaVaR
import Derived.Test.YtmgafcblbbbanaaCd
namespace Go.Proofs.Ytmgafcblbbbanaa
open Go.RowKit

theorem ret_str {a b : ByteArray} (h : a = b) : Ending.returned (.string a) = .returned (.string b) := by rw [h]
theorem one_val (x : Int) (h0 : 0 ≤ x) : Value.int .u8 (x % 256) = byteV (UInt8.ofNat x.toNat) := by
  unfold byteV
  refine int_eq ?_
  rw [UInt8.toNat_ofNat']
  omega
theorem one_any (x : Int) (h0 : 0 ≤ x) (_h1 : x ≤ 18446744073709551615) (w : World) : Calls Try.prog 43 #[.int .u64 x] w fun e w' => e = .returned (.string (bstr [UInt8.ofNat x.toNat])) ∧ Below w.heap.size w w' := by
  have hst := fun W => run_string_one (P := Try.prog) W 65 9 5 _ _ (one_val x h0) Try.underlying65 Try.underlying5 Try.underlying9
  go_enter Try.func43, Try.ntmps43
  go_wp2
  go_ret
  exact ⟨rfl, hba w _⟩

set_option maxRecDepth 100000 in
set_option maxHeartbeats 800000 in
theorem uint_any (n : Nat) (hn : n < 18446744073709551616) (w : World) : Calls Try.prog 32 #[.int .u64 (n : Int)] w fun e w' => e = .returned (.string (bstr (Cd.enc n))) ∧ Below w.heap.size w w' := by
  have hb0 := hid (Cd.u64_bound hn)
  have hn' : (n : Int) ≤ 18446744073709551615 := by omega
  clear hn
  go_enter Try.func32, Try.ntmps32
  go_wp2_with fail
  go_loopw [3, 0] (fun s c wr => ∃ (f m : Nat) (pre : List UInt8), c = .int .u64 (m : Int) ∧ s = .string (bstr pre) ∧ m ≤ n ∧ pre.length + f ≤ 9 ∧ Hid (m < 2 * 128 ^ f) ∧ Hid (pre ++ Cd.encF f m = Cd.enc n) ∧ Below w.heap.size w wr) (fun _ c _ => (intOf c).toNat)
  case atStart => exact ⟨9, n, [], rfl, rfl, Nat.le_refl _, by simp, hb0, rfl, Below.refl _ _⟩
  case round =>
    obtain ⟨f, m, pre, rfl, rfl, hmn, hpl, hm, hpe, hbel⟩ := hrel
    have hps : (bstr pre).size ≤ 9 := by rw [bstr_size]; omega
    have h0 : (0 : Int) ≤ (m : Int) := by omega
    have h1 : (m : Int) ≤ 18446744073709551615 := by omega
    obtain ⟨w4, rfl⟩ : ∃ w4 : World, w4 = wr := ⟨_, rfl⟩
    by_cases hlt : 128 ≤ m
    · obtain ⟨f', rfl, hm', he⟩ := Cd.enc_next hlt hm.out
      have HM := hid hm'
      have HE := hid he
      have hsz1 : ∀ c, (bstr [c]).size = 1 := fun _ => rfl
      have hlt' : (128 : Int) ≤ (m : Int) := by omega
      clear hm' he hm
      go_wp2_with fail
      refine (one_any _ (by omega) (by omega) _).mono ?_; rintro e w5 ⟨rfl, hb5⟩
      go_wp2_with fail
      go_roundw
      case rel => exact ⟨f', m / 128, pre ++ [UInt8.ofNat (m % 128 + 128)], int_eq (by omega), str_eq (by rw [bstr_append]), by omega, by simp; omega, HM, by show _ = _; rw [← hpe.out, HE.out, List.append_assoc]; rfl, bnext hbel hb5⟩
      case measure => simp [intOf]; omega
    · have hE := hid (Cd.encF_small f (show m < 128 by omega))
      have hlt' : ¬ (128 : Int) ≤ (m : Int) := by omega
      have hsz1 : ∀ c, (bstr [c]).size = 1 := fun _ => rfl
      clear hm
      go_wp2_with fail
      refine (one_any _ (by omega) (by omega) _).mono ?_; rintro e w5 ⟨rfl, hb5⟩
      go_wp2_with fail
      go_ret
      rw [← hpe.out, hE.out]
      exact ⟨ret_str (by first | rfl | rw [bstr_append]), bnext hbel hb5⟩

set_option maxRecDepth 100000 in
set_option maxHeartbeats 1600000 in
theorem uintR_any (f : Nat) : ∀ (m : Nat) (w : World), m < 2 * 128 ^ f → m < 18446744073709551616 → f ≤ 9 → Calls Try.prog 34 #[.int .u64 (m : Int)] w fun e w' => e = .returned (.string (bstr (Cd.encF f m))) ∧ Below w.heap.size w w' := by
  induction f with
  | zero =>
    intro m w hm hm2 hf
    have hE := hid (Cd.encF_small 0 (show m < 128 by omega))
    have hlt' : (m : Int) < 128 := by omega
    have hst := fun W => run_string_one (P := Try.prog) W 65 9 5 _ _ (one_val m (by omega)) Try.underlying65 Try.underlying5 Try.underlying9
    rw [show (m : Int) % 256 = m from by omega, Int.toNat_natCast] at hst
    clear hm hm2
    go_enter Try.func34, Try.ntmps34
    go_wp2
    go_ret
    rw [hE.out]
    exact ⟨rfl, hba w _⟩
  | succ f ih =>
    intro m w hm hm2 hf
    have h1 : (m : Int) ≤ 18446744073709551615 := by omega
    by_cases hlt : 128 ≤ m
    · obtain ⟨f', hff, hm', he⟩ := Cd.enc_next hlt hm
      obtain rfl : f = f' := by omega
      have IH := hid (fun W => ih (m / 128) W hm' (by omega) (by omega))
      have HE := hid he
      have hlen := (Cd.encF_length f (m / 128)).2
      have hlt' : ¬ (m : Int) < 128 := by omega
      clear ih hm hm2 hm' he hff
      go_enter Try.func34, Try.ntmps34
      go_wp2_with fail
      have hw1 : (m : Int).tmod 128 = ((m % 128 : Nat) : Int) := by rw [Int.tmod_eq_emod_of_nonneg (by omega)]; rfl
      have hw2 : IntKind.u64.wrap (128 + ((m % 128 : Nat) : Int)) = ((m % 128 + 128 : Nat) : Int) := by rw [IntKind.wrap_u64]; omega
      have hw3 : (m : Int).tdiv 128 = ((m / 128 : Nat) : Int) := by rw [Int.tdiv_eq_ediv_of_nonneg (by omega)]; rfl
      have hw5 : IntKind.u64.wrap ((m / 128 : Nat) : Int) = ((m / 128 : Nat) : Int) := by rw [IntKind.wrap_u64]; omega
      have hw4 : IntKind.u8.wrap ((m % 128 + 128 : Nat) : Int) = ((UInt8.ofNat (m % 128 + 128)).toNat : Int) := by rw [UInt8.toNat_ofNat', IntKind.wrap_u8]; omega
      generalize hL : Cd.encF f (m / 128) = l at IH HE hlen
      generalize UInt8.ofNat (m % 128 + 128) = c at HE hw4
      generalize m % 128 + 128 = x at hw2 hw4
      generalize m % 128 = r at hw1 hw2
      generalize m / 128 = q at hw3 hw5 IH hL
      clear hL
      have hsx : ¬ (9223372036854775807 < (bstr [c]).size + (bstr l).size) := by rw [bstr_size, bstr_size]; simp; omega
      have hsa := run_string_cell (P := Try.prog) 65 9 5 c Try.underlying65 Try.underlying5 Try.underlying9
      clear h1 hlt hlen hf
      obtain ⟨w5, hw5⟩ : ∃ w5, (w).drew = w5 := ⟨_, rfl⟩
      have hd5 : Below (w).heap.size (w) w5 := hw5 ▸ (Below.refl _ _).drew
      have mk5 : ∀ W, Below w5.heap.size w5 W → Below w5.heap.size w5 W := fun _ h => h
      refine wp_region_held_drew (S := (fun W => Below w5.heap.size w5 W)) (by kernel_rfl) (by rw [hw5]; exact mk5 _ (Below.refl _ _)) (fun hS5 => ?_)
      rw [hw5] at hS5 ⊢
      clear hw5
      refine wpAnyH_take (i := 0) (oi := ({ dst := some 9, op := Op.move (Operand.tmp 0), type := 44, pos := "ref.go:14", after := #[], guard := none } : Oper)) (v := ?_) rfl (by kernel_rfl) (by kernel_rfl) (by kernel_rfl) (fun _ _ _ h => h) (Or.inl ⟨by rfl, ?_⟩) hS5 ?_
      rotate_left
      · intro w hSw; (try dsimp only at hSw); go_simp; (try with_reducible rfl)
      simp only [Act.put, List.setIfInBounds_toArray, List.set_cons_zero, List.set_cons_succ]
      refine wpAnyH_take (i := 1) (oi := ({ dst := some 10, op := Op.binOp BinOp.rem 44 (Operand.tmp 9) (Operand.const (Value.int IntKind.u64 128)) 44, type := 44, pos := "ref.go:14", after := #[{ on := 0, ground := Ground.data }], guard := none } : Oper)) (v := ?_) rfl (by kernel_rfl) (by kernel_rfl) (by kernel_rfl) (fun _ _ _ h => h) (Or.inl ⟨by rfl, ?_⟩) hS5 ?_
      rotate_left
      · intro w hSw; (try dsimp only at hSw); go_simp; (try with_reducible rfl)
      simp only [Act.put, List.setIfInBounds_toArray, List.set_cons_zero, List.set_cons_succ]
      refine wpAnyH_take (i := 2) (oi := ({ dst := some 11, op := Op.binOp BinOp.add 44 (Operand.const (Value.int IntKind.u64 128)) (Operand.tmp 10) 44, type := 44, pos := "ref.go:14", after := #[{ on := 1, ground := Ground.data }], guard := none } : Oper)) (v := ?_) rfl (by kernel_rfl) (by kernel_rfl) (by kernel_rfl) (fun _ _ _ h => h) (Or.inl ⟨by rfl, ?_⟩) hS5 ?_
      rotate_left
      · intro w hSw; (try dsimp only at hSw); go_simp; (try with_reducible rfl)
      simp only [Act.put, List.setIfInBounds_toArray, List.set_cons_zero, List.set_cons_succ]
      refine wpAnyH_take (i := 3) (oi := ({ dst := some 12, op := Op.convert 44 5 (Operand.tmp 11), type := 5, pos := "ref.go:14", after := #[{ on := 2, ground := Ground.data }], guard := none } : Oper)) (v := ?_) rfl (by kernel_rfl) (by kernel_rfl) (by kernel_rfl) (fun _ _ _ h => h) (Or.inl ⟨by rfl, ?_⟩) hS5 ?_
      rotate_left
      · intro w hSw; (try dsimp only at hSw); go_simp; (try with_reducible rfl)
      simp only [Act.put, List.setIfInBounds_toArray, List.set_cons_zero, List.set_cons_succ]
      refine wpAnyH_take (i := 6) (oi := ({ dst := some 15, op := Op.move (Operand.tmp 0), type := 44, pos := "ref.go:14", after := #[], guard := none } : Oper)) (v := ?_) rfl (by kernel_rfl) (by kernel_rfl) (by kernel_rfl) (fun _ _ _ h => h) (Or.inl ⟨by rfl, ?_⟩) hS5 ?_
      rotate_left
      · intro w hSw; (try dsimp only at hSw); go_simp; (try with_reducible rfl)
      simp only [Act.put, List.setIfInBounds_toArray, List.set_cons_zero, List.set_cons_succ]
      refine wpAnyH_take (i := 7) (oi := ({ dst := some 16, op := Op.binOp BinOp.quo 44 (Operand.tmp 15) (Operand.const (Value.int IntKind.u64 128)) 44, type := 44, pos := "ref.go:14", after := #[{ on := 6, ground := Ground.data }], guard := none } : Oper)) (v := ?_) rfl (by kernel_rfl) (by kernel_rfl) (by kernel_rfl) (fun _ _ _ h => h) (Or.inl ⟨by rfl, ?_⟩) hS5 ?_
      rotate_left
      · intro w hSw; (try dsimp only at hSw); go_simp; (try with_reducible rfl)
      simp only [Act.put, List.setIfInBounds_toArray, List.set_cons_zero, List.set_cons_succ]
      refine wpAnyH_ready (rs := [4, 8]) (by kernel_rfl) (by simp) ?_
      refine AllReadyH.cons (o := ({ dst := some 13, op := Op.buildSlice 65 1 #[(0, Operand.tmp 12)], type := 65, pos := "ref.go:14", after := #[{ on := 3, ground := Ground.data }], guard := none } : Oper)) rfl (fun K hK => ?_) (AllReadyH.cons (o := ({ dst := some 17, op := Op.call { callee := Callee.value (Operand.func 34), args := #[Operand.tmp 16], argTypes := #[44] }, type := 9, pos := "ref.go:14", after := #[{ on := 7, ground := Ground.data }], guard := none } : Oper)) rfl (fun K hK => ?_) AllReadyH.nil)
      · go_simp
        refine hK.out _ _ (mk5 _ (hS5.alloc hS5.size _)) (fun hS6 => ?_)
        clear hK K
        (try simp only [Act.put, List.setIfInBounds_toArray, List.set_cons_zero, List.set_cons_succ])
        refine wpAnyH_more (S' := (fun W => Below w5.heap.size w5 W ∧ W.cell? ⟨w5.heap.size, 0, none⟩ = some (.int .u8 (c.toNat : Int)))) (fun _ h => h.1) _ _ _ _ ?_
        replace hS6 : (fun W => Below w5.heap.size w5 W ∧ W.cell? ⟨w5.heap.size, 0, none⟩ = some (.int .u8 (c.toNat : Int))) (World.alloc w5 (.cells #[.int .u8 (c.toNat : Int)] 5)) := ⟨hS6, by simp⟩
        generalize World.alloc w5 (.cells #[.int .u8 (c.toNat : Int)] 5) = w6 at *
        refine wpAnyH_take (i := 5) (oi := ({ dst := some 14, op := Op.convert 65 9 (Operand.tmp 13), type := 9, pos := "ref.go:14", after := #[{ on := 4, ground := Ground.data }], guard := none } : Oper)) (v := ?_) rfl (by kernel_rfl) (by kernel_rfl) (by kernel_rfl) (fun _ _ _ h => h) (Or.inl ⟨by rfl, ?_⟩) hS6 ?_
        rotate_left
        · intro w hSw; (try dsimp only at hSw); go_simp; (try with_reducible rfl)
        simp only [Act.put, List.setIfInBounds_toArray, List.set_cons_zero, List.set_cons_succ]
        refine wpAnyH_ready (rs := [8]) (by kernel_rfl) (by simp) ?_
        refine AllReadyH.cons (o := ({ dst := some 17, op := Op.call { callee := Callee.value (Operand.func 34), args := #[Operand.tmp 16], argTypes := #[44] }, type := 9, pos := "ref.go:14", after := #[{ on := 7, ground := Ground.data }], guard := none } : Oper)) rfl (fun K hK => ?_) AllReadyH.nil
        go_simp
        refine (IH.out _).mono ?_; rintro e w7 ⟨rfl, hb7⟩
        go_wp2_with fail
        refine hK.out _ _ ⟨(hnext hS6.1 hb7), hkeep hS6.2 hb7⟩ (fun hS7 => ?_)
        clear hK K
        (try simp only [Act.put, List.setIfInBounds_toArray, List.set_cons_zero, List.set_cons_succ])
        clear hb7 hS6
        refine wpAnyH_take (i := 9) (oi := ({ dst := some 18, op := Op.binOp BinOp.add 9 (Operand.tmp 14) (Operand.tmp 17) 9, type := 9, pos := "ref.go:14", after := #[{ on := 5, ground := Ground.data }, { on := 8, ground := Ground.data }], guard := none } : Oper)) (v := ?_) rfl (by kernel_rfl) (by kernel_rfl) (by kernel_rfl) (fun _ _ _ h => h) (Or.inl ⟨by rfl, ?_⟩) hS7 ?_
        rotate_left
        · intro w hSw; (try dsimp only at hSw); go_simp; (try with_reducible rfl)
        simp only [Act.put, List.setIfInBounds_toArray, List.set_cons_zero, List.set_cons_succ]
        refine wpAnyH_take (i := 10) (oi := ({ dst := some 2, op := Op.assign (Operand.tmp 18), type := 9, pos := "ref.go:14", after := #[{ on := 9, ground := Ground.data }, { on := 8, ground := Ground.chain }, { on := 0, ground := Ground.phase }, { on := 1, ground := Ground.phase }, { on := 2, ground := Ground.phase }, { on := 3, ground := Ground.phase }, { on := 4, ground := Ground.phase }, { on := 5, ground := Ground.phase }, { on := 6, ground := Ground.phase }, { on := 7, ground := Ground.phase }, { on := 8, ground := Ground.phase }, { on := 9, ground := Ground.phase }], guard := none } : Oper)) (v := ?_) rfl (by kernel_rfl) (by kernel_rfl) (by kernel_rfl) (fun _ _ _ h => h) (Or.inl ⟨by rfl, ?_⟩) hS7 ?_
        rotate_left
        · intro w hSw; (try dsimp only at hSw); go_simp; (try with_reducible rfl)
        simp only [Act.put, List.setIfInBounds_toArray, List.set_cons_zero, List.set_cons_succ]
        refine wpAnyH_done (by kernel_rfl) ?_ _
        go_wp2_with fail
        go_ret
        rw [HE.out]
        exact ⟨ret_str (by rw [bstr_append]; rfl), hnext hd5 hS7.1⟩
      · go_simp
        refine (IH.out _).mono ?_; rintro e w6 ⟨rfl, hb6⟩
        go_wp2_with fail
        refine hK.out _ _ (mk5 _ (hnext hS5 hb6)) (fun hS6 => ?_)
        clear hK K
        (try simp only [Act.put, List.setIfInBounds_toArray, List.set_cons_zero, List.set_cons_succ])
        clear hb6 hS5
        refine wpAnyH_ready (rs := [4]) (by kernel_rfl) (by simp) ?_
        refine AllReadyH.cons (o := ({ dst := some 13, op := Op.buildSlice 65 1 #[(0, Operand.tmp 12)], type := 65, pos := "ref.go:14", after := #[{ on := 3, ground := Ground.data }], guard := none } : Oper)) rfl (fun K hK => ?_) AllReadyH.nil
        go_simp
        refine hK.out _ _ (mk5 _ (hS6.alloc hS6.size _)) (fun hS7 => ?_)
        clear hK K
        (try simp only [Act.put, List.setIfInBounds_toArray, List.set_cons_zero, List.set_cons_succ])
        refine wpAnyH_more (S' := (fun W => Below w5.heap.size w5 W ∧ W.cell? ⟨w6.heap.size, 0, none⟩ = some (.int .u8 (c.toNat : Int)))) (fun _ h => h.1) _ _ _ _ ?_
        replace hS7 : (fun W => Below w5.heap.size w5 W ∧ W.cell? ⟨w6.heap.size, 0, none⟩ = some (.int .u8 (c.toNat : Int))) (World.alloc w6 (.cells #[.int .u8 (c.toNat : Int)] 5)) := ⟨hS7, by simp⟩
        generalize World.alloc w6 (.cells #[.int .u8 (c.toNat : Int)] 5) = w7 at *
        refine wpAnyH_take (i := 5) (oi := ({ dst := some 14, op := Op.convert 65 9 (Operand.tmp 13), type := 9, pos := "ref.go:14", after := #[{ on := 4, ground := Ground.data }], guard := none } : Oper)) (v := ?_) rfl (by kernel_rfl) (by kernel_rfl) (by kernel_rfl) (fun _ _ _ h => h) (Or.inl ⟨by rfl, ?_⟩) hS7 ?_
        rotate_left
        · intro w hSw; (try dsimp only at hSw); go_simp; (try with_reducible rfl)
        simp only [Act.put, List.setIfInBounds_toArray, List.set_cons_zero, List.set_cons_succ]
        refine wpAnyH_take (i := 9) (oi := ({ dst := some 18, op := Op.binOp BinOp.add 9 (Operand.tmp 14) (Operand.tmp 17) 9, type := 9, pos := "ref.go:14", after := #[{ on := 5, ground := Ground.data }, { on := 8, ground := Ground.data }], guard := none } : Oper)) (v := ?_) rfl (by kernel_rfl) (by kernel_rfl) (by kernel_rfl) (fun _ _ _ h => h) (Or.inl ⟨by rfl, ?_⟩) hS7 ?_
        rotate_left
        · intro w hSw; (try dsimp only at hSw); go_simp; (try with_reducible rfl)
        simp only [Act.put, List.setIfInBounds_toArray, List.set_cons_zero, List.set_cons_succ]
        refine wpAnyH_take (i := 10) (oi := ({ dst := some 2, op := Op.assign (Operand.tmp 18), type := 9, pos := "ref.go:14", after := #[{ on := 9, ground := Ground.data }, { on := 8, ground := Ground.chain }, { on := 0, ground := Ground.phase }, { on := 1, ground := Ground.phase }, { on := 2, ground := Ground.phase }, { on := 3, ground := Ground.phase }, { on := 4, ground := Ground.phase }, { on := 5, ground := Ground.phase }, { on := 6, ground := Ground.phase }, { on := 7, ground := Ground.phase }, { on := 8, ground := Ground.phase }, { on := 9, ground := Ground.phase }], guard := none } : Oper)) (v := ?_) rfl (by kernel_rfl) (by kernel_rfl) (by kernel_rfl) (fun _ _ _ h => h) (Or.inl ⟨by rfl, ?_⟩) hS7 ?_
        rotate_left
        · intro w hSw; (try dsimp only at hSw); go_simp; (try with_reducible rfl)
        simp only [Act.put, List.setIfInBounds_toArray, List.set_cons_zero, List.set_cons_succ]
        refine wpAnyH_done (by kernel_rfl) ?_ _
        go_wp2_with fail
        go_ret
        rw [HE.out]
        exact ⟨ret_str (by rw [bstr_append]; rfl), hnext hd5 hS7.1⟩
    · have hE := hid (Cd.encF_small (f + 1) (show m < 128 by omega))
      have hlt' : (m : Int) < 128 := by omega
      have hst := fun W => run_string_one (P := Try.prog) W 65 9 5 _ _ (one_val m (by omega)) Try.underlying65 Try.underlying5 Try.underlying9
      rw [show (m : Int) % 256 = m from by omega, Int.toNat_natCast] at hst
      clear hm hm2 ih
      go_enter Try.func34, Try.ntmps34
      go_wp2
      go_ret
      rw [hE.out]
      exact ⟨rfl, hba w _⟩
end Go.Proofs.Ytmgafcblbbbanaa
