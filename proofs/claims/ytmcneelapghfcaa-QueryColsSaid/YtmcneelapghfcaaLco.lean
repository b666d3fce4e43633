/-
  QueryCols answers true at any row and any bytes. No condition.
-/
import Derived.Test.YtmcneelapghfcaaRo
import Derived.Test.YtmcneelapghfcaaPc
namespace Go.Proofs.Ytmcneelapghfcaa
open Go.RowKit Pd Qu

set_option maxRecDepth 100000 in
set_option maxHeartbeats 12800000 in
theorem queryCols_walk (v : Value) (row : List Cd.V) (u : Value) (cols : List Nat) (w : World) (hr : RsAt w v row ∧ ∀ x ∈ row, Vok x) (hc : cols.length ≤ maxLen ∧ UsAt w u cols ∧ ∀ x ∈ cols, x < 256) :
    Calls Try.prog 7 #[v, u] w fun e w' => e = .returned (.bool true) ∧ Below w.heap.size w w' := by
  obtain ⟨hrs, hrk⟩ := hr
  obtain ⟨hcl, hus, hub⟩ := hc
  obtain ⟨ra, rc, rfl⟩ := vs_slc hrs.1
  obtain ⟨ua, uc, rfl⟩ : ∃ ua uc, u = .slice ua cols.length uc := by obtain ⟨a, c, rfl, _⟩ := hus; exact ⟨a, c, rfl⟩
  have HR0 := hid hrs
  have HU0 := hid hus
  have HUB := hid hub
  clear hrs hrk hus hub hcl
  by_cases h1 : row.length ≤ 40
  case neg =>
    have h1' : (40 : Int) < (row.length : Int) := by omega
    clear h1
    go_enter Try.func7, Try.ntmps7
    go_wp2_with fail
    refine (known_any _).mono ?_; rintro e w9 ⟨rfl, b9⟩
    go_wp2
    go_ret
    exact ⟨rfl, b9⟩
  have h1' : ¬ (40 : Int) < (row.length : Int) := by omega
  by_cases h2 : cols.length ≤ 60
  case neg =>
    have h2' : (60 : Int) < (cols.length : Int) := by omega
    clear h2
    go_enter Try.func7, Try.ntmps7
    go_wp2_with fail
    refine (known_any _).mono ?_; rintro e w9 ⟨rfl, b9⟩
    go_wp2
    go_ret
    exact ⟨rfl, b9⟩
  have h2' : ¬ (60 : Int) < (cols.length : Int) := by omega
  have H1 := hid h1
  have H2 := hid h2
  clear h1 h2
  go_enter Try.func7, Try.ntmps7
  go_wp2_with fail
  go_loopw [5] (fun i wr => ∃ k : Nat, k ≤ row.length ∧ i = .int .i64 (k : Int) ∧ wr = w) (fun i _ => row.length - (intOf i).toNat)
  case atStart => exact ⟨0, by omega, rfl, rfl⟩
  case round =>
    obtain ⟨k, hk, rfl, rfl⟩ := hrel
    obtain ⟨w, rfl⟩ : ∃ w2 : World, w2 = wr := ⟨_, rfl⟩
    have hk0 : (0 : Int) ≤ (k : Int) := by omega
    by_cases hkl : k < row.length
    · have hkl' : (k : Int) < (row.length : Int) := by omega
      obtain ⟨_, _, e1, hc1⟩ := HR0.out.1
      cases e1
      obtain ⟨g, off, rfl, _, _, _, u3⟩ := hc1 k hkl
      clear hc1
      generalize row[k].s = rs at u3
      by_cases h3 : 300 < rs.size
      · have h3' : (300 : Int) < (rs.size : Int) := by omega
        clear h3
        go_wp2_with fail
        refine (known_any _).mono ?_; rintro e w9 ⟨rfl, b9⟩
        go_wp2
        go_ret
        exact ⟨rfl, b9⟩
      · have h3' : ¬ (300 : Int) < (rs.size : Int) := by omega
        clear h3
        go_wp2_with fail
        go_roundw
        case rel => exact ⟨k + 1, by omega, by first | rfl | go_num, by first | rfl | trivial⟩
        case measure => simp [intOf]; omega
    · have hkl' : ¬ (k : Int) < (row.length : Int) := by omega
      clear hkl hk hk0
      go_wp2_with fail
      have b1 := hba w (.cells #[.int .i64 0, .string ⟨#[]⟩, .slice none 0 0, .int .i64 0, .int .i64 0, .int .i64 0, .int .i64 0, .slice none 0 0, .slice none 0 0, .int .i64 0, .bool false] 28)
      have b2 := hba (w.alloc (.cells #[.int .i64 0, .string ⟨#[]⟩, .slice none 0 0, .int .i64 0, .int .i64 0, .int .i64 0, .int .i64 0, .slice none 0 0, .slice none 0 0, .int .i64 0, .bool false] 28)) (.cells #[.int .i64 0, .string ⟨#[]⟩, .slice none 0 0, .int .i64 0, .int .i64 0, .int .i64 0, .int .i64 0, .slice none 0 0, .slice none 0 0, .int .i64 0, .bool false] 28)
      have L := hid (hnext b1 b2)
      have BA := hid (keepBlock (heap_alloc_new w (.cells #[.int .i64 0, .string ⟨#[]⟩, .slice none 0 0, .int .i64 0, .int .i64 0, .int .i64 0, .int .i64 0, .slice none 0 0, .slice none 0 0, .int .i64 0, .bool false] 28)) b2)
      have BS := hid (heap_alloc_new (w.alloc (.cells #[.int .i64 0, .string ⟨#[]⟩, .slice none 0 0, .int .i64 0, .int .i64 0, .int .i64 0, .int .i64 0, .slice none 0 0, .slice none 0 0, .int .i64 0, .bool false] 28)) (.cells #[.int .i64 0, .string ⟨#[]⟩, .slice none 0 0, .int .i64 0, .int .i64 0, .int .i64 0, .int .i64 0, .slice none 0 0, .slice none 0 0, .int .i64 0, .bool false] 28))
      have hsz : ∀ (W : World) (o : Obj), (W.alloc o).heap.size = W.heap.size + 1 := fun W o => by simp
      obtain ⟨gx, hgx⟩ : ∃ g, w.heap.size = g := ⟨_, rfl⟩
      have HG := hid hgx
      rw [hgx] at BA
      simp only [hsz, hgx] at BS
      (try simp only [hsz])
      (try simp only [hgx])
      clear hsz hgx b1 b2
      generalize ((w.alloc (.cells #[.int .i64 0, .string ⟨#[]⟩, .slice none 0 0, .int .i64 0, .int .i64 0, .int .i64 0, .int .i64 0, .slice none 0 0, .slice none 0 0, .int .i64 0, .bool false] 28)).alloc (.cells #[.int .i64 0, .string ⟨#[]⟩, .slice none 0 0, .int .i64 0, .int .i64 0, .int .i64 0, .int .i64 0, .slice none 0 0, .slice none 0 0, .int .i64 0, .bool false] 28)) = w1 at *
      have hgl : gx + 1 + 1 ≤ w1.heap.size := Var.lt (cs := #[.int .i64 0, .string ⟨#[]⟩, .slice none 0 0, .int .i64 0, .int .i64 0, .int .i64 0, .int .i64 0, .slice none 0 0, .slice none 0 0, .int .i64 0, .bool false]) (t := 28) BS.out
      have hg0 : w.heap.size = gx := HG.out
      have HGL := hid hgl
      clear hgl hg0
      go_loopw [8] (fun i wr => ∃ (k : Nat) (v : Value), k ≤ row.length ∧ i = .int .i64 (k : Int) ∧ Hid (Below w.heap.size w wr) ∧ Hid (Var wr gx #[.int .i64 0, .string ⟨#[]⟩, .slice none 0 0, .int .i64 0, .int .i64 0, .int .i64 0, .int .i64 0, .slice none 0 0, v, .int .i64 0, .bool false] 28) ∧ Hid (Var wr (gx + 1) #[.int .i64 0, .string ⟨#[]⟩, .slice none 0 0, .int .i64 0, .int .i64 0, .int .i64 0, .int .i64 0, .slice none 0 0, .slice none 0 0, .int .i64 0, .bool false] 28) ∧ Hid (OwnI wr (gx + 1 + 1) v (RG k))) (fun i _ => row.length - (intOf i).toNat)
      case atStart => exact ⟨0, _, by omega, rfl, L, BA, BS, OwnI.nil _ _⟩
      case round =>
        obtain ⟨k, v, hk, rfl, HL, HA, HS, HO⟩ := hrel
        obtain ⟨w5, rfl⟩ : ∃ w5 : World, w5 = wr := ⟨_, rfl⟩
        clear L BA BS
        obtain ⟨va, vc, hv⟩ := own_cut HO.out
        rw [RG_len] at hv
        subst hv
        have hk0 : (0 : Int) ≤ (k : Int) := by omega
        by_cases hkl : k < row.length
        · have hkl' : (k : Int) < (row.length : Int) := by omega
          have x8 : w5.cell? ⟨gx, 8, none⟩ = some (.slice va k vc) := HA.out.cell 8
          have hgs : gx + 1 < w5.heap.size := HS.out.lt
          go_wp2_with (at_builtin; go_loud (refine append_int_in w5 rfl _ _ rfl (gx + 1 + 1) (.slice va k vc) (RG k) (by go_simp) HO.out (k : Int) w5.heap.size rfl (by go_simp) (by rw [RG_len]; have := H1.out; omega) hgs ?_; intro v7 w7 own7 gr7; have hown : ∀ q, (Value.slice va k vc).ownBlock = some q → gx + 1 + 1 ≤ q := (fun q e => (World.ownsRow.lt HO.out q e).1); have HL7 := hid (HL.out.grown gr7 HL.out.size (fun q e => by have := hown q e; have := HG.out; omega)); have HA7 := hid (HA.out.grown gr7 (fun q e => by have := hown q e; omega)); have HS7 := hid (HS.out.grown gr7 (fun q e => by have := hown q e; omega)); have HO7 : Hid (OwnI w7 (gx + 1 + 1) v7 (RG (k + 1))) := (by rw [RG_next]; exact own7); obtain ⟨n1, n2, e7⟩ := own_cut HO7.out; rw [RG_len] at e7; subst e7; clear own7 gr7 hown x8 HL HA HS HO; have x8 : w7.cell? ⟨gx, 8, none⟩ = some (.slice va k vc) := HA7.out.cell 8; have f8 : w7.frozen? ⟨gx, 8, none⟩ = false := HA7.out.free 8))
          have HL8 := hid (HL7.out.setCell (p := ⟨gx, 8, none⟩) (by show w.heap.size ≤ gx; have := HG.out; omega) (.slice n1 (k + 1) n2))
          have HA8 : Hid (Var (w7.setCell ⟨gx, 8, none⟩ (.slice n1 (k + 1) n2)) gx #[.int .i64 0, .string ⟨#[]⟩, .slice none 0 0, .int .i64 0, .int .i64 0, .int .i64 0, .int .i64 0, .slice none 0 0, .slice n1 (k + 1) n2, .int .i64 0, .bool false] 28) := HA7.out.set 8 _
          have HS8 := hid (Var.setO (r := gx) (o := 8) HS7.out (.slice n1 (k + 1) n2) (by omega))
          have HO8 : Hid (OwnI (w7.setCell ⟨gx, 8, none⟩ (.slice n1 (k + 1) n2)) (gx + 1 + 1) (.slice n1 (k + 1) n2) (RG (k + 1))) := own_setO HO7.out (by omega)
          clear HL7 HA7 HS7 HO7 x8 f8
          go_wp2_with fail
          go_roundw
          case rel => exact ⟨k + 1, _, by omega, by first | rfl | go_num, HL8, HA8, HS8, HO8⟩
          case measure => simp [intOf]; omega
        · obtain rfl : k = row.length := by omega
          clear hkl hk hk0
          go_wp2_with fail
          obtain ⟨w6, rfl⟩ : ∃ w6 : World, w6 = w5 := ⟨_, rfl⟩
          obtain ⟨B6, hB6⟩ : ∃ B6, w6.heap.size = B6 := ⟨_, rfl⟩
          have HB6 := hid hB6
          have HGB : Hid (gx + 1 < B6) := by show _ < _; rw [← hB6]; exact HS.out.lt
          clear hB6
          go_loopw [9] (fun i wr => ∃ (k : Nat) (v : Value), k ≤ cols.length ∧ i = .int .i64 (k : Int) ∧ Hid (Upd (gx + 1) w6 wr) ∧ Hid (Var wr (gx + 1) #[.int .i64 0, .string ⟨#[]⟩, .slice none 0 0, .int .i64 0, .int .i64 0, .int .i64 0, .int .i64 0, .slice none 0 0, v, .int .i64 0, .bool false] 28) ∧ Hid (OwnI wr B6 v (CG cols k)) ∧ Hid (B6 ≤ wr.heap.size)) (fun i _ => cols.length - (intOf i).toNat)
          case atStart => exact ⟨0, _, by omega, rfl, Upd.refl _ _, HS, OwnI.nil _ _, Nat.le_of_eq HB6.out.symm⟩
          case round =>
            obtain ⟨k, v, hk, rfl, HX, HS5, HO5, HB5⟩ := hrel
            obtain ⟨w5, rfl⟩ : ∃ w5 : World, w5 = wr := ⟨_, rfl⟩
            clear HS
            obtain ⟨sa, sc, hv⟩ := own_cut HO5.out
            rw [CG_len hk] at hv
            subst hv
            have hk0 : (0 : Int) ≤ (k : Int) := by omega
            have HU5 : Hid (UsAt w5 (.slice ua cols.length uc) cols) := HU0.out.below (Upd.below HL.out HX.out (by have := HG.out; omega) HL.out.size)
            by_cases hkl : k < cols.length
            · have hkl' : (k : Int) < (cols.length : Int) := by omega
              obtain ⟨_, _, e1, hc1⟩ := HU5.out
              cases e1
              obtain ⟨ug, uo, rfl, q0⟩ := hc1 k hkl
              have hlt := HUB.out cols[k] (List.getElem_mem hkl)
              obtain ⟨cz, hcz⟩ : ∃ z : Int, (cols[k] : Int) - 4 = z := ⟨_, rfl⟩
              have HCZ := hid hcz
              generalize cols[k] = cb at q0 hlt hcz
              have hcv : IntKind.i64.wrap (cb : Int) = (cb : Int) := by rw [IntKind.wrap_i64]; omega
              have hcw : IntKind.i64.wrap ((cb : Int) - 4) = cz := by rw [IntKind.wrap_i64]; omega
              clear hc1 HU5 hcz hlt
              go_wp2_with fail
              refine wp_region_held_drew (S := fun _ => True) (by kernel_rfl) trivial (fun hS => ?_)
              obtain ⟨w20, hw20⟩ : ∃ w20, w5.drew = w20 := ⟨_, rfl⟩
              have hd20 : Below w5.heap.size w5 w20 := hw20 ▸ (Below.refl _ _).drew
              rw [hw20]
              have HX20 := hid (HX.out.trans (Upd.of hd20))
              have HS20 : Hid (Var w20 (gx + 1) #[.int .i64 0, .string ⟨#[]⟩, .slice none 0 0, .int .i64 0, .int .i64 0, .int .i64 0, .int .i64 0, .slice none 0 0, .slice sa k sc, .int .i64 0, .bool false] 28) := HS5.out.keep hd20
              have HO20 : Hid (OwnI w20 B6 (.slice sa k sc) (CG cols k)) := own_below HO5.out hd20
              have HB20 : Hid (B6 ≤ w20.heap.size) := Nat.le_trans HB5.out hd20.size
              have Q20 := hid (hkeep q0 hd20)
              clear hd20 hw20 HX HS5 HO5 HB5 q0
              refine wT 0 hS ?_
              refine wT 2 hS ?_
              refine wT 3 hS ?_
              refine wT 4 hS ?_
              refine wpAnyH_ready (rs := [1, 5]) (by kernel_rfl) (by simp) ?_
              refine wC (fun K hK => ?_) (wC (fun K hK => ?_) AllReadyH.nil)
              · have x8 : w20.cell? ⟨gx + 1, 8, none⟩ = some (.slice sa k sc) := HS20.out.cell 8
                go_simp
                refine hK.out _ _ trivial (fun _ => ?_)
                clear hK K
                (try simp only [Act.put, List.setIfInBounds_toArray, List.set_cons_zero, List.set_cons_succ])
                clear x8
                refine wpAnyH_ready (rs := [5]) (by kernel_rfl) (by simp) ?_
                refine wC (fun K hK => ?_) AllReadyH.nil
                have q0 := Q20.out
                go_simp
                refine hK.out _ _ trivial (fun _ => ?_)
                clear hK K
                (try simp only [Act.put, List.setIfInBounds_toArray, List.set_cons_zero, List.set_cons_succ])
                clear q0
                refine wT 6 hS ?_
                refine wT 7 hS ?_
                refine wpAnyH_ready (rs := [8]) (by kernel_rfl) (by simp) ?_
                refine wC (fun K hK => ?_) AllReadyH.nil
                go_simp
                refine hK.out _ _ trivial (fun _ => ?_)
                clear hK K
                (try simp only [Act.put, List.setIfInBounds_toArray, List.set_cons_zero, List.set_cons_succ])
                refine wpAnyH_ready (rs := [9]) (by kernel_rfl) (by simp) ?_
                refine wC (fun K hK => ?_) AllReadyH.nil
                refine append_int_wp w20 _ _ rfl B6 (.slice sa k sc) (CG cols k) (by go_simp) HO20.out cz w20.heap.size rfl (by go_simp) (by rw [CG_len hk]; have := H2.out; omega) HB20.out ?_
                intro v7 w7 own7 gr7
                have hown : ∀ q, (Value.slice sa k sc).ownBlock = some q → B6 ≤ q := (fun q e => (World.ownsRow.lt HO20.out q e).1)
                have HU7 := hid (upd_grown HX20.out gr7 (fun q e => by have := hown q e; have := HB6.out; omega))
                have HS7 := hid (HS20.out.grown gr7 (fun q e => by have := hown q e; have := HGB.out; omega))
                have HB7 : Hid (B6 ≤ w7.heap.size) := Nat.le_trans HB20.out gr7.size
                have HO7 : Hid (OwnI w7 B6 v7 (CG cols (k + 1))) := by show OwnI _ _ _ _; rw [CG_next hkl, HCZ.out]; exact own7
                obtain ⟨n1, n2, e7⟩ := own_cut HO7.out
                rw [CG_len hkl] at e7
                subst e7
                clear own7 gr7 hown HX20 HS20 HO20 HB20 Q20
                have x8 : w7.cell? ⟨gx + 1, 8, none⟩ = some (.slice sa k sc) := HS7.out.cell 8
                have f8 : w7.frozen? ⟨gx + 1, 8, none⟩ = false := HS7.out.free 8
                refine hK.out _ _ trivial (fun _ => ?_)
                clear hK K
                (try simp only [Act.put, List.setIfInBounds_toArray, List.set_cons_zero, List.set_cons_succ])
                refine wT 10 hS ?_
                refine wpAnyH_ready (rs := [11]) (by kernel_rfl) (by simp) ?_
                refine wC (fun K hK => ?_) AllReadyH.nil
                go_simp
                refine hK.out _ _ trivial (fun _ => ?_)
                clear hK K
                (try simp only [Act.put, List.setIfInBounds_toArray, List.set_cons_zero, List.set_cons_succ])
                refine wpAnyH_done (by kernel_rfl) ?_ _
                have HU8 : Hid (Upd (gx + 1) w6 (w7.setCell ⟨gx + 1, 8, none⟩ (.slice n1 (k + 1) n2))) := HU7.out.trans (Upd.set _ _ _ _)
                have HS8 : Hid (Var (w7.setCell ⟨gx + 1, 8, none⟩ (.slice n1 (k + 1) n2)) (gx + 1) #[.int .i64 0, .string ⟨#[]⟩, .slice none 0 0, .int .i64 0, .int .i64 0, .int .i64 0, .int .i64 0, .slice none 0 0, .slice n1 (k + 1) n2, .int .i64 0, .bool false] 28) := HS7.out.set 8 _
                have HO8 : Hid (OwnI (w7.setCell ⟨gx + 1, 8, none⟩ (.slice n1 (k + 1) n2)) B6 (.slice n1 (k + 1) n2) (CG cols (k + 1))) := own_setO HO7.out (by have := HGB.out; omega)
                have HB8 : Hid (B6 ≤ (w7.setCell ⟨gx + 1, 8, none⟩ (.slice n1 (k + 1) n2)).heap.size) := by show _ ≤ _; simpa using HB7.out
                clear HU7 HS7 HO7 HB7 x8 f8
                go_wp2_with fail
                go_roundw
                case rel => exact ⟨k + 1, _, by omega, by first | rfl | go_num, HU8, HS8, HO8, HB8⟩
                case measure => simp [intOf] <;> omega
              · have q0 := Q20.out
                go_simp
                refine hK.out _ _ trivial (fun _ => ?_)
                clear hK K
                (try simp only [Act.put, List.setIfInBounds_toArray, List.set_cons_zero, List.set_cons_succ])
                clear q0
                refine wT 6 hS ?_
                refine wT 7 hS ?_
                refine wpAnyH_ready (rs := [1, 8]) (by kernel_rfl) (by simp) ?_
                refine wC (fun K hK => ?_) (wC (fun K hK => ?_) AllReadyH.nil)
                · have x8 : w20.cell? ⟨gx + 1, 8, none⟩ = some (.slice sa k sc) := HS20.out.cell 8
                  go_simp
                  refine hK.out _ _ trivial (fun _ => ?_)
                  clear hK K
                  (try simp only [Act.put, List.setIfInBounds_toArray, List.set_cons_zero, List.set_cons_succ])
                  clear x8
                  refine wpAnyH_ready (rs := [8]) (by kernel_rfl) (by simp) ?_
                  refine wC (fun K hK => ?_) AllReadyH.nil
                  go_simp
                  refine hK.out _ _ trivial (fun _ => ?_)
                  clear hK K
                  (try simp only [Act.put, List.setIfInBounds_toArray, List.set_cons_zero, List.set_cons_succ])
                  refine wpAnyH_ready (rs := [9]) (by kernel_rfl) (by simp) ?_
                  refine wC (fun K hK => ?_) AllReadyH.nil
                  refine append_int_wp w20 _ _ rfl B6 (.slice sa k sc) (CG cols k) (by go_simp) HO20.out cz w20.heap.size rfl (by go_simp) (by rw [CG_len hk]; have := H2.out; omega) HB20.out ?_
                  intro v7 w7 own7 gr7
                  have hown : ∀ q, (Value.slice sa k sc).ownBlock = some q → B6 ≤ q := (fun q e => (World.ownsRow.lt HO20.out q e).1)
                  have HU7 := hid (upd_grown HX20.out gr7 (fun q e => by have := hown q e; have := HB6.out; omega))
                  have HS7 := hid (HS20.out.grown gr7 (fun q e => by have := hown q e; have := HGB.out; omega))
                  have HB7 : Hid (B6 ≤ w7.heap.size) := Nat.le_trans HB20.out gr7.size
                  have HO7 : Hid (OwnI w7 B6 v7 (CG cols (k + 1))) := by show OwnI _ _ _ _; rw [CG_next hkl, HCZ.out]; exact own7
                  obtain ⟨n1, n2, e7⟩ := own_cut HO7.out
                  rw [CG_len hkl] at e7
                  subst e7
                  clear own7 gr7 hown HX20 HS20 HO20 HB20 Q20
                  have x8 : w7.cell? ⟨gx + 1, 8, none⟩ = some (.slice sa k sc) := HS7.out.cell 8
                  have f8 : w7.frozen? ⟨gx + 1, 8, none⟩ = false := HS7.out.free 8
                  refine hK.out _ _ trivial (fun _ => ?_)
                  clear hK K
                  (try simp only [Act.put, List.setIfInBounds_toArray, List.set_cons_zero, List.set_cons_succ])
                  refine wT 10 hS ?_
                  refine wpAnyH_ready (rs := [11]) (by kernel_rfl) (by simp) ?_
                  refine wC (fun K hK => ?_) AllReadyH.nil
                  go_simp
                  refine hK.out _ _ trivial (fun _ => ?_)
                  clear hK K
                  (try simp only [Act.put, List.setIfInBounds_toArray, List.set_cons_zero, List.set_cons_succ])
                  refine wpAnyH_done (by kernel_rfl) ?_ _
                  have HU8 : Hid (Upd (gx + 1) w6 (w7.setCell ⟨gx + 1, 8, none⟩ (.slice n1 (k + 1) n2))) := HU7.out.trans (Upd.set _ _ _ _)
                  have HS8 : Hid (Var (w7.setCell ⟨gx + 1, 8, none⟩ (.slice n1 (k + 1) n2)) (gx + 1) #[.int .i64 0, .string ⟨#[]⟩, .slice none 0 0, .int .i64 0, .int .i64 0, .int .i64 0, .int .i64 0, .slice none 0 0, .slice n1 (k + 1) n2, .int .i64 0, .bool false] 28) := HS7.out.set 8 _
                  have HO8 : Hid (OwnI (w7.setCell ⟨gx + 1, 8, none⟩ (.slice n1 (k + 1) n2)) B6 (.slice n1 (k + 1) n2) (CG cols (k + 1))) := own_setO HO7.out (by have := HGB.out; omega)
                  have HB8 : Hid (B6 ≤ (w7.setCell ⟨gx + 1, 8, none⟩ (.slice n1 (k + 1) n2)).heap.size) := by show _ ≤ _; simpa using HB7.out
                  clear HU7 HS7 HO7 HB7 x8 f8
                  go_wp2_with fail
                  go_roundw
                  case rel => exact ⟨k + 1, _, by omega, by first | rfl | go_num, HU8, HS8, HO8, HB8⟩
                  case measure => simp [intOf] <;> omega
                · go_simp
                  refine hK.out _ _ trivial (fun _ => ?_)
                  clear hK K
                  (try simp only [Act.put, List.setIfInBounds_toArray, List.set_cons_zero, List.set_cons_succ])
                  refine wpAnyH_ready (rs := [1]) (by kernel_rfl) (by simp) ?_
                  refine wC (fun K hK => ?_) AllReadyH.nil
                  have x8 : (w20.alloc (.cells #[.int .i64 cz] 3)).cell? ⟨gx + 1, 8, none⟩ = some (.slice sa k sc) := hkeep (HS20.out.cell 8) (hba w20 _)
                  go_simp
                  refine hK.out _ _ trivial (fun _ => ?_)
                  clear hK K
                  (try simp only [Act.put, List.setIfInBounds_toArray, List.set_cons_zero, List.set_cons_succ])
                  clear x8
                  refine wpAnyH_ready (rs := [9]) (by kernel_rfl) (by simp) ?_
                  refine wC (fun K hK => ?_) AllReadyH.nil
                  refine append_int_wp w20 _ _ rfl B6 (.slice sa k sc) (CG cols k) (by go_simp) HO20.out cz w20.heap.size rfl (by go_simp) (by rw [CG_len hk]; have := H2.out; omega) HB20.out ?_
                  intro v7 w7 own7 gr7
                  have hown : ∀ q, (Value.slice sa k sc).ownBlock = some q → B6 ≤ q := (fun q e => (World.ownsRow.lt HO20.out q e).1)
                  have HU7 := hid (upd_grown HX20.out gr7 (fun q e => by have := hown q e; have := HB6.out; omega))
                  have HS7 := hid (HS20.out.grown gr7 (fun q e => by have := hown q e; have := HGB.out; omega))
                  have HB7 : Hid (B6 ≤ w7.heap.size) := Nat.le_trans HB20.out gr7.size
                  have HO7 : Hid (OwnI w7 B6 v7 (CG cols (k + 1))) := by show OwnI _ _ _ _; rw [CG_next hkl, HCZ.out]; exact own7
                  obtain ⟨n1, n2, e7⟩ := own_cut HO7.out
                  rw [CG_len hkl] at e7
                  subst e7
                  clear own7 gr7 hown HX20 HS20 HO20 HB20 Q20
                  have x8 : w7.cell? ⟨gx + 1, 8, none⟩ = some (.slice sa k sc) := HS7.out.cell 8
                  have f8 : w7.frozen? ⟨gx + 1, 8, none⟩ = false := HS7.out.free 8
                  refine hK.out _ _ trivial (fun _ => ?_)
                  clear hK K
                  (try simp only [Act.put, List.setIfInBounds_toArray, List.set_cons_zero, List.set_cons_succ])
                  refine wT 10 hS ?_
                  refine wpAnyH_ready (rs := [11]) (by kernel_rfl) (by simp) ?_
                  refine wC (fun K hK => ?_) AllReadyH.nil
                  go_simp
                  refine hK.out _ _ trivial (fun _ => ?_)
                  clear hK K
                  (try simp only [Act.put, List.setIfInBounds_toArray, List.set_cons_zero, List.set_cons_succ])
                  refine wpAnyH_done (by kernel_rfl) ?_ _
                  have HU8 : Hid (Upd (gx + 1) w6 (w7.setCell ⟨gx + 1, 8, none⟩ (.slice n1 (k + 1) n2))) := HU7.out.trans (Upd.set _ _ _ _)
                  have HS8 : Hid (Var (w7.setCell ⟨gx + 1, 8, none⟩ (.slice n1 (k + 1) n2)) (gx + 1) #[.int .i64 0, .string ⟨#[]⟩, .slice none 0 0, .int .i64 0, .int .i64 0, .int .i64 0, .int .i64 0, .slice none 0 0, .slice n1 (k + 1) n2, .int .i64 0, .bool false] 28) := HS7.out.set 8 _
                  have HO8 : Hid (OwnI (w7.setCell ⟨gx + 1, 8, none⟩ (.slice n1 (k + 1) n2)) B6 (.slice n1 (k + 1) n2) (CG cols (k + 1))) := own_setO HO7.out (by have := HGB.out; omega)
                  have HB8 : Hid (B6 ≤ (w7.setCell ⟨gx + 1, 8, none⟩ (.slice n1 (k + 1) n2)).heap.size) := by show _ ≤ _; simpa using HB7.out
                  clear HU7 HS7 HO7 HB7 x8 f8
                  go_wp2_with fail
                  go_roundw
                  case rel => exact ⟨k + 1, _, by omega, by first | rfl | go_num, HU8, HS8, HO8, HB8⟩
                  case measure => simp [intOf] <;> omega
            · obtain rfl : k = cols.length := by omega
              clear hkl hk hk0
              have hL7 := Upd.below HL.out HX.out (by have := HG.out; omega) HL.out.size
              have HL7 := hid hL7
              have HA7 : Hid (Var w5 gx #[.int .i64 0, .string ⟨#[]⟩, .slice none 0 0, .int .i64 0, .int .i64 0, .int .i64 0, .int .i64 0, .slice none 0 0, .slice va row.length vc, .int .i64 0, .bool false] 28) := HA.out.upd HX.out (by omega)
              have HOA : Hid (OwnI w5 (gx + 1 + 1) (.slice va row.length vc) (RG row.length)) := own_upd HO.out HX.out (by omega)
              have HR5 := hid (HR0.out.below hL7)
              have HXS := hid (fun W (h : IsAt W (.slice sa cols.length sc) (CG cols cols.length)) (h2 : RsAt W (.slice ra row.length rc) row) => project_any (SQ (CG cols cols.length)) (.slice none 0 0) (.slice none 0 0) (.slice sa cols.length sc) row (.slice ra row.length rc) W ⟨VsAt.own (World.ownsRow_nil _ 0 _ _), ⟨none, 0, rfl, fun k hk => absurd hk (Nat.not_lt_zero k)⟩, h⟩ h2 (by show (CG cols cols.length).length ≤ _; rw [CG_len (Nat.le_refl _)]; have := H2.out; omega) (by have := H1.out; omega))
              have HXA := hid (fun W (h : IsAt W (.slice va row.length vc) (RG row.length)) (h2 : RsAt W (.slice ra row.length rc) row) => project_any (SQ (RG row.length)) (.slice none 0 0) (.slice none 0 0) (.slice va row.length vc) row (.slice ra row.length rc) W ⟨VsAt.own (World.ownsRow_nil _ 0 _ _), ⟨none, 0, rfl, fun k hk => absurd hk (Nat.not_lt_zero k)⟩, h⟩ h2 (by show (RG row.length).length ≤ _; rw [RG_len]; have := H1.out; omega) (by have := H1.out; omega))
              have x0 : w5.cell? ⟨gx + 1, 0, none⟩ = some (.int .i64 0) := cell_of_row _ (gx + 1) 0 _ _ _ HS5.out
              have x1 : w5.cell? ⟨gx + 1, 1, none⟩ = some (.string ⟨#[]⟩) := cell_of_row _ (gx + 1) 1 _ _ _ HS5.out
              have x2 : w5.cell? ⟨gx + 1, 2, none⟩ = some (.slice none 0 0) := cell_of_row _ (gx + 1) 2 _ _ _ HS5.out
              have x3 : w5.cell? ⟨gx + 1, 3, none⟩ = some (.int .i64 0) := cell_of_row _ (gx + 1) 3 _ _ _ HS5.out
              have x4 : w5.cell? ⟨gx + 1, 4, none⟩ = some (.int .i64 0) := cell_of_row _ (gx + 1) 4 _ _ _ HS5.out
              have x5 : w5.cell? ⟨gx + 1, 5, none⟩ = some (.int .i64 0) := cell_of_row _ (gx + 1) 5 _ _ _ HS5.out
              have x6 : w5.cell? ⟨gx + 1, 6, none⟩ = some (.int .i64 0) := cell_of_row _ (gx + 1) 6 _ _ _ HS5.out
              have x7 : w5.cell? ⟨gx + 1, 7, none⟩ = some (.slice none 0 0) := cell_of_row _ (gx + 1) 7 _ _ _ HS5.out
              have x8 : w5.cell? ⟨gx + 1, 8, none⟩ = some (.slice sa cols.length sc) := cell_of_row _ (gx + 1) 8 _ _ _ HS5.out
              have x9 : w5.cell? ⟨gx + 1, 9, none⟩ = some (.int .i64 0) := cell_of_row _ (gx + 1) 9 _ _ _ HS5.out
              have x10 : w5.cell? ⟨gx + 1, 10, none⟩ = some (.bool false) := cell_of_row _ (gx + 1) 10 _ _ _ HS5.out
              clear hL7 HX HL HO HA
              go_wp2_with fail
              refine (HXS.out _ (IsAt.own HO5.out) HR5.out).mono ?_; rintro e w8 ⟨v8, rfl, hv8, b⟩
              have HV8 := hid hv8
              replace HL7 := hid (hnext HL7.out b)
              replace HA7 : Hid (Var w8 gx #[.int .i64 0, .string ⟨#[]⟩, .slice none 0 0, .int .i64 0, .int .i64 0, .int .i64 0, .int .i64 0, .slice none 0 0, .slice va row.length vc, .int .i64 0, .bool false] 28) := keepBlock HA7.out b
              replace HOA : Hid (OwnI w8 (gx + 1 + 1) (.slice va row.length vc) (RG row.length)) := own_below HOA.out b
              replace HR5 := hid (HR5.out.below b)
              replace HU5 : Hid (UsAt w8 (.slice ua cols.length uc) cols) := HU5.out.below b
              clear b hv8 HS5 HO5 HB5 HXS HB6 HGB x0 x1 x2 x3 x4 x5 x6 x7 x8 x9 x10
              by_cases hc0 : 0 < cols.length
              · have hlen : (projL (SQ (CG cols cols.length)) row).length = cols.length := by rw [proj_some row (by rw [CG_len (Nat.le_refl _)]; exact hc0), List.length_map, CG_len (Nat.le_refl _)]
                obtain ⟨la, lc, h8⟩ := vs_slc HV8.out
                rw [hlen] at h8
                subst h8
                have hc1 : (0 : Int) < (cols.length : Int) := by omega
                have hc2 : ((cols.length : Int) == 0) = false := by rw [beq_eq_false_iff_ne]; omega
                go_wp2_with fail
                go_loopw [11] (fun i wr => ∃ k : Nat, k ≤ cols.length ∧ i = .int .i64 (k : Int) ∧ Hid (Below w8.heap.size w8 wr)) (fun i _ => cols.length - (intOf i).toNat)
                case atStart => exact ⟨0, by omega, rfl, Below.refl _ _⟩
                case round =>
                  obtain ⟨k, hk, rfl, HB⟩ := hrel
                  obtain ⟨w10, rfl⟩ : ∃ w10 : World, w10 = wr := ⟨_, rfl⟩
                  have hk0 : (0 : Int) ≤ (k : Int) := by omega
                  by_cases hkl : k < cols.length
                  · have hkl' : (k : Int) < (cols.length : Int) := by omega
                    obtain ⟨_, _, e1, hq1⟩ := HU5.out
                    cases e1
                    obtain ⟨ug, uo, rfl, q0⟩ := hq1 k hkl
                    replace q0 := hkeep q0 HB.out
                    have hlt := HUB.out cols[k] (List.getElem_mem hkl)
                    obtain ⟨_, _, e1, hq2⟩ := HV8.out
                    have hkp : k < (projL (SQ (CG cols cols.length)) row).length := by rw [hlen]; exact hkl
                    obtain ⟨lg, lo, e3, l0, l1, l2, l3⟩ := hq2 k hkp
                    have e4 := e1
                    rw [e3] at e4
                    have e5 : la = some ⟨lg, lo, none⟩ := by injection e4
                    subst e5
                    have hel := proj_at row hkl hkp
                    rw [hel] at l0 l1 l2 l3
                    obtain ⟨cz, hcz⟩ : ∃ z : Int, (cols[k] : Int) - 4 = z := ⟨_, rfl⟩
                    rw [hcz] at l0 l1 l2 l3
                    generalize cols[k] = cb at q0 hlt hcz
                    have hcv : IntKind.i64.wrap (cb : Int) = (cb : Int) := by rw [IntKind.wrap_i64]; omega
                    have hcw : IntKind.i64.wrap ((cb : Int) - 4) = cz := by rw [IntKind.wrap_i64]; omega
                    replace l0 := hkeep l0 HB.out
                    replace l1 := hkeep l1 HB.out
                    replace l2 := hkeep l2 HB.out
                    replace l3 := hkeep l3 HB.out
                    clear hq1 hq2 e1 e3 e4 hel hkp hcz hlt
                    by_cases hz0 : (0 : Int) ≤ cz
                    · by_cases hz1 : cz < (row.length : Int)
                      · obtain ⟨n, rfl⟩ : ∃ n : Nat, cz = (n : Int) := ⟨cz.toNat, by omega⟩
                        have hn : n < row.length := by omega
                        rw [colV_in hn] at l0 l1 l2 l3
                        obtain ⟨_, _, e1, hc3⟩ := HR5.out.1
                        cases e1
                        obtain ⟨rg, ro, rfl, r0, r1, r2, r3⟩ := hc3 n hn
                        clear hc3
                        generalize row[n] = x at l0 l1 l2 l3 r0 r1 r2 r3
                        obtain ⟨xk, xn, xb, xs⟩ := x
                        simp only at l0 l1 l2 l3 r0 r1 r2 r3
                        have hva := va_neq xk xn xb xs xk xn xb xs true (by simp)
                        unfold vv at hva
                        have hb := hba w10 (.cells #[.int .i64 0, .int .i64 0, .int .u64 0, .string ⟨#[]⟩] 36)
                        replace r0 := hkeep (hkeep r0 HB.out) hb
                        replace r1 := hkeep (hkeep r1 HB.out) hb
                        replace r2 := hkeep (hkeep r2 HB.out) hb
                        replace r3 := hkeep (hkeep r3 HB.out) hb
                        clear hb hn
                        go_wp2_with fail
                        have hb2 := hba w10 (.cells #[.int .i64 xk, .int .i64 xn, .int .u64 (xb : Int), .string xs] 36)
                        replace l0 := hkeep l0 hb2
                        replace l1 := hkeep l1 hb2
                        replace l2 := hkeep l2 hb2
                        replace l3 := hkeep l3 hb2
                        replace HB := hid (hnext HB.out hb2)
                        have BT := hid (heap_alloc_new w10 (.cells #[.int .i64 xk, .int .i64 xn, .int .u64 (xb : Int), .string xs] 36))
                        obtain ⟨gt, hgt⟩ : ∃ gt, w10.heap.size = gt := ⟨_, rfl⟩
                        rw [hgt] at BT
                        (try rw [hgt])
                        clear hb2 hgt
                        (try clear r0 r1 r2 r3)
                        generalize w10.alloc (.cells #[.int .i64 xk, .int .i64 xn, .int .u64 (xb : Int), .string xs] 36) = w11 at *
                        have t0 : w11.cell? ⟨gt, 0, none⟩ = some (.int .i64 xk) := cell_of_row _ (gt) 0 _ _ _ BT.out
                        have t1 : w11.cell? ⟨gt, 1, none⟩ = some (.int .i64 xn) := cell_of_row _ (gt) 1 _ _ _ BT.out
                        have t2 : w11.cell? ⟨gt, 2, none⟩ = some (.int .u64 (xb : Int)) := cell_of_row _ (gt) 2 _ _ _ BT.out
                        have t3 : w11.cell? ⟨gt, 3, none⟩ = some (.string xs) := cell_of_row _ (gt) 3 _ _ _ BT.out
                        obtain ⟨w20, hw20⟩ : ∃ w20, (w11).drew = w20 := ⟨_, rfl⟩
                        have hd20 : Below (w11).heap.size (w11) w20 := hw20 ▸ (Below.refl _ _).drew
                        have mk20 : ∀ W, Below w20.heap.size w20 W → Below w20.heap.size w20 W ∧ W.cell? ⟨gt, 0, none⟩ = some (.int .i64 xk) ∧ W.cell? ⟨gt, 1, none⟩ = some (.int .i64 xn) ∧ W.cell? ⟨gt, 2, none⟩ = some (.int .u64 (xb : Int)) ∧ W.cell? ⟨gt, 3, none⟩ = some (.string xs) ∧ W.cell? ⟨lg, lo + k * 4, none⟩ = some (.int .i64 xk) ∧ W.cell? ⟨lg, lo + k * 4 + 1, none⟩ = some (.int .i64 xn) ∧ W.cell? ⟨lg, lo + k * 4 + 2, none⟩ = some (.int .u64 (xb : Int)) ∧ W.cell? ⟨lg, lo + k * 4 + 3, none⟩ = some (.string xs) := fun W h => ⟨h, hkeep (hkeep t0 hd20) h, hkeep (hkeep t1 hd20) h, hkeep (hkeep t2 hd20) h, hkeep (hkeep t3 hd20) h, hkeep (hkeep l0 hd20) h, hkeep (hkeep l1 hd20) h, hkeep (hkeep l2 hd20) h, hkeep (hkeep l3 hd20) h⟩
                        clear t0 t1 t2 t3 l0 l1 l2 l3
                        have L20 := hid (hnext HB.out hd20)
                        clear HB hd20
                        refine wp_region_held_drew (S := (fun W => Below w20.heap.size w20 W ∧ W.cell? ⟨gt, 0, none⟩ = some (.int .i64 xk) ∧ W.cell? ⟨gt, 1, none⟩ = some (.int .i64 xn) ∧ W.cell? ⟨gt, 2, none⟩ = some (.int .u64 (xb : Int)) ∧ W.cell? ⟨gt, 3, none⟩ = some (.string xs) ∧ W.cell? ⟨lg, lo + k * 4, none⟩ = some (.int .i64 xk) ∧ W.cell? ⟨lg, lo + k * 4 + 1, none⟩ = some (.int .i64 xn) ∧ W.cell? ⟨lg, lo + k * 4 + 2, none⟩ = some (.int .u64 (xb : Int)) ∧ W.cell? ⟨lg, lo + k * 4 + 3, none⟩ = some (.string xs))) (by kernel_rfl) (by rw [hw20]; exact mk20 _ (Below.refl _ _)) (fun hS20 => ?_)
                        rw [hw20] at hS20 ⊢
                        clear hw20
                        refine wT 0 hS20 ?_
                        refine wT 1 hS20 ?_
                        refine wT 2 hS20 ?_
                        refine wT 3 hS20 ?_
                        refine wT 4 hS20 ?_
                        refine wT 5 hS20 ?_
                        refine wpAnyH_done (by kernel_rfl) ?_ _
                        go_wp2_with fail
                        go_roundw
                        case rel => exact ⟨k + 1, by omega, by first | rfl | go_num, hnext L20.out hS20.1⟩
                        case measure => simp [intOf] <;> omega
                      · have hnul := colV_out (row := row) (c := cz) (by omega)
                        rw [hnul] at l0 l1 l2 l3
                        unfold nul at l0 l1 l2 l3
                        simp only at l0 l1 l2 l3
                        have hva := va_neq 0 0 0 ⟨#[]⟩ 0 0 0 ⟨#[]⟩ true (by simp)
                        unfold vv at hva
                        clear hnul
                        go_wp2_with fail
                        have hb2 := hba w10 (.cells #[.int .i64 0, .int .i64 0, .int .u64 0, .string ⟨#[]⟩] 36)
                        replace l0 := hkeep l0 hb2
                        replace l1 := hkeep l1 hb2
                        replace l2 := hkeep l2 hb2
                        replace l3 := hkeep l3 hb2
                        replace HB := hid (hnext HB.out hb2)
                        have BT := hid (heap_alloc_new w10 (.cells #[.int .i64 0, .int .i64 0, .int .u64 0, .string ⟨#[]⟩] 36))
                        obtain ⟨gt, hgt⟩ : ∃ gt, w10.heap.size = gt := ⟨_, rfl⟩
                        rw [hgt] at BT
                        (try rw [hgt])
                        clear hb2 hgt
                        (try clear r0 r1 r2 r3)
                        generalize w10.alloc (.cells #[.int .i64 0, .int .i64 0, .int .u64 0, .string ⟨#[]⟩] 36) = w11 at *
                        have t0 : w11.cell? ⟨gt, 0, none⟩ = some (.int .i64 0) := cell_of_row _ (gt) 0 _ _ _ BT.out
                        have t1 : w11.cell? ⟨gt, 1, none⟩ = some (.int .i64 0) := cell_of_row _ (gt) 1 _ _ _ BT.out
                        have t2 : w11.cell? ⟨gt, 2, none⟩ = some (.int .u64 0) := cell_of_row _ (gt) 2 _ _ _ BT.out
                        have t3 : w11.cell? ⟨gt, 3, none⟩ = some (.string ⟨#[]⟩) := cell_of_row _ (gt) 3 _ _ _ BT.out
                        obtain ⟨w20, hw20⟩ : ∃ w20, (w11).drew = w20 := ⟨_, rfl⟩
                        have hd20 : Below (w11).heap.size (w11) w20 := hw20 ▸ (Below.refl _ _).drew
                        have mk20 : ∀ W, Below w20.heap.size w20 W → Below w20.heap.size w20 W ∧ W.cell? ⟨gt, 0, none⟩ = some (.int .i64 0) ∧ W.cell? ⟨gt, 1, none⟩ = some (.int .i64 0) ∧ W.cell? ⟨gt, 2, none⟩ = some (.int .u64 0) ∧ W.cell? ⟨gt, 3, none⟩ = some (.string ⟨#[]⟩) ∧ W.cell? ⟨lg, lo + k * 4, none⟩ = some (.int .i64 0) ∧ W.cell? ⟨lg, lo + k * 4 + 1, none⟩ = some (.int .i64 0) ∧ W.cell? ⟨lg, lo + k * 4 + 2, none⟩ = some (.int .u64 0) ∧ W.cell? ⟨lg, lo + k * 4 + 3, none⟩ = some (.string ⟨#[]⟩) := fun W h => ⟨h, hkeep (hkeep t0 hd20) h, hkeep (hkeep t1 hd20) h, hkeep (hkeep t2 hd20) h, hkeep (hkeep t3 hd20) h, hkeep (hkeep l0 hd20) h, hkeep (hkeep l1 hd20) h, hkeep (hkeep l2 hd20) h, hkeep (hkeep l3 hd20) h⟩
                        clear t0 t1 t2 t3 l0 l1 l2 l3
                        have L20 := hid (hnext HB.out hd20)
                        clear HB hd20
                        refine wp_region_held_drew (S := (fun W => Below w20.heap.size w20 W ∧ W.cell? ⟨gt, 0, none⟩ = some (.int .i64 0) ∧ W.cell? ⟨gt, 1, none⟩ = some (.int .i64 0) ∧ W.cell? ⟨gt, 2, none⟩ = some (.int .u64 0) ∧ W.cell? ⟨gt, 3, none⟩ = some (.string ⟨#[]⟩) ∧ W.cell? ⟨lg, lo + k * 4, none⟩ = some (.int .i64 0) ∧ W.cell? ⟨lg, lo + k * 4 + 1, none⟩ = some (.int .i64 0) ∧ W.cell? ⟨lg, lo + k * 4 + 2, none⟩ = some (.int .u64 0) ∧ W.cell? ⟨lg, lo + k * 4 + 3, none⟩ = some (.string ⟨#[]⟩))) (by kernel_rfl) (by rw [hw20]; exact mk20 _ (Below.refl _ _)) (fun hS20 => ?_)
                        rw [hw20] at hS20 ⊢
                        clear hw20
                        refine wT 0 hS20 ?_
                        refine wT 1 hS20 ?_
                        refine wT 2 hS20 ?_
                        refine wT 3 hS20 ?_
                        refine wT 4 hS20 ?_
                        refine wT 5 hS20 ?_
                        refine wpAnyH_done (by kernel_rfl) ?_ _
                        go_wp2_with fail
                        go_roundw
                        case rel => exact ⟨k + 1, by omega, by first | rfl | go_num, hnext L20.out hS20.1⟩
                        case measure => simp [intOf] <;> omega
                    · have hnul := colV_out (row := row) (c := cz) (by omega)
                      rw [hnul] at l0 l1 l2 l3
                      unfold nul at l0 l1 l2 l3
                      simp only at l0 l1 l2 l3
                      have hva := va_neq 0 0 0 ⟨#[]⟩ 0 0 0 ⟨#[]⟩ true (by simp)
                      unfold vv at hva
                      clear hnul
                      go_wp2_with fail
                      have hb2 := hba w10 (.cells #[.int .i64 0, .int .i64 0, .int .u64 0, .string ⟨#[]⟩] 36)
                      replace l0 := hkeep l0 hb2
                      replace l1 := hkeep l1 hb2
                      replace l2 := hkeep l2 hb2
                      replace l3 := hkeep l3 hb2
                      replace HB := hid (hnext HB.out hb2)
                      have BT := hid (heap_alloc_new w10 (.cells #[.int .i64 0, .int .i64 0, .int .u64 0, .string ⟨#[]⟩] 36))
                      obtain ⟨gt, hgt⟩ : ∃ gt, w10.heap.size = gt := ⟨_, rfl⟩
                      rw [hgt] at BT
                      (try rw [hgt])
                      clear hb2 hgt
                      (try clear r0 r1 r2 r3)
                      generalize w10.alloc (.cells #[.int .i64 0, .int .i64 0, .int .u64 0, .string ⟨#[]⟩] 36) = w11 at *
                      have t0 : w11.cell? ⟨gt, 0, none⟩ = some (.int .i64 0) := cell_of_row _ (gt) 0 _ _ _ BT.out
                      have t1 : w11.cell? ⟨gt, 1, none⟩ = some (.int .i64 0) := cell_of_row _ (gt) 1 _ _ _ BT.out
                      have t2 : w11.cell? ⟨gt, 2, none⟩ = some (.int .u64 0) := cell_of_row _ (gt) 2 _ _ _ BT.out
                      have t3 : w11.cell? ⟨gt, 3, none⟩ = some (.string ⟨#[]⟩) := cell_of_row _ (gt) 3 _ _ _ BT.out
                      obtain ⟨w20, hw20⟩ : ∃ w20, (w11).drew = w20 := ⟨_, rfl⟩
                      have hd20 : Below (w11).heap.size (w11) w20 := hw20 ▸ (Below.refl _ _).drew
                      have mk20 : ∀ W, Below w20.heap.size w20 W → Below w20.heap.size w20 W ∧ W.cell? ⟨gt, 0, none⟩ = some (.int .i64 0) ∧ W.cell? ⟨gt, 1, none⟩ = some (.int .i64 0) ∧ W.cell? ⟨gt, 2, none⟩ = some (.int .u64 0) ∧ W.cell? ⟨gt, 3, none⟩ = some (.string ⟨#[]⟩) ∧ W.cell? ⟨lg, lo + k * 4, none⟩ = some (.int .i64 0) ∧ W.cell? ⟨lg, lo + k * 4 + 1, none⟩ = some (.int .i64 0) ∧ W.cell? ⟨lg, lo + k * 4 + 2, none⟩ = some (.int .u64 0) ∧ W.cell? ⟨lg, lo + k * 4 + 3, none⟩ = some (.string ⟨#[]⟩) := fun W h => ⟨h, hkeep (hkeep t0 hd20) h, hkeep (hkeep t1 hd20) h, hkeep (hkeep t2 hd20) h, hkeep (hkeep t3 hd20) h, hkeep (hkeep l0 hd20) h, hkeep (hkeep l1 hd20) h, hkeep (hkeep l2 hd20) h, hkeep (hkeep l3 hd20) h⟩
                      clear t0 t1 t2 t3 l0 l1 l2 l3
                      have L20 := hid (hnext HB.out hd20)
                      clear HB hd20
                      refine wp_region_held_drew (S := (fun W => Below w20.heap.size w20 W ∧ W.cell? ⟨gt, 0, none⟩ = some (.int .i64 0) ∧ W.cell? ⟨gt, 1, none⟩ = some (.int .i64 0) ∧ W.cell? ⟨gt, 2, none⟩ = some (.int .u64 0) ∧ W.cell? ⟨gt, 3, none⟩ = some (.string ⟨#[]⟩) ∧ W.cell? ⟨lg, lo + k * 4, none⟩ = some (.int .i64 0) ∧ W.cell? ⟨lg, lo + k * 4 + 1, none⟩ = some (.int .i64 0) ∧ W.cell? ⟨lg, lo + k * 4 + 2, none⟩ = some (.int .u64 0) ∧ W.cell? ⟨lg, lo + k * 4 + 3, none⟩ = some (.string ⟨#[]⟩))) (by kernel_rfl) (by rw [hw20]; exact mk20 _ (Below.refl _ _)) (fun hS20 => ?_)
                      rw [hw20] at hS20 ⊢
                      clear hw20
                      refine wT 0 hS20 ?_
                      refine wT 1 hS20 ?_
                      refine wT 2 hS20 ?_
                      refine wT 3 hS20 ?_
                      refine wT 4 hS20 ?_
                      refine wT 5 hS20 ?_
                      refine wpAnyH_done (by kernel_rfl) ?_ _
                      go_wp2_with fail
                      go_roundw
                      case rel => exact ⟨k + 1, by omega, by first | rfl | go_num, hnext L20.out hS20.1⟩
                      case measure => simp [intOf] <;> omega
                  · obtain rfl : k = cols.length := by omega
                    clear hkl hk hk0
                    replace HL7 := hid (hnext HL7.out HB.out)
                    replace HA7 : Hid (Var w10 gx #[.int .i64 0, .string ⟨#[]⟩, .slice none 0 0, .int .i64 0, .int .i64 0, .int .i64 0, .int .i64 0, .slice none 0 0, .slice va row.length vc, .int .i64 0, .bool false] 28) := keepBlock HA7.out HB.out
                    replace HOA : Hid (OwnI w10 (gx + 1 + 1) (.slice va row.length vc) (RG row.length)) := own_below HOA.out HB.out
                    replace HR5 := hid (HR5.out.below HB.out)
                    clear HB
                    have x0 : w10.cell? ⟨gx, 0, none⟩ = some (.int .i64 0) := cell_of_row _ (gx) 0 _ _ _ HA7.out
                    have x1 : w10.cell? ⟨gx, 1, none⟩ = some (.string ⟨#[]⟩) := cell_of_row _ (gx) 1 _ _ _ HA7.out
                    have x2 : w10.cell? ⟨gx, 2, none⟩ = some (.slice none 0 0) := cell_of_row _ (gx) 2 _ _ _ HA7.out
                    have x3 : w10.cell? ⟨gx, 3, none⟩ = some (.int .i64 0) := cell_of_row _ (gx) 3 _ _ _ HA7.out
                    have x4 : w10.cell? ⟨gx, 4, none⟩ = some (.int .i64 0) := cell_of_row _ (gx) 4 _ _ _ HA7.out
                    have x5 : w10.cell? ⟨gx, 5, none⟩ = some (.int .i64 0) := cell_of_row _ (gx) 5 _ _ _ HA7.out
                    have x6 : w10.cell? ⟨gx, 6, none⟩ = some (.int .i64 0) := cell_of_row _ (gx) 6 _ _ _ HA7.out
                    have x7 : w10.cell? ⟨gx, 7, none⟩ = some (.slice none 0 0) := cell_of_row _ (gx) 7 _ _ _ HA7.out
                    have x8 : w10.cell? ⟨gx, 8, none⟩ = some (.slice va row.length vc) := cell_of_row _ (gx) 8 _ _ _ HA7.out
                    have x9 : w10.cell? ⟨gx, 9, none⟩ = some (.int .i64 0) := cell_of_row _ (gx) 9 _ _ _ HA7.out
                    have x10 : w10.cell? ⟨gx, 10, none⟩ = some (.bool false) := cell_of_row _ (gx) 10 _ _ _ HA7.out
                    have hl6 : row.length ≤ 1000000 := by have := H1.out; omega
                    go_wp2_with fail
                    refine (HXA.out _ (IsAt.own HOA.out) HR5.out).mono ?_; rintro e w21 ⟨v9, rfl, hv9, b⟩
                    rw [proj_all] at hv9
                    obtain ⟨m1, m2, rfl⟩ := vs_slc hv9
                    replace HR5 := hid (HR5.out.below b)
                    replace HL7 := hid (hnext HL7.out b)
                    have HV9 := hid hv9
                    clear b hv9 x0 x1 x2 x3 x4 x5 x6 x7 x8 x9 x10
                    go_wp2_with fail
                    have cr := rows_any _ _ row row _ HV9.out HR5.out.1 hl6 hl6
                    rw [decide_eq_true (rfl : row = row)] at cr
                    refine cr.mono ?_; rintro e w22 ⟨rfl, b⟩
                    replace HL7 := hid (hnext HL7.out b)
                    clear b cr
                    go_wp2_with fail
                    refine (known_any _).mono ?_; rintro e w24 ⟨rfl, b⟩
                    go_wp2
                    go_ret
                    exact ⟨rfl, hnext HL7.out b⟩
              · have hc1 : ¬ (0 : Int) < (cols.length : Int) := by omega
                have hcn : cols = [] := List.length_eq_zero_iff.1 (by omega)
                have hlen : projL (SQ (CG cols cols.length)) row = row := proj_none row (by rw [hcn]; rfl)
                rw [hlen] at HV8
                obtain ⟨la, lc, rfl⟩ := vs_slc HV8.out
                have hc2 : ((cols.length : Int) == 0) = true := by rw [beq_iff_eq]; omega
                clear hc0 hcn hlen
                go_wp2_with fail
                go_loopw [11] (fun i wr => i = .int .i64 0 ∧ wr = w8) (fun _ _ => 0)
                case atStart => exact ⟨rfl, rfl⟩
                case round =>
                  obtain ⟨rfl, rfl⟩ := hrel
                  obtain ⟨w8, rfl⟩ : ∃ w : World, w = wr := ⟨_, rfl⟩
                  by_cases hr0 : (0 : Int) < (row.length : Int)
                  · have x0 : w8.cell? ⟨gx, 0, none⟩ = some (.int .i64 0) := cell_of_row _ (gx) 0 _ _ _ HA7.out
                    have x1 : w8.cell? ⟨gx, 1, none⟩ = some (.string ⟨#[]⟩) := cell_of_row _ (gx) 1 _ _ _ HA7.out
                    have x2 : w8.cell? ⟨gx, 2, none⟩ = some (.slice none 0 0) := cell_of_row _ (gx) 2 _ _ _ HA7.out
                    have x3 : w8.cell? ⟨gx, 3, none⟩ = some (.int .i64 0) := cell_of_row _ (gx) 3 _ _ _ HA7.out
                    have x4 : w8.cell? ⟨gx, 4, none⟩ = some (.int .i64 0) := cell_of_row _ (gx) 4 _ _ _ HA7.out
                    have x5 : w8.cell? ⟨gx, 5, none⟩ = some (.int .i64 0) := cell_of_row _ (gx) 5 _ _ _ HA7.out
                    have x6 : w8.cell? ⟨gx, 6, none⟩ = some (.int .i64 0) := cell_of_row _ (gx) 6 _ _ _ HA7.out
                    have x7 : w8.cell? ⟨gx, 7, none⟩ = some (.slice none 0 0) := cell_of_row _ (gx) 7 _ _ _ HA7.out
                    have x8 : w8.cell? ⟨gx, 8, none⟩ = some (.slice va row.length vc) := cell_of_row _ (gx) 8 _ _ _ HA7.out
                    have x9 : w8.cell? ⟨gx, 9, none⟩ = some (.int .i64 0) := cell_of_row _ (gx) 9 _ _ _ HA7.out
                    have x10 : w8.cell? ⟨gx, 10, none⟩ = some (.bool false) := cell_of_row _ (gx) 10 _ _ _ HA7.out
                    have hl6 : row.length ≤ 1000000 := by have := H1.out; omega
                    go_wp2_with fail
                    refine (HXA.out _ (IsAt.own HOA.out) HR5.out).mono ?_; rintro e w21 ⟨v9, rfl, hv9, b⟩
                    rw [proj_all] at hv9
                    obtain ⟨m1, m2, rfl⟩ := vs_slc hv9
                    replace HR5 := hid (HR5.out.below b)
                    replace HL7 := hid (hnext HL7.out b)
                    replace HV8 := hid (HV8.out.below b)
                    have HV9 := hid hv9
                    clear b hv9 x0 x1 x2 x3 x4 x5 x6 x7 x8 x9 x10
                    go_wp2_with fail
                    have cr := rows_any _ _ row row _ HV9.out HR5.out.1 hl6 hl6
                    rw [decide_eq_true (rfl : row = row)] at cr
                    refine cr.mono ?_; rintro e w22 ⟨rfl, b⟩
                    replace HL7 := hid (hnext HL7.out b)
                    replace HV8 := hid (HV8.out.below b)
                    replace HR5 := hid (HR5.out.below b)
                    clear b cr
                    go_wp2_with fail
                    have cr := rows_any _ _ row row _ HV8.out HR5.out.1 hl6 hl6
                    rw [decide_eq_true (rfl : row = row)] at cr
                    refine cr.mono ?_; rintro e w23 ⟨rfl, b⟩
                    replace HL7 := hid (hnext HL7.out b)
                    clear b cr
                    go_wp2_with fail
                    refine (known_any _).mono ?_; rintro e w24 ⟨rfl, b⟩
                    go_wp2
                    go_ret
                    exact ⟨rfl, hnext HL7.out b⟩
                  · have x0 : w8.cell? ⟨gx, 0, none⟩ = some (.int .i64 0) := cell_of_row _ (gx) 0 _ _ _ HA7.out
                    have x1 : w8.cell? ⟨gx, 1, none⟩ = some (.string ⟨#[]⟩) := cell_of_row _ (gx) 1 _ _ _ HA7.out
                    have x2 : w8.cell? ⟨gx, 2, none⟩ = some (.slice none 0 0) := cell_of_row _ (gx) 2 _ _ _ HA7.out
                    have x3 : w8.cell? ⟨gx, 3, none⟩ = some (.int .i64 0) := cell_of_row _ (gx) 3 _ _ _ HA7.out
                    have x4 : w8.cell? ⟨gx, 4, none⟩ = some (.int .i64 0) := cell_of_row _ (gx) 4 _ _ _ HA7.out
                    have x5 : w8.cell? ⟨gx, 5, none⟩ = some (.int .i64 0) := cell_of_row _ (gx) 5 _ _ _ HA7.out
                    have x6 : w8.cell? ⟨gx, 6, none⟩ = some (.int .i64 0) := cell_of_row _ (gx) 6 _ _ _ HA7.out
                    have x7 : w8.cell? ⟨gx, 7, none⟩ = some (.slice none 0 0) := cell_of_row _ (gx) 7 _ _ _ HA7.out
                    have x8 : w8.cell? ⟨gx, 8, none⟩ = some (.slice va row.length vc) := cell_of_row _ (gx) 8 _ _ _ HA7.out
                    have x9 : w8.cell? ⟨gx, 9, none⟩ = some (.int .i64 0) := cell_of_row _ (gx) 9 _ _ _ HA7.out
                    have x10 : w8.cell? ⟨gx, 10, none⟩ = some (.bool false) := cell_of_row _ (gx) 10 _ _ _ HA7.out
                    have hl6 : row.length ≤ 1000000 := by have := H1.out; omega
                    go_wp2_with fail
                    refine (HXA.out _ (IsAt.own HOA.out) HR5.out).mono ?_; rintro e w21 ⟨v9, rfl, hv9, b⟩
                    rw [proj_all] at hv9
                    obtain ⟨m1, m2, rfl⟩ := vs_slc hv9
                    replace HR5 := hid (HR5.out.below b)
                    replace HL7 := hid (hnext HL7.out b)
                    replace HV8 := hid (HV8.out.below b)
                    have HV9 := hid hv9
                    clear b hv9 x0 x1 x2 x3 x4 x5 x6 x7 x8 x9 x10
                    go_wp2_with fail
                    have cr := rows_any _ _ row row _ HV9.out HR5.out.1 hl6 hl6
                    rw [decide_eq_true (rfl : row = row)] at cr
                    refine cr.mono ?_; rintro e w22 ⟨rfl, b⟩
                    replace HL7 := hid (hnext HL7.out b)
                    replace HV8 := hid (HV8.out.below b)
                    replace HR5 := hid (HR5.out.below b)
                    clear b cr
                    go_wp2_with fail
                    have cr := rows_any _ _ row row _ HV8.out HR5.out.1 hl6 hl6
                    rw [decide_eq_true (rfl : row = row)] at cr
                    refine cr.mono ?_; rintro e w23 ⟨rfl, b⟩
                    replace HL7 := hid (hnext HL7.out b)
                    clear b cr
                    go_wp2_with fail
                    refine (known_any _).mono ?_; rintro e w24 ⟨rfl, b⟩
                    go_wp2
                    go_ret
                    exact ⟨rfl, hnext HL7.out b⟩
end Go.Proofs.Ytmcneelapghfcaa
