/-
  Widen of schema, and the reference's: their contracts. Condition: the texts have at most 2^63 - 1 bytes.
-/
import Derived.Test.YtmgafcblbbbanaaScK
import Derived.Laws.CopyOwn
import Derived.Laws.MakeOwn
namespace Go.Proofs.Ytmgafcblbbbanaa
open Go.RowKit

def nullV : Cd.V := ⟨0, 0, 0, ⟨#[]⟩⟩
/-- a row with Null for what it has not -/
def Sc.wide (s : Sc.S) (l : List Cd.V) : List Cd.V := l ++ List.replicate (s.cols.length - l.length) nullV
/-- what is told of a row made wide, and what is wrong -/
def Sc.widen (s : Sc.S) (l : List Cd.V) : List Cd.V × Int := if Sc.right s = false then ([], 11) else if s.cols.length < l.length then ([], 10) else if Sc.fits s (Sc.wide s l) = 0 then (Sc.wide s l, 0) else ([], Sc.fits s (Sc.wide s l))
theorem madeCells_values (n : Nat) : (madeCells (Value.agg #[.int .i64 0, .int .i64 0, .int .u64 0, .string ⟨#[]⟩]).cells (n * 4)).toList = vcells (List.replicate n nullV) := by
  apply List.ext_getElem?
  intro j
  by_cases hj : j < n * 4
  · obtain ⟨q, r, rfl, hr⟩ : ∃ q r, j = q * 4 + r ∧ r < 4 := ⟨j / 4, j % 4, by omega, by omega⟩
    have hq : q < n := by omega
    obtain ⟨g0, g1, g2, g3⟩ := vcells_get (l := List.replicate n nullV) (j := q) (s := nullV) (by rw [List.getElem?_replicate, if_pos hq])
    have hl : (madeCells (Value.agg #[.int .i64 0, .int .i64 0, .int .u64 0, .string ⟨#[]⟩]).cells (n * 4)).toList[q * 4 + r]? = some ((#[.int .i64 0, .int .i64 0, .int .u64 0, .string ⟨#[]⟩] : Array Value)[(q * 4 + r) % 4]!) := by
      unfold madeCells
      simp [Value.cells, hj]
    rw [hl]
    have hr' : r = 0 ∨ r = 1 ∨ r = 2 ∨ r = 3 := by omega
    rcases hr' with rfl | rfl | rfl | rfl
    · rw [show (q * 4 + 0) % 4 = 0 by omega, Nat.add_zero, g0]; rfl
    · rw [show (q * 4 + 1) % 4 = 1 by omega, g1]; rfl
    · rw [show (q * 4 + 2) % 4 = 2 by omega, g2]; rfl
    · rw [show (q * 4 + 3) % 4 = 3 by omega, g3]; rfl
  · rw [List.getElem?_eq_none (by rw [Array.length_toList, size_madeCells]; omega), List.getElem?_eq_none (by rw [vcells_length, List.length_replicate]; omega)]
/-- a block that holds just these values -/
def BR (w : World) (g : Nat) (l : List Cd.V) : Prop := w.heap[g]? = some (.cells (vcells l).toArray 46 (0, 0))
theorem BR.keep {w w' : World} {g : Nat} {l : List Cd.V} (h : BR w g l) (hb : Below w.heap.size w w') : BR w' g l := keepBlock h hb
theorem BR.own {w : World} {g B : Nat} {l : List Cd.V} (h : BR w g l) (hB : B ≤ g) (hl : l.length ≤ maxLen) : w.ownsRow B 46 4 (.slice (some ⟨g, 0, none⟩) l.length l.length) l.length (vcells l) :=
  ⟨vcells_length l, .inr ⟨g, l.length, (vcells l).toArray, rfl, hB, h, Nat.le_refl _, hl, by simp [vcells_length], by simp only; rw [List.take_of_length_le (by rw [vcells_length]; exact Nat.le_refl _)]⟩⟩
/-- 'make([]Value, n)' -/
theorem make_values (w : World) {ops : Array Oper} {rest : List Oper} {o : Oper} {a : Act} {Q : Exit → Act → World → Prop} (hg : o.guard = none) (x y : Operand) (hop : o.op = .makeSlice 32 x y)
    (n : Nat) (hx : a.eval x = .int .i64 (n : Int)) (hy : a.eval y = .int .i64 (n : Int)) (hn : n ≤ 1000000)
    (hK : BR (w.alloc (.cells (vcells (List.replicate n nullV)).toArray 46)) w.heap.size (List.replicate n nullV) → wpList Try.prog ops Q rest (a.put o.dst (.slice (some ⟨w.heap.size, 0, none⟩) n n)) (w.alloc (.cells (vcells (List.replicate n nullV)).toArray 46))) :
    wpList Try.prog ops Q (o :: rest) a w := by
  obtain ⟨i0, hi, hz0, hz1, hz2⟩ := info_parts Try.infoValue
  refine wpList_plain hg fun K hKK => ?_
  have hr := run_make (P := Try.prog) w 32 46 i0 _ Try.underlying32 hi hz0 .i64 .i64 (n : Int) (n : Int) (by omega) (Int.le_refl _) (by rw [hz2]; omega) (by omega)
  have e : madeCells (Value.agg #[.int .i64 0, .int .i64 0, .int .u64 0, .string ⟨#[]⟩]).cells (n * 4) = (vcells (List.replicate n nullV)).toArray := by rw [← madeCells_values]
  simp only [Int.toNat_natCast, hz1, e] at hr
  unfold Oper.wp
  simp [execOp, hop, hx, hy, hr, Result.andThen]
  exact hKK _ _ (hK (heap_alloc_new w _))
theorem run_copy_values (w : World) (ty : TypeId) (g n : Nat) (L : List Cd.V) (hL : L.length = n) (hg : BR w g L) (adr : Option Addr) (cap : Nat) (l : List Cd.V) (hr : VsAt w (.slice adr l.length cap) l) (hl : l.length ≤ n) :
    (Builtin.copy_ #[32, 32] ty #[.slice (some ⟨g, 0, none⟩) n n, .slice adr l.length cap]).run Try.prog w = .ok (goInt l.length) (w.setRow g (vcells (l ++ L.drop l.length)).toArray) := by
  subst hL
  obtain ⟨i0, hi, hz0, hz1, hz2⟩ := info_parts Try.infoValue
  have hmin : Nat.min l.length L.length = l.length := Nat.min_eq_left hl
  have hcl : (vcells l).length = l.length * 4 := vcells_length l
  have hload : (match adr with | some a => (loadCells a (l.length * 4)).run Try.prog w | none => .ok #[] w) = .ok (vcells l).toArray w := by
    cases adr with
    | none =>
      have : l = [] := by
        cases l with
        | nil => rfl
        | cons y l' => obtain ⟨_, _, e, hcc⟩ := hr; cases e; obtain ⟨_, _, e, _⟩ := hcc 0 (by simp); cases e
      subst this
      rfl
    | some ad =>
      have hcell : ∀ j u, (vcells l)[j]? = some u → w.cell? (ad.add j) = some u := by
        intro j u hj
        have hr0 : 0 < l.length := by
          have := (List.getElem?_eq_some_iff.1 hj).1
          rw [vcells_length] at this; omega
        obtain ⟨_, g, off, e, hh⟩ := hr.at hr0
        cases e
        have hadd : (⟨g, off, none⟩ : Addr).add j = ⟨g, off + j, none⟩ := by unfold Addr.add; split <;> simp_all
        rw [hadd]
        exact hh j u hj
      have h := run_loadCells_list (P := Try.prog) w ad (vcells l) hcell
      rw [hcl] at h
      exact h
  have hst := run_storeCells_at Try.prog g 0 46 (vcells l) 0 (vcells L).toArray w hg (by simp [vcells_length]; omega) (vcells_one_cell l)
  have hcells : (vcells L).toArray.toList.take (0 + 0) ++ vcells l ++ (vcells L).toArray.toList.drop (0 + 0 + (vcells l).length) = vcells (l ++ L.drop l.length) := by
    rw [vcells_append, hcl]
    simp only [Nat.add_zero, List.take_zero, List.nil_append, Nat.zero_add]
    congr 1
    have hsplit : vcells L = vcells (L.take l.length) ++ vcells (L.drop l.length) := by rw [← vcells_append, List.take_append_drop]
    have hlt : (vcells (L.take l.length)).length = l.length * 4 := by rw [vcells_length, List.length_take, Nat.min_eq_left hl]
    rw [hsplit, ← hlt, List.drop_left]
  rw [hcells] at hst
  have hu : Try.prog.underlying 32 = some (.slice 46) := Try.underlying32
  cases adr with
  | none =>
    simp only at hload
    have hv : (vcells l).toArray = #[] := by injection hload with h1 _; exact h1.symm
    have hst2 : (storeCells ⟨g, 0, none⟩ [] 0).run Try.prog w = .ok () (w.setRow g (vcells (l ++ L.drop l.length)).toArray) := by
      have : vcells l = [] := by have := congrArg Array.toList hv; simpa using this
      rw [this] at hst; exact hst
    simp [Builtin.copy_, run_underlying hu, Builtin.lenOf, Builtin.firstCells, sizeOf, typeInfo, hi, hmin, hst2]
  | some ad =>
    simp only at hload
    simp [Builtin.copy_, run_underlying hu, Builtin.lenOf, Builtin.firstCells, sizeOf, typeInfo, hi, hz1, hmin, hload, hst]
/-- 'copy(wide, row)', wide being a block of its own -/
theorem copy_values (w : World) {ops : Array Oper} {rest : List Oper} {o : Oper} {a : Act} {Q : Exit → Act → World → Prop} (hgd : o.guard = none) (d s : Operand)
    (ho : o.op = .call { callee := .builtin .copy, args := #[d, s], argTypes := #[32, 32] })
    (g n : Nat) (L : List Cd.V) (hL : L.length = n) (hg : BR w g L) (hd : a.eval d = .slice (some ⟨g, 0, none⟩) n n) (adr : Option Addr) (cap m : Nat) (l : List Cd.V) (hs : a.eval s = .slice adr m cap) (hr : VsAt w (.slice adr m cap) l) (hl : l.length ≤ n)
    (hK : ∀ w' v, BR w' g (l ++ L.drop l.length) → w.grownBy w' (some g) → wpList Try.prog ops Q rest (a.put o.dst v) w') : wpList Try.prog ops Q (o :: rest) a w := by
  have hm : m = l.length := by obtain ⟨_, _, e, _⟩ := hr; cases e; rfl
  subst hm
  refine wpList_plain hgd fun K hKK => ?_
  have hrun := run_copy_values w o.type g n L hL hg adr cap l hr hl
  unfold Oper.wp
  simp [execOp, ho, resolve, invoke, builtin, hd, hs, hrun, Result.andThen]
  exact hKK _ _ (hK _ _ (setRow_heap w g _ _ _ _ hg) ⟨rfl, rfl, rfl, by simp [World.setRow], fun k _ hk => setRow_other w g k _ (fun e => hk (by rw [e]))⟩)
theorem bs_grown {w1 w3 : World} {g0 : Nat} {n : ByteArray} {v : Value} {k : Int} {O : Obj} (h : BS w1 g0 n v k) (hgr : (w1.alloc O).grownBy w3 (some w1.heap.size)) : BS w3 g0 n v k := by
  have hl := h.cells.2.2.2
  refine (hgr.block g0 (Nat.lt_of_lt_of_le hl (hba w1 O).size) ?_).trans (h.keep (hba w1 O))
  intro e
  cases e
  omega
theorem below_grown {w w1 w3 : World} {O : Obj} (h : Below w.heap.size w w1) (hgr : (w1.alloc O).grownBy w3 (some w1.heap.size)) : Below w.heap.size w w3 :=
  (hnext h (hba w1 O)).grown hgr (Nat.le_trans h.size (hba w1 O).size) (fun q hq => by cases hq; exact h.size)
/-- 'append(out, Value{})' -/
theorem append_null (u : World) {ops : Array Oper} {rest : List Oper} {o : Oper} {a : Act} {Q : Exit → Act → World → Prop} (hgd : o.guard = none) (s x : Operand)
    (ho : o.op = .call { callee := .builtin .append, args := #[s, x], argTypes := #[32, 32] })
    (B : Nat) (v : Value) (l : List Cd.V) (hs : a.eval s = v) (n : Nat) (hn : l.length = n) (hown : u.ownsRow B 46 4 v n (vcells l)) (g : Nat) (hgz : g = u.heap.size) (hx : a.eval x = .slice (some ⟨g, 0, none⟩) 1 1)
    (hlen : l.length ≤ 1000000) (hB : B ≤ u.heap.size)
    (hK : ∀ v' w', w'.ownsRow B 46 4 v' (l ++ [nullV]).length (vcells (l ++ [nullV])) → u.grownBy w' v.ownBlock → wpList Try.prog ops Q rest (a.put o.dst v') w') :
    wpList Try.prog ops Q (o :: rest) a (u.alloc (.cells #[.int .i64 0, .int .i64 0, .int .u64 0, .string ⟨#[]⟩] 46)) := by
  subst hn
  exact append_value u hgd s x ho B v l hs hown nullV g hgz hx hlen hB hK
theorem own_base {w : World} {B B' e size n : Nat} {v : Value} {xs : List Value} (h : w.ownsRow B e size v n xs) (hB : B' ≤ B) : w.ownsRow B' e size v n xs := by
  refine ⟨h.1, ?_⟩
  rcases h.2 with hn | ⟨g, cap, cur, rfl, hb, rest⟩
  · exact .inl hn
  · exact .inr ⟨g, cap, cur, rfl, Nat.le_trans hB hb, rest⟩
/-- what Widen leaves -/
def WidenP (r : List Cd.V × Int) (w : World) (e : Ending) (w' : World) : Prop := (∃ v', e = .returned (.tuple #[v', .int .i64 r.2]) ∧ w'.ownsRow w.heap.size 46 4 v' r.1.length (vcells r.1)) ∧ Below w.heap.size w w'
theorem Sc.right_len {s : Sc.S} (h : Sc.right s = true) : 1 ≤ s.cols.length ∧ s.cols.length ≤ 16 := by
  unfold Sc.right at h
  simp only [Bool.and_eq_true, decide_eq_true_eq] at h
  omega
theorem Sc.wide_length {s : Sc.S} {l : List Cd.V} (h : l.length ≤ s.cols.length) : (Sc.wide s l).length = s.cols.length := by
  unfold Sc.wide; rw [List.length_append, List.length_replicate]; omega
theorem Sc.wide_ok {s : Sc.S} {l : List Cd.V} (h : Rok l) : Rok (Sc.wide s l) := by
  intro x hx
  unfold Sc.wide at hx
  rcases List.mem_append.1 hx with hx | hx
  · exact h x hx
  · rw [(List.mem_replicate.1 hx).2]; decide
set_option maxRecDepth 100000 in
set_option maxHeartbeats 6400000 in
theorem widen_any (s : Sc.S) (v : Value) (l : List Cd.V) (u : Value) (w : World) (h : CsAt w v s.cols) (hsz : Sok s) (hu0 : RsAt w u l) (hrk : Rok l) :
    Calls Try.prog 21 #[sv s v, u] w (WidenP (Sc.widen s l) w) := by
  have hl := hu0.len
  have hbox := hba w (.cells #[.string s.name, v, .int .i64 s.keys] 24)
  have hR := hid (right_sc s v _ (h.below hbox) hsz)
  have hU := hid (hu0.1.below hbox)
  have HC := hid (h.below hbox)
  have HC0 := hid h
  obtain ⟨adr, cap, rfl, hc1, hc2, hc⟩ := h
  obtain ⟨adr2, cap2, rfl, hcap, _, hnone⟩ := hu0.2
  have HBOX := hid hbox
  have HS0 := hid (BS.new w s.name (.slice adr s.cols.length cap) s.keys)
  have HSZ := hid hsz
  have HRK := hid hrk
  clear hbox hu0 hc hsz hrk
  unfold maxLen at hl
  cases hr : Sc.right s
  · rw [hr] at hR
    have e1 : Hid (Sc.widen s l = ([], 11)) := by show _ = _; unfold Sc.widen; rw [hr, if_pos rfl]
    clear hr
    unfold sv at hR ⊢
    go_enter Try.func21, Try.ntmps21
    go_wp2_with fail
    refine (hR.out).mono ?_; rintro e w1 ⟨rfl, hb1⟩
    have hS1 := HS0.out.keep hb1
    obtain ⟨s0, s1, s2, sl⟩ := hS1.cells
    go_wp2_with fail
    go_ret2
    rw [e1.out]
    exact ⟨⟨_, rfl, World.ownsRow_nil _ _ _ _⟩, hnext HBOX.out hb1⟩
  have hlen16 := Sc.right_len hr
  rw [hr] at hR
  by_cases hlen : s.cols.length < l.length
  · have hlen' : (s.cols.length : Int) < (l.length : Int) := by omega
    have e1 : Hid (Sc.widen s l = ([], 10)) := by show _ = _; unfold Sc.widen; rw [hr, if_neg (by decide), if_pos hlen]
    clear hr hlen hlen16
    unfold sv at hR ⊢
    go_enter Try.func21, Try.ntmps21
    go_wp2_with fail
    refine (hR.out).mono ?_; rintro e w1 ⟨rfl, hb1⟩
    have hS1 := HS0.out.keep hb1
    obtain ⟨s0, s1, s2, sl⟩ := hS1.cells
    go_wp2_with fail
    go_ret2
    rw [e1.out]
    exact ⟨⟨_, rfl, World.ownsRow_nil _ _ _ _⟩, hnext HBOX.out hb1⟩
  have hlen' : ¬ (s.cols.length : Int) < (l.length : Int) := by omega
  have hWL := Sc.wide_length (s := s) (l := l) (by omega)
  have HWD : Hid (Sc.widen s l = if Sc.fits s (Sc.wide s l) = 0 then (Sc.wide s l, 0) else ([], Sc.fits s (Sc.wide s l))) := by show _ = _; unfold Sc.widen; rw [hr, if_neg (by decide), if_neg (by omega)]
  have HLR : Hid (l ++ (List.replicate s.cols.length nullV).drop l.length = Sc.wide s l) := by show _ = _; unfold Sc.wide; rw [List.drop_replicate]
  have HWO := hid (Sc.wide_ok (s := s) HRK.out)
  have hfit := hid (fun u W hc hu => fits_any s (.slice adr s.cols.length cap) (Sc.wide s l) u W hc HSZ.out hu (by rw [hWL]; unfold maxLen; omega) HWO.out)
  have HN := hid hlen16
  have HLL : Hid (l.length ≤ s.cols.length) := by show _ ≤ _; omega
  have HWL := hid hWL
  clear hr hlen hlen16 hl hWL
  unfold sv at hR hfit ⊢
  go_enter Try.func21, Try.ntmps21
  go_wp2_with fail
  refine (hR.out).mono ?_; rintro e w1 ⟨rfl, hb1⟩
  have hS1 := HS0.out.keep hb1
  have hB1 := hid (hnext HBOX.out hb1)
  have hC1 := hid (HC.out.below hb1)
  have hU1 := hid (hU.out.below hb1)
  clear hb1 hU HBOX HC hR
  obtain ⟨s0, s1, s2, sl⟩ := hS1.cells
  go_wp2_with (first
    | (at_make; refine make_values _ rfl _ _ rfl s.cols.length rfl rfl (by have := HN.out; omega) ?_; intro hbr)
    | (with_reducible refine copy_values _ rfl (.tmp 23) (.tmp 24) rfl w1.heap.size s.cols.length (List.replicate s.cols.length nullV) (by simp) hbr rfl adr2 cap2 l.length l rfl (hU1.out.below (hba _ _)) HLL.out ?_; intro w3 v3 hbr3 hgr3; rw [HLR.out] at hbr3; have HBR3 := hid hbr3; have HS3 := hid (bs_grown hS1 hgr3); have HB3 := hid (below_grown hB1.out hgr3); clear hbr3 hgr3; obtain ⟨x0, x1, x2, _⟩ := HS3.out.cells))
  have hC3 := hid (HC0.out.below HB3.out)
  have hgb : w.heap.size ≤ w1.heap.size := hB1.out.size
  have hO3 := hid (HBR3.out.own hgb (by rw [HWL.out]; have := HN.out; unfold maxLen; omega))
  have hV3 := hid (VsAt.own hO3.out)
  rw [HWL.out] at hO3 hV3
  generalize w1.heap.size = b3 at *
  clear s0 s1 s2 sl hS1 hB1 hC1 hU1 HBR3 hbr
  by_cases hz : Sc.fits s (Sc.wide s l) = 0
  · have HE : Hid (Sc.widen s l = (Sc.wide s l, 0)) := by show _ = _; rw [HWD.out, if_pos hz]
    rw [hz] at hfit
    clear hz HWD
    refine (hfit.out _ _ hC3.out hV3.out).mono ?_; rintro e w4 ⟨rfl, hb4⟩
    go_wp2_with fail
    go_ret2
    rw [HE.out]
    refine ⟨⟨_, rfl, ?_⟩, hnext HB3.out hb4⟩
    rw [HWL.out]
    exact (hO3.out).kept (row := none) ⟨hb4.os, hb4.tape, hb4.output, hb4.size, fun i hi _ => hb4.block i hi⟩ (Or.inr (fun e => by cases e))
  · obtain ⟨fz, hfz⟩ : ∃ fz, Sc.fits s (Sc.wide s l) = fz := ⟨_, rfl⟩
    have HE : Hid (Sc.widen s l = ([], fz)) := by show _ = _; rw [HWD.out, if_neg hz, hfz]
    rw [hfz] at hfit hz
    have e1 : (fz != 0) = true := by rw [bne_iff_ne]; exact hz
    clear hz hfz HWD
    refine (hfit.out _ _ hC3.out hV3.out).mono ?_; rintro e w4 ⟨rfl, hb4⟩
    go_wp2_with fail
    go_ret2
    rw [HE.out]
    exact ⟨⟨_, rfl, World.ownsRow_nil _ _ _ _⟩, hnext HB3.out hb4⟩
set_option maxRecDepth 100000 in
set_option maxHeartbeats 6400000 in
theorem widenR_any (s : Sc.S) (v : Value) (l : List Cd.V) (u : Value) (w : World) (h : CsAt w v s.cols) (hsz : Sok s) (hu0 : RsAt w u l) (hrk : Rok l) (hrb : ∀ x ∈ l, x.b < 18446744073709551616) :
    Calls Try.prog 22 #[sv s v, u] w (WidenP (Sc.widen s l) w) := by
  have hl := hu0.len
  have hbox := hba w (.cells #[.string s.name, v, .int .i64 s.keys] 24)
  have hR := hid (rightR_sc s v _ (h.below hbox) hsz)
  have hU := hid (hu0.1.below hbox)
  have HC := hid (h.below hbox)
  have HC0 := hid h
  obtain ⟨adr, cap, rfl, hc1, hc2, hc⟩ := h
  obtain ⟨adr2, cap2, rfl, hcap, _, hnone⟩ := hu0.2
  have HBOX := hid hbox
  have HS0 := hid (BS.new w s.name (.slice adr s.cols.length cap) s.keys)
  have HSZ := hid hsz
  have HRK := hid hrk
  have HRB := hid hrb
  clear hbox hu0 hc hsz hrk hrb
  unfold maxLen at hl
  cases hr : Sc.right s
  · rw [hr] at hR
    have e1 : Hid (Sc.widen s l = ([], 11)) := by show _ = _; unfold Sc.widen; rw [hr, if_pos rfl]
    clear hr
    unfold sv at hR ⊢
    go_enter Try.func22, Try.ntmps22
    go_wp2_with fail
    refine (hR.out).mono ?_; rintro e w1 ⟨rfl, hb1⟩
    have hS1 := HS0.out.keep hb1
    obtain ⟨s0, s1, s2, sl⟩ := hS1.cells
    go_wp2_with fail
    go_ret2
    rw [e1.out]
    exact ⟨⟨_, rfl, World.ownsRow_nil _ _ _ _⟩, hnext HBOX.out hb1⟩
  have hlen16 := Sc.right_len hr
  rw [hr] at hR
  by_cases hlen : s.cols.length < l.length
  · have hlen' : (s.cols.length : Int) < (l.length : Int) := by omega
    have e1 : Hid (Sc.widen s l = ([], 10)) := by show _ = _; unfold Sc.widen; rw [hr, if_neg (by decide), if_pos hlen]
    clear hr hlen hlen16
    unfold sv at hR ⊢
    go_enter Try.func22, Try.ntmps22
    go_wp2_with fail
    refine (hR.out).mono ?_; rintro e w1 ⟨rfl, hb1⟩
    have hS1 := HS0.out.keep hb1
    obtain ⟨s0, s1, s2, sl⟩ := hS1.cells
    go_wp2_with fail
    go_ret2
    rw [e1.out]
    exact ⟨⟨_, rfl, World.ownsRow_nil _ _ _ _⟩, hnext HBOX.out hb1⟩
  have hlen' : ¬ (s.cols.length : Int) < (l.length : Int) := by omega
  have hlen2 : decide (s.cols.length < l.length) = false := decide_eq_false (by omega)
  have hWL := Sc.wide_length (s := s) (l := l) (by omega)
  have HWD : Hid (Sc.widen s l = if Sc.fits s (Sc.wide s l) = 0 then (Sc.wide s l, 0) else ([], Sc.fits s (Sc.wide s l))) := by show _ = _; unfold Sc.widen; rw [hr, if_neg (by decide), if_neg (by omega)]
  have HWO := hid (Sc.wide_ok (s := s) HRK.out)
  have HWB : Hid (∀ x ∈ Sc.wide s l, x.b < 18446744073709551616) := fun x hx => by
    unfold Sc.wide at hx
    rcases List.mem_append.1 hx with hx | hx
    · exact HRB.out x hx
    · rw [(List.mem_replicate.1 hx).2]; decide
  have hfit := hid (fun u W hc hu => fitsR_any s (.slice adr s.cols.length cap) (Sc.wide s l) u W hc HSZ.out hu (by rw [hWL]; unfold maxLen; omega) HWO.out HWB.out)
  have HN := hid hlen16
  have HLL : Hid (l.length ≤ s.cols.length) := by show _ ≤ _; omega
  have HWL := hid hWL
  clear hr hlen hlen16 hl hWL
  unfold sv at hR hfit ⊢
  go_enter Try.func22, Try.ntmps22
  go_wp2_with fail
  refine (hR.out).mono ?_; rintro e w1 ⟨rfl, hb1⟩
  have hS1 := HS0.out.keep hb1
  have hB1 := hid (hnext HBOX.out hb1)
  have hU1 := hid (hU.out.below hb1)
  clear hb1 hU HBOX HC hR
  obtain ⟨s0, s1, s2, sl⟩ := hS1.cells
  go_wp2_with (at_builtin; refine append_row _ rfl _ _ rfl (w.heap.size + 1) _ [] rfl (World.ownsRow_nil _ _ _ _) l _ rfl adr2 l.length cap2 (by first | rfl | (simp; done)) hU1.out hnone (by have h1 := HLL.out; have h2 := HN.out; simp; omega) sl ?_; intro v6 w6 hown6 hgrow6; have hO6 := hid hown6; have hG6 := hid (show World.grownBy w1 w6 none from hgrow6); clear hown6 hgrow6)
  have hB6 : Hid (Below w.heap.size w w6) := hB1.out.grown hG6.out hB1.out.size (fun q hq => by cases hq)
  have hS6 : BS w6 w.heap.size s.name (.slice adr s.cols.length cap) s.keys := (hG6.out.block _ sl (by simp)).trans hS1
  clear s0 s1 s2 sl hS1 hB1 hU1 hG6
  rw [List.nil_append] at hO6
  go_loopw [6] (fun q wr => ∃ k : Nat, l.length + k ≤ s.cols.length ∧ Hid (wr.ownsRow (w.heap.size + 1) 46 4 q (l ++ List.replicate k nullV).length (vcells (l ++ List.replicate k nullV))) ∧ BS wr w.heap.size s.name (.slice adr s.cols.length cap) s.keys ∧ Hid (Below w.heap.size w wr)) (fun q _ => s.cols.length - (match q with | .slice _ n _ => n | _ => 0))
  case atStart => exact ⟨0, by have := HLL.out; omega, by rw [List.replicate_zero, List.append_nil]; exact hO6, hS6, hB6⟩
  case round =>
    obtain ⟨k, hk, hO, hS, hB⟩ := hrel
    clear hO6 hS6 hB6
    obtain ⟨w7, rfl⟩ : ∃ w7 : World, w7 = wr := ⟨_, rfl⟩
    obtain ⟨s0, s1, s2, sl⟩ := hS.cells
    obtain ⟨adr3, cap3, rfl⟩ := (VsAt.own hO.out).len
    have hll : (l ++ List.replicate k nullV).length = l.length + k := by simp
    have HLN := hid hll
    rw [hll] at hO ⊢
    clear hll
    by_cases hlt : l.length + k < s.cols.length
    · have hlt' : decide (l.length + k < s.cols.length) = true := decide_eq_true hlt
      have hl6 : (l ++ List.replicate k nullV).length ≤ 1000000 := by have := HLN.out; have := HN.out; omega
      have hB5 := hB.out.size
      go_wp2_with (at_builtin; refine append_null _ rfl _ _ rfl (w.heap.size + 1) _ (l ++ List.replicate k nullV) rfl (l.length + k) HLN.out hO.out _ (by first | rfl | (simp; done)) rfl hl6 sl ?_; intro v8 w8 hown8 hgrow8; have hO8 := hid hown8; have hB8 := hid (hB.out.grown hgrow8 hB5 (fun q hq => by have := (hO.out.lt q hq).1; omega)); have hS8 : BS w8 w.heap.size s.name (.slice adr s.cols.length cap) s.keys := (hgrow8.block _ sl (fun e => by have := (hO.out.lt _ e.symm).1; omega)).trans hS; clear hown8 hgrow8)
      go_roundw
      case rel =>
        refine ⟨k + 1, by omega, ?_, hS8, hB8⟩
        rw [show l ++ List.replicate (k + 1) nullV = l ++ List.replicate k nullV ++ [nullV] from by rw [List.append_assoc, ← List.replicate_succ']]
        exact hO8
      case measure =>
        obtain ⟨adr8, cap8, e8⟩ := (VsAt.own hO8.out).len
        rw [List.length_append, HLN.out] at e8
        rw [e8]
        show s.cols.length - (l.length + k + 1) < s.cols.length - (l.length + k)
        omega
    · have hlt' : decide (l.length + k < s.cols.length) = false := decide_eq_false hlt
      have hke : k = s.cols.length - l.length := by omega
      have HWE : Hid (l ++ List.replicate k nullV = Sc.wide s l) := by show _ = _; rw [hke]; rfl
      rw [HWE.out] at hO
      have hC7 := hid (HC0.out.below hB.out)
      have hke2 : l.length + k = s.cols.length := by omega
      rw [hke2] at hO hlt' ⊢
      have hV7 : Hid (VsAt w7 (.slice adr3 s.cols.length cap3) (Sc.wide s l)) := VsAt.own (B := w.heap.size + 1) (by rw [HWL.out]; exact hO.out)
      clear hke hke2 hlt hk HLN
      by_cases hz : Sc.fits s (Sc.wide s l) = 0
      · have HE : Hid (Sc.widen s l = (Sc.wide s l, 0)) := by show _ = _; rw [HWD.out, if_pos hz]
        rw [hz] at hfit
        clear hz HWD
        go_wp2_with fail
        refine (hfit.out _ _ hC7.out hV7.out).mono ?_; rintro e w8 ⟨rfl, hb8⟩
        go_wp2_with fail
        go_ret2
        rw [HE.out]
        refine ⟨⟨_, rfl, ?_⟩, hnext hB.out hb8⟩
        rw [HWL.out]
        exact own_base ((hO.out).kept (row := none) ⟨hb8.os, hb8.tape, hb8.output, hb8.size, fun i hi _ => hb8.block i hi⟩ (by cases adr3 <;> simp [Value.ownBlock])) (Nat.le_succ _)
      · obtain ⟨fz, hfz⟩ : ∃ fz, Sc.fits s (Sc.wide s l) = fz := ⟨_, rfl⟩
        have HE : Hid (Sc.widen s l = ([], fz)) := by show _ = _; rw [HWD.out, if_neg hz, hfz]
        rw [hfz] at hfit hz
        have e1 : (fz != 0) = true := by rw [bne_iff_ne]; exact hz
        clear hz hfz HWD
        go_wp2_with fail
        refine (hfit.out _ _ hC7.out hV7.out).mono ?_; rintro e w8 ⟨rfl, hb8⟩
        go_wp2_with fail
        go_ret2
        rw [HE.out]
        exact ⟨⟨_, rfl, World.ownsRow_nil _ _ _ _⟩, hnext hB.out hb8⟩
end Go.Proofs.Ytmgafcblbbbanaa
