/-
  Two queries that differ in their T alone are not the same, of the program. No condition.
-/
import Derived.Test.YtmcneelapghfcaaQa
namespace Go.Proofs.Ytmcneelapghfcaa
open Go.RowKit Pd Qu

set_option maxRecDepth 100000 in
set_option maxHeartbeats 12800000 in
theorem qsame_t (q : Q) (t2 : Int) (hne : q.t ≠ t2) (vk1 vw1 vc1 vk2 vw2 vc2 : Value) (w : World) (hq : QIn w q vk1 vw1 vc1) (hp : QIn w q vk2 vw2 vc2) : Calls Try.prog 24 #[qv q vk1 vw1 vc1, qv ⟨q.kind, q.table, q.key, t2, q.v, q.fr, q.to, q.wh, q.cols, q.limit, q.desc⟩ vk2 vw2 vc2] w fun e w' => e = .returned (.bool false) ∧ Below w.heap.size w w' := by
  obtain ⟨kd, tb, key, t, v, fr, to, wh, cols, lim, ds⟩ := q
  obtain ⟨ka1, kc1, rfl⟩ := vs_slc hq.1
  obtain ⟨wa1, wc1, rfl⟩ := hq.2.1.slc
  obtain ⟨ca1, cc1, rfl⟩ := hq.2.2.slc
  obtain ⟨ka2, kc2, rfl⟩ := vs_slc hp.1
  obtain ⟨wa2, wc2, rfl⟩ := hp.2.1.slc
  obtain ⟨ca2, cc2, rfl⟩ := hp.2.2.slc
  have b1 := hba w (.cells #[.int .i64 kd, .string tb, .slice ka1 key.length kc1, .int .i64 t, .int .i64 v, .int .i64 fr, .int .i64 to, .slice wa1 wh.length wc1, .slice ca1 cols.length cc1, .int .i64 lim, .bool ds] 28)
  have b2 := hba (w.alloc (.cells #[.int .i64 kd, .string tb, .slice ka1 key.length kc1, .int .i64 t, .int .i64 v, .int .i64 fr, .int .i64 to, .slice wa1 wh.length wc1, .slice ca1 cols.length cc1, .int .i64 lim, .bool ds] 28)) (.cells #[.int .i64 kd, .string tb, .slice ka2 key.length kc2, .int .i64 t2, .int .i64 v, .int .i64 fr, .int .i64 to, .slice wa2 wh.length wc2, .slice ca2 cols.length cc2, .int .i64 lim, .bool ds] 28)
  have L := hid (hnext b1 b2)
  have h1 : (t != t2) = true := by rw [bne_iff_ne]; exact hne
  have h2 : (t == t2) = false := by rw [beq_eq_false_iff_ne]; exact hne
  have hs1 : (tb.toList == tb.toList) = true := by simp
  clear b1 b2 hq hp hne
  unfold qv
  simp only
  go_enter Try.func24, Try.ntmps24
  go_wp2_with fail
  go_ret
  exact ⟨rfl, L.out⟩
end Go.Proofs.Ytmcneelapghfcaa
