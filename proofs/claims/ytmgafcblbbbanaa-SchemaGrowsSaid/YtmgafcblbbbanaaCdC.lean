/-
  Bytes that are cut off are not read. No program in sight. No condition.
-/
import Derived.Test.YtmgafcblbbbanaaCdK
import Derived.Test.YtmgafcblbbbanaaLong
namespace Go.Proofs.Ytmgafcblbbbanaa
namespace Cd

/-- what is said of a reader of bytes -/
def Cuts {α : Type} (f : ByteArray → Nat → R α) : Prop := ∀ s i v j, f s i = .ok (v, j) → i ≤ j ∧ ∀ c, i ≤ c → (c < j → f (s.extract 0 c) i = .error 8) ∧ (j ≤ c → f (s.extract 0 c) i = .ok (v, j))
/-- one read behind the other -/
theorem Cuts.seq {α β : Type} {F : ByteArray → Nat → R β} {f : ByteArray → Nat → R α} {g : α → ByteArray → Nat → R β} (hf : Cuts f) (hg : ∀ a, Cuts (g a))
    (he : ∀ s i e, f s i = .error e → F s i = .error e) (ho : ∀ s i a j, f s i = .ok (a, j) → F s i = g a s j) : Cuts F := by
  intro s i v j h
  cases hu : f s i with
  | error e => rw [he s i e hu] at h; cases h
  | ok p =>
    obtain ⟨a, j0⟩ := p
    rw [ho s i a j0 hu] at h
    obtain ⟨a1, a2⟩ := hf s i a j0 hu
    obtain ⟨b1, b2⟩ := hg a s j0 v j h
    refine ⟨by omega, fun c hc => ⟨fun h3 => ?_, fun h3 => ?_⟩⟩
    · by_cases h4 : c < j0
      · exact he _ _ _ ((a2 c hc).1 h4)
      · rw [ho _ _ _ _ ((a2 c hc).2 (by omega))]
        exact (b2 c (by omega)).1 h3
    · rw [ho _ _ _ _ ((a2 c hc).2 (by omega))]
      exact (b2 c (by omega)).2 h3
theorem Cuts.pure {α : Type} (a : α) : Cuts (fun _ i => .ok (a, i)) := by
  intro s i v j h
  have h := show (Except.ok (a, i) : R α) = .ok (v, j) from h
  injection h with h
  injection h with e1 e2
  subst e1 e2
  exact ⟨Nat.le_refl _, fun c hc => ⟨fun h => by omega, fun _ => rfl⟩⟩
theorem Cuts.fail {α : Type} (e : Int) : Cuts (fun _ _ => (.error e : R α)) := by
  intro s i v j h; cases h
theorem Cuts.ite {α : Type} {p : Prop} [Decidable p] {f g : ByteArray → Nat → R α} (hf : Cuts f) (hg : Cuts g) : Cuts (fun s i => if p then f s i else g s i) := by
  by_cases hp : p
  · simp only [hp, if_true]; exact hf
  · simp only [hp, if_false]; exact hg
/-- what can be wrong -/
def Errs {α : Type} (f : ByteArray → Nat → R α) : Prop := ∀ s i x, f s i = .error x → x = 7 ∨ x = 8 ∨ x = 19
theorem Errs.seq {α β : Type} {F : ByteArray → Nat → R β} {f : ByteArray → Nat → R α} {g : α → ByteArray → Nat → R β} (hf : Errs f) (hg : ∀ a, Errs (g a))
    (he : ∀ s i e, f s i = .error e → F s i = .error e) (ho : ∀ s i a j, f s i = .ok (a, j) → F s i = g a s j) : Errs F := by
  intro s i x h
  cases hu : f s i with
  | error e =>
    rw [he s i e hu] at h
    injection h with h
    subst h
    exact hf s i e hu
  | ok p =>
    obtain ⟨a, j0⟩ := p
    rw [ho s i a j0 hu] at h
    exact hg a s j0 x h
theorem Errs.pure {α : Type} (a : α) : Errs (fun _ i => .ok (a, i)) := by
  intro s i x h; cases h
theorem Errs.fail {α : Type} (e : Int) (h : e = 7 ∨ e = 8 ∨ e = 19) : Errs (fun _ _ => (.error e : R α)) := by
  intro s i x hx
  have hx := show (Except.error e : R α) = .error x from hx
  injection hx with hx
  subst hx; exact h
theorem Errs.ite {α : Type} {p : Prop} [Decidable p] {f g : ByteArray → Nat → R α} (hf : Errs f) (hg : Errs g) : Errs (fun s i => if p then f s i else g s i) := by
  by_cases hp : p
  · simp only [hp, if_true]; exact hf
  · simp only [hp, if_false]; exact hg
theorem uintF_errs (l : List UInt8) (f : Nat) : ∀ k acc i x, uintF l f k acc i = .error x → x = 7 ∨ x = 8 ∨ x = 19 := by
  induction f with
  | zero => intro k acc i x h; cases h
  | succ f ih =>
    intro k acc i x h
    unfold uintF at h
    cases hb : l[i]? with
    | none => rw [hb] at h; injection h with h; omega
    | some b =>
      rw [hb] at h
      simp only at h
      split at h
      · injection h with h; omega
      · split at h
        · cases h
        · exact ih _ _ _ _ h
theorem bitsF_errs (l : List UInt8) (f : Nat) : ∀ acc i x, bitsF l f acc i = .error x → x = 7 ∨ x = 8 ∨ x = 19 := by
  induction f with
  | zero => intro acc i x h; cases h
  | succ f ih =>
    intro acc i x h
    unfold bitsF at h
    cases hb : l[i]? with
    | none => rw [hb] at h; injection h with h; omega
    | some b => rw [hb] at h; exact ih _ _ _ h
theorem uint_errs : Errs (fun s i => uintR s.data.toList i) := fun _ i x h => uintF_errs _ 10 0 0 i x h
theorem bits_errs : Errs (fun s i => bitsF s.data.toList 8 0 i) := fun _ i x h => bitsF_errs _ 8 0 i x h
theorem int_errs : Errs (fun s i => intR s.data.toList i) :=
  Errs.seq (f := fun s i => uintR s.data.toList i) (g := fun n _ j => (.ok (unzig n, j) : R Int)) uint_errs (fun n => Errs.pure _) (fun s i e h => by unfold intR; rw [h] <;> rfl) (fun s i a j h => by unfold intR; rw [h] <;> rfl)
theorem next_errs : Errs (fun s i => nextR s.data.toList i) := by
  intro s i x h
  have h := show nextR s.data.toList i = .error x from h
  unfold nextR at h
  cases hb : s.data.toList[i]? with
  | none => rw [hb] at h; injection h with h; omega
  | some b => rw [hb] at h; cases h
theorem text_errs (most : Nat) : Errs (fun s i => textR s most i) := by
  intro s i x h
  have h := show textR s most i = .error x from h
  unfold textR at h
  cases hu : uintR s.data.toList i with
  | error e =>
    rw [hu] at h
    injection h with h
    subst h
    exact uint_errs s i e hu
  | ok p =>
    rw [hu] at h
    simp only at h
    split at h
    · injection h with h; omega
    · split at h
      · injection h with h; omega
      · cases h
theorem raw_errs : Errs rawR := by
  refine Errs.seq (f := fun s i => nextR s.data.toList i) (g := fun (k : Nat) (s : ByteArray) (j : Nat) =>
      if k = 1 then match nextR s.data.toList j with
        | .error e => .error e
        | .ok (n, m) => (.ok ((⟨1, (n : Int), 0, ⟨#[]⟩⟩ : V), m) : R V)
      else if k = 2 then match intR s.data.toList j with
        | .error e => .error e
        | .ok (n, m) => .ok (⟨2, n, 0, ⟨#[]⟩⟩, m)
      else if k = 3 then match bitsF s.data.toList 8 0 j with
        | .error e => .error e
        | .ok (b, m) => .ok (⟨3, 0, b, ⟨#[]⟩⟩, m)
      else if k = 4 ∨ k = 5 then match textR s 4096 j with
        | .error e => .error e
        | .ok (t, m) => .ok (⟨k, 0, 0, t⟩, m)
      else .ok (⟨k, 0, 0, ⟨#[]⟩⟩, j)) next_errs (fun k => ?_) (fun s i e h => by unfold rawR; rw [h] <;> rfl) (fun s i a j h => by unfold rawR; rw [h] <;> rfl)
  refine Errs.ite (p := k = 1) (Errs.seq (f := fun s i => nextR s.data.toList i) (g := fun (n : Nat) _ m => .ok ((⟨1, (n : Int), 0, ⟨#[]⟩⟩ : V), m)) next_errs (fun n => Errs.pure _) (fun s i e h => by rw [h] <;> rfl) (fun s i a j h => by rw [h] <;> rfl)) ?_
  refine Errs.ite (p := k = 2) (Errs.seq (f := fun s i => intR s.data.toList i) (g := fun (n : Int) _ m => .ok ((⟨2, n, 0, ⟨#[]⟩⟩ : V), m)) int_errs (fun n => Errs.pure _) (fun s i e h => by rw [h] <;> rfl) (fun s i a j h => by rw [h] <;> rfl)) ?_
  refine Errs.ite (p := k = 3) (Errs.seq (f := fun s i => bitsF s.data.toList 8 0 i) (g := fun (b : Nat) _ m => .ok ((⟨3, 0, b, ⟨#[]⟩⟩ : V), m)) bits_errs (fun n => Errs.pure _) (fun s i e h => by rw [h] <;> rfl) (fun s i a j h => by rw [h] <;> rfl)) ?_
  exact Errs.ite (p := k = 4 ∨ k = 5) (Errs.seq (f := fun s i => textR s 4096 i) (g := fun (t : ByteArray) _ m => .ok ((⟨k, 0, 0, t⟩ : V), m)) (text_errs 4096) (fun n => Errs.pure _) (fun s i e h => by rw [h] <;> rfl) (fun s i a j h => by rw [h] <;> rfl)) (Errs.pure _)
theorem value_errs : Errs valueR :=
  Errs.seq (f := rawR) (g := fun (v : V) (_ : ByteArray) (j : Nat) => if v.right then (.ok (v, j) : R V) else .error 7) raw_errs (fun v => Errs.ite (p := v.right = true) (Errs.pure _) (Errs.fail _ (by omega))) (fun s i e h => by unfold valueR; rw [h] <;> rfl) (fun s i a j h => by unfold valueR; rw [h] <;> rfl)
end Cd
end Go.Proofs.Ytmgafcblbbbanaa
