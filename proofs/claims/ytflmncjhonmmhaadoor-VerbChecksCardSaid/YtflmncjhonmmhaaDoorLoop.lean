/- Loops as plain functions: rounds till one says that it ends. -/
namespace Go.Proofs.YtflmncjhonmmhaaDoor.Loop

def runN {σ β : Type} (step : σ → Option (σ ⊕ β)) : Nat → σ → Option β
  | 0, _ => none
  | n + 1, s => match step s with
    | none => none
    | some (.inr b) => some b
    | some (.inl s') => runN step n s'

theorem runN_succ {σ β : Type} {step : σ → Option (σ ⊕ β)} : ∀ {n : Nat} {s : σ} {b : β}, runN step n s = some b → runN step (n + 1) s = some b := by
  intro n
  induction n with
  | zero => intro s b h; simp [runN] at h
  | succ n ih =>
    intro s b h
    rw [runN] at h ⊢
    cases hs : step s with
    | none => rw [hs] at h; exact h
    | some x =>
      rw [hs] at h
      cases x with
      | inl s' => exact ih h
      | inr c => exact h

theorem runN_le {σ β : Type} {step : σ → Option (σ ⊕ β)} {n m : Nat} {s : σ} {b : β} (h : runN step n s = some b) (hnm : n ≤ m) : runN step m s = some b := by
  induction hnm with
  | refl => exact h
  | step _ ih => exact runN_succ ih

open Classical in
/-- What a loop comes to from s on; none: it does not end, or a round fails. -/
noncomputable def run {σ β : Type} (step : σ → Option (σ ⊕ β)) (s : σ) : Option β :=
  if h : ∃ n b, runN step n s = some b then some (Classical.choose (Classical.choose_spec h)) else none

theorem run_iff {σ β : Type} {step : σ → Option (σ ⊕ β)} {s : σ} {b : β} : run step s = some b ↔ ∃ n, runN step n s = some b := by
  unfold run
  constructor
  · intro h
    split at h
    · rename_i hx
      have := Classical.choose_spec (Classical.choose_spec hx)
      cases h
      exact ⟨_, this⟩
    · cases h
  · rintro ⟨n, hn⟩
    have hx : ∃ n b, runN step n s = some b := ⟨n, b, hn⟩
    rw [dif_pos hx]
    have h2 := Classical.choose_spec (Classical.choose_spec hx)
    have h3 := runN_le h2 (Nat.le_max_left _ n)
    have h4 := runN_le hn (Nat.le_max_right (Classical.choose hx) n)
    exact congrArg some (Option.some.inj (h3.symm.trans h4))

theorem run_eq {σ β : Type} (step : σ → Option (σ ⊕ β)) (s : σ) : run step s = match step s with
    | none => none
    | some (.inr b) => some b
    | some (.inl s') => run step s' := by
  apply Option.ext
  intro b
  rw [run_iff]
  cases hs : step s with
  | none =>
    simp
    intro n
    cases n <;> simp [runN, hs]
  | some x =>
    cases x with
    | inl s' =>
      simp only [run_iff]
      constructor
      · rintro ⟨n, hn⟩
        cases n with
        | zero => simp [runN] at hn
        | succ n => rw [runN, hs] at hn; exact ⟨n, hn⟩
      · rintro ⟨n, hn⟩
        exact ⟨n + 1, by rw [runN, hs]; exact hn⟩
    | inr c =>
      simp
      constructor
      · rintro ⟨n, hn⟩
        cases n with
        | zero => simp [runN] at hn
        | succ n => rw [runN, hs] at hn; simpa using hn
      · rintro rfl
        exact ⟨1, by simp [runN, hs]⟩

/-- One round of a loop that ends: it goes on and ends, or it ends. -/
theorem run_step {σ β : Type} {step : σ → Option (σ ⊕ β)} {s : σ} {b : β} (h : run step s = some b) : ∃ x, step s = some x ∧ (∀ s', x = .inl s' → run step s' = some b) ∧ (∀ c, x = .inr c → c = b) := by
  rw [run_eq] at h
  cases hs : step s with
  | none => rw [hs] at h; cases h
  | some x =>
    rw [hs] at h
    refine ⟨x, rfl, ?_, ?_⟩
    · rintro s' rfl; exact h
    · rintro c rfl; exact Option.some.inj h

theorem run_inl {σ β : Type} {step : σ → Option (σ ⊕ β)} {s s' : σ} (h : step s = some (.inl s')) : run step s = run step s' := by rw [run_eq, h]
theorem run_inr {σ β : Type} {step : σ → Option (σ ⊕ β)} {s : σ} {b : β} (h : step s = some (.inr b)) : run step s = some b := by rw [run_eq, h]

/-- A loop with a measure: from P on it ends in R. -/
theorem run_ends {σ β : Type} {step : σ → Option (σ ⊕ β)} (I : σ → Prop) (R : σ → β → Prop) (m : σ → Nat)
    (h : ∀ s, I s → (∃ b, step s = some (.inr b) ∧ R s b) ∨ ∃ s', step s = some (.inl s') ∧ I s' ∧ m s' < m s ∧ ∀ b, R s' b → R s b) :
    ∀ s, I s → ∃ b, run step s = some b ∧ R s b := by
  have key : ∀ n s, m s ≤ n → I s → ∃ b, run step s = some b ∧ R s b := by
    intro n
    induction n with
    | zero =>
      intro s hn hs
      rcases h s hs with ⟨b, hb, hr⟩ | ⟨s', _, _, hlt, _⟩
      · exact ⟨b, run_inr hb, hr⟩
      · omega
    | succ n ih =>
      intro s hn hs
      rcases h s hs with ⟨b, hb, hr⟩ | ⟨s', hs', hi, hlt, hr⟩
      · exact ⟨b, run_inr hb, hr⟩
      · obtain ⟨b, hb, hrb⟩ := ih s' (by omega) hi
        exact ⟨b, (run_inl hs').trans hb, hr b hrb⟩
  exact fun s hs => key (m s) s (Nat.le_refl _) hs

/-- What holds of a loop's start and is kept by its rounds holds where it ends. -/
theorem run_inv {σ β : Type} {step : σ → Option (σ ⊕ β)} (I : σ → Prop) (R : β → Prop) (h1 : ∀ s s', I s → step s = some (.inl s') → I s') (h2 : ∀ s b, I s → step s = some (.inr b) → R b)
    {s : σ} {b : β} (hs : I s) (h : run step s = some b) : R b := by
  obtain ⟨n, hn⟩ := run_iff.1 h
  induction n generalizing s with
  | zero => simp [runN] at hn
  | succ n ih =>
    rw [runN] at hn
    cases hx : step s with
    | none => rw [hx] at hn; cases hn
    | some x =>
      rw [hx] at hn
      cases x with
      | inl s' => exact ih (h1 s s' hs hx) (run_iff.2 ⟨n, hn⟩) hn
      | inr c => exact h2 s b hs (by rw [hx]; simpa using hn)
end Go.Proofs.YtflmncjhonmmhaaDoor.Loop
