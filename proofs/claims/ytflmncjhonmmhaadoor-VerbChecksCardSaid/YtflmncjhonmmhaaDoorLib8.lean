/- Returns, loops, and the operations on slices that are owned. -/
import Derived.Test.YtflmncjhonmmhaaDoorLib7
import Derived.Test.YtflmncjhonmmhaaDoorLoop
import Derived.Deep.LoopGhost
namespace Go.Proofs.YtflmncjhonmmhaaDoor
open Go
set_option linter.unusedVariables false
set_option linter.unusedSimpArgs false

section
variable {P : Program} {n : Nat} {Q : Post} {σ : Sto} {w W0 : World} {S : FP} {D L : List Asn} {ops : Array Oper} {l : List Oper} {d : Nat} {ty U : TypeId} {pos : String} {af : Array Edge}

/-! ### returns -/
theorem ret0 {fn : Func} {Z : Value → World → Prop} (hr : fn.results = #[]) (hS : Z (.tuple #[]) w) : Go1 n (bodyPost P fn (fun e w' => ∃ v, e = .returned v ∧ Z v w') .ret) σ w :=
  fun a ha => ⟨ha.defers, _, results_none hr _ _ _, _, rfl, hS⟩
theorem ret1 {fn : Func} {Z : Value → World → Prop} {t : Nat} {v : Value} (hr : fn.results = #[.tmp t]) (ht : look σ t = some v) (hS : Z v w) : Go1 n (bodyPost P fn (fun e w' => ∃ v, e = .returned v ∧ Z v w') .ret) σ w :=
  fun a ha => ⟨ha.defers, _, results_tmp hr _ _ _, _, rfl, by have := ha.slots t v ht; simpa [Array.getD_eq_getD_getElem?, this] using hS⟩
theorem ret2 {fn : Func} {Z : Value → World → Prop} {t u : Nat} {v x : Value} (hr : fn.results = #[.tmp t, .tmp u]) (ht : look σ t = some v) (hu : look σ u = some x) (hS : Z (.tuple #[v, x]) w) :
    Go1 n (bodyPost P fn (fun e w' => ∃ v, e = .returned v ∧ Z v w') .ret) σ w :=
  fun a ha => ⟨ha.defers, _, results_tmp2 hr _ _ _, _, rfl, by have h1 := ha.slots t v ht; have h2 := ha.slots u x hu; simpa [Array.getD_eq_getD_getElem?, h1, h2] using hS⟩
theorem end0 {fn : Func} {Z : Value → World → Prop} (hr : fn.results = #[]) (hS : Z (.tuple #[]) w) : Go1 n (bodyPost P fn (fun e w' => ∃ v, e = .returned v ∧ Z v w') .normal) σ w :=
  fun a ha => ⟨ha.defers, _, results_none hr _ _ _, _, rfl, hS⟩

/-! ### loops -/
/-- The plain loop 'step' from s0 on comes to r; J says what of the frame and the memory means a state. -/
theorem T.loop {c : Code} {s β : Type} {step : s → Option (s ⊕ β)} (J : s → Act → World → Prop) {s0 : s} {r : β} (hr : Loop.run step s0 = some r) (h0 : ∀ a, Agr n σ a → J s0 a w)
    (round : ∀ x, Loop.run step x = some r → ∀ a w, J x a w → c.wp P (Exit.then (fun a' w' => ∃ x', step x = some (.inl x') ∧ J x' a' w') Q) a w) : T P n (.loop c) Q σ w := by
  intro a ha
  obtain ⟨m, hm⟩ := Loop.run_iff.1 hr
  refine wp_loop_ghost (fun m a w => ∃ x, Loop.runN step m x = some r ∧ J x a w) m ⟨s0, hm, h0 a ha⟩ ?_
  rintro m a w ⟨x, hx, hJ⟩
  refine wp_mono (round x (Loop.run_iff.2 ⟨m, hx⟩) a w hJ) ?_
  intro e a' w' he
  cases e with
  | normal =>
    obtain ⟨x', hs, hJ'⟩ := he
    cases m with
    | zero => simp [Loop.runN] at hx
    | succ m =>
      rw [Loop.runN, hs] at hx
      exact ⟨m, by omega, x', hx, hJ'⟩
  | exit i => exact he
  | goto i => exact he
  | ret => exact he
  | panic c => exact he
  | outgrown => exact he
end
end Go.Proofs.YtflmncjhonmmhaaDoor
