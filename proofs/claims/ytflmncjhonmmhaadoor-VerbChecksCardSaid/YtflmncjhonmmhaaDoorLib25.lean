/- Arrays: a whole array stored; an element at an index that is known by cases. -/
import Derived.Test.YtflmncjhonmmhaaDoorLib24
namespace Go.Proofs.YtflmncjhonmmhaaDoor
open Go
set_option linter.unusedVariables false
set_option linter.unusedSimpArgs false
section
variable {P : Program} {n : Nat} {Q : Post} {σ : Sto} {w W0 : World} {S : FP} {D L : List Asn} {ops : Array Oper} {l : List Oper} {d : Nat} {ty T U : TypeId} {pos : String} {af : Array Edge}
theorem R.stAA {α : Type} {e : Enc α} {x y : Operand} {b : Nat} {xs ys : List α} (i : Nat) (h : H W0 S w D L) (hi : L[i]? = some (AArr b U e xs)) (hT : (P.info? T).map (·.size) = some (ys.length * e.k))
    (hx : evS σ x = some (.pointer (some ⟨b, 0, none⟩))) (hy : evS σ y = some (.agg (e.flat ys).toArray)) (hl : ys.length = xs.length)
    (kk : ∀ w', H W0 S w' D (L.set i (AArr b U e ys)) → R P n ops l Q σ w') :
    R P n ops ({ dst := none, op := .store T x y, type := ty, pos := pos, after := af, guard := none } :: l) Q σ w := by
  have hs : (e.flat ys).length = (e.flat xs).length := by rw [e.flat_len, e.flat_len, hl]
  refine R.stB (ds := e.flat ys) i h hi (by rw [hT, e.flat_len]) hx hy (by simp [Value.cells]) ?_ (List.all_eq_true.2 fun u hu => e.flat_one ys u hu) fun w' h' => kk w' ?_
  · exact Nat.ble_eq_true_of_le (by simp [hs])
  · have : ovl (e.flat xs).toArray.toList 0 (e.flat ys) = e.flat ys := by
      unfold ovl
      simp [hs]
    rw [this] at h'
    exact h'
theorem R.idxE {x y : Operand} {m : Nat} {cs : Array Value} {ik : IntKind} {i jj : Int} {e : TypeId} {kk : Nat} {v : Value} (j : Nat) (hd : Nat.blt d n = true) (hT : P.underlying T = some (.array m e)) (hE : shapeOf P e = some (false, kk)) (hz : (P.info? e).map (·.size) = some 1)
    (hx : evS σ x = some (.agg cs)) (hy : evS σ y = some (.int ik i)) (hjj : jj = (j : Int)) (hc : (i == jj) = true) (hj : Nat.blt j m = true) (hv : cs[j]? = some v) (k : R P n ops l Q ((d, v) :: σ) w) :
    R P n ops ({ dst := some d, op := .index T x y, type := ty, pos := pos, after := af, guard := none } :: l) Q σ w := by
  obtain rfl : i = jj := by simpa using hc
  subst hjj
  have hlt : j < m := by simpa [Nat.blt_eq] using hj
  exact R.idxV hd hT hE hz hx hy (by omega) (by omega) (by simpa using hv) k
end
/-- An operation behind one that was not done, in a region that draws. -/
theorem RD.offU {P : Program} {n : Nat} {Q : Post} {σ : Sto} {ops : Array Oper} {C : World → Prop} {l : List Oper} {d : Nat} {op : Op} {ty : TypeId} {pos : String} {af : Array Edge} {j t : Nat} {b : Bool} (hd : Nat.blt d n = true) (hj : (ops[j]?).bind (·.dst) = some t) (ht : look σ t = some undef)
    (k : RD P n ops C l Q ((d, undef) :: σ)) :
    RD P n ops C ({ dst := some d, op := op, type := ty, pos := pos, after := af, guard := some (j, b) } :: l) Q σ := by
  intro a ha
  have hv := ha.slots t _ ht
  unfold wpQuiet
  have h2 : Region.wanted { dst := some d, op := op, type := ty, pos := pos, after := af, guard := some (j, b) } (yielded ops a.tmps) = false := by
    obtain ⟨o, ho, hd⟩ := Option.bind_eq_some_iff.1 hj
    simp only [Region.wanted, yielded, ho, hd, hv, Option.bind_some]
    rfl
  rw [if_neg (by simp [h2])]
  exact k _ (ha.put hd undef)

/-! ### twins that the kernel can evaluate -/
/-- Loops of at most k rounds. -/
def Loop.runC {σ β : Type} (k : Nat) (step : σ → Option (σ ⊕ β)) (s : σ) : Option β := Loop.runN step k s
def Le {α : Type} (x y : Option α) : Prop := ∀ a, x = some a → y = some a
theorem Le.refl {α : Type} (x : Option α) : Le x x := fun _ h => h
theorem Le.bind {α β : Type} {x y : Option α} {f g : α → Option β} (h : Le x y) (k : ∀ a, Le (f a) (g a)) : Le (x.bind f) (y.bind g) := by
  intro b hb
  obtain ⟨a, h1, h2⟩ := Option.bind_eq_some_iff.1 hb
  exact Option.bind_eq_some_iff.2 ⟨a, h a h1, k a b h2⟩
theorem Le.ite {α : Type} {c : Prop} [Decidable c] {x y x' y' : Option α} (h : Le x y) (h' : Le x' y') : Le (if c then x else x') (if c then y else y') := by
  split
  · exact h
  · exact h'
theorem Le.run {σ β : Type} {k : Nat} {f g : σ → Option (σ ⊕ β)} {s : σ} (h : ∀ s, Le (f s) (g s)) : Le (Loop.runC k f s) (Loop.run g s) := by
  intro b hb
  refine Loop.run_iff.2 ⟨k, ?_⟩
  unfold Loop.runC at hb
  induction k generalizing s with
  | zero => simp [Loop.runN] at hb
  | succ k ih =>
    rw [Loop.runN] at hb ⊢
    cases hf : f s with
    | none => rw [hf] at hb; cases hb
    | some x =>
      rw [h s x hf]
      rw [hf] at hb
      cases x with
      | inl s' => exact ih hb
      | inr c => exact hb
theorem Le.elim {α β γ : Type} {f g : α → Option γ} {f' g' : β → Option γ} {s : α ⊕ β} (h : ∀ a, Le (f a) (g a)) (h' : ∀ b, Le (f' b) (g' b)) : Le (Sum.elim f f' s) (Sum.elim g g' s) := by
  cases s with
  | inl a => exact h a
  | inr b => exact h' b
end Go.Proofs.YtflmncjhonmmhaaDoor
