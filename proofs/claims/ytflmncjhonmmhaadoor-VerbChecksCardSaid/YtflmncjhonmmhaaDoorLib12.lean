/- Regions that draw their order: one walk, in the order of the text, in a class of worlds. -/
import Derived.Test.YtflmncjhonmmhaaDoorLib11
import Derived.Deep.Quiet
namespace Go.Proofs.YtflmncjhonmmhaaDoor
open Go
set_option linter.unusedVariables false
set_option linter.unusedSimpArgs false

/-- Operations that yield a value themselves. -/
def opV : Op → Bool
  | .move _ | .assign _ | .pick .. | .load .. | .binOp .. | .unOp .. | .convert .. | .makeInterface .. | .makeFunc .. | .slice .. | .fieldAddr .. | .field .. | .indexAddr .. | .index .. | .extract .. | .build .. | .lookup .. => true
  | _ => false
/-- A result that is a value, or none at all. -/
def plainRes : Result Next → Prop
  | .ok (.value _) _ => True
  | .ok _ _ => False
  | _ => True
theorem plain_v {P : Program} {w : World} (s : Sem Value) : plainRes (((do let a ← s; pure (Next.value a)) : Sem Next).run P w) := by
  rw [Sem.run_bind]
  cases h : s.run P w <;> simp [Result.andThen, plainRes, h]
theorem opV_plain {P : Program} {w : World} {o : Oper} (h : opV o.op = true) (ρ : Operand → Value) : plainRes ((execOp ρ o).run P w) := by
  obtain ⟨dst, op, ty, pos, af, g⟩ := o
  cases op <;> simp only [opV, Bool.false_eq_true] at h <;> first
    | exact plain_v _
    | (simp only [execOp]; exact plain_v _)
    | trivial
    | (simp only [execOp, Sem.run_bind]; rename_i c _ _; cases hx : (asBool (ρ c)).run P w <;> simp [Result.andThen, plainRes, hx])

def RD (P : Program) (n : Nat) (ops : Array Oper) (C : World → Prop) (l : List Oper) (Q : Post) (σ : Sto) : Prop :=
  ∀ a, Agr n σ a → wpQuiet P ops C (fun a' => ∀ w', C w' → Q .normal a' w') l a

section
variable {P : Program} {n : Nat} {Q : Post} {σ : Sto} {w : World} {ops : Array Oper} {C : World → Prop} {l : List Oper} {d : Nat} {op : Op} {ty : TypeId} {pos : String} {af : Array Edge}

theorem T.regionD {i : Nat} {l : List Oper} (hm : P.follows .mixedOrders = true) (hB : Region.lexB .any l.toArray = true) (hC : C { w with drawn := w.drawn + 1 }) (h : RD P n l.toArray C l Q σ) : T P n (.region i l.toArray true) Q σ w :=
  fun a ha => wp_region_quiet hm hB hC (by simpa using h a ha)
theorem RD.nil (h : ∀ w', C w' → Go1 n (Q .normal) σ w') : RD P n ops C [] Q σ := fun a ha => wpQuiet_nil fun w' hw => h w' hw a ha
theorem quiet_of_upon {o : Oper} {a : Act} {v : Value} {res : Result Next} (h3 : plainRes res) (hdn : d < a.tmps.size)
    (h2 : ({ o with dst := some d } : Oper).upon P a (fun a' w' => wpList P ops (fun e a' w' => e = .normal ∧ Agr n ((d, v) :: σ) a' ∧ w' = w) [] a' w') (fun e a' w' => e = .normal ∧ Agr n ((d, v) :: σ) a' ∧ w' = w) res) : Oper.quietUpon P C w v res := by
  cases res with
  | ok nx w' =>
    cases nx with
    | value u =>
      have h4 : Exit.normal = Exit.normal ∧ Agr n ((d, v) :: σ) (a.put (some d) u) ∧ w' = w := h2
      obtain ⟨_, h4, h5⟩ := h4
      refine ⟨h5, ?_⟩
      have := h4.slots d v (by simp [look])
      simp [Act.put, hdn] at this
      exact this
    | _ => exact absurd h3 (by simp [plainRes])
  | halt hh w' =>
    cases hh with
    | panic u =>
      have h4 : Exit.panic [{ v := u, recovered := false }] = Exit.normal ∧ Agr n ((d, v) :: σ) a ∧ w' = w := h2
      exact absurd h4.1 (by intro h; cases h)
    | _ => exact h2.elim
/-- One operation, by the rule of regions that do not draw. -/
theorem RD.val {v : Value} (hd : Nat.blt d n = true) (ho : opV op = true)
    (hr : ∀ w, C w → ∀ Q' : Post, Go1 n (Q' .normal) ((d, v) :: σ) w → R P n ops [{ dst := some d, op := op, type := ty, pos := pos, after := af, guard := none }] Q' σ w)
    (k : RD P n ops C l Q ((d, v) :: σ)) : RD P n ops C ({ dst := some d, op := op, type := ty, pos := pos, after := af, guard := none } :: l) Q σ := by
  intro a ha
  refine wpQuiet_step fun K hK => ?_
  have h1 : Region.wanted { dst := some d, op := op, type := ty, pos := pos, after := af, guard := none } (yielded ops a.tmps) = true := rfl
  rw [if_pos h1]
  refine ⟨v, fun w hw => ?_, hK _ (k _ (ha.put hd v))⟩
  have h2 := hr w hw (fun e a' w' => e = .normal ∧ Agr n ((d, v) :: σ) a' ∧ w' = w) (fun a' ha' => ⟨rfl, ha', rfl⟩) a ha
  unfold wpList at h2
  rw [if_pos h1] at h2
  unfold Oper.wp at h2
  have h3 := opV_plain (P := P) (w := w) (o := { dst := some d, op := op, type := ty, pos := pos, after := af, guard := none }) ho a.eval
  unfold Oper.quietAt
  rcases h2 with h2 | ⟨_, hl⟩
  · exact quiet_of_upon (o := { dst := some d, op := op, type := ty, pos := pos, after := af, guard := none }) h3 (by rw [ha.size]; simpa [Nat.blt_eq] using hd) h2
  · obtain ⟨_, _, hl, _⟩ := hl
    cases hl
/-- An operation under a guard that holds; that does not. -/
theorem RD.iff {dst : Option Tmp} {j t : Nat} {b c : Bool} (hj : (ops[j]?).bind (·.dst) = some t) (ht : look σ t = some (.bool c)) (hc : c = b)
    (k : RD P n ops C ({ dst := dst, op := op, type := ty, pos := pos, after := af, guard := none } :: l) Q σ) :
    RD P n ops C ({ dst := dst, op := op, type := ty, pos := pos, after := af, guard := some (j, b) } :: l) Q σ := by
  subst hc
  intro a ha
  have h := k a ha
  have hv := ha.slots t _ ht
  unfold wpQuiet at h ⊢
  have h1 : Region.wanted { dst := dst, op := op, type := ty, pos := pos, after := af, guard := none } (yielded ops a.tmps) = true := rfl
  have h2 : Region.wanted { dst := dst, op := op, type := ty, pos := pos, after := af, guard := some (j, c) } (yielded ops a.tmps) = true := by
    obtain ⟨o, ho, hd⟩ := Option.bind_eq_some_iff.1 hj
    simp only [Region.wanted, yielded, ho, hd, hv, Option.bind_some]
    cases c <;> rfl
  rw [if_pos h1] at h
  rw [if_pos h2]
  exact h
theorem RD.not_ {j t : Nat} {b c : Bool} (hd : Nat.blt d n = true) (hj : (ops[j]?).bind (·.dst) = some t) (ht : look σ t = some (.bool c)) (hc : c = !b)
    (k : RD P n ops C l Q ((d, undef) :: σ)) :
    RD P n ops C ({ dst := some d, op := op, type := ty, pos := pos, after := af, guard := some (j, b) } :: l) Q σ := by
  intro a ha
  have hv := ha.slots t _ ht
  unfold wpQuiet
  have h2 : Region.wanted { dst := some d, op := op, type := ty, pos := pos, after := af, guard := some (j, b) } (yielded ops a.tmps) = false := by
    obtain ⟨o, ho, hd⟩ := Option.bind_eq_some_iff.1 hj
    simp only [Region.wanted, yielded, ho, hd, hv, Option.bind_some]
    subst hc
    cases b <;> rfl
  rw [if_neg (by simp [h2])]
  exact k _ (ha.put hd undef)
/-- A call of a function that leaves the class as it is. -/
theorem RD.call {f : FuncId} {args : Array Value} {v : Value} (hd : Nat.blt d n = true)
    (hr : ∀ w, C w → ∀ ρ : Operand → Value, Ev σ ρ → (execOp ρ { dst := some d, op := op, type := ty, pos := pos, after := af, guard := none }).run P w = .ok (.enter f args) w)
    (hc : ∀ w, C w → Calls P f args w fun e w' => e = .returned v ∧ C w')
    (k : RD P n ops C l Q ((d, v) :: σ)) : RD P n ops C ({ dst := some d, op := op, type := ty, pos := pos, after := af, guard := none } :: l) Q σ := by
  intro a ha
  refine wpQuiet_step fun K hK => ?_
  have h1 : Region.wanted { dst := some d, op := op, type := ty, pos := pos, after := af, guard := none } (yielded ops a.tmps) = true := rfl
  rw [if_pos h1]
  refine ⟨v, fun w hw => ?_, hK _ (k _ (ha.put hd v))⟩
  unfold Oper.quietAt
  rw [hr w hw a.eval ha.toEv]
  exact ⟨rfl, hc w hw⟩
theorem RD.callF {f : FuncId} {as : List Operand} {ts : Array TypeId} {vs : List Value} {v : Value} (hd : Nat.blt d n = true) (hf : Callable P f) (ha : evL σ as = some vs)
    (hc : ∀ w, C w → Calls P f vs.toArray w fun e w' => e = .returned v ∧ C w') (k : RD P n ops C l Q ((d, v) :: σ)) :
    RD P n ops C ({ dst := some d, op := .call { callee := .value (.func f), args := as.toArray, argTypes := ts }, type := ty, pos := pos, after := af, guard := none } :: l) Q σ :=
  RD.call hd (fun w hw ρ h => by
    have hg : ρ (.func f) = .func (.func f) #[] #[] := h.ev rfl
    simp [execOp, resolve, Deferred.ofValue, hg, h.evL ha, invoke, run_callF hf]) hc k
theorem RD.lenS {x : Operand} {t : TypeId} {s : Str} (hd : Nat.blt d n = true) (hT : P.underlying t = some .string) (hx : evS σ x = some (vS s)) (k : RD P n ops C l Q ((d, .int .i64 (s.length : Int)) :: σ)) :
    RD P n ops C ({ dst := some d, op := .call { callee := .builtin .len, args := #[x], argTypes := #[t] }, type := ty, pos := pos, after := af, guard := none } :: l) Q σ := by
  intro a ha
  refine wpQuiet_step fun K hK => ?_
  rw [if_pos (show Region.wanted _ _ = true from rfl)]
  refine ⟨_, fun w hw => ?_, hK _ (k _ (ha.put hd _))⟩
  unfold Oper.quietAt
  have := run_lenS (P := P) (w := w) (ty := ty) (t := t) (s := s) hT
  have e : (execOp a.eval { dst := some d, op := .call { callee := .builtin .len, args := #[x], argTypes := #[t] }, type := ty, pos := pos, after := af, guard := none }).run P w = .ok (.value (.int .i64 (s.length : Int))) w := by
    have hx' := ha.toEv.ev hx
    generalize a.eval = ρ at hx' ⊢
    simp [hx', this, go_sem]
  rw [e]
  exact ⟨rfl, rfl⟩
theorem RD.lenSl {x : Operand} {t e : TypeId} {p : Option Addr} {m c : Nat} (hd : Nat.blt d n = true) (hT : P.underlying t = some (.slice e)) (hx : evS σ x = some (.slice p m c)) (k : RD P n ops C l Q ((d, .int .i64 (m : Int)) :: σ)) :
    RD P n ops C ({ dst := some d, op := .call { callee := .builtin .len, args := #[x], argTypes := #[t] }, type := ty, pos := pos, after := af, guard := none } :: l) Q σ := by
  intro a ha
  refine wpQuiet_step fun K hK => ?_
  rw [if_pos (show Region.wanted _ _ = true from rfl)]
  refine ⟨_, fun w hw => ?_, hK _ (k _ (ha.put hd _))⟩
  unfold Oper.quietAt
  have e : (execOp a.eval { dst := some d, op := .call { callee := .builtin .len, args := #[x], argTypes := #[t] }, type := ty, pos := pos, after := af, guard := none }).run P w = .ok (.value (.int .i64 (m : Int))) w := by
    have hx' := ha.toEv.ev hx
    generalize a.eval = ρ at hx' ⊢
    simp [hx', Builtin.len_, run_underlying hT, goInt, go_sem]
  rw [e]
  exact ⟨rfl, rfl⟩
end
end Go.Proofs.YtflmncjhonmmhaaDoor
