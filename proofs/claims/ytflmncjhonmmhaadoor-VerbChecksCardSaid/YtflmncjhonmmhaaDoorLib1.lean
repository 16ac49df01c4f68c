/- The frame of a call as a list of known slots, and the rules by which a body is walked with it. -/
import Derived.WalkKit
import Derived.KernelRfl
import Derived.Below
namespace Go.Proofs.YtflmncjhonmmhaaDoor
open Go
set_option linter.unusedVariables false
set_option linter.unusedSimpArgs false

/-- What is known of a frame's slots: the newest first. -/
abbrev Sto := List (Nat × Value)

def look : Sto → Nat → Option Value
  | [], _ => none
  | (i, v) :: s, t => bif Nat.beq i t then some v else look s t

def evS (σ : Sto) : Operand → Option Value
  | .tmp t => look σ t
  | .const v => some v
  | .global g => some (.pointer (some ⟨g, 0, none⟩))
  | .func f => some (.func (.func f) #[] #[])

structure Agr (n : Nat) (σ : Sto) (a : Act) : Prop where
  defers : a.defers = []
  size : a.tmps.size = n
  slots : ∀ t v, look σ t = some v → a.tmps[t]? = some v

theorem Agr.ev {n : Nat} {σ : Sto} {a : Act} (h : Agr n σ a) {x : Operand} {v : Value} (hx : evS σ x = some v) : a.eval x = v := by
  cases x with
  | tmp t => simp [Act.eval, h.slots t v hx]
  | const c => exact Option.some.inj hx
  | global g => exact Option.some.inj hx
  | func f => exact Option.some.inj hx

/-- Operands that read as the slots say. -/
def Ev (σ : Sto) (ρ : Operand → Value) : Prop := ∀ x v, evS σ x = some v → ρ x = v
theorem Agr.toEv {n : Nat} {σ : Sto} {a : Act} (h : Agr n σ a) : Ev σ a.eval := fun _ _ hx => h.ev hx
theorem Ev.ev {σ : Sto} {ρ : Operand → Value} (h : Ev σ ρ) {x : Operand} {v : Value} (hx : evS σ x = some v) : ρ x = v := h x v hx

theorem Agr.put {n : Nat} {σ : Sto} {a : Act} (h : Agr n σ a) {d : Nat} (hd : Nat.blt d n = true) (v : Value) : Agr n ((d, v) :: σ) (a.put (some d) v) := by
  have hd' : d < n := by simpa [Nat.blt_eq] using hd
  refine ⟨h.defers, by simp [Act.put, h.size], ?_⟩
  intro t u ht
  simp only [look] at ht
  by_cases e : d = t
  · subst e
    simp at ht
    subst ht
    simp [Act.put, h.size, hd']
  · have : Nat.beq d t = false := by
      cases hb : Nat.beq d t
      · rfl
      · exact absurd (Nat.eq_of_beq_eq_true hb) e
    rw [this] at ht
    have := h.slots t u (by simpa using ht)
    simp only [Act.put, Array.getElem?_setIfInBounds]
    rw [if_neg e]
    exact this

/-- Forget slots, or lay them anew in another order. -/
theorem Agr.only {n : Nat} {σ σ' : Sto} {a : Act} (h : Agr n σ a) (hs : ∀ t v, look σ' t = some v → look σ t = some v) : Agr n σ' a :=
  ⟨h.defers, h.size, fun t v ht => h.slots t v (hs t v ht)⟩

theorem agr_nil {n : Nat} {σ : Sto} {a : Act} (h : Agr n σ a) : Agr n [] a := h.only (by intro t v h; cases h)
theorem agr_cons {n : Nat} {σ σ' : Sto} {a : Act} {t : Nat} {v : Value} (h : Agr n σ a) (h' : Agr n σ' a) (ht : look σ t = some v) : Agr n ((t, v) :: σ') a := by
  refine ⟨h.defers, h.size, ?_⟩
  intro u x hu
  simp only [look] at hu
  cases hb : Nat.beq t u
  · rw [hb] at hu; exact h'.slots u x (by simpa using hu)
  · rw [hb] at hu
    have := Nat.eq_of_beq_eq_true hb
    subst this
    simp at hu
    subst hu
    exact h.slots _ _ ht

/-! ### bodies -/
abbrev Post := Exit → Act → World → Prop

/-- A piece of a body, from a frame of which σ is known. -/
def T (P : Program) (n : Nat) (c : Code) (Q : Post) (σ : Sto) (w : World) : Prop := ∀ a, Agr n σ a → c.wp P Q a w

/-- The rest of a region; behind it K. -/
def R (P : Program) (n : Nat) (ops : Array Oper) (l : List Oper) (Q : Post) (σ : Sto) (w : World) : Prop := ∀ a, Agr n σ a → wpList P ops Q l a w

/-- What follows, unread: 'from every frame of which σ is known, K holds'. -/
def Go1 (n : Nat) (K : Act → World → Prop) (σ : Sto) (w : World) : Prop := ∀ a, Agr n σ a → K a w

section
variable {P : Program} {n : Nat} {Q : Post} {σ : Sto} {w : World}

theorem T.seq {x y : Code} (h : ∀ K : Act → World → Prop, (∀ σ w, T P n y Q σ w → Go1 n K σ w) → T P n x (Exit.then K Q) σ w) : T P n (.seq x y) Q σ w := by
  intro a ha
  refine wp_seq (h (fun a w => y.wp P Q a w) (fun σ w hT a ha => hT a ha) a ha)

theorem T.skip (h : Go1 n (Q .normal) σ w) : T P n .skip Q σ w := fun a ha => wp_skip (h a ha)
theorem T.exit {i : Nat} (h : Go1 n (Q (.exit i)) σ w) : T P n (.exit i) Q σ w := fun a ha => wp_exit (h a ha)
theorem T.ret (h : Go1 n (Q .ret) σ w) : T P n .ret Q σ w := fun a ha => wp_ret (h a ha)
theorem T.block {i : Nat} {c : Code} (h : T P n c (Exit.inBlock i Q) σ w) : T P n (.block i c) Q σ w := fun a ha => wp_block (h a ha)
theorem T.region {i : Nat} {l : List Oper} (h : R P n l.toArray l Q σ w) : T P n (.region i l.toArray false) Q σ w := fun a ha => wp_region_lit (h a ha)
theorem T.cond {c : Operand} {x y : Code} {b : Bool} (hc : evS σ c = some (.bool b)) (ht : b = true → T P n x Q σ w) (hf : b = false → T P n y Q σ w) : T P n (.cond c x y) Q σ w :=
  fun a ha => wp_cond_split (ha.ev hc) (fun h => ht h a ha) (fun h => hf h a ha)
theorem T.condT {c : Operand} {x y : Code} (hc : evS σ c = some (.bool true)) (ht : T P n x Q σ w) : T P n (.cond c x y) Q σ w :=
  fun a ha => wp_cond_true (ha.ev hc) (ht a ha)
theorem T.condF {c : Operand} {x y : Code} (hc : evS σ c = some (.bool false)) (hf : T P n y Q σ w) : T P n (.cond c x y) Q σ w :=
  fun a ha => wp_cond_false (ha.ev hc) (hf a ha)
theorem T.mono {c : Code} {Q' : Post} (h : T P n c Q σ w) (hq : ∀ e a w, Q e a w → Q' e a w) : T P n c Q' σ w := fun a ha => wp_mono (h a ha) hq
theorem T.only {c : Code} {σ' : Sto} (hs : ∀ a, Agr n σ a → Agr n σ' a) (h : T P n c Q σ' w) : T P n c Q σ w := fun a ha => h a (hs a ha)

theorem R.nil {ops : Array Oper} (h : Go1 n (Q .normal) σ w) : R P n ops [] Q σ w := fun a ha => wpList_nil (h a ha)

/-- One operation that yields a value. -/
theorem R.val {ops : Array Oper} {l : List Oper} {d : Nat} {op : Op} {ty : TypeId} {pos : String} {af : Array Edge} {v : Value} {w' : World}
    (hd : Nat.blt d n = true) (hr : ∀ ρ : Operand → Value, Ev σ ρ → (execOp ρ { dst := some d, op := op, type := ty, pos := pos, after := af, guard := none }).run P w = .ok (.value v) w')
    (k : R P n ops l Q ((d, v) :: σ) w') : R P n ops ({ dst := some d, op := op, type := ty, pos := pos, after := af, guard := none } :: l) Q σ w := by
  intro a ha
  refine wpList_plain rfl fun K hK => ?_
  unfold Oper.wp
  rw [hr a.eval ha.toEv]
  exact hK _ _ (k _ (ha.put hd v))

/-- One operation that yields nothing (a store). -/
theorem R.unit {ops : Array Oper} {l : List Oper} {op : Op} {ty : TypeId} {pos : String} {af : Array Edge} {w' : World}
    (hr : ∀ ρ : Operand → Value, Ev σ ρ → (execOp ρ { dst := none, op := op, type := ty, pos := pos, after := af, guard := none }).run P w = .ok .skip w')
    (k : R P n ops l Q σ w') : R P n ops ({ dst := none, op := op, type := ty, pos := pos, after := af, guard := none } :: l) Q σ w := by
  intro a ha
  refine wpList_plain rfl fun K hK => ?_
  unfold Oper.wp
  rw [hr a.eval ha.toEv]
  exact hK _ _ (k _ ha)

/-- A call of a function of the program that returns. -/
theorem R.call {ops : Array Oper} {l : List Oper} {d : Nat} {op : Op} {ty : TypeId} {pos : String} {af : Array Edge} {f : FuncId} {args : Array Value} {S : Value → World → Prop}
    (hd : Nat.blt d n = true) (hr : ∀ ρ : Operand → Value, Ev σ ρ → (execOp ρ { dst := some d, op := op, type := ty, pos := pos, after := af, guard := none }).run P w = .ok (.enter f args) w)
    (hc : Calls P f args w fun e w' => ∃ v, e = .returned v ∧ S v w')
    (k : ∀ v w', S v w' → R P n ops l Q ((d, v) :: σ) w') : R P n ops ({ dst := some d, op := op, type := ty, pos := pos, after := af, guard := none } :: l) Q σ w := by
  intro a ha
  refine wpList_plain rfl fun K hK => ?_
  unfold Oper.wp
  rw [hr a.eval ha.toEv]
  refine hc.mono ?_
  rintro e w' ⟨v, rfl, hs⟩
  exact hK _ _ (k v w' hs _ (ha.put hd v))

/-- A call whose result is not kept. -/
theorem R.callU {ops : Array Oper} {l : List Oper} {op : Op} {ty : TypeId} {pos : String} {af : Array Edge} {f : FuncId} {args : Array Value} {S : Value → World → Prop}
    (hr : ∀ ρ : Operand → Value, Ev σ ρ → (execOp ρ { dst := none, op := op, type := ty, pos := pos, after := af, guard := none }).run P w = .ok (.enter f args) w)
    (hc : Calls P f args w fun e w' => ∃ v, e = .returned v ∧ S v w')
    (k : ∀ v w', S v w' → R P n ops l Q σ w') : R P n ops ({ dst := none, op := op, type := ty, pos := pos, after := af, guard := none } :: l) Q σ w := by
  intro a ha
  refine wpList_plain rfl fun K hK => ?_
  unfold Oper.wp
  rw [hr a.eval ha.toEv]
  refine hc.mono ?_
  rintro e w' ⟨v, rfl, hs⟩
  exact hK _ _ (k v w' hs _ ha)

/-- An operation under a guard that holds: as without it. -/
theorem R.on {ops : Array Oper} {l : List Oper} {dst : Option Tmp} {op : Op} {ty : TypeId} {pos : String} {af : Array Edge} {j t : Nat} {b : Bool}
    (hj : (ops[j]?).bind (·.dst) = some t) (ht : look σ t = some (.bool b))
    (k : R P n ops ({ dst := dst, op := op, type := ty, pos := pos, after := af, guard := none } :: l) Q σ w) :
    R P n ops ({ dst := dst, op := op, type := ty, pos := pos, after := af, guard := some (j, b) } :: l) Q σ w := by
  intro a ha
  have h := k a ha
  have hv := ha.slots t _ ht
  unfold wpList at h ⊢
  have h1 : Region.wanted { dst := dst, op := op, type := ty, pos := pos, after := af, guard := none } (yielded ops a.tmps) = true := rfl
  have h2 : Region.wanted { dst := dst, op := op, type := ty, pos := pos, after := af, guard := some (j, b) } (yielded ops a.tmps) = true := by
    obtain ⟨o, ho, hd⟩ := Option.bind_eq_some_iff.1 hj
    simp only [Region.wanted, yielded, ho, hd, hv, Option.bind_some]
    cases b <;> rfl
  rw [if_pos h1] at h
  rw [if_pos h2]
  exact h

/-- An operation under a guard that does not hold is passed over. -/
theorem R.off {ops : Array Oper} {l : List Oper} {d : Nat} {op : Op} {ty : TypeId} {pos : String} {af : Array Edge} {j t : Nat} {b c : Bool}
    (hd : Nat.blt d n = true) (hj : (ops[j]?).bind (·.dst) = some t) (ht : look σ t = some (.bool c)) (hbc : (c == b) = false)
    (k : R P n ops l Q ((d, undef) :: σ) w) :
    R P n ops ({ dst := some d, op := op, type := ty, pos := pos, after := af, guard := some (j, b) } :: l) Q σ w := by
  intro a ha
  have hv := ha.slots t _ ht
  unfold wpList
  have h2 : Region.wanted { dst := some d, op := op, type := ty, pos := pos, after := af, guard := some (j, b) } (yielded ops a.tmps) = false := by
    obtain ⟨o, ho, hd⟩ := Option.bind_eq_some_iff.1 hj
    simp only [Region.wanted, yielded, ho, hd, hv, Option.bind_some]
    cases b <;> cases c <;> simp_all
  rw [if_neg (by simp [h2])]
  exact k _ (ha.put hd undef)
/-- .. and one whose guard was passed over itself. -/
theorem R.offU {ops : Array Oper} {l : List Oper} {d : Nat} {op : Op} {ty : TypeId} {pos : String} {af : Array Edge} {j t : Nat} {b : Bool}
    (hd : Nat.blt d n = true) (hj : (ops[j]?).bind (·.dst) = some t) (ht : look σ t = some undef)
    (k : R P n ops l Q ((d, undef) :: σ) w) :
    R P n ops ({ dst := some d, op := op, type := ty, pos := pos, after := af, guard := some (j, b) } :: l) Q σ w := by
  intro a ha
  have hv := ha.slots t _ ht
  unfold wpList
  have h2 : Region.wanted { dst := some d, op := op, type := ty, pos := pos, after := af, guard := some (j, b) } (yielded ops a.tmps) = false := by
    obtain ⟨o, ho, hd⟩ := Option.bind_eq_some_iff.1 hj
    simp only [Region.wanted, yielded, ho, hd, hv, Option.bind_some]
    rfl
  rw [if_neg (by simp [h2])]
  exact k _ (ha.put hd undef)
end

def argS : Nat → List Value → Sto
  | _, [] => []
  | i, v :: r => (i, v) :: argS (i + 1) r

theorem argS_look : ∀ (vs : List Value) (i t : Nat) (v : Value), look (argS i vs) t = some v → i ≤ t ∧ vs[t - i]? = some v := by
  intro vs
  induction vs with
  | nil => intro i t v h; simp [argS, look] at h
  | cons x r ih =>
    intro i t v h
    simp only [argS, look] at h
    cases hb : Nat.beq i t
    · rw [hb] at h
      obtain ⟨h1, h2⟩ := ih (i + 1) t v (by simpa using h)
      refine ⟨by omega, ?_⟩
      rw [show t - i = (t - (i + 1)) + 1 by omega, List.getElem?_cons_succ]
      exact h2
    · have := Nat.eq_of_beq_eq_true hb
      subst this
      rw [hb] at h
      simp at h
      subst h
      simp

/-- From the rules of a body to the call. -/
theorem calls_body {P : Program} {f : FuncId} {fn : Func} {c : Code} {vs : List Value} {w : World} {S : Value → World → Prop} (n : Nat)
    (hf : P.funcs[f]? = some fn) (hb : fn.body = some c) (hn : fn.ntmps = n) (hargs : Nat.ble vs.length n = true)
    (h : T P n c (bodyPost P fn fun e w' => ∃ v, e = .returned v ∧ S v w') (argS 0 vs) w) : Calls P f vs.toArray w fun e w' => ∃ v, e = .returned v ∧ S v w' := by
  subst hn
  have hl : vs.length ≤ fn.ntmps := Nat.le_of_ble_eq_true hargs
  refine calls_of_wp hf hb (h _ ⟨rfl, by simp; omega, ?_⟩)
  intro t v ht
  obtain ⟨_, h2⟩ := argS_look vs 0 t v ht
  have hlt := (List.getElem?_eq_some_iff.1 h2).1
  simp only [Nat.sub_zero] at h2 hlt
  rw [Array.getElem?_append_left (by simpa using hlt)]
  simpa using h2

theorem ifT {α : Type} {b : Bool} {x y : α} (h : b = true) : (if b = true then x else y) = x := if_pos h
theorem ifF {α : Type} {b : Bool} {x y : α} (h : b = false) : (if b = true then x else y) = y := if_neg (by rw [h]; exact Bool.noConfusion)
end Go.Proofs.YtflmncjhonmmhaaDoor
