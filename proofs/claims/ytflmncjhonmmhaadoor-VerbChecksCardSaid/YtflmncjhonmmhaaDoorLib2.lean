/- The operations that make a value out of values: a rule each, by what is known of their operands. -/
import Derived.Test.YtflmncjhonmmhaaDoorLib1
import Derived.WideLaws
import Derived.WalkLawsBesides
import Derived.LaidEql
namespace Go.Proofs.YtflmncjhonmmhaaDoor
open Go
set_option linter.unusedVariables false
set_option linter.unusedSimpArgs false

/-- A string's value by its bytes. -/
abbrev Str := List UInt8
def vS (l : Str) : Value := .string ⟨l.toArray⟩

def iand (k : IntKind) (x y : Int) : Int := k.wrap (BitVec.ofInt k.bits x &&& BitVec.ofInt k.bits y).toNat
def ior (k : IntKind) (x y : Int) : Int := k.wrap (BitVec.ofInt k.bits x ||| BitVec.ofInt k.bits y).toNat
def ixor (k : IntKind) (x y : Int) : Int := k.wrap (BitVec.ofInt k.bits x ^^^ BitVec.ofInt k.bits y).toNat
def iandn (k : IntKind) (x y : Int) : Int := k.wrap (BitVec.ofInt k.bits x &&& ~~~ BitVec.ofInt k.bits y).toNat
def ishl (k : IntKind) (x y : Int) : Int := k.wrap (x * 2 ^ (min y.toNat k.bits))
def ishr (k : IntKind) (x y : Int) : Int := x.fdiv (2 ^ (min y.toNat k.bits))

def evL (σ : Sto) : List Operand → Option (List Value)
  | [] => some []
  | x :: l => match evS σ x, evL σ l with | some v, some vs => some (v :: vs) | _, _ => none
theorem Ev.evL {σ : Sto} {ρ : Operand → Value} (h : Ev σ ρ) : ∀ {l : List Operand} {vs : List Value}, evL σ l = some vs → l.map ρ = vs := by
  intro l
  induction l with
  | nil => intro vs e; simp [Proofs.YtflmncjhonmmhaaDoor.evL] at e; subst e; rfl
  | cons x l ih =>
    intro vs e
    simp only [Proofs.YtflmncjhonmmhaaDoor.evL] at e
    split at e
    · rename_i v vs' h1 h2
      cases e
      simp [h.ev h1, ih h2]
    · cases e
def evP (σ : Sto) : List (Nat × Operand) → Option (List (Nat × Value))
  | [] => some []
  | (i, x) :: l => match evS σ x, evP σ l with | some v, some vs => some ((i, v) :: vs) | _, _ => none
theorem Ev.evP {σ : Sto} {ρ : Operand → Value} (h : Ev σ ρ) : ∀ {l : List (Nat × Operand)} {vs : List (Nat × Value)}, evP σ l = some vs → l.map (fun (i, x) => (i, ρ x)) = vs := by
  intro l
  induction l with
  | nil => intro vs e; simp [Proofs.YtflmncjhonmmhaaDoor.evP] at e; subst e; rfl
  | cons x l ih =>
    obtain ⟨i, x⟩ := x
    intro vs e
    simp only [Proofs.YtflmncjhonmmhaaDoor.evP] at e
    split at e
    · rename_i v vs' h1 h2
      cases e
      simp [h.ev h1, ih h2]
    · cases e

section
variable {P : Program} {n : Nat} {Q : Post} {σ : Sto} {w : World} {ops : Array Oper} {l : List Oper} {d : Nat} {ty T : TypeId} {pos : String} {af : Array Edge}

theorem R.mv {x : Operand} {v : Value} (hd : Nat.blt d n = true) (hx : evS σ x = some v) (k : R P n ops l Q ((d, v) :: σ) w) :
    R P n ops ({ dst := some d, op := .move x, type := ty, pos := pos, after := af, guard := none } :: l) Q σ w :=
  R.val hd (fun a ha => by simp [execOp, ha.ev hx, go_sem]) k
theorem R.as {x : Operand} {v : Value} (hd : Nat.blt d n = true) (hx : evS σ x = some v) (k : R P n ops l Q ((d, v) :: σ) w) :
    R P n ops ({ dst := some d, op := .assign x, type := ty, pos := pos, after := af, guard := none } :: l) Q σ w :=
  R.val hd (fun a ha => by simp [execOp, ha.ev hx, go_sem]) k
theorem R.pickT {c x y : Operand} {v : Value} (hd : Nat.blt d n = true) (hc : evS σ c = some (.bool true)) (hx : evS σ x = some v) (k : R P n ops l Q ((d, v) :: σ) w) :
    R P n ops ({ dst := some d, op := .pick c x y, type := ty, pos := pos, after := af, guard := none } :: l) Q σ w :=
  R.val hd (fun a ha => by simp [execOp, ha.ev hc, ha.ev hx, asBool, go_sem]) k
theorem R.pickF {c x y : Operand} {v : Value} (hd : Nat.blt d n = true) (hc : evS σ c = some (.bool false)) (hy : evS σ y = some v) (k : R P n ops l Q ((d, v) :: σ) w) :
    R P n ops ({ dst := some d, op := .pick c x y, type := ty, pos := pos, after := af, guard := none } :: l) Q σ w :=
  R.val hd (fun a ha => by simp [execOp, ha.ev hc, ha.ev hy, asBool, go_sem]) k

/-! ### whole numbers -/
def iop (op : BinOp) (k : IntKind) (x y : Int) : Option Value :=
  match op with
  | .add => some (.int k (k.wrap (x + y)))
  | .sub => some (.int k (k.wrap (x - y)))
  | .mul => some (.int k (k.wrap (x * y)))
  | .and => some (.int k (iand k x y))
  | .or => some (.int k (ior k x y))
  | .xor => some (.int k (ixor k x y))
  | .andNot => some (.int k (iandn k x y))
  | .eql => some (.bool (x == y))
  | .neq => some (.bool (x != y))
  | .lss => some (.bool (decide (x < y)))
  | .leq => some (.bool (decide (x ≤ y)))
  | .gtr => some (.bool (decide (x > y)))
  | .geq => some (.bool (decide (x ≥ y)))
  | _ => none

theorem R.ib {op : BinOp} {x y : Operand} {ty' : TypeId} {k : IntKind} {i j : Int} {v : Value} (hd : Nat.blt d n = true) (hx : evS σ x = some (.int k i)) (hy : evS σ y = some (.int k j))
    (hv : iop op k i j = some v) (kk : R P n ops l Q ((d, v) :: σ) w) :
    R P n ops ({ dst := some d, op := .binOp op T x y ty', type := ty, pos := pos, after := af, guard := none } :: l) Q σ w :=
  R.val hd (fun a ha => by
    simp only [execOp, ha.ev hx, ha.ev hy]
    cases op <;> simp only [iop, Option.some.injEq, reduceCtorEq] at hv <;> subst hv <;>
      simp [eqGuard, binOp, Op.intArith, Op.intBits, Op.intCmp, iand, ior, ixor, iandn, go_sem]) kk
end
end Go.Proofs.YtflmncjhonmmhaaDoor
