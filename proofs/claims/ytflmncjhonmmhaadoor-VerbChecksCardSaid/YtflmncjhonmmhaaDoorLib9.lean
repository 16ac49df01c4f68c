/- Strings; the least and the greatest; slices that grow. -/
import Derived.Test.YtflmncjhonmmhaaDoorLib8
namespace Go.Proofs.YtflmncjhonmmhaaDoor
open Go
set_option linter.unusedVariables false
set_option linter.unusedSimpArgs false

abbrev W (x : Int) : Int := IntKind.i64.wrap x
abbrev WU (x : Int) : Int := IntKind.u64.wrap x
abbrev W8 (x : Int) : Int := IntKind.u8.wrap x
abbrev W32 (x : Int) : Int := IntKind.i32.wrap x
abbrev WU32 (x : Int) : Int := IntKind.u32.wrap x
def imax (x y : Int) : Int := if y > x then y else x
def imin (x y : Int) : Int := if y < x then y else x
/-- A sum of two texts: none beyond what an int counts. -/
def cat (x y : Str) : Option Str := if x.length + y.length ≤ 9223372036854775807 then some (x ++ y) else none
theorem cat_some {x y r : Str} (h : cat x y = some r) : x.length + y.length ≤ 9223372036854775807 ∧ r = x ++ y := by
  unfold cat at h
  split at h
  · cases h; exact ⟨‹_›, rfl⟩
  · cases h
def sub {α : Type} (x : List α) (i j : Int) : Option (List α) := if 0 ≤ i ∧ i ≤ j ∧ j ≤ x.length then some ((x.drop i.toNat).take (j.toNat - i.toNat)) else none
theorem sub_some {α : Type} {x r : List α} {i j : Int} (h : sub x i j = some r) : 0 ≤ i ∧ i ≤ j ∧ j ≤ x.length ∧ r = (x.drop i.toNat).take (j.toNat - i.toNat) := by
  unfold sub at h
  split at h
  · rename_i hh; cases h; exact ⟨hh.1, hh.2.1, hh.2.2, rfl⟩
  · cases h
def sless : Str → Str → Bool := Op.bytesLess
/-- A test that must hold (else Go panics there). -/
def must (b : Bool) : Option Unit := if b = true then some () else none
theorem must_some {b : Bool} {u : Unit} (h : must b = some u) : b = true := by
  unfold must at h
  split at h
  · assumption
  · cases h
theorem must_le {x y : Int} {u : Unit} (h : must (decide (x ≤ y)) = some u) : x ≤ y := of_decide_eq_true (must_some h)
theorem must_ne {x y : Int} {u : Unit} (h : must (x != y) = some u) : x ≠ y := by have := must_some h; simpa using this
theorem andT {b x : Bool} (h : b = true) : some (b && x) = some x := by rw [h]; rfl
theorem andF {b x : Bool} (h : b = false) : some (b && x) = some false := by rw [h]; rfl
theorem orT {b x : Bool} (h : b = true) : some (b || x) = some true := by rw [h]; rfl
theorem orF {b x : Bool} (h : b = false) : some (b || x) = some x := by rw [h]; rfl
theorem bsplit {p : Prop} (b : Bool) (h1 : b = true → p) (h2 : b = false → p) : p := by cases b <;> simp_all

def Fr0 (w w' : World) : Prop := Fr (fun _ => False) w w'
theorem Fr0.refl (w : World) : Fr0 w w := Fr.refl _ w
theorem Fr0.tr {a b c : World} (h : Fr0 a b) (k : Fr0 b c) : Fr0 a c := Fr.trans h k (fun _ h => h.elim)

theorem T.cut {P : Program} {n : Nat} {Q : Post} {σ : Sto} {w : World} {x y : Code} (J : Act → World → Prop) (h1 : T P n x (Exit.then J Q) σ w) (h2 : ∀ a w, J a w → y.wp P Q a w) : T P n (.seq x y) Q σ w :=
  fun a ha => wp_seq (wp_mono (h1 a ha) (fun e a w h => by cases e <;> first | exact h2 _ _ h | exact h))
theorem T.use {P : Program} {n : Nat} {Q : Post} {σ : Sto} {w : World} {c : Code} {a : Act} (h : T P n c Q σ w) (ha : Agr n σ a) : c.wp P Q a w := h a ha
theorem T.cT {P : Program} {n : Nat} {Q : Post} {σ : Sto} {w : World} {c : Operand} {x y : Code} {b : Bool} (hc : evS σ c = some (.bool b)) (hb : b = true) (ht : T P n x Q σ w) : T P n (.cond c x y) Q σ w := by subst hb; exact T.condT hc ht
theorem T.cF {P : Program} {n : Nat} {Q : Post} {σ : Sto} {w : World} {c : Operand} {x y : Code} {b : Bool} (hc : evS σ c = some (.bool b)) (hb : b = false) (ht : T P n y Q σ w) : T P n (.cond c x y) Q σ w := by subst hb; exact T.condF hc ht
def subS (σ : Sto) : Sto → Prop
  | [] => True
  | (t, v) :: r => look σ t = some v ∧ subS σ r
theorem Agr.sub {n : Nat} {σ : Sto} {a : Act} (h : Agr n σ a) : ∀ {σ' : Sto}, subS σ σ' → Agr n σ' a
  | [], _ => agr_nil h
  | (_, _) :: _, hs => agr_cons h (Agr.sub h hs.2) hs.1

section
variable {P : Program} {n : Nat} {Q : Post} {σ : Sto} {w W0 : World} {S : FP} {D L : List Asn} {ops : Array Oper} {l : List Oper} {d : Nat} {ty U : TypeId} {pos : String} {af : Array Edge}

theorem R.iff {dst : Option Tmp} {op : Op} {j t : Nat} {b c : Bool} (hj : (ops[j]?).bind (·.dst) = some t) (ht : look σ t = some (.bool c)) (hc : c = b)
    (k : R P n ops ({ dst := dst, op := op, type := ty, pos := pos, after := af, guard := none } :: l) Q σ w) :
    R P n ops ({ dst := dst, op := op, type := ty, pos := pos, after := af, guard := some (j, b) } :: l) Q σ w := by subst hc; exact R.on hj ht k
theorem R.not_ {op : Op} {j t : Nat} {b c : Bool} (hd : Nat.blt d n = true) (hj : (ops[j]?).bind (·.dst) = some t) (ht : look σ t = some (.bool c)) (hc : c = !b)
    (k : R P n ops l Q ((d, undef) :: σ) w) :
    R P n ops ({ dst := some d, op := op, type := ty, pos := pos, after := af, guard := some (j, b) } :: l) Q σ w := R.off hd hj ht (by subst hc; cases b <;> rfl) k
theorem R.pT {c x y : Operand} {v : Value} {b : Bool} (hd : Nat.blt d n = true) (hc : evS σ c = some (.bool b)) (hb : b = true) (hx : evS σ x = some v) (k : R P n ops l Q ((d, v) :: σ) w) :
    R P n ops ({ dst := some d, op := .pick c x y, type := ty, pos := pos, after := af, guard := none } :: l) Q σ w := by subst hb; exact R.pickT hd hc hx k
theorem R.pF {c x y : Operand} {v : Value} {b : Bool} (hd : Nat.blt d n = true) (hc : evS σ c = some (.bool b)) (hb : b = false) (hx : evS σ y = some v) (k : R P n ops l Q ((d, v) :: σ) w) :
    R P n ops ({ dst := some d, op := .pick c x y, type := ty, pos := pos, after := af, guard := none } :: l) Q σ w := by subst hb; exact R.pickF hd hc hx k
/-- A value under another name. -/
theorem R.re {v v' : Value} {σ' : Sto} (e : v = v') (k : R P n ops l Q ((d, v') :: σ') w) : R P n ops l Q ((d, v) :: σ') w := by subst e; exact k

theorem R.mx {x y : Operand} {ts : Array TypeId} {kk k2 : IntKind} {i j : Int} (hd : Nat.blt d n = true) (hx : evS σ x = some (.int kk i)) (hy : evS σ y = some (.int k2 j)) (k : R P n ops l Q ((d, .int kk (imax i j)) :: σ) w) :
    R P n ops ({ dst := some d, op := .call { callee := .builtin .max, args := #[x, y], argTypes := ts }, type := ty, pos := pos, after := af, guard := none } :: l) Q σ w :=
  R.val hd (fun ρ h => by simp [h.ev hx, h.ev hy, Builtin.max_, Builtin.max2, imax, go_sem]) k
theorem R.mn {x y : Operand} {ts : Array TypeId} {kk k2 : IntKind} {i j : Int} (hd : Nat.blt d n = true) (hx : evS σ x = some (.int kk i)) (hy : evS σ y = some (.int k2 j)) (k : R P n ops l Q ((d, .int kk (imin i j)) :: σ) w) :
    R P n ops ({ dst := some d, op := .call { callee := .builtin .min, args := #[x, y], argTypes := ts }, type := ty, pos := pos, after := af, guard := none } :: l) Q σ w :=
  R.val hd (fun ρ h => by simp [h.ev hx, h.ev hy, Builtin.min_, Builtin.min2, imin, go_sem]) k
theorem R.mx3 {x y z : Operand} {ts : Array TypeId} {kk k2 k3 : IntKind} {i j m : Int} (hd : Nat.blt d n = true) (hx : evS σ x = some (.int kk i)) (hy : evS σ y = some (.int k2 j)) (hz : evS σ z = some (.int k3 m)) (k : R P n ops l Q ((d, .int kk (imax (imax i j) m)) :: σ) w) :
    R P n ops ({ dst := some d, op := .call { callee := .builtin .max, args := #[x, y, z], argTypes := ts }, type := ty, pos := pos, after := af, guard := none } :: l) Q σ w :=
  R.val hd (fun ρ h => by simp [h.ev hx, h.ev hy, h.ev hz, Builtin.max_, Builtin.max2, imax, go_sem]) k
theorem R.mn3 {x y z : Operand} {ts : Array TypeId} {kk k2 k3 : IntKind} {i j m : Int} (hd : Nat.blt d n = true) (hx : evS σ x = some (.int kk i)) (hy : evS σ y = some (.int k2 j)) (hz : evS σ z = some (.int k3 m)) (k : R P n ops l Q ((d, .int kk (imin (imin i j) m)) :: σ) w) :
    R P n ops ({ dst := some d, op := .call { callee := .builtin .min, args := #[x, y, z], argTypes := ts }, type := ty, pos := pos, after := af, guard := none } :: l) Q σ w :=
  R.val hd (fun ρ h => by simp [h.ev hx, h.ev hy, h.ev hz, Builtin.min_, Builtin.min2, imin, go_sem] <;> rfl) k

/-! ### strings -/
def sop (op : BinOp) (x y : Str) : Option Value :=
  match op with
  | .eql => some (.bool (x == y))
  | .neq => some (.bool (!(x == y)))
  | .lss => some (.bool (sless x y))
  | .leq => some (.bool (sless x y || x == y))
  | .gtr => some (.bool (!(sless x y || x == y)))
  | .geq => some (.bool (!(sless x y)))
  | _ => none
theorem R.sb {op : BinOp} {x y : Operand} {ty' : TypeId} {i j : Str} {v : Value} (hd : Nat.blt d n = true) (hx : evS σ x = some (vS i)) (hy : evS σ y = some (vS j)) (hv : sop op i j = some v) (kk : R P n ops l Q ((d, v) :: σ) w) :
    R P n ops ({ dst := some d, op := .binOp op U x y ty', type := ty, pos := pos, after := af, guard := none } :: l) Q σ w :=
  R.val hd (fun ρ h => by
    simp only [execOp, h.ev hx, h.ev hy]
    cases op <;> simp only [sop, Option.some.injEq, reduceCtorEq] at hv <;> subst hv <;>
      simp [vS, binOp, Op.stringOp, sless, ByteArray.toList_mk, go_sem]) kk
theorem R.sadd {x y : Operand} {ty' : TypeId} {i j r : Str} (hd : Nat.blt d n = true) (hx : evS σ x = some (vS i)) (hy : evS σ y = some (vS j)) (hv : cat i j = some r) (kk : R P n ops l Q ((d, vS r) :: σ) w) :
    R P n ops ({ dst := some d, op := .binOp .add U x y ty', type := ty, pos := pos, after := af, guard := none } :: l) Q σ w := by
  obtain ⟨hl, rfl⟩ := cat_some hv
  refine R.val hd (fun ρ h => ?_) kk
  have e1 : (⟨i.toArray⟩ : ByteArray).size = i.length := by show i.toArray.size = _; simp
  have e2 : (⟨j.toArray⟩ : ByteArray).size = j.length := by show j.toArray.size = _; simp
  have e3 : (⟨i.toArray⟩ : ByteArray) ++ (⟨j.toArray⟩ : ByteArray) = ⟨(i ++ j).toArray⟩ := by
    apply ByteArray.ext
    simp [ByteArray.data_append]
  have hle : ¬ ((((⟨i.toArray⟩ : ByteArray).size + (⟨j.toArray⟩ : ByteArray).size : Nat) : Int) > IntKind.i64.max) := by
    rw [e1, e2]
    have : IntKind.i64.max = 9223372036854775807 := by decide
    omega
  simp only [execOp, h.ev hx, h.ev hy, vS, Sem.run_bind, eqGuard_at_string, Sem.run_pure, Result.andThen_ok]
  show ((binOp .add U (.string ⟨i.toArray⟩) (.string ⟨j.toArray⟩)).run P w).andThen _ = _
  have : (binOp .add U (.string ⟨i.toArray⟩) (.string ⟨j.toArray⟩)).run P w = .ok (.string ⟨(i ++ j).toArray⟩) w := by
    show (Op.stringOp .add _ _).run P w = _
    unfold Op.stringOp
    simp only
    rw [if_neg hle, e3]
    rfl
  rw [this]
  rfl
theorem run_ss {x : Str} {lo hi : Nat} : (⟨x.toArray⟩ : ByteArray).extract lo hi = ⟨((x.drop lo).take (hi - lo)).toArray⟩ := by
  apply ByteArray.ext
  simp [ByteArray.data_extract]
end
end Go.Proofs.YtflmncjhonmmhaaDoor
