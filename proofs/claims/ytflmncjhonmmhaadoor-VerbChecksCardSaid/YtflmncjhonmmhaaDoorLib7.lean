/- More operations on values; calls; returns; loops. -/
import Derived.Test.YtflmncjhonmmhaaDoorLib6
namespace Go.Proofs.YtflmncjhonmmhaaDoor
open Go
set_option linter.unusedVariables false
set_option linter.unusedSimpArgs false

structure Callable (P : Program) (f : FuncId) : Prop where
  mk :: (ex : ∃ fn, P.funcs[f]? = some fn ∧ fn.body.isNone = false ∧ (fn.name == "runtime.NumGoroutine") = false)

theorem run_callF {P : Program} {f : FuncId} (h : Callable P f) (args : Array Value) (w : World) : (callFunc f args).run P w = .ok (.enter f args) w := by
  obtain ⟨fn, h1, h2, h3⟩ := h.ex
  have h2' : fn.body ≠ none := by intro e; rw [e] at h2; cases h2
  have h3' : fn.name ≠ "runtime.NumGoroutine" := by simpa using h3
  simp [callFunc, program, Sem.run, h1, h2', h3']

section
variable {P : Program} {n : Nat} {Q : Post} {σ : Sto} {w W0 : World} {S : FP} {D L : List Asn} {ops : Array Oper} {l : List Oper} {d : Nat} {ty T : TypeId} {pos : String} {af : Array Edge}

/-! ### calls -/
theorem R.callV {f : FuncId} {g : Operand} {first captured : Array Value} {as : List Operand} {ts : Array TypeId} {vs : List Value} {Z : Value → World → Prop} (hd : Nat.blt d n = true) (hf : Callable P f)
    (hg : evS σ g = some (.func (.func f) first captured)) (ha : evL σ as = some vs)
    (hc : Calls P f (first ++ vs.toArray ++ captured) w fun e w' => ∃ v, e = .returned v ∧ Z v w') (k : ∀ v w', Z v w' → R P n ops l Q ((d, v) :: σ) w') :
    R P n ops ({ dst := some d, op := .call { callee := .value g, args := as.toArray, argTypes := ts }, type := ty, pos := pos, after := af, guard := none } :: l) Q σ w :=
  R.call hd (fun ρ h => by simp [execOp, resolve, Deferred.ofValue, h.ev hg, h.evL ha, invoke, run_callF hf]) hc k
theorem R.callVU {f : FuncId} {g : Operand} {first captured : Array Value} {as : List Operand} {ts : Array TypeId} {vs : List Value} {Z : Value → World → Prop} (hf : Callable P f)
    (hg : evS σ g = some (.func (.func f) first captured)) (ha : evL σ as = some vs)
    (hc : Calls P f (first ++ vs.toArray ++ captured) w fun e w' => ∃ v, e = .returned v ∧ Z v w') (k : ∀ v w', Z v w' → R P n ops l Q σ w') :
    R P n ops ({ dst := none, op := .call { callee := .value g, args := as.toArray, argTypes := ts }, type := ty, pos := pos, after := af, guard := none } :: l) Q σ w :=
  R.callU (fun ρ h => by simp [execOp, resolve, Deferred.ofValue, h.ev hg, h.evL ha, invoke, run_callF hf]) hc k
theorem R.callF {f : FuncId} {as : List Operand} {ts : Array TypeId} {vs : List Value} {Z : Value → World → Prop} (hd : Nat.blt d n = true) (hf : Callable P f) (ha : evL σ as = some vs)
    (hc : Calls P f vs.toArray w fun e w' => ∃ v, e = .returned v ∧ Z v w') (k : ∀ v w', Z v w' → R P n ops l Q ((d, v) :: σ) w') :
    R P n ops ({ dst := some d, op := .call { callee := .value (.func f), args := as.toArray, argTypes := ts }, type := ty, pos := pos, after := af, guard := none } :: l) Q σ w :=
  R.callV (first := #[]) (captured := #[]) hd hf rfl ha (by simpa using hc) k
theorem R.callFU {f : FuncId} {as : List Operand} {ts : Array TypeId} {vs : List Value} {Z : Value → World → Prop} (hf : Callable P f) (ha : evL σ as = some vs)
    (hc : Calls P f vs.toArray w fun e w' => ∃ v, e = .returned v ∧ Z v w') (k : ∀ v w', Z v w' → R P n ops l Q σ w') :
    R P n ops ({ dst := none, op := .call { callee := .value (.func f), args := as.toArray, argTypes := ts }, type := ty, pos := pos, after := af, guard := none } :: l) Q σ w :=
  R.callVU (first := #[]) (captured := #[]) hf rfl ha (by simpa using hc) k
theorem R.mkf {fn : Fn} {fs cs : List Operand} {v1 v2 : List Value} (hd : Nat.blt d n = true) (h1 : evL σ fs = some v1) (h2 : evL σ cs = some v2) (k : R P n ops l Q ((d, .func fn v1.toArray v2.toArray) :: σ) w) :
    R P n ops ({ dst := some d, op := .makeFunc fn fs.toArray cs.toArray, type := ty, pos := pos, after := af, guard := none } :: l) Q σ w :=
  R.val hd (fun ρ h => by simp [execOp, Instr.makeFunc, h.evL h1, h.evL h2]) k

/-! ### values -/
theorem R.ext {x : Operand} {i : Nat} {vs : Array Value} {v : Value} (hd : Nat.blt d n = true) (hx : evS σ x = some (.tuple vs)) (hi : vs[i]? = some v) (k : R P n ops l Q ((d, v) :: σ) w) :
    R P n ops ({ dst := some d, op := .extract x i, type := ty, pos := pos, after := af, guard := none } :: l) Q σ w :=
  R.val hd (fun ρ h => by simp [execOp, Instr.extract, h.ev hx, hi]) k
theorem R.not {x : Operand} {b : Bool} (hd : Nat.blt d n = true) (hx : evS σ x = some (.bool b)) (k : R P n ops l Q ((d, .bool (!b)) :: σ) w) :
    R P n ops ({ dst := some d, op := .unOp .not T x, type := ty, pos := pos, after := af, guard := none } :: l) Q σ w :=
  R.val hd (fun ρ h => by simp [execOp, Op.unary, h.ev hx]) k
theorem R.neg {x : Operand} {kk : IntKind} {i : Int} (hd : Nat.blt d n = true) (hx : evS σ x = some (.int kk i)) (k : R P n ops l Q ((d, .int kk (kk.wrap (0 - i))) :: σ) w) :
    R P n ops ({ dst := some d, op := .unOp .neg T x, type := ty, pos := pos, after := af, guard := none } :: l) Q σ w :=
  R.val hd (fun ρ h => by simp [execOp, Op.unary, Op.intArith, h.ev hx]) k
theorem R.quo {x y : Operand} {ty' : TypeId} {kk : IntKind} {i j : Int} (hd : Nat.blt d n = true) (hx : evS σ x = some (.int kk i)) (hy : evS σ y = some (.int kk j)) (hj : j ≠ 0) (k : R P n ops l Q ((d, .int kk (kk.wrap (i.tdiv j))) :: σ) w) :
    R P n ops ({ dst := some d, op := .binOp .quo T x y ty', type := ty, pos := pos, after := af, guard := none } :: l) Q σ w :=
  R.val hd (fun ρ h => by simp [execOp, binOp, Op.intDiv, h.ev hx, h.ev hy, hj, go_sem]) k
theorem R.rem {x y : Operand} {ty' : TypeId} {kk : IntKind} {i j : Int} (hd : Nat.blt d n = true) (hx : evS σ x = some (.int kk i)) (hy : evS σ y = some (.int kk j)) (hj : j ≠ 0) (k : R P n ops l Q ((d, .int kk (i.tmod j)) :: σ) w) :
    R P n ops ({ dst := some d, op := .binOp .rem T x y ty', type := ty, pos := pos, after := af, guard := none } :: l) Q σ w :=
  R.val hd (fun ρ h => by simp [execOp, binOp, Op.intDiv, h.ev hx, h.ev hy, hj, go_sem]) k
theorem R.shl {x y : Operand} {ty' : TypeId} {kk k2 : IntKind} {i j : Int} (hd : Nat.blt d n = true) (hx : evS σ x = some (.int kk i)) (hy : evS σ y = some (.int k2 j)) (hj : 0 ≤ j) (k : R P n ops l Q ((d, .int kk (ishl kk i j)) :: σ) w) :
    R P n ops ({ dst := some d, op := .binOp .shl T x y ty', type := ty, pos := pos, after := af, guard := none } :: l) Q σ w :=
  R.val hd (fun ρ h => by simp [execOp, binOp, Op.shift, h.ev hx, h.ev hy, show ¬ j < 0 by omega, ishl, eqGuard]) k
theorem R.shr {x y : Operand} {ty' : TypeId} {kk k2 : IntKind} {i j : Int} (hd : Nat.blt d n = true) (hx : evS σ x = some (.int kk i)) (hy : evS σ y = some (.int k2 j)) (hj : 0 ≤ j) (k : R P n ops l Q ((d, .int kk (ishr kk i j)) :: σ) w) :
    R P n ops ({ dst := some d, op := .binOp .shr T x y ty', type := ty, pos := pos, after := af, guard := none } :: l) Q σ w :=
  R.val hd (fun ρ h => by simp [execOp, binOp, Op.shift, h.ev hx, h.ev hy, show ¬ j < 0 by omega, ishr, eqGuard]) k
theorem R.cvt {src dst' : TypeId} {x : Operand} {kk k2 : IntKind} {i : Int} (hd : Nat.blt d n = true) (hs : (P.underlying src).isSome = true) (hT : P.underlying dst' = some (.int kk)) (hx : evS σ x = some (.int k2 i)) (k : R P n ops l Q ((d, .int kk (kk.wrap i)) :: σ) w) :
    R P n ops ({ dst := some d, op := .convert src dst' x, type := ty, pos := pos, after := af, guard := none } :: l) Q σ w :=
  R.val hd (fun ρ h => by
    have hk : P.intKind dst' = kk := by simp [Program.intKind, hT]
    have := run_convert_int (P := P) w src dst' k2 i hs (by rw [hk]; exact hT)
    rw [hk] at this
    simp only [execOp, h.ev hx, Sem.run_bind, this, Result.andThen_ok]; rfl) k
theorem R.lenSl {x : Operand} {t e : TypeId} {p : Option Addr} {m c : Nat} (hd : Nat.blt d n = true) (hT : P.underlying t = some (.slice e)) (hx : evS σ x = some (.slice p m c)) (k : R P n ops l Q ((d, .int .i64 (m : Int)) :: σ) w) :
    R P n ops ({ dst := some d, op := .call { callee := .builtin .len, args := #[x], argTypes := #[t] }, type := ty, pos := pos, after := af, guard := none } :: l) Q σ w :=
  R.val hd (fun ρ h => by simp [h.ev hx, Builtin.len_, run_underlying hT, goInt, go_sem]) k
theorem run_lenS {t : TypeId} {s : Str} (hT : P.underlying t = some .string) : (Builtin.len_ #[t] ty #[vS s]).run P w = .ok (.int .i64 (s.length : Int)) w := by
  have := run_len_string (P := P) w t ty ⟨s.toArray⟩ hT
  have e : (⟨s.toArray⟩ : ByteArray).size = s.length := by show s.toArray.size = _; simp
  unfold vS
  rw [this, e]
  rfl
theorem R.lenS {x : Operand} {t : TypeId} {s : Str} (hd : Nat.blt d n = true) (hT : P.underlying t = some .string) (hx : evS σ x = some (vS s)) (k : R P n ops l Q ((d, .int .i64 (s.length : Int)) :: σ) w) :
    R P n ops ({ dst := some d, op := .call { callee := .builtin .len, args := #[x], argTypes := #[t] }, type := ty, pos := pos, after := af, guard := none } :: l) Q σ w :=
  R.val hd (fun ρ h => by
    have := run_lenS (P := P) (w := w) (ty := ty) (t := t) (s := s) hT
    simp [h.ev hx, this, go_sem]) k
theorem R.bld {parts : List (Nat × Operand)} {vals : List (Nat × Value)} {cells : Array Value} (hd : Nat.blt d n = true) (hv : evP σ parts = some vals) (hb : P.built T vals = some cells) (k : R P n ops l Q ((d, .agg cells) :: σ) w) :
    R P n ops ({ dst := some d, op := .build T parts.toArray, type := ty, pos := pos, after := af, guard := none } :: l) Q σ w :=
  R.val hd (fun ρ h => by
    have e : (parts.toArray.map fun (i, x) => (i, ρ x)) = vals.toArray := by
      rw [List.map_toArray, h.evP hv]
    simp only [execOp, e, Sem.run_bind, run_build w T vals.toArray cells (by simpa using hb), Result.andThen_ok]; rfl) k
/-- An array's element, the array a value; elements of one cell. -/
theorem R.idxV {x y : Operand} {m : Nat} {cs : Array Value} {ik : IntKind} {i : Int} {e : TypeId} {kk : Nat} {v : Value} (hd : Nat.blt d n = true) (hT : P.underlying T = some (.array m e)) (hE : shapeOf P e = some (false, kk)) (hz : (P.info? e).map (·.size) = some 1)
    (hx : evS σ x = some (.agg cs)) (hy : evS σ y = some (.int ik i)) (h0 : 0 ≤ i) (h1 : i < m) (hv : cs[i.toNat]? = some v) (k : R P n ops l Q ((d, v) :: σ) w) :
    R P n ops ({ dst := some d, op := .index T x y, type := ty, pos := pos, after := af, guard := none } :: l) Q σ w :=
  R.val hd (fun ρ h => by
    obtain ⟨ti, hti, hs⟩ := Option.map_eq_some_iff.1 hz
    have hu : ∃ d, P.underlying e = some d ∧ (∀ fs, d ≠ .struct fs) ∧ ∀ m e, d ≠ .array m e := by
      unfold shapeOf at hE
      split at hE <;> simp at hE
      rename_i _ _ d0 ti0 h1 h2 hd hti
      exact ⟨_, hd, fun fs e => h1 fs e, fun m e e' => h2 m e e'⟩
    obtain ⟨dd, hdd, hn1, hn2⟩ := hu
    have hagg : (isAgg e).run P w = .ok false w := by
      cases dd <;> first
        | exact absurd rfl (hn1 _)
        | exact absurd rfl (hn2 _ _)
        | simp [isAgg, run_underlying hdd]
    simp [execOp, Instr.index, h.ev hx, h.ev hy, asIntOf, run_underlying hT, h0, h1, sizeOf, typeInfo, hti, hs, part, hagg, hv]) k
/-- A string's byte. -/
theorem R.idxS {x y : Operand} {s : Str} {ik : IntKind} {i : Int} {b : UInt8} (hd : Nat.blt d n = true) (hT : P.underlying T = some .string) (hx : evS σ x = some (vS s)) (hy : evS σ y = some (.int ik i))
    (hb : getI s i = some b) (k : R P n ops l Q ((d, .int .u8 (b.toNat : Int)) :: σ) w) :
    R P n ops ({ dst := some d, op := .index T x y, type := ty, pos := pos, after := af, guard := none } :: l) Q σ w :=
  R.val hd (fun ρ h => by
    obtain ⟨h0, h1, h2⟩ := getI_some hb
    have hs : (⟨s.toArray⟩ : ByteArray)[i.toNat]? = some b := by
      have hlt : i.toNat < (⟨s.toArray⟩ : ByteArray).size := by show _ < s.toArray.size; simp; omega
      rw [getElem?_pos (⟨s.toArray⟩ : ByteArray) i.toNat hlt]
      have hlt' : i.toNat < s.length := by omega
      rw [List.getElem?_eq_getElem hlt'] at h2
      rw [← h2]
      rfl
    simp [execOp, Instr.index, h.ev hx, h.ev hy, asIntOf, run_underlying hT, vS, h0, hs]) k
end
end Go.Proofs.YtflmncjhonmmhaaDoor
