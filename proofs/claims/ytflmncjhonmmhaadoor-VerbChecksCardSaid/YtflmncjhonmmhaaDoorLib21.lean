/- Maps by what they answer. -/
import Derived.Test.YtflmncjhonmmhaaDoorLib20
namespace Go.Proofs.YtflmncjhonmmhaaDoor
open Go
set_option linter.unusedVariables false
set_option linter.unusedSimpArgs false

def putK (b : Bool) (k0 : Int) (v : Value) (f : Int → Option Value) : Int → Option Value := fun k => bif b && (k == k0) then some v else f k
def noneK : Int → Option Value := fun _ => none
theorem putK_eq {k0 k : Int} {v : Value} {f : Int → Option Value} (h : (k == k0) = true) : putK true k0 v f k = some v := by simp [putK, h]
theorem putK_ne {b : Bool} {k0 k : Int} {v : Value} {f : Int → Option Value} {x : Option Value} (h : (k == k0) = false) (hx : f k = x) : putK b k0 v f k = x := by simp [putK, h, hx]
theorem putK_off {k0 k : Int} {v : Value} {f : Int → Option Value} {x : Option Value} (hx : f k = x) : putK false k0 v f k = x := by simp [putK, hx]
theorem putKf (k0 : Int) (v : Value) (f : Int → Option Value) : putK false k0 v f = f := rfl
theorem putK_new {k0 : Int} {v : Value} {f : Int → Option Value} : ∀ k, putK true k0 v f k = if (k == k0) = true then some v else f k := by
  intro k
  unfold putK
  cases (k == k0) <;> rfl
/-- A map that answers so. -/
def AMapF (b : Nat) (f : Int → Option Value) : Asn :=
  ⟨fun w F => ∃ kvs, (AMap b kvs).holds w F ∧ ∀ k, findK kvs k = f k, fun ⟨kvs, h1, h2⟩ hF => ⟨kvs, (AMap b kvs).loc h1 hF, h2⟩⟩
theorem findK_append (k0 : Int) (v : Value) : ∀ (l : List (Int × Value)) (k : Int), findK l k0 = none → findK (l ++ [(k0, v)]) k = if (k == k0) = true then some v else findK l k := by
  intro l
  induction l with
  | nil => intro k _; simp [findK]
  | cons x r ih =>
    obtain ⟨j, u⟩ := x
    intro k h
    simp only [findK] at h
    have hj : ¬ (k0 == j) = true := by intro hh; rw [if_pos hh] at h; cases h
    rw [if_neg hj] at h
    simp only [List.cons_append, findK]
    by_cases hk : (k == j) = true
    · rw [if_pos hk, if_pos hk]
      have h1 : k = j := by simpa using hk
      have h2 : ¬ (k == k0) = true := by
        intro hh
        have : k = k0 := by simpa using hh
        subst h1; subst this
        exact hj (by simp)
      rw [if_neg h2]
    · rw [if_neg hk, if_neg hk, ih k h]

section
variable {P : Program} {n : Nat} {Q : Post} {σ : Sto} {w W0 : World} {S : FP} {D L : List Asn} {ops : Array Oper} {l : List Oper} {d : Nat} {ty T : TypeId} {pos : String} {af : Array Edge}
theorem R.mkMapF (hd : Nat.blt d n = true) (h : H W0 S w D L) (k : ∀ b w', H W0 S w' D (L ++ [AMapF b noneK]) → R P n ops l Q ((d, .map (some b)) :: σ) w') :
    R P n ops ({ dst := some d, op := .makeMap T none, type := ty, pos := pos, after := af, guard := none } :: l) Q σ w := by
  refine R.val hd (w' := w.alloc (.map #[] 0)) (v := .map (some w.heap.size)) (fun ρ a => by simp [execOp, Instr.makeMap]) (k _ _ ?_)
  exact h.new (Fr.alloc _ _) (F' := fun x => x = w.heap.size) ⟨[], ⟨⟨#[], 0, heap_alloc_new w _, rfl⟩, fun _ => Iff.rfl⟩, fun _ => rfl⟩ (by rintro b rfl; simp)
theorem R.insF {m k0 v0 : Operand} {kt et : TypeId} {b : Nat} {f f' : Int → Option Value} {k1 : Int} {v : Value} {kd : IntKind} (i : Nat) (h : H W0 S w D L) (hi : L[i]? = some (AMapF b f)) (hT : P.underlying T = some (.map kt et)) (hk : P.underlying kt = some (.int kd))
    (hm : evS σ m = some (.map (some b))) (hk0 : evS σ k0 = some (.int .i64 k1)) (hv : evS σ v0 = some v) (hn : f k1 = none) (hf : ∀ k, f' k = if (k == k1) = true then some v else f k)
    (k : ∀ w', H W0 S w' D (L.set i (AMapF b f')) → R P n ops l Q σ w') :
    R P n ops ({ dst := none, op := .insert T m k0 v0, type := ty, pos := pos, after := af, guard := none } :: l) Q σ w := by
  obtain ⟨F, kvs, ⟨⟨es, cl, hb, hes⟩, hF⟩, hkf⟩ := h.l i hi
  obtain ⟨r, hr1, hr2⟩ := findKey_k (P := P) hk (k := k1) hes w
  rw [hkf, hn] at hr2
  have hr3 : r = none := by cases r with | none => rfl | some x => simp at hr2
  subst hr3
  have hlt : b < w.heap.size := (Array.getElem?_eq_some_iff.1 hb).1
  refine R.unit (w' := { w with heap := w.heap.setIfInBounds b (.map (es.push { key := .int .i64 k1, val := v, born := cl }) (cl + 1)) }) (fun ρ a => ?_) (k _ ?_)
  · simp [execOp, Instr.mapUpdate, run_underlying hT, a.ev hm, a.ev hk0, a.ev hv, getObj, setObj, Sem.run, hb, checkKey_int hk, hr1]
  · refine h.upd i hi (fun F hA hFb => ?_)
    have hF2 : ∀ x, F x ↔ x = b := hA.choose_spec.1.2
    refine ⟨⟨rfl, rfl, rfl, by simp, fun x hx hn => ?_⟩, F, ⟨kvs ++ [(k1, v)], ⟨⟨es.push { key := .int .i64 k1, val := v, born := cl }, cl + 1, by simp [hlt], ?_⟩, hF2⟩, fun k => ?_⟩, fun x hx => ⟨by have := hFb x hx; simpa using this, .inl hx⟩⟩
    · have : b ≠ x := fun e => hn ((hF2 x).2 e.symm)
      simp [Array.getElem?_setIfInBounds, this]
    · simp [hes]
    · rw [findK_append k1 v kvs k (by rw [hkf]; exact hn), hf k, hkf]
theorem H.mapK {b : Nat} {f : Int → Option Value} (h : H W0 S w D L) (i : Nat) (hi : L[i]? = some (AMapF b f)) : ∃ kvs, (∀ k, findK kvs k = f k) ∧ H W0 S w D (L.set i (AMap b kvs)) := by
  obtain ⟨F0, kvs0, h0, hk0⟩ := h.l i hi
  refine ⟨kvs0, hk0, h.upd i hi (fun F hA hF => ⟨Fr.refl _ _, F, ?_, fun b hb => ⟨hF b hb, .inl hb⟩⟩)⟩
  obtain ⟨kvs, h1, h2⟩ := hA
  refine ⟨h0.1, h1.2⟩
theorem run_lookupF {kt et : TypeId} {b : Nat} {f : Int → Option Value} {k1 : Int} {kd : IntKind} (h : H W0 S w D L) (i : Nat) (hi : L[i]? = some (AMapF b f)) (hT : P.underlying T = some (.map kt et)) (hk : P.underlying kt = some (.int kd)) (ok : Bool) :
    (∀ v, f k1 = some v → (Instr.lookup T (.map (some b)) (.int .i64 k1) ok).run P w = .ok (if ok then .tuple #[v, .bool true] else v) w) ∧
    (∀ z, f k1 = none → (P.info? et).bind (·.zero) = some z → (Instr.lookup T (.map (some b)) (.int .i64 k1) ok).run P w = .ok (if ok then .tuple #[z, .bool false] else z) w) := by
  obtain ⟨kvs, hkf, h'⟩ := h.mapK i hi
  have := run_lookup h' i (by rw [List.getElem?_set_self (List.getElem?_eq_some_iff.1 hi).1]) hT hk ok (k1 := k1)
  rw [hkf] at this
  exact this
theorem R.lkFOY {x y : Operand} {kt et : TypeId} {b : Nat} {f : Int → Option Value} {k1 : Int} {v : Value} {kd : IntKind} (i : Nat) (hd : Nat.blt d n = true) (h : H W0 S w D L) (hi : L[i]? = some (AMapF b f)) (hT : P.underlying T = some (.map kt et)) (hk : P.underlying kt = some (.int kd))
    (hx : evS σ x = some (.map (some b))) (hy : evS σ y = some (.int .i64 k1)) (hf : f k1 = some v) (k : R P n ops l Q ((d, .tuple #[v, .bool true]) :: σ) w) :
    R P n ops ({ dst := some d, op := .lookup T x y true, type := ty, pos := pos, after := af, guard := none } :: l) Q σ w :=
  R.val hd (fun ρ a => by simp only [execOp, a.ev hx, a.ev hy, Sem.run_bind, (run_lookupF h i hi hT hk true).1 v hf, Result.andThen_ok]; rfl) k
theorem R.lkFON {x y : Operand} {kt et : TypeId} {b : Nat} {f : Int → Option Value} {k1 : Int} {z : Value} {kd : IntKind} (i : Nat) (hd : Nat.blt d n = true) (h : H W0 S w D L) (hi : L[i]? = some (AMapF b f)) (hT : P.underlying T = some (.map kt et)) (hk : P.underlying kt = some (.int kd))
    (hz : (P.info? et).bind (·.zero) = some z) (hx : evS σ x = some (.map (some b))) (hy : evS σ y = some (.int .i64 k1)) (hf : f k1 = none) (k : R P n ops l Q ((d, .tuple #[z, .bool false]) :: σ) w) :
    R P n ops ({ dst := some d, op := .lookup T x y true, type := ty, pos := pos, after := af, guard := none } :: l) Q σ w :=
  R.val hd (fun ρ a => by simp only [execOp, a.ev hx, a.ev hy, Sem.run_bind, (run_lookupF h i hi hT hk true).2 z hf hz, Result.andThen_ok]; rfl) k
theorem R.lkFY {x y : Operand} {kt et : TypeId} {b : Nat} {f : Int → Option Value} {k1 : Int} {v : Value} {kd : IntKind} (i : Nat) (hd : Nat.blt d n = true) (h : H W0 S w D L) (hi : L[i]? = some (AMapF b f)) (hT : P.underlying T = some (.map kt et)) (hk : P.underlying kt = some (.int kd))
    (hx : evS σ x = some (.map (some b))) (hy : evS σ y = some (.int .i64 k1)) (hf : f k1 = some v) (k : R P n ops l Q ((d, v) :: σ) w) :
    R P n ops ({ dst := some d, op := .lookup T x y false, type := ty, pos := pos, after := af, guard := none } :: l) Q σ w :=
  R.val hd (fun ρ a => by simp only [execOp, a.ev hx, a.ev hy, Sem.run_bind, (run_lookupF h i hi hT hk false).1 v hf, Result.andThen_ok]; rfl) k
theorem R.lkFN {x y : Operand} {kt et : TypeId} {b : Nat} {f : Int → Option Value} {k1 : Int} {z : Value} {kd : IntKind} (i : Nat) (hd : Nat.blt d n = true) (h : H W0 S w D L) (hi : L[i]? = some (AMapF b f)) (hT : P.underlying T = some (.map kt et)) (hk : P.underlying kt = some (.int kd))
    (hz : (P.info? et).bind (·.zero) = some z) (hx : evS σ x = some (.map (some b))) (hy : evS σ y = some (.int .i64 k1)) (hf : f k1 = none) (k : R P n ops l Q ((d, z) :: σ) w) :
    R P n ops ({ dst := some d, op := .lookup T x y false, type := ty, pos := pos, after := af, guard := none } :: l) Q σ w :=
  R.val hd (fun ρ a => by simp only [execOp, a.ev hx, a.ev hy, Sem.run_bind, (run_lookupF h i hi hT hk false).2 z hf hz, Result.andThen_ok]; rfl) k
end
end Go.Proofs.YtflmncjhonmmhaaDoor
