/- The rules of the operations on memory. -/
import Derived.Test.YtflmncjhonmmhaaDoorLib5
namespace Go.Proofs.YtflmncjhonmmhaaDoor
open Go
set_option linter.unusedVariables false
set_option linter.unusedSimpArgs false

theorem Fr.of_grown {w w' : World} {row : Option Nat} (h : w.grownBy w' row) : Fr (fun b => row = some b) w w' :=
  ⟨h.os, h.tape, h.output, h.size, fun b hb hn => h.block b hb (fun e => hn e.symm)⟩
theorem Fr.of_grown_none {w w' : World} (h : w.grownBy w' none) : Fr (fun _ => False) w w' :=
  ⟨h.os, h.tape, h.output, h.size, fun b hb _ => h.block b hb (fun e => by cases e)⟩
theorem Fr.alloc (w : World) (o : Obj) : Fr (fun _ => False) w (w.alloc o) := ⟨rfl, rfl, rfl, by simp, fun b hb _ => RowKit.Below.heap_alloc w o b hb⟩
theorem Fr.drewN (w : World) (n : Nat) : Fr (fun _ => False) w (w.drewN n) := by
  have : (w.drewN n).os = w.os ∧ (w.drewN n).tape = w.tape ∧ (w.drewN n).output = w.output ∧ (w.drewN n).heap = w.heap := by
    induction n with
    | zero => exact ⟨rfl, rfl, rfl, rfl⟩
    | succ n ih => rw [← World.drew_drewN]; exact ih
  exact ⟨this.1, this.2.1, this.2.2.1, by rw [this.2.2.2]; exact Nat.le_refl _, fun b _ _ => by rw [this.2.2.2]⟩

def getI {α : Type} (xs : List α) (i : Int) : Option α := if 0 ≤ i then xs[i.toNat]? else none
theorem getI_some {α : Type} {xs : List α} {i : Int} {x : α} (h : getI xs i = some x) : 0 ≤ i ∧ i < xs.length ∧ xs[i.toNat]? = some x := by
  unfold getI at h
  split at h
  · rename_i h0
    have := (List.getElem?_eq_some_iff.1 h).1
    exact ⟨h0, by omega, h⟩
  · cases h

section
variable {P : Program} {n : Nat} {Q : Post} {σ : Sto} {w W0 : World} {S : FP} {D L : List Asn} {ops : Array Oper} {l : List Oper} {d : Nat} {ty T : TypeId} {pos : String} {af : Array Edge}

/-! ### addresses -/
theorem R.nck {x : Operand} {a : Addr} (hd : Nat.blt d n = true) (hx : evS σ x = some (.pointer (some a))) (k : R P n ops l Q ((d, .pointer (some a)) :: σ) w) :
    R P n ops ({ dst := some d, op := .nilCheck x, type := ty, pos := pos, after := af, guard := none } :: l) Q σ w :=
  R.val hd (fun a ha => by simp [execOp, ha.ev hx, go_sem]) k
theorem R.fld {x : Operand} {i o : Nat} {a : Addr} (hd : Nat.blt d n = true) (hT : fieldOff P T i = some o) (hx : evS σ x = some (.pointer (some a))) (k : R P n ops l Q ((d, .pointer (some (a.add o))) :: σ) w) :
    R P n ops ({ dst := some d, op := .fieldAddr T x i, type := ty, pos := pos, after := af, guard := none } :: l) Q σ w :=
  R.val hd (fun a ha => by simp [execOp, ha.ev hx, run_fld hT]) k
/-- The same at an element of a slice. -/
theorem R.fldE {x : Operand} {i o m : Nat} {a : Addr} (hd : Nat.blt d n = true) (hT : fieldOff P T i = some o) (hx : evS σ x = some (.pointer (some (a.add m)))) (k : R P n ops l Q ((d, .pointer (some (a.add (m + o)))) :: σ) w) :
    R P n ops ({ dst := some d, op := .fieldAddr T x i, type := ty, pos := pos, after := af, guard := none } :: l) Q σ w :=
  R.val hd (fun ρ ha => by simp [execOp, ha.ev hx, run_fld hT, Addr.add_add]) k
theorem R.idx {x y : Operand} {e : TypeId} {kk : Nat} {p : Option Addr} {m c : Nat} {ik : IntKind} {i : Int} (hd : Nat.blt d n = true) (hT : slSz P T = some (e, kk)) (hx : evS σ x = some (.slice p m c)) (hy : evS σ y = some (.int ik i))
    (hp : p = some (adr p)) (h0 : 0 ≤ i) (h1 : i < m) (k : R P n ops l Q ((d, .pointer (some ((adr p).add (i.toNat * kk)))) :: σ) w) :
    R P n ops ({ dst := some d, op := .indexAddr T x y, type := ty, pos := pos, after := af, guard := none } :: l) Q σ w :=
  R.val hd (fun a ha => by
    rw [hp] at hx
    simp [execOp, ha.ev hx, ha.ev hy, run_idx hT _ _ _ _ _ h0 h1]) k
theorem R.idxA {x y : Operand} {kk : Nat} {a : Addr} {m : Nat} {ik : IntKind} {i : Int} (hd : Nat.blt d n = true) (hT : arSz P T = some (m, kk)) (hx : evS σ x = some (.pointer (some a))) (hy : evS σ y = some (.int ik i))
    (h0 : 0 ≤ i) (h1 : i < m) (k : R P n ops l Q ((d, .pointer (some (a.add (i.toNat * kk)))) :: σ) w) :
    R P n ops ({ dst := some d, op := .indexAddr T x y, type := ty, pos := pos, after := af, guard := none } :: l) Q σ w :=
  R.val hd (fun a ha => by simp [execOp, ha.ev hx, ha.ev hy, run_idxA hT _ _ _ h0 h1]) k

/-! ### loads -/
theorem R.ld {x : Operand} {kk : Nat} {a : Addr} {v : Value} (hd : Nat.blt d n = true) (hT : shapeOf P T = some (false, kk)) (hx : evS σ x = some (.pointer (some a))) (hc : w.cell? a = some v) (k : R P n ops l Q ((d, v) :: σ) w) :
    R P n ops ({ dst := some d, op := .load T x, type := ty, pos := pos, after := af, guard := none } :: l) Q σ w :=
  R.val hd (fun a ha => by simp [execOp, ha.ev hx, run_ld1 hT _ _ _ hc]) k
theorem R.ldN {x : Operand} {kk : Nat} {a : Addr} {cs : List Value} (hd : Nat.blt d n = true) (hT : shapeOf P T = some (true, kk)) (hx : evS σ x = some (.pointer (some a))) (hk : cs.length = kk)
    (hc : ∀ j v, cs[j]? = some v → w.cell? (a.add j) = some v) (k : R P n ops l Q ((d, .agg cs.toArray) :: σ) w) :
    R P n ops ({ dst := some d, op := .load T x, type := ty, pos := pos, after := af, guard := none } :: l) Q σ w :=
  R.val hd (fun a ha => by simp [execOp, ha.ev hx, run_ldN hT _ _ hk _ hc]) k

/-! ### new blocks -/
theorem R.alloc {z : Value} (hd : Nat.blt d n = true) (h : H W0 S w D L) (hz : (P.info? T).bind (·.zero) = some z) (k : ∀ b w', H W0 S w' D (L ++ [ABox b T z.cells]) → R P n ops l Q ((d, .pointer (some ⟨b, 0, none⟩)) :: σ) w') :
    R P n ops ({ dst := some d, op := .alloc T, type := ty, pos := pos, after := af, guard := none } :: l) Q σ w := by
  obtain ⟨ti, hti, hz⟩ := Option.bind_eq_some_iff.1 hz
  refine R.val hd (w' := w.alloc (.cells z.cells T)) (v := .pointer (some ⟨w.heap.size, 0, none⟩)) (fun a ha => by simp [execOp, Instr.alloc, zeroValue, typeInfo, hti, hz, newVar, newRow, go_sem]) (k _ _ ?_)
  exact h.new (Fr.alloc _ _) (F' := fun x => x = w.heap.size) ⟨heap_alloc_new w _, fun _ => Iff.rfl⟩ (by rintro b rfl; simp)
theorem R.box {x : Operand} {v : Value} (hd : Nat.blt d n = true) (h : H W0 S w D L) (hx : evS σ x = some v) (k : ∀ b w', H W0 S w' D (L ++ [ABox b T v.cells]) → R P n ops l Q ((d, .pointer (some ⟨b, 0, none⟩)) :: σ) w') :
    R P n ops ({ dst := some d, op := .box T x, type := ty, pos := pos, after := af, guard := none } :: l) Q σ w := by
  refine R.val hd (w' := w.alloc (.cells v.cells T)) (v := .pointer (some ⟨w.heap.size, 0, none⟩)) (fun a ha => by simp [execOp, ha.ev hx, Instr.box, newVar, newRow, go_sem]) (k _ _ ?_)
  exact h.new (Fr.alloc _ _) (F' := fun x => x = w.heap.size) ⟨heap_alloc_new w _, fun _ => Iff.rfl⟩ (by rintro b rfl; simp)
/-- '[]T{x, y, ..}' -/
theorem R.lit {α : Type} {E : TypeId} {e : Enc α} {ie : TypeInfo} {z : Value} {len : Nat} {parts : Array (Nat × Operand)} {vals : Array (Nat × Value)} {xs : List α} (hd : Nat.blt d n = true) (h : H W0 S w D L)
    (hu : P.underlying T = some (.slice E)) (hie : P.info? E = some ie) (hz : ie.zero = some z) (hk : ie.size = e.k) (hk0 : 0 < e.k) (hlen : xs.length = len) (hl0 : 0 < len) (hl : len * e.k ≤ 16777216)
    (hv : ∀ ρ, Ev σ ρ → parts.map (fun (i, x) => (i, ρ x)) = vals)
    (hf : Instr.fill (fun i => some (i * e.k, e.k)) ((Array.range (len * e.k)).map (z.cells[· % z.cells.size]!)) vals.toList = some (e.flat xs).toArray)
    (k : ∀ p c w', H W0 S w' D (L ++ [ASl E e p c xs]) → R P n ops l Q ((d, .slice p xs.length c) :: σ) w') :
    R P n ops ({ dst := some d, op := .buildSlice T len parts, type := ty, pos := pos, after := af, guard := none } :: l) Q σ w := by
  subst hlen
  have hrun := run_buildSlice (P := P) w T E xs.length vals (e.flat xs).toArray ie z hu hie hz (by rw [hk]; omega) (by rw [hk]; have := Nat.mul_pos hl0 hk0; omega) (by rw [hk]; exact hf)
  refine R.val hd (fun a ha => by simp only [execOp, hv a ha, Sem.run_bind, hrun, Result.andThen_ok]; rfl) (k _ _ _ ?_)
  have hown := World.ownsRow_lit (base := 0) (e := E) (size := e.k) w (e.flat xs).toArray xs.length (Nat.zero_le _) (by unfold maxLen; have := Nat.le_mul_of_pos_right xs.length hk0; omega) (by simpa using e.flat_len xs)
  exact h.new (Fr.alloc _ _) (F' := fun x => x = w.heap.size) ⟨by simpa using hown, fun x => by simp [Value.ownBlock, eq_comm]⟩ (by rintro b rfl; simp)

theorem fill_one : ∀ (vs pre rest : List Value), (∀ v ∈ vs, v.oneCell' = true) → vs.length = rest.length →
    Instr.fill (fun i => some (i * 1, 1)) (pre ++ rest).toArray ((vs.zipIdx pre.length).map fun x => (x.2, x.1)) = some (pre ++ vs).toArray := by
  intro vs
  induction vs with
  | nil =>
    intro pre rest _ hl
    obtain rfl : rest = [] := List.eq_nil_of_length_eq_zero hl.symm
    simp [Instr.fill]
  | cons v vs ih =>
    intro pre rest h1 hl
    cases rest with
    | nil => simp at hl
    | cons r rest =>
      have hv := h1 v (by simp)
      have hc : v.cells = #[v] := by cases v <;> first | rfl | (simp [Value.oneCell'] at hv)
      simp only [List.zipIdx_cons, List.map_cons, Instr.fill, hc]
      have h0 : ¬ (decide (#[v].size ≠ 1) || decide (pre.length * 1 + #[v].size > (pre ++ r :: rest).toArray.size)) = true := by simp
      rw [if_neg h0]
      have e : (Array.zipIdx #[v]).foldl (fun cs (c, j) => cs.setIfInBounds (pre.length * 1 + j) c) (pre ++ r :: rest).toArray = ((pre ++ [v]) ++ rest).toArray := by
        simp
      rw [e]
      have := ih (pre ++ [v]) rest (fun x hx => h1 x (by simp [hx])) (by simpa using hl)
      simp only [List.length_append, List.length_cons, List.length_nil] at this
      rw [this]
      simp
/-- '[]T{x, y, ..}', elements of one cell. -/
theorem R.lit1 {α : Type} {E : TypeId} {e : Enc α} {z : Value} {len : Nat} {parts : List (Nat × Operand)} {vs : List Value} {xs : List α} (hd : Nat.blt d n = true) (h : H W0 S w D L)
    (hu : P.underlying T = some (.slice E)) (hin : (P.info? E).map (fun i => (i.zero, i.size)) = some (some z, 1))
    (hx : e.flat xs = vs) (hv : evP σ parts = some ((vs.zipIdx 0).map fun x => (x.2, x.1))) (hk : e.k = 1) (hlen : xs.length = len) (hl0 : Nat.blt 0 len = true) (hl : Nat.ble len 16777216 = true) (hz : z.cells = #[z])
    (k : ∀ p c w', H W0 S w' D (L ++ [ASl E e p c xs]) → R P n ops l Q ((d, .slice p xs.length c) :: σ) w') :
    R P n ops ({ dst := some d, op := .buildSlice T len parts.toArray, type := ty, pos := pos, after := af, guard := none } :: l) Q σ w := by
  obtain ⟨ie, hie, hzz⟩ := Option.map_eq_some_iff.1 hin
  simp only [Prod.mk.injEq] at hzz
  have hl0' : 0 < len := by simpa [Nat.blt_eq] using hl0
  have hl' : len ≤ 16777216 := Nat.le_of_ble_eq_true hl
  have hvl : vs.length = len := by rw [← hx, e.flat_len, hk, hlen]; omega
  refine R.lit (vals := ((vs.zipIdx 0).map fun x => (x.2, x.1)).toArray) hd h hu hie hzz.1 (by rw [hzz.2, hk]) (by omega) hlen hl0' (by rw [hk]; omega) (fun ρ hρ => ?_) ?_ k
  · rw [List.map_toArray, hρ.evP hv]
  · rw [hk]
    have := fill_one vs [] ((Array.range (len * 1)).map (z.cells[· % z.cells.size]!)).toList (fun v hv => e.flat_one xs v (by rw [hx]; exact hv)) (by simp; omega)
    rw [List.nil_append, Array.toArray_toList] at this
    rw [hx]
    exact this

/-! ### stores into a box -/
theorem setCell_heap (w : World) (b j : Nat) (v : Value) {cs : Array Value} {T : TypeId} {fr : Nat × Nat} (h : w.heap[b]? = some (.cells cs T fr)) : (w.setCell ⟨b, j, none⟩ v).heap[b]? = some (.cells (cs.setIfInBounds j v) T fr) := by
  simp only [World.setCell, Array.getElem?_modify, if_true, h]
  rfl
theorem Fr.setCell (w : World) (b j : Nat) (v : Value) : Fr (fun x => x = b) w (w.setCell ⟨b, j, none⟩ v) :=
  ⟨rfl, rfl, rfl, by simp [World.setCell], fun x _ hn => RowKit.Below.heap_setCell w _ v x (by simpa using hn)⟩
theorem R.st {x y : Operand} {b j : Nat} {U : TypeId} {cs : Array Value} {v : Value} (i : Nat) (h : H W0 S w D L) (hi : L[i]? = some (ABox b U cs)) (hT : (P.info? T).map (·.size) = some 1)
    (hx : evS σ x = some (.pointer (some ⟨b, j, none⟩))) (hy : evS σ y = some v) (h1 : v.oneCell' = true) (hj : Nat.blt j cs.size = true)
    (k : ∀ w', H W0 S w' D (L.set i (ABox b U (cs.setIfInBounds j v))) → R P n ops l Q σ w') :
    R P n ops ({ dst := none, op := .store T x y, type := ty, pos := pos, after := af, guard := none } :: l) Q σ w := by
  have hb := h.boxAt i hi
  have hj' : j < cs.size := by simpa [Nat.blt_eq] using hj
  have hcell : w.cell? ⟨b, j, none⟩ = some cs[j] := by simp [World.cell?, hb, hj']
  have hfz : w.frozen? ⟨b, j, none⟩ = false := by simp [World.frozen?, hb]
  obtain ⟨ti, hti, hs⟩ := Option.map_eq_some_iff.1 hT
  have hc1 : v.cells = #[v] := by cases v <;> first | rfl | (simp [Value.oneCell'] at h1)
  refine R.unit (w' := w.setCell ⟨b, j, none⟩ v) (fun a ha => ?_) (k _ ?_)
  · have hadd : (⟨b, j, none⟩ : Addr).add 0 = ⟨b, j, none⟩ := rfl
    cases v <;> first
      | (simp [Value.oneCell'] at h1; done)
      | simp [execOp, ha.ev hx, ha.ev hy, Instr.storeAt, Instr.sureAddr, storeVar, sizeOf, typeInfo, hti, hs, Value.cells, storeCells, hadd, store, Sem.run, hcell, hfz]
  · refine h.upd i hi (fun F hA hF => ⟨?_, F, ?_, ?_⟩)
    · have := Fr.setCell w b j v
      exact ⟨this.os, this.tape, this.output, this.size, fun x hx hn => this.block x hx (fun e => hn ((hA.2 x).2 e))⟩
    · exact ⟨setCell_heap w b j v hb, hA.2⟩
    · intro x hx
      exact ⟨by have := hF x hx; simpa [World.setCell] using this, .inl hx⟩
/-- A whole box. -/
theorem R.stN {x y : Operand} {b : Nat} {U : TypeId} {cs cs' : Array Value} (i : Nat) (h : H W0 S w D L) (hi : L[i]? = some (ABox b U cs)) (hT : (P.info? T).map (·.size) = some cs'.size) (hsz : cs.size = cs'.size)
    (hx : evS σ x = some (.pointer (some ⟨b, 0, none⟩))) (hy : evS σ y = some (.agg cs')) (h1 : cs'.all (·.oneCell') = true)
    (k : ∀ w', H W0 S w' D (L.set i (ABox b U cs')) → R P n ops l Q σ w') :
    R P n ops ({ dst := none, op := .store T x y, type := ty, pos := pos, after := af, guard := none } :: l) Q σ w := by
  have hb := h.boxAt i hi
  have hrun := run_storeVar_row (P := P) w b U T cs cs' hb hT hsz h1
  refine R.unit (w' := w.setRow b cs') (fun a ha => by simp [execOp, ha.ev hx, ha.ev hy, Instr.storeAt, Instr.sureAddr, hrun]) (k _ ?_)
  refine h.upd i hi (fun F hA hF => ⟨⟨rfl, rfl, rfl, by simp, fun x hx hn => setRow_other w b x _ (fun e => hn ((hA.2 x).2 (by omega)))⟩, F, ⟨setRow_heap w b cs _ U _ hb, hA.2⟩, fun x hx => ⟨by have := hF x hx; simpa using this, .inl hx⟩⟩)
end
end Go.Proofs.YtflmncjhonmmhaaDoor
