/- Function values, results that lie in memory, structs, and what is joined. -/
import Derived.Test.YtflmncjhonmmhaaDoorLib14
import Derived.Laws.CopyRow
import Derived.Laws.StructEq
namespace Go.Proofs.YtflmncjhonmmhaaDoor
open Go
set_option linter.unusedVariables false
set_option linter.unusedSimpArgs false

/-- What a call has made is taken in. -/
theorem H.join {W0 w w' : World} {S : FP} {D L L' D' : List Asn} (h : H W0 S w D L) (g : H w (fun _ => False) w' D' L') : H W0 S w' D (L ++ L') := by
  obtain ⟨FD, FL, h⟩ := h
  obtain ⟨GD, GL, g⟩ := g
  have hb : ∀ b, b < w.heap.size → w'.heap[b]? = w.heap[b]? := fun b hb => g.fr.block b hb (fun h => h)
  have cs : ∀ (j : Nat) (B : Asn), (L ++ L')[j]? = some B → (j < L.length ∧ L[j]? = some B) ∨ (¬ j < L.length ∧ L'[j - L.length]? = some B) := by
    intro j B hB
    rcases Nat.lt_or_ge j L.length with hl | hl
    · exact .inl ⟨hl, by rwa [List.getElem?_append_left hl] at hB⟩
    · exact .inr ⟨by omega, by rwa [List.getElem?_append_right hl] at hB⟩
  refine ⟨FD, fun j => if j < L.length then FL j else GL (j - L.length), h.fr.trans g.fr (fun _ h => h.elim), ?_, ?_, ?_, ?_, ?_, ?_⟩
  · intro j B hB; exact B.loc (h.dh j B hB) (fun b hF => hb b (h.db j B hB b hF))
  · intro j B hB b hF; exact Nat.lt_of_lt_of_le (h.db j B hB b hF) g.fr.size
  · intro j B hB
    rcases cs j B hB with ⟨hl, hB'⟩ | ⟨hl, hB'⟩
    · simp only [if_pos hl]; exact B.loc (h.lh j B hB') (fun b hF => hb b (h.lb j B hB' b hF).1)
    · simp only [if_neg hl]; exact g.lh _ B hB'
  · intro j B hB b hF
    rcases cs j B hB with ⟨hl, hB'⟩ | ⟨hl, hB'⟩
    · simp only [if_pos hl] at hF; exact ⟨Nat.lt_of_lt_of_le (h.lb j B hB' b hF).1 g.fr.size, (h.lb j B hB' b hF).2⟩
    · simp only [if_neg hl] at hF
      obtain ⟨h1, h2⟩ := g.lb _ B hB' b hF
      exact ⟨h1, .inr (Nat.le_trans h.fr.size (h2.resolve_left fun h => h))⟩
  · intro i j A B hA hB b hF
    rcases cs j B hB with ⟨hl, hB'⟩ | ⟨hl, hB'⟩
    · simp only [if_pos hl]; exact h.dl i j A B hA hB' b hF
    · simp only [if_neg hl]
      intro hG
      have h1 := h.db i A hA b hF
      have h2 := (g.lb _ B hB' b hG).2.resolve_left fun h => h
      omega
  · intro i j A B hij hA hB b hF
    rcases cs i A hA with ⟨hi, hA'⟩ | ⟨hi, hA'⟩ <;> rcases cs j B hB with ⟨hl, hB'⟩ | ⟨hl, hB'⟩
    · simp only [if_pos hi, if_pos hl] at hF ⊢; exact h.ll i j A B hij hA' hB' b hF
    · simp only [if_pos hi, if_neg hl] at hF ⊢
      intro hG
      have h1 := (h.lb i A hA' b hF).1
      have h2 := (g.lb _ B hB' b hG).2.resolve_left fun h => h
      omega
    · simp only [if_neg hi, if_pos hl] at hF ⊢
      intro hG
      have h1 := (h.lb j B hB' b hG).1
      have h2 := (g.lb _ A hA' b hF).2.resolve_left fun h => h
      omega
    · simp only [if_neg hi, if_neg hl] at hF ⊢
      exact g.ll _ _ A B (by omega) hA' hB' b hF
theorem H.out {W0 w : World} {D L : List Asn} (h : H W0 (fun _ => False) w D L) : H W0 (fun _ => False) w [] L :=
  h.dweak (fun k A hk => by simp at hk)

section
variable {P : Program} {n : Nat} {Q : Post} {σ : Sto} {w W0 : World} {S : FP} {D L : List Asn} {ops : Array Oper} {l : List Oper} {d : Nat} {ty T U : TypeId} {pos : String} {af : Array Edge}

/-! ### function values -/
theorem R.callC {f : FuncId} {g : Operand} {fl cl : List Value} {as : List Operand} {ts : Array TypeId} {vs : List Value} {Z : Value → World → Prop} (hd : Nat.blt d n = true) (hf : Callable P f)
    (hg : evS σ g = some (.func (.func f) fl.toArray cl.toArray)) (ha : evL σ as = some vs)
    (hc : Calls P f (fl ++ vs ++ cl).toArray w fun e w' => ∃ v, e = .returned v ∧ Z v w') (k : ∀ v w', Z v w' → R P n ops l Q ((d, v) :: σ) w') :
    R P n ops ({ dst := some d, op := .call { callee := .value g, args := as.toArray, argTypes := ts }, type := ty, pos := pos, after := af, guard := none } :: l) Q σ w :=
  R.callV hd hf hg ha (by
    have e : fl.toArray ++ vs.toArray ++ cl.toArray = (fl ++ vs ++ cl).toArray := by simp
    rw [e]; exact hc) k
theorem R.callCU {f : FuncId} {g : Operand} {fl cl : List Value} {as : List Operand} {ts : Array TypeId} {vs : List Value} {Z : Value → World → Prop} (hf : Callable P f)
    (hg : evS σ g = some (.func (.func f) fl.toArray cl.toArray)) (ha : evL σ as = some vs)
    (hc : Calls P f (fl ++ vs ++ cl).toArray w fun e w' => ∃ v, e = .returned v ∧ Z v w') (k : ∀ v w', Z v w' → R P n ops l Q σ w') :
    R P n ops ({ dst := none, op := .call { callee := .value g, args := as.toArray, argTypes := ts }, type := ty, pos := pos, after := af, guard := none } :: l) Q σ w :=
  R.callVU hf hg ha (by
    have e : fl.toArray ++ vs.toArray ++ cl.toArray = (fl ++ vs ++ cl).toArray := by simp
    rw [e]; exact hc) k

/-! ### results -/
def resV (P : Program) (σ : Sto) (w : World) : List ResultVar → List Value → Prop
  | [], [] => True
  | .tmp t :: r, v :: vs => look σ t = some v ∧ resV P σ w r vs
  | .cell t T :: r, v :: vs => (∃ a, look σ t = some (.pointer (some a)) ∧ (loadVar T a).run P w = .ok v w) ∧ resV P σ w r vs
  | _, _ => False
def pack : List Value → Value
  | [v] => v
  | vs => .tuple vs.toArray
def res1 (tmps : Array Value) : ResultVar → Sem Value
  | .tmp t => pure (tmps.getD t undef)
  | .cell a t => do loadVar t (← asAddr (tmps.getD a undef))
theorem resV_run {a : Act} (ha : Agr n σ a) : ∀ (rs : List ResultVar) (vs : List Value), resV P σ w rs vs → (rs.mapM (res1 a.tmps)).run P w = .ok vs w := by
  intro rs
  induction rs with
  | nil => intro vs h; cases vs with | nil => simp | cons v vs => simp [resV] at h
  | cons r rs ih =>
    intro vs h
    cases vs with
    | nil => cases r <;> simp [resV] at h
    | cons v vs =>
      cases r with
      | tmp t =>
        obtain ⟨h1, h2⟩ := h
        have := ha.slots t v h1
        have e : (res1 a.tmps (.tmp t)).run P w = .ok v w := by simp [res1, Array.getD_eq_getD_getElem?, this]
        simp [List.mapM_cons, e, ih vs h2]
      | cell t T =>
        obtain ⟨⟨p, h1, h3⟩, h2⟩ := h
        have := ha.slots t _ h1
        have e : (res1 a.tmps (.cell t T)).run P w = .ok v w := by simp [res1, Array.getD_eq_getD_getElem?, this, asAddr, h3]
        simp [List.mapM_cons, e, ih vs h2]
theorem results_eq (fn : Func) (rs : List ResultVar) (tmps : Array Value) (hr : fn.results = rs.toArray) : results fn tmps = (do let vs ← rs.mapM (res1 tmps); pure (pack vs)) := by
  unfold results
  rw [hr, List.mapM_toArray]
  simp only [bind_map_left]
  refine congr (congrArg _ ?_) ?_
  · congr 1
  funext vs
  match vs with
  | [] => rfl
  | [v] => rfl
  | u :: v :: r => simp [pack]
theorem retG {fn : Func} {Z : Value → World → Prop} {vs : List Value} (rs : List ResultVar) (hr : fn.results = rs.toArray) (hv : resV P σ w rs vs) (hS : Z (pack vs) w) : Go1 n (bodyPost P fn (fun e w' => ∃ v, e = .returned v ∧ Z v w') .ret) σ w :=
  fun a ha => ⟨ha.defers, _, by rw [results_eq fn rs _ hr]; simp [resV_run ha rs vs hv], _, rfl, hS⟩
theorem endG {fn : Func} {Z : Value → World → Prop} {vs : List Value} (rs : List ResultVar) (hr : fn.results = rs.toArray) (hv : resV P σ w rs vs) (hS : Z (pack vs) w) : Go1 n (bodyPost P fn (fun e w' => ∃ v, e = .returned v ∧ Z v w') .normal) σ w :=
  fun a ha => ⟨ha.defers, _, by rw [results_eq fn rs _ hr]; simp [resV_run ha rs vs hv], _, rfl, hS⟩

/-! ### structs as values -/
theorem shape_run {T : TypeId} {b : Bool} {k : Nat} (h : shapeOf P T = some (b, k)) (w : World) : (isAgg T).run P w = .ok b w ∧ (sizeOf T).run P w = .ok k w := by
  unfold shapeOf at h
  split at h <;> simp at h
  · rename_i fs ti hd hti
    obtain ⟨rfl, rfl⟩ := h
    exact ⟨by simp [isAgg, run_underlying hd], by simp [sizeOf, typeInfo, hti]⟩
  · rename_i m e ti hd hti
    obtain ⟨rfl, rfl⟩ := h
    exact ⟨by simp [isAgg, run_underlying hd], by simp [sizeOf, typeInfo, hti]⟩
  · rename_i d0 ti h1 h2 hd hti
    obtain ⟨rfl, rfl⟩ := h
    refine ⟨?_, by simp [sizeOf, typeInfo, hti]⟩
    cases d0 <;> first
      | exact absurd rfl (h1 _)
      | exact absurd rfl (h2 _ _)
      | simp [isAgg, run_underlying hd]
/-- A part of a struct: its value. -/
def partV (b : Bool) (k : Nat) (cs : Array Value) (off : Nat) : Option Value := match b with | true => some (.agg (cs.extract off (off + k))) | false => cs[off]?
theorem run_partV {T : TypeId} {b : Bool} {k off : Nat} {cs : Array Value} {v : Value} (h : shapeOf P T = some (b, k)) (hv : partV b k cs off = some v) (w : World) : (part T cs off).run P w = .ok v w := by
  obtain ⟨h1, h2⟩ := shape_run h w
  cases b with
  | true => simp [partV] at hv; subst hv; simp [part, h1, h2]
  | false => simp [partV] at hv; simp [part, h1, hv]
/-- Field i of a struct: whether it is many cells, where, how many. -/
def fieldIs (P : Program) (T : TypeId) (i : Nat) : Option (Bool × Nat × Nat) :=
  match P.underlying T with
  | some (.struct fs) => match fs[i]? with
    | some f => (shapeOf P f.type).map fun (b, k) => (b, f.offset, k)
    | none => none
  | _ => none
theorem R.fieldV {x : Operand} {i off k : Nat} {b : Bool} {cs : Array Value} {v : Value} (hd : Nat.blt d n = true) (hT : fieldIs P T i = some (b, off, k)) (hx : evS σ x = some (.agg cs)) (hv : partV b k cs off = some v)
    (kk : R P n ops l Q ((d, v) :: σ) w) : R P n ops ({ dst := some d, op := .field T x i, type := ty, pos := pos, after := af, guard := none } :: l) Q σ w := by
  unfold fieldIs at hT
  split at hT <;> try (cases hT; done)
  rename_i fs hfs
  split at hT <;> try (cases hT; done)
  rename_i f hf
  obtain ⟨⟨b', k'⟩, hs, he⟩ := Option.map_eq_some_iff.1 hT
  simp only [Prod.mk.injEq] at he
  obtain ⟨rfl, rfl, rfl⟩ := he
  exact R.val hd (fun ρ a => by simp [execOp, Instr.field, a.ev hx, run_underlying hfs, hf, asAgg, run_partV hs hv]) kk
/-- An element of an array that is a value. -/
theorem R.idxG {x y : Operand} {m k : Nat} {b : Bool} {cs : Array Value} {ik : IntKind} {i : Int} {e : TypeId} {v : Value} (hd : Nat.blt d n = true) (hT : P.underlying T = some (.array m e)) (hE : shapeOf P e = some (b, k))
    (hx : evS σ x = some (.agg cs)) (hy : evS σ y = some (.int ik i)) (h0 : 0 ≤ i) (h1 : i < m) (hv : partV b k cs (i.toNat * k) = some v) (kk : R P n ops l Q ((d, v) :: σ) w) :
    R P n ops ({ dst := some d, op := .index T x y, type := ty, pos := pos, after := af, guard := none } :: l) Q σ w :=
  R.val hd (fun ρ h => by simp [execOp, Instr.index, h.ev hx, h.ev hy, asIntOf, run_underlying hT, h0, h1, (shape_run hE _).2, run_partV hE hv]) kk

/-! ### parts of boxes -/
theorem ovl_get {α : Type} {cs ds : List α} {off j : Nat} {v : α} (hs : (cs.drop off).take ds.length = ds) (hv : ds[j]? = some v) : cs[off + j]? = some v := by
  have hj := (List.getElem?_eq_some_iff.1 hv).1
  rw [← hs, List.getElem?_take] at hv
  rw [if_pos hj, List.getElem?_drop] at hv
  exact hv
theorem H.boxN (h : H W0 S w D L) (i : Nat) {b off : Nat} {cs : Array Value} {ds : List Value} (hi : L[i]? = some (ABox b U cs)) (hs : (cs.toList.drop off).take ds.length = ds) :
    ∀ (j : Nat) v, ds[j]? = some v → w.cell? ((⟨b, off, none⟩ : Addr).add j) = some v := by
  intro j v hv
  rw [Addr.add_mid]
  exact h.box i _ hi (by have := ovl_get hs hv; simpa using this)
theorem H.loadBox (h : H W0 S w D L) (i : Nat) {b : Nat} {cs : List Value} (hi : L[i]? = some (ABox b U cs.toArray)) (hT : shapeOf P T = some (true, cs.length)) : (loadVar T ⟨b, 0, none⟩).run P w = .ok (.agg cs.toArray) w := by
  have hl := run_loadCells_list (P := P) (w := w) ⟨b, 0, none⟩ cs (h.boxN i (off := 0) hi (by simp))
  obtain ⟨h1, h2⟩ := shape_run hT w
  simp [loadVar, h1, h2, hl]
theorem H.loadBox1 (h : H W0 S w D L) (i : Nat) {b : Nat} {v : Value} (hi : L[i]? = some (ABox b U #[v])) (hT : shapeOf P T = some (false, 1)) : (loadVar T ⟨b, 0, none⟩).run P w = .ok v w := by
  obtain ⟨h1, h2⟩ := shape_run hT w
  have hc : w.cell? ⟨b, 0, none⟩ = some v := h.box i 0 hi rfl
  simp [loadVar, h1, load, Sem.run, hc]
/-- The cells behind a store. -/
def ovl (cs : List Value) (off : Nat) (ds : List Value) : List Value := cs.take off ++ ds ++ cs.drop (off + ds.length)
theorem run_storeAny {T : TypeId} {b off : Nat} {U : TypeId} {cur : Array Value} {v : Value} {ds : List Value} {w : World} (hb : w.heap[b]? = some (.cells cur U (0, 0))) (hT : (P.info? T).map (·.size) = some ds.length)
    (hv : v.cells.toList = ds) (hl : off + ds.length ≤ cur.size) (h1 : ∀ u ∈ ds, u.oneCell' = true) : (storeVar T ⟨b, off, none⟩ v).run P w = .ok () (w.setRow b (ovl cur.toList off ds).toArray) := by
  obtain ⟨ti, hti, hs⟩ := Option.map_eq_some_iff.1 hT
  have := run_storeCells_at P b off U ds 0 cur w hb (by simpa using hl) h1
  have hsz : v.cells.size = ti.size := by rw [← Array.length_toList, hv, hs]
  simp only [storeVar, sizeOf, typeInfo, Sem.run_bind, run_program, Result.andThen_ok, hti, Sem.run_pure, hsz, hv]
  simpa [ovl] using this
theorem Fr.setRow (w : World) (b : Nat) (cs : Array Value) : Fr (fun x => x = b) w (w.setRow b cs) :=
  ⟨rfl, rfl, rfl, by simp, fun x hx hn => setRow_other w b x _ hn⟩
theorem R.stB {x y : Operand} {b off : Nat} {cs : Array Value} {v : Value} {ds : List Value} (i : Nat) (h : H W0 S w D L) (hi : L[i]? = some (ABox b U cs)) (hT : (P.info? T).map (·.size) = some ds.length)
    (hx : evS σ x = some (.pointer (some ⟨b, off, none⟩))) (hy : evS σ y = some v) (hv : v.cells.toList = ds) (hl : Nat.ble (off + ds.length) cs.size = true) (h1 : ds.all (·.oneCell') = true)
    (k : ∀ w', H W0 S w' D (L.set i (ABox b U (ovl cs.toList off ds).toArray)) → R P n ops l Q σ w') :
    R P n ops ({ dst := none, op := .store T x y, type := ty, pos := pos, after := af, guard := none } :: l) Q σ w := by
  have hb := h.boxAt i hi
  have hrun := run_storeAny (P := P) (off := off) hb hT hv (Nat.le_of_ble_eq_true hl) (fun u hu => List.all_eq_true.1 h1 u hu)
  refine R.unit (w' := w.setRow b (ovl cs.toList off ds).toArray) (fun a ha => by simp [execOp, ha.ev hx, ha.ev hy, Instr.storeAt, Instr.sureAddr, hrun]) (k _ ?_)
  refine h.upd i hi (fun F hA hF => ⟨?_, F, ⟨setRow_heap w b cs _ U _ hb, hA.2⟩, fun x hx => ⟨by have := hF x hx; simpa using this, .inl hx⟩⟩)
  have := Fr.setRow w b (ovl cs.toList off ds).toArray
  exact ⟨this.os, this.tape, this.output, this.size, fun x hx hn => this.block x hx (fun e => hn ((hA.2 x).2 e))⟩
end
end Go.Proofs.YtflmncjhonmmhaaDoor
