/- Slices cut, grown and copied; structs held against one another; pointers held against nil; maps with few entries. -/
import Derived.Test.YtflmncjhonmmhaaDoorLib16
namespace Go.Proofs.YtflmncjhonmmhaaDoor
open Go
set_option linter.unusedVariables false
set_option linter.unusedSimpArgs false

theorem run_load0 {P : Program} (a : Addr) (w : World) : (loadCells a 0).run P w = .ok #[] w := by
  have := run_loadCells_list (P := P) (w := w) a [] (by simp)
  simpa using this
theorem cutP_zero (p : Option Addr) (c k : Nat) : cutP p c 0 k = p := by
  unfold cutP
  split
  · rfl
  · cases p <;> simp [Addr.add]

/-! ### values held against one another -/
/-- The fields of two structs held against one another. -/
def eqFs (P : Program) (sub : TypeId → Value → Value → Option Bool) (xs ys : Array Value) : List Field → Option Bool
  | [] => some true
  | f :: fs =>
    if f.name ≠ "_" then
      match shapeOf P f.type with
      | some (b, k) => match partV b k xs f.offset, partV b k ys f.offset with
        | some u, some v => match sub f.type u v, eqFs P sub xs ys fs with
          | some r, some s => some (r && s)
          | _, _ => none
        | _, _ => none
      | none => none
    else none
/-- 'x == y' of two values of a type, as a sum over their cells. -/
def eqT (P : Program) : Nat → TypeId → Value → Value → Option Bool
  | 0, _, _, _ => none
  | d + 1, t, x, y =>
    match P.underlying t, x, y with
    | some .bool, .bool a, .bool b => some (a == b)
    | some (.int _), .int k a, .int k' b => if k = k' then some (a == b) else none
    | some .string, .string a, .string b => some (a == b)
    | some (.struct fs), .agg xs, .agg ys => if P.stoodInHeld t then none else eqFs P (eqT P d) xs ys fs.toList
    | _, _, _ => none
theorem eqT_run {P : Program} (w : World) : ∀ (d : Nat) (t : TypeId) (x y : Value) (r : Bool), eqT P d t x y = some r → (Op.equalIn d t x y).run P w = .ok r w := by
  intro d
  induction d with
  | zero => intro t x y r h; simp [eqT] at h
  | succ d ih =>
    intro t x y r h
    have hF : ∀ (xs ys : Array Value) (fs : List Field) (r : Bool), eqFs P (eqT P d) xs ys fs = some r → (Op.eqFields d xs ys fs).run P w = .ok r w := by
      intro xs ys fs
      induction fs with
      | nil => intro r h; simp [eqFs] at h; subst h; simp [Op.eqFields]
      | cons f fs ih2 =>
        intro r h
        unfold eqFs at h
        split at h
        · rename_i hn
          split at h
          · rename_i b k hs
            split at h
            · rename_i u v hu hv
              split at h
              · rename_i r1 s1 h1 h2
                cases h
                simp only [Op.eqFields, if_pos hn, Sem.run_bind, run_partV hs hu, run_partV hs hv, Result.andThen_ok, ih _ _ _ _ h1]
                cases r1
                · simp
                · simp [ih2 _ h2]
              · cases h
            · cases h
          · cases h
        · cases h
    unfold eqT at h
    split at h
    · rename_i hu; cases h; exact run_equalIn_bool w d t _ _ hu
    · rename_i k a k' b hu
      split at h
      · rename_i hk; subst hk; cases h; exact run_equalIn_int w d t _ _ _ _ hu
      · cases h
    · rename_i a b hu
      cases h
      simp [Op.equalIn, run_underlying hu]
    · rename_i fs xs ys hu
      split at h
      · cases h
      · rename_i hs
        have hfs : P.fieldsOf t = fs := by simp [Program.fieldsOf, hu]
        rw [run_equalIn_struct w d t xs ys (by rw [hfs]; exact hu) (by simpa using hs), hfs]
        exact hF xs ys _ r h
    · cases h

section
variable {P : Program} {n : Nat} {Q : Post} {σ : Sto} {w W0 : World} {S : FP} {D L : List Asn} {ops : Array Oper} {l : List Oper} {d : Nat} {ty T U : TypeId} {pos : String} {af : Array Edge}

theorem R.eqS {x y : Operand} {ty' : TypeId} {xs ys : Array Value} {r : Bool} (hd : Nat.blt d n = true) (hm : P.eqGuardType P.depth U = false) (hx : evS σ x = some (.agg xs)) (hy : evS σ y = some (.agg ys)) (he : eqT P 10000 U (.agg xs) (.agg ys) = some r)
    (k : R P n ops l Q ((d, .bool r) :: σ) w) : R P n ops ({ dst := some d, op := .binOp .eql U x y ty', type := ty, pos := pos, after := af, guard := none } :: l) Q σ w :=
  R.val hd (fun ρ a => by simp [execOp, a.ev hx, a.ev hy, run_eqGuard_agg w _ _ _ _ _ _ hm, run_eql_struct, eqT_run w _ _ _ _ _ he]) k
theorem R.neS {x y : Operand} {ty' : TypeId} {xs ys : Array Value} {r : Bool} (hd : Nat.blt d n = true) (hm : P.eqGuardType P.depth U = false) (hx : evS σ x = some (.agg xs)) (hy : evS σ y = some (.agg ys)) (he : eqT P 10000 U (.agg xs) (.agg ys) = some r)
    (k : R P n ops l Q ((d, .bool (!r)) :: σ) w) : R P n ops ({ dst := some d, op := .binOp .neq U x y ty', type := ty, pos := pos, after := af, guard := none } :: l) Q σ w :=
  R.val hd (fun ρ a => by simp [execOp, a.ev hx, a.ev hy, run_eqGuard_agg w _ _ _ _ _ _ hm, run_neq_struct, eqT_run w _ _ _ _ _ he]) k

/-! ### pieces of slices -/
theorem R.slH {α : Type} {e : Enc α} {x z : Operand} {E : TypeId} {kk : Nat} {p : Option Addr} {c : Nat} {xs : List α} {k2 : IntKind} {j : Int} (hd : Nat.blt d n = true) (hT : slSz P T = some (E, kk)) (hx : evS σ x = some (.slice p xs.length c)) (hz : evS σ z = some (.int k2 j))
    (hr : RdS w e p c xs) (h0 : 0 ≤ j) (h1 : j ≤ xs.length) (k : R P n ops l Q ((d, .slice p (xs.take j.toNat).length c) :: σ) w) :
    R P n ops ({ dst := some d, op := .slice T x none (some z) none, type := ty, pos := pos, after := af, guard := none } :: l) Q σ w := by
  obtain ⟨hu, ti, hti, hs⟩ := slSz_spec hT
  have hc := hr.all.2.2.2
  refine R.val hd (fun ρ a => ?_) k
  have hcut := cutP_zero p c kk
  unfold cutP at hcut
  simp [execOp, a.ev hx, a.ev hz, Instr.sliceAt, Instr.slice, run_underlying hu, Instr.sliceBounds, Instr.sliceBound, asIntOf, sizeOf, typeInfo, hti, hs, h0, show j ≤ (c : Int) by omega, show j.toNat ≤ xs.length by omega]
  simpa using hcut
theorem R.slL {α : Type} {e : Enc α} {x y : Operand} {E : TypeId} {kk : Nat} {p : Option Addr} {c : Nat} {xs : List α} {k1 : IntKind} {i : Int} (hd : Nat.blt d n = true) (hT : slSz P T = some (E, kk)) (hx : evS σ x = some (.slice p xs.length c)) (hy : evS σ y = some (.int k1 i))
    (hr : RdS w e p c xs) (h0 : 0 ≤ i) (h1 : i ≤ xs.length) (k : R P n ops l Q ((d, .slice (cutP p c i.toNat kk) ((xs.drop i.toNat).take (xs.length - i.toNat)).length (c - i.toNat)) :: σ) w) :
    R P n ops ({ dst := some d, op := .slice T x (some y) none none, type := ty, pos := pos, after := af, guard := none } :: l) Q σ w := by
  obtain ⟨hu, ti, hti, hs⟩ := slSz_spec hT
  have hc := hr.all.2.2.2
  have e1 : ((xs.drop i.toNat).take (xs.length - i.toNat)).length = xs.length - i.toNat := by simp
  rw [e1] at k
  refine R.val hd (fun ρ a => ?_) k
  simp [execOp, a.ev hx, a.ev hy, Instr.sliceAt, Instr.slice, run_underlying hu, Instr.sliceBounds, Instr.sliceBound, asIntOf, sizeOf, typeInfo, hti, hs, h0, h1, cutP]
theorem R.slLH {α : Type} {e : Enc α} {x y z : Operand} {E : TypeId} {kk : Nat} {p : Option Addr} {c : Nat} {xs : List α} {k1 k2 : IntKind} {i j : Int} (hd : Nat.blt d n = true) (hT : slSz P T = some (E, kk)) (hx : evS σ x = some (.slice p xs.length c)) (hy : evS σ y = some (.int k1 i)) (hz : evS σ z = some (.int k2 j))
    (hr : RdS w e p c xs) (h0 : 0 ≤ i) (h1 : i ≤ j) (h2 : j ≤ xs.length) (k : R P n ops l Q ((d, .slice (cutP p c i.toNat kk) ((xs.drop i.toNat).take (j.toNat - i.toNat)).length (c - i.toNat)) :: σ) w) :
    R P n ops ({ dst := some d, op := .slice T x (some y) (some z) none, type := ty, pos := pos, after := af, guard := none } :: l) Q σ w := by
  obtain ⟨hu, ti, hti, hs⟩ := slSz_spec hT
  have hc := hr.all.2.2.2
  have e1 : ((xs.drop i.toNat).take (j.toNat - i.toNat)).length = j.toNat - i.toNat := by simp; omega
  rw [e1] at k
  refine R.val hd (fun ρ a => ?_) k
  have e2 : ((j.toNat : Nat) : Int) = j := by omega
  simp [execOp, a.ev hx, a.ev hy, a.ev hz, Instr.sliceAt, Instr.slice, run_underlying hu, Instr.sliceBounds, Instr.sliceBound, asIntOf, sizeOf, typeInfo, hti, hs, h0, h1, show 0 ≤ j by omega, show j ≤ (c : Int) by omega, cutP]
  try omega
theorem ASl.pre {α : Type} {E : TypeId} {e : Enc α} {p : Option Addr} {c : Nat} {xs : List α} {w : World} {F : FP} (h : (ASl E e p c xs).holds w F) (m : Nat) (hm : m ≤ xs.length) : (ASl E e p c (xs.take m)).holds w F := by
  obtain ⟨⟨h0, h1⟩, h2⟩ := h
  have hl : (xs.take m).length = m := by simp; omega
  have hfl : (e.flat xs).take (m * e.k) = e.flat (xs.take m) := by
    have hx : e.flat xs = e.flat (xs.take m) ++ e.flat (xs.drop m) := by rw [← e.flat_append, List.take_append_drop]
    rw [hx, List.take_append_of_le_length (by rw [e.flat_len, hl]; exact Nat.le_refl _), List.take_of_length_le (by rw [e.flat_len, hl]; exact Nat.le_refl _)]
  rcases h1 with ⟨hv, hn⟩ | ⟨g, cap, cur, hv, hb, hg, h3, h4, h5, h6⟩
  · injection hv with hp _ hc
    subst hp; subst hc
    have : m = 0 := by omega
    subst this
    exact ⟨⟨by simp [Enc.flat], .inl ⟨by simp, by simp⟩⟩, fun x => by rw [h2 x]; simp [Value.ownBlock]⟩
  · injection hv with hp _ hc
    subst hp; subst hc
    refine ⟨⟨by rw [e.flat_len], .inr ⟨g, c, cur, by rfl, hb, hg, by rw [hl]; omega, h4, h5, ?_⟩⟩, fun x => by rw [h2 x]; simp [Value.ownBlock]⟩
    rw [hl, ← hfl, ← h6, List.take_take, Nat.min_eq_left (Nat.mul_le_mul_right _ hm)]
/-- What lies behind a place is let go. -/
theorem H.shrink {α : Type} {E : TypeId} {e : Enc α} {p : Option Addr} {c : Nat} {xs : List α} (h : H W0 S w D L) (i : Nat) (hi : L[i]? = some (ASl E e p c xs)) (m : Nat) (hm : m ≤ xs.length) : H W0 S w D (L.set i (ASl E e p c (xs.take m))) :=
  h.upd i hi (fun F hA hF => ⟨Fr.refl _ _, F, ASl.pre hA m hm, fun b hb => ⟨hF b hb, .inl hb⟩⟩)

/-! ### growing -/
theorem R.appG {α : Type} {x y : Operand} {E : TypeId} {e : Enc α} {z : Value} {bt : Nat} {p q : Option Addr} {c cq : Nat} {xs ys : List α} (i : Nat) (hd : Nat.blt d n = true) (h : H W0 S w D L) (hi : L[i]? = some (ASl E e p c xs))
    (hT : P.underlying T = some (.slice E)) (hin : (P.info? E).map (fun i => (i.zero, i.size, i.bytes)) = some (some z, e.k, bt)) (hz : z.cells.size = e.k) (hk : Nat.blt 0 e.k = true)
    (hx : evS σ x = some (.slice p xs.length c)) (hy : evS σ y = some (.slice q ys.length cq)) (hr : RdS w e q cq ys)
    (hb : (xs.length + ys.length) * bt ≤ 140737488355328 ∧ xs.length + ys.length ≤ 9223372036854775807)
    (k : ∀ p' c' w', H W0 S w' D (L.set i (ASl E e p' c' (xs ++ ys))) → R P n ops l Q ((d, .slice p' (xs ++ ys).length c') :: σ) w') :
    R P n ops ({ dst := some d, op := .call { callee := .builtin .append, args := #[x, y], argTypes := #[T, T] }, type := ty, pos := pos, after := af, guard := none } :: l) Q σ w := by
  have hk' : 0 < e.k := by simpa [Nat.blt_eq] using hk
  rcases Nat.eq_zero_or_pos ys.length with hm | hm
  · obtain rfl : ys = [] := List.eq_nil_of_length_eq_zero hm
    obtain ⟨ti, hti, hp⟩ := Option.map_eq_some_iff.1 hin
    simp only [Prod.mk.injEq] at hp
    have hc := (RdS.ofA (h.l i hi)).all.2.2.2
    rw [List.append_nil] at k
    refine R.val hd (v := .slice p xs.length c) (w' := w) (fun ρ a => ?_) (k p c w ?_)
    · simp only [execOp, resolve, invoke, builtin, Sem.run_bind, Sem.run_pure, Result.andThen_ok, List.map_toArray, List.map_cons, List.map_nil, a.ev hx, a.ev hy]
      have e1 : (Builtin.append_ #[T, T] ty #[.slice p xs.length c, .slice q ([] : List α).length cq]).run P w = .ok (.slice p xs.length c) w := by
        cases q <;> cases p <;> simp [Builtin.append_, run_underlying hT, sizeOf, typeInfo, hti, Builtin.lenOf, Builtin.firstCells, hc, run_load0, storeCells]
      rw [e1]
      rfl
    · have e2 : L.set i (ASl E e p c xs) = L := by
        apply List.ext_getElem?
        intro j
        by_cases hj : i = j
        · subst hj
          rw [List.getElem?_set_self (List.getElem?_eq_some_iff.1 hi).1, hi]
        · rw [List.getElem?_set_ne hj]
      rw [e2]; exact h
  · exact R.app i hd h hi hT hin hz hk' hx hy hm (hr.all.1 hm) hr.all.2.1 hb.1 hb.2 k
/-- One more behind a piece, in place. -/
theorem R.appIn {α : Type} {x y : Operand} {E : TypeId} {e : Enc α} {p q : Option Addr} {c cq m : Nat} {xs : List α} {u : α} {bt : Nat} {z : Value} (i : Nat) (hd : Nat.blt d n = true) (h : H W0 S w D L) (hi : L[i]? = some (ASl E e p c xs))
    (hT : P.underlying T = some (.slice E)) (hin : (P.info? E).map (fun i => (i.zero, i.size, i.bytes)) = some (some z, e.k, bt))
    (hx : evS σ x = some (.slice p (xs.take m).length c)) (hm : m < xs.length) (hy : evS σ y = some (.slice q [u].length cq)) (hr : RdS w e q cq [u])
    (k : ∀ w', H W0 S w' D (L.set i (ASl E e p c (xs.set m u))) → R P n ops l Q ((d, .slice p ((xs.set m u).take (m + 1)).length c) :: σ) w') :
    R P n ops ({ dst := some d, op := .call { callee := .builtin .append, args := #[x, y], argTypes := #[T, T] }, type := ty, pos := pos, after := af, guard := none } :: l) Q σ w := by
  obtain ⟨ti, hti, hp⟩ := Option.map_eq_some_iff.1 hin
  simp only [Prod.mk.injEq] at hp
  obtain ⟨F0, hA0⟩ := h.l i hi
  have hlm : (xs.take m).length = m := by simp; omega
  have hl1 : ((xs.set m u).take (m + 1)).length = m + 1 := by simp; omega
  rw [hlm] at hx
  rw [hl1] at k
  obtain ⟨hr1, hr2, _, hr4⟩ := hr.all
  rcases hA0.1.2 with ⟨hv0, hn⟩ | ⟨g, cap, cur, hv0, hb, hgg, h3, h4, h5, h6⟩
  · omega
  · injection hv0 with hp0 _ hc
    subst hp0
    subst hc
    have hq := hr1 (by simp)
    have hfl1 : e.flat [u] = e.enc u := by simp [Enc.flat]
    have hld := run_loadCells_list (P := P) (w := w) (adr q) (e.enc u) (by rw [← hfl1]; exact hr2)
    rw [e.len] at hld
    have hmk : m * e.k + e.k ≤ xs.length * e.k := by
      have := Nat.mul_le_mul_right e.k (show m + 1 ≤ xs.length by omega)
      rw [Nat.add_mul] at this
      omega
    have hfit : m * e.k + (e.enc u).length ≤ cur.size := by
      have := Nat.mul_le_mul_right e.k h3
      rw [e.len]
      omega
    have hst := run_storeCells_at P g (m * e.k) E (e.enc u) 0 cur w hgg (by simpa using hfit) (e.one u)
    simp only [Nat.add_zero] at hst
    have hst' : (storeCells ⟨g, m * e.k, none⟩ (e.enc u)).run P w = .ok () (w.setRow g (ovl cur.toList (m * e.k) (e.enc u)).toArray) := hst
    refine R.val hd (v := .slice (some ⟨g, 0, none⟩) (m + 1) c) (w' := w.setRow g (ovl cur.toList (m * e.k) (e.enc u)).toArray) (fun ρ a => ?_) (k _ ?_)
    · simp only [execOp, resolve, invoke, builtin, Sem.run_bind, Sem.run_pure, Result.andThen_ok, List.map_toArray, List.map_cons, List.map_nil, a.ev hx, a.ev hy]
      have e1 : (Builtin.append_ #[T, T] ty #[.slice (some ⟨g, 0, none⟩) m c, .slice q [u].length cq]).run P w = .ok (.slice (some ⟨g, 0, none⟩) (m + 1) c) (w.setRow g (ovl cur.toList (m * e.k) (e.enc u)).toArray) := by
        rw [hq]
        simp [Builtin.append_, run_underlying hT, sizeOf, typeInfo, hti, hp.2.1, Builtin.lenOf, Builtin.firstCells, show m + 1 ≤ c by omega, hld, add0, hst']
      rw [e1]
      rfl
    · refine h.upd i hi (fun F hA hF => ⟨?_, F, ⟨⟨?_, .inr ⟨g, c, (ovl cur.toList (m * e.k) (e.enc u)).toArray, ?_, hb, setRow_heap w g cur _ E _ hgg, ?_, ?_, ?_, ?_⟩⟩, ?_⟩, fun x hx => ⟨by have := hF x hx; simpa using this, .inl hx⟩⟩)
      · have := Fr.setRow w g (ovl cur.toList (m * e.k) (e.enc u)).toArray
        exact ⟨this.os, this.tape, this.output, this.size, fun x hx hn => this.block x hx (fun e1 => hn ((hA.2 x).2 (by simp [Value.ownBlock, e1])))⟩
      · rw [e.flat_len]
      · simp
      · simp; omega
      · omega
      · simp [ovl]; rw [e.len] at hfit ⊢; omega
      · rw [List.length_set]
        show ((ovl cur.toList (m * e.k) (e.enc u)).toArray.toList).take _ = _
        have he : ovl (e.enc (xs[m]'hm)) 0 (e.enc u) = e.enc u := by simp [ovl, e.len]
        have := flat_set e he (by rw [e.len]; omega) xs m (List.getElem?_eq_getElem hm)
        rw [List.toList_toArray, ovl_take (by rw [e.len]; omega), h6, this, Nat.add_zero]
      · intro x
        rw [List.length_set]
        exact hA.2 x
/-- 'copy(xs, ys)' -/
theorem ovl_flat {α : Type} (e : Enc α) (xs ys : List α) (h : ys.length ≤ xs.length) : ovl (e.flat xs) 0 (e.flat ys) = e.flat (ys ++ xs.drop ys.length) := by
  unfold ovl
  rw [List.take_zero, List.nil_append, Nat.zero_add, e.flat_append]
  congr 1
  have hx : e.flat xs = e.flat (xs.take ys.length) ++ e.flat (xs.drop ys.length) := by rw [← e.flat_append, List.take_append_drop]
  have hl : (e.flat (xs.take ys.length)).length = (e.flat ys).length := by rw [e.flat_len, e.flat_len]; simp; rw [Nat.min_eq_left h]
  rw [hx, ← hl, List.drop_left]
theorem R.cpy {α : Type} {x y : Operand} {E : TypeId} {e : Enc α} {p q : Option Addr} {c cq : Nat} {xs ys : List α} {T' : TypeId} (i : Nat) (hd : Nat.blt d n = true) (h : H W0 S w D L) (hi : L[i]? = some (ASl E e p c xs))
    (hT : slSz P T = some (E, e.k)) (hx : evS σ x = some (.slice p xs.length c)) (hy : evS σ y = some (.slice q ys.length cq)) (hr : RdS w e q cq ys) (hle : ys.length ≤ xs.length)
    (k : ∀ w', H W0 S w' D (L.set i (ASl E e p c (ys ++ xs.drop ys.length))) → R P n ops l Q ((d, .int .i64 (ys.length : Int)) :: σ) w') :
    R P n ops ({ dst := some d, op := .call { callee := .builtin .copy, args := #[x, y], argTypes := #[T, T'] }, type := ty, pos := pos, after := af, guard := none } :: l) Q σ w := by
  obtain ⟨hu, ti, hti, hs⟩ := slSz_spec hT
  obtain ⟨F0, hA0⟩ := h.l i hi
  obtain ⟨hr1, hr2, _, hr4⟩ := hr.all
  have hsame : ys.length = 0 → L.set i (ASl E e p c (ys ++ xs.drop ys.length)) = L := by
    intro h0
    obtain rfl : ys = [] := List.eq_nil_of_length_eq_zero h0
    apply List.ext_getElem?
    intro j
    by_cases hj : i = j
    · subst hj
      rw [List.getElem?_set_self (List.getElem?_eq_some_iff.1 hi).1, hi]
      rfl
    · rw [List.getElem?_set_ne hj]
  have hmin : Nat.min ys.length xs.length = ys.length := Nat.min_eq_left hle
  rcases hA0.1.2 with ⟨hv0, hn⟩ | ⟨g, cap, cur, hv0, hb, hgg, h3, h4, h5, h6⟩
  · have hy0 : ys.length = 0 := by omega
    injection hv0 with hp0 _ hc
    refine R.val hd (v := .int .i64 (ys.length : Int)) (w' := w) (fun ρ a => ?_) (k _ (by rw [hsame hy0]; exact h))
    simp only [execOp, resolve, invoke, builtin, Sem.run_bind, Sem.run_pure, Result.andThen_ok, List.map_toArray, List.map_cons, List.map_nil, a.ev hx, a.ev hy]
    have e1 : (Builtin.copy_ #[T, T'] ty #[.slice p xs.length c, .slice q ys.length cq]).run P w = .ok (.int .i64 (ys.length : Int)) w := by
      cases q <;> simp [hp0, Builtin.copy_, run_underlying hu, sizeOf, typeInfo, hti, Builtin.lenOf, Builtin.firstCells, hy0, hn, run_load0, goInt]
    rw [e1]; rfl
  · injection hv0 with hp0 _ hc
    subst hp0
    subst hc
    have hld : (Builtin.firstCells e.k ys.length (.slice q ys.length cq)).run P w = .ok (e.flat ys).toArray w := by
      rcases Nat.eq_zero_or_pos ys.length with h0 | h0
      · obtain rfl : ys = [] := List.eq_nil_of_length_eq_zero h0
        cases q <;> simp [Builtin.firstCells, run_load0, Enc.flat]
      · rw [hr1 h0]
        have := run_loadCells_list (P := P) (w := w) (adr q) (e.flat ys) hr2
        rw [e.flat_len] at this
        simp only [Builtin.firstCells, this]
    have hfit : (e.flat ys).length ≤ cur.size := by
      rw [e.flat_len, h5]
      exact Nat.mul_le_mul_right _ (by omega)
    have hst := run_storeCells_at P g 0 E (e.flat ys) 0 cur w hgg (by simpa using hfit) (e.flat_one ys)
    have hst' : (storeCells ⟨g, 0, none⟩ (e.flat ys)).run P w = .ok () (w.setRow g (ovl cur.toList 0 (e.flat ys)).toArray) := hst
    refine R.val hd (v := .int .i64 (ys.length : Int)) (w' := w.setRow g (ovl cur.toList 0 (e.flat ys)).toArray) (fun ρ a => ?_) (k _ ?_)
    · simp only [execOp, resolve, invoke, builtin, Sem.run_bind, Sem.run_pure, Result.andThen_ok, List.map_toArray, List.map_cons, List.map_nil, a.ev hx, a.ev hy]
      have e1 : (Builtin.copy_ #[T, T'] ty #[.slice (some ⟨g, 0, none⟩) xs.length c, .slice q ys.length cq]).run P w = .ok (.int .i64 (ys.length : Int)) (w.setRow g (ovl cur.toList 0 (e.flat ys)).toArray) := by
        simp [Builtin.copy_, run_underlying hu, sizeOf, typeInfo, hti, hs, Builtin.lenOf, hmin, hld, hst', goInt]
      rw [e1]; rfl
    · refine h.upd i hi (fun F hA hF => ⟨?_, F, ⟨⟨?_, .inr ⟨g, c, (ovl cur.toList 0 (e.flat ys)).toArray, ?_, hb, setRow_heap w g cur _ E _ hgg, ?_, ?_, ?_, ?_⟩⟩, ?_⟩, fun x hx => ⟨by have := hF x hx; simpa using this, .inl hx⟩⟩)
      · have := Fr.setRow w g (ovl cur.toList 0 (e.flat ys)).toArray
        exact ⟨this.os, this.tape, this.output, this.size, fun x hx hn => this.block x hx (fun e1 => hn ((hA.2 x).2 (by simp [Value.ownBlock, e1])))⟩
      · rw [e.flat_len]
      · congr 1
      · simp; omega
      · omega
      · simp [ovl]; omega
      · have hl2 : (ys ++ xs.drop ys.length).length = xs.length := by simp; omega
        rw [hl2]
        show ((ovl cur.toList 0 (e.flat ys)).toArray.toList).take _ = _
        rw [List.toList_toArray, ovl_take (by rw [e.flat_len, Nat.zero_add]; exact Nat.mul_le_mul_right _ hle), h6, ovl_flat e xs ys hle]
      · intro x
        have hl2 : (ys ++ xs.drop ys.length).length = xs.length := by simp; omega
        rw [hl2]
        exact hA.2 x
end
end Go.Proofs.YtflmncjhonmmhaaDoor
