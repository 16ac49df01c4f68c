/- Slices of elements of any size: what is read, made, written, cut and grown. -/
import Derived.Test.YtflmncjhonmmhaaDoorLib15
namespace Go.Proofs.YtflmncjhonmmhaaDoor
open Go
set_option linter.unusedVariables false
set_option linter.unusedSimpArgs false

/-- A slice (p, xs.length, c) whose elements may be read, with its room. -/
def DS {α : Type} (e : Enc α) (p : Option Addr) (c : Nat) (xs : List α) : Asn :=
  ⟨fun w F => (DSl e p xs).holds w F ∧ xs.length ≤ c, fun h hF => ⟨(DSl e p xs).loc h.1 hF, h.2⟩⟩
/-- The same of a world alone. -/
def RdS {α : Type} (w : World) (e : Enc α) (p : Option Addr) (c : Nat) (xs : List α) : Prop := ∃ F, (DS e p c xs).holds w F
theorem RdS.ofA {α : Type} {w : World} {E : TypeId} {e : Enc α} {p : Option Addr} {c : Nat} {xs : List α} (h : ∃ F, (ASl E e p c xs).holds w F) : RdS w e p c xs := by
  obtain ⟨F, h⟩ := h
  have hc : xs.length ≤ c := by
    rcases h.1.2 with ⟨hv, hn⟩ | ⟨g, cap, cur, hv, hb, hg, h3, h4, h5, h6⟩
    · omega
    · injection hv with _ _ hc; omega
  obtain ⟨F', h1, _⟩ := DSl.of_ASl h
  exact ⟨F', h1, hc⟩
theorem RdS.nil {α : Type} {w : World} {e : Enc α} : RdS w e none 0 [] :=
  ⟨fun _ => False, ⟨by simp, by simp [Enc.flat], by simp, by simp [Enc.flat]⟩, by simp⟩
theorem RdS.view {α : Type} {w : World} {e : Enc α} {p : Option Addr} {c : Nat} {xs : List α} (h : RdS w e p c xs) (lo m : Nat) (hl : lo + m ≤ c) : RdS w e (cutP p c lo e.k) (c - lo) ((xs.drop lo).take m) := by
  obtain ⟨F, h1, h2⟩ := h
  obtain ⟨F', h3, _⟩ := DSl.sub h1 c lo m h2
  exact ⟨F', h3, by simp; omega⟩
theorem RdS.pre {α : Type} {w : World} {e : Enc α} {p : Option Addr} {c : Nat} {xs : List α} (h : RdS w e p c xs) (m : Nat) : RdS w e p c (xs.take m) := by
  obtain ⟨F, ⟨h1, h2, h3, h4⟩, h5⟩ := h
  have key : ∀ (j : Nat) u, (e.flat (xs.take m))[j]? = some u → (e.flat xs)[j]? = some u := by
    intro j u hj
    have hx : e.flat xs = e.flat (xs.take m) ++ e.flat (xs.drop m) := by rw [← e.flat_append, List.take_append_drop]
    rw [hx, List.getElem?_append_left (List.getElem?_eq_some_iff.1 hj).1]
    exact hj
  refine ⟨fun x => 0 < (e.flat (xs.take m)).length ∧ x = (adr p).block, ⟨?_, ?_, ?_, ?_⟩, ?_⟩
  · intro h; simp at h; exact h1 (by omega)
  · exact fun j u hj => h2 j u (key j u hj)
  · simp; omega
  · exact fun x => Iff.rfl
  · simp; omega
theorem RdS.at {α : Type} {w : World} {e : Enc α} {p : Option Addr} {c : Nat} {xs : List α} (h : RdS w e p c xs) {i : Int} {x : α} (hx : getI xs i = some x) :
    p = some (adr p) ∧ ∀ (j : Nat) u, (e.enc x)[j]? = some u → w.cell? ((adr p).add (i.toNat * e.k + j)) = some u := by
  obtain ⟨F, ⟨h1, h2, _⟩, _⟩ := h
  obtain ⟨h3, h4, h5⟩ := getI_some hx
  exact ⟨h1 (by omega), fun j u hu => h2 _ u (e.flat_get xs _ j x u h5 hu)⟩
theorem RdS.cell {α : Type} {w : World} {e : Enc α} {p : Option Addr} {c : Nat} {xs : List α} (h : RdS w e p c xs) {i : Int} {x : α} (hx : getI xs i = some x) (off : Nat) {u : Value} (hu : (e.enc x)[off]? = some u) :
    w.cell? ((adr p).add (i.toNat * e.k + off)) = some u := (h.at hx).2 off u hu
theorem RdS.cells {α : Type} {w : World} {e : Enc α} {p : Option Addr} {c : Nat} {xs : List α} (h : RdS w e p c xs) {i : Int} {x : α} (hx : getI xs i = some x) (off : Nat) {ds : List Value} (hs : ((e.enc x).drop off).take ds.length = ds) :
    ∀ (j : Nat) v, ds[j]? = some v → w.cell? (((adr p).add (i.toNat * e.k + off)).add j) = some v := by
  intro j v hv
  rw [Addr.add_add, Nat.add_assoc]
  exact (h.at hx).2 _ v (ovl_get hs hv)
theorem RdS.all {α : Type} {w : World} {e : Enc α} {p : Option Addr} {c : Nat} {xs : List α} (h : RdS w e p c xs) : (0 < xs.length → p = some (adr p)) ∧ (∀ (j : Nat) u, (e.flat xs)[j]? = some u → w.cell? ((adr p).add j) = some u) ∧ xs.length ≤ 9223372036854775807 ∧ xs.length ≤ c := by
  obtain ⟨F, ⟨h1, h2, h3, _⟩, h5⟩ := h
  exact ⟨h1, h2, h3, h5⟩
theorem DSl.fr {α : Type} {e : Enc α} {p : Option Addr} {xs : List α} {w w' : World} {F : FP} (h : (DSl e p xs).holds w F) (hf : Fr0 w w') : (DSl e p xs).holds w' F :=
  (DSl e p xs).loc h (fun b hb => hf.block b (DSl.lt h b hb) (fun h => h))
theorem RdS.fr {α : Type} {e : Enc α} {p : Option Addr} {c : Nat} {xs : List α} {w w' : World} (h : RdS w e p c xs) (hf : Fr0 w w') : RdS w' e p c xs := by
  obtain ⟨F, h1, h2⟩ := h
  exact ⟨F, DSl.fr h1 hf, h2⟩
/-- The start of a function that reads what its arguments name. -/
theorem H.ofR1 {W : World} {α : Type} {e : Enc α} {p : Option Addr} {c : Nat} {xs : List α} (h : RdS W e p c xs) : H W (fun _ => False) W [DS e p c xs] [] :=
  H.ofD fun k A hk => by
    cases k with
    | zero => simp at hk; subst hk; obtain ⟨F, h⟩ := h; exact ⟨F, h, DSl.lt h.1⟩
    | succ k => simp at hk
theorem H.ofRs {W : World} {D : List Asn} (h : ∀ A ∈ D, ∃ F, A.holds W F ∧ ∀ b, F b → b < W.heap.size) : H W (fun _ => False) W D [] :=
  H.ofD fun k A hk => h A (List.mem_iff_getElem?.2 ⟨k, hk⟩)
theorem RdS.use {W : World} {α : Type} {e : Enc α} {p : Option Addr} {c : Nat} {xs : List α} (h : RdS W e p c xs) : ∃ F, (DS e p c xs).holds W F ∧ ∀ b, F b → b < W.heap.size := by
  obtain ⟨F, h⟩ := h
  exact ⟨F, h, DSl.lt h.1⟩

/-! ### lists of cells -/
theorem ovl_take {cs ds : List Value} {off N : Nat} (h : off + ds.length ≤ N) : (ovl cs off ds).take N = ovl (cs.take N) off ds := by
  unfold ovl
  rcases Nat.lt_or_ge cs.length (off + ds.length) with hl | hl
  · have e1 : cs.drop (off + ds.length) = [] := List.drop_eq_nil_of_le (by omega)
    have e2 : (cs.take N).drop (off + ds.length) = [] := List.drop_eq_nil_of_le (by simp; omega)
    rw [e1, e2, List.append_nil, List.append_nil, List.take_of_length_le (by simp; omega), List.take_take, Nat.min_eq_left (by omega)]
  · rw [List.take_append, List.take_of_length_le (by simp; omega), List.take_take, Nat.min_eq_left (by omega)]
    congr 1
    rw [List.drop_take]
    congr 1
    simp
    omega
theorem flat_set {α : Type} (e : Enc α) {off : Nat} {ds : List Value} {u u' : α} (he : ovl (e.enc u) off ds = e.enc u') (hl : off + ds.length ≤ e.k) : ∀ (xs : List α) (m : Nat), xs[m]? = some u → e.flat (xs.set m u') = ovl (e.flat xs) (m * e.k + off) ds := by
  intro xs
  induction xs with
  | nil => intro m h; simp at h
  | cons y ys ih =>
    intro m h
    have hy : (e.enc y).length = e.k := e.len y
    cases m with
    | zero =>
      simp at h; subst h
      have e1 : (e.enc y ++ e.flat ys).take off = (e.enc y).take off := by rw [List.take_append_of_le_length (by omega)]
      have e2 : (e.enc y ++ e.flat ys).drop (off + ds.length) = (e.enc y).drop (off + ds.length) ++ e.flat ys := by rw [List.drop_append_of_le_length (by omega)]
      show e.enc u' ++ e.flat ys = ovl (e.enc y ++ e.flat ys) (0 * e.k + off) ds
      rw [Nat.zero_mul, Nat.zero_add, ← he]
      unfold ovl
      rw [e1, e2]
      simp
    | succ m =>
      show e.enc y ++ e.flat (ys.set m u') = ovl (e.enc y ++ e.flat ys) ((m + 1) * e.k + off) ds
      rw [ih m (by simpa using h)]
      have hmk : (m + 1) * e.k = e.k + m * e.k := by rw [Nat.add_mul]; omega
      unfold ovl
      rw [hmk]
      have e1 : (e.enc y ++ e.flat ys).take (e.k + m * e.k + off) = e.enc y ++ (e.flat ys).take (m * e.k + off) := by
        rw [List.take_append, List.take_of_length_le (by omega)]
        congr 2
        omega
      have e2 : (e.enc y ++ e.flat ys).drop (e.k + m * e.k + off + ds.length) = (e.flat ys).drop (m * e.k + off + ds.length) := by
        rw [List.drop_append, List.drop_eq_nil_of_le (by omega), List.nil_append]
        congr 1
        omega
      rw [e1, e2]
      simp
theorem fill_many (kk : Nat) : ∀ (vs : List Value) (pre rest : List Value) (m : Nat), (∀ v ∈ vs, v.cells.size = kk) → rest.length = vs.length * kk → pre.length = m * kk →
    Instr.fill (fun i => some (i * kk, kk)) (pre ++ rest).toArray ((vs.zipIdx m).map fun x => (x.2, x.1)) = some (pre ++ vs.flatMap (fun v => v.cells.toList)).toArray := by
  intro vs
  induction vs with
  | nil =>
    intro pre rest m _ hl _
    obtain rfl : rest = [] := List.eq_nil_of_length_eq_zero (by simpa using hl)
    simp [Instr.fill]
  | cons v vs ih =>
    intro pre rest m h1 hl hp
    have hv := h1 v (by simp)
    have hsplit : rest = rest.take kk ++ rest.drop kk := (List.take_append_drop kk rest).symm
    have hrl : kk ≤ rest.length := by rw [hl, List.length_cons, Nat.add_mul]; omega
    simp only [List.zipIdx_cons, List.map_cons, Instr.fill]
    rw [if_neg (by simp [hv, ← hp]; omega)]
    have key : ∀ (cs : List Value) (a b : List Value), cs.length ≤ b.length → (cs.zipIdx).foldl (fun (acc : Array Value) (x : Value × Nat) => acc.setIfInBounds (a.length + x.2) x.1) (a ++ b).toArray = (a ++ cs ++ b.drop cs.length).toArray := by
      intro cs
      have gen : ∀ (cs : List Value) (a b : List Value) (o : Nat), cs.length ≤ b.length → (cs.zipIdx o).foldl (fun (acc : Array Value) (x : Value × Nat) => acc.setIfInBounds (a.length + x.2) x.1) (a ++ (List.replicate 0 undef) ++ b).toArray = (a ++ cs ++ b.drop cs.length).toArray → True := fun _ _ _ _ _ _ => trivial
      have gen2 : ∀ (cs : List Value) (o : Nat) (a c b : List Value), c.length = o → cs.length ≤ b.length → (cs.zipIdx o).foldl (fun (acc : Array Value) (x : Value × Nat) => acc.setIfInBounds (a.length + x.2) x.1) (a ++ c ++ b).toArray = (a ++ c ++ cs ++ b.drop cs.length).toArray := by
        intro cs
        induction cs with
        | nil => intro o a c b _ _; simp
        | cons x cs ih2 =>
          intro o a c b hc hb
          cases b with
          | nil => simp at hb
          | cons y b =>
            simp only [List.zipIdx_cons, List.foldl_cons]
            have e : (a ++ c ++ y :: b).toArray.setIfInBounds (a.length + o) x = (a ++ (c ++ [x]) ++ b).toArray := by
              apply Array.ext'
              simp only [Array.toList_setIfInBounds]
              rw [show a.length + o = (a ++ c).length by simp [hc], List.set_append_right _ _ (Nat.le_refl _)]
              simp
            rw [e, ih2 (o + 1) a (c ++ [x]) b (by simp [hc]) (by simpa using hb)]
            simp
      intro a b hb
      have := gen2 cs 0 a [] b rfl hb
      simpa using this
    have hz : v.cells.zipIdx.foldl (fun cs (x : Value × Nat) => cs.setIfInBounds (m * kk + x.2) x.1) (pre ++ rest).toArray = ((pre ++ v.cells.toList) ++ rest.drop kk).toArray := by
      have := key v.cells.toList pre rest (by simp [hv]; omega)
      rw [← Array.foldl_toList, Array.toList_zipIdx, ← hp]
      simpa [hv] using this
    have hz' : (v.cells.zipIdx.foldl (fun cs (c, j) => cs.setIfInBounds (m * kk + j) c) (pre ++ rest).toArray) = ((pre ++ v.cells.toList) ++ rest.drop kk).toArray := hz
    rw [hz']
    rw [ih (pre ++ v.cells.toList) (rest.drop kk) (m + 1) (fun x hx => h1 x (by simp [hx])) (by simp [hl, Nat.add_mul]) (by simp [hp, hv, Nat.add_mul])]
    simp
theorem flat_replicate {α : Type} (e : Enc α) (z : α) (n : Nat) : (madeCells (e.enc z).toArray (n * e.k)).toList = e.flat (List.replicate n z) := by
  apply List.ext_getElem?
  intro j
  have hz : (e.enc z).toArray.size = e.k := by simp [e.len]
  have hfl : (e.flat (List.replicate n z)).length = n * e.k := by rw [e.flat_len]; simp
  by_cases hj : j < n * e.k
  · have hk : 0 < e.k := Nat.pos_of_ne_zero (fun h0 => by rw [h0, Nat.mul_zero] at hj; omega)
    have hq : j / e.k < n := by rw [Nat.div_lt_iff_lt_mul hk]; exact hj
    have hr : j % e.k < e.k := Nat.mod_lt _ hk
    have h1 : (List.replicate n z)[j / e.k]? = some z := by simp [hq]
    have h2 : (e.enc z)[j % e.k]? = some ((e.enc z)[j % e.k]'(by rw [e.len]; exact hr)) := List.getElem?_eq_getElem _
    have h3 := e.flat_get _ _ _ z _ h1 h2
    have hdm : j / e.k * e.k + j % e.k = j := by rw [Nat.mul_comm]; exact Nat.div_add_mod j e.k
    rw [hdm] at h3
    rw [h3]
    have hlt : j % e.k < (e.enc z).length := by rw [e.len]; exact hr
    have hlt2 : j % (e.enc z).length < (e.enc z).length := by rw [e.len]; exact hr
    simp [madeCells, hj]
    rw [List.getElem?_eq_getElem hlt2]
    simp only [Option.getD_some]
    congr 1
    rw [e.len]
  · have e1 : (e.flat (List.replicate n z))[j]? = none := List.getElem?_eq_none (by rw [hfl]; omega)
    have e2 : (madeCells (e.enc z).toArray (n * e.k)).toList[j]? = none := List.getElem?_eq_none (by rw [Array.length_toList, size_madeCells]; omega)
    rw [e1, e2]

section
variable {P : Program} {n : Nat} {Q : Post} {σ : Sto} {w W0 : World} {S : FP} {D L : List Asn} {ops : Array Oper} {l : List Oper} {d : Nat} {ty T U : TypeId} {pos : String} {af : Array Edge}

/-- The address of an element. -/
theorem R.ixS {α : Type} {e : Enc α} {x y : Operand} {E : TypeId} {kk : Nat} {p : Option Addr} {c : Nat} {xs : List α} {ik : IntKind} {i : Int} {u : α} (hd : Nat.blt d n = true) (hT : slSz P T = some (E, kk))
    (hx : evS σ x = some (.slice p xs.length c)) (hy : evS σ y = some (.int ik i)) (hr : RdS w e p c xs) (hg : getI xs i = some u) (k : R P n ops l Q ((d, .pointer (some ((adr p).add (i.toNat * kk)))) :: σ) w) :
    R P n ops ({ dst := some d, op := .indexAddr T x y, type := ty, pos := pos, after := af, guard := none } :: l) Q σ w :=
  R.idx hd hT hx hy (hr.at hg).1 (getI_some hg).1 (getI_some hg).2.1 k

/-- A store into an element, or a part of one. -/
theorem R.stE {α : Type} {e : Enc α} {x y : Operand} {E : TypeId} {p : Option Addr} {c off : Nat} {xs : List α} {j : Int} {v : Value} {ds : List Value} {u u' : α} (i : Nat) (h : H W0 S w D L) (hi : L[i]? = some (ASl E e p c xs))
    (hT : (P.info? T).map (·.size) = some ds.length) (hx : evS σ x = some (.pointer (some ((adr p).add (j.toNat * e.k + off))))) (hy : evS σ y = some v) (hv : v.cells.toList = ds) (hg : getI xs j = some u)
    (hl : Nat.ble (off + ds.length) e.k = true) (he : ovl (e.enc u) off ds = e.enc u')
    (k : ∀ w', H W0 S w' D (L.set i (ASl E e p c (xs.set j.toNat u'))) → R P n ops l Q σ w') :
    R P n ops ({ dst := none, op := .store T x y, type := ty, pos := pos, after := af, guard := none } :: l) Q σ w := by
  obtain ⟨F0, hA0⟩ := h.l i hi
  have hj0 := (getI_some hg).1
  have hlen := (getI_some hg).2.1
  have hxm := (getI_some hg).2.2
  have hl' : off + ds.length ≤ e.k := Nat.le_of_ble_eq_true hl
  have h1 : ∀ z ∈ ds, z.oneCell' = true := by
    intro z hz
    refine e.one u' z ?_
    rw [← he]
    simp [ovl, hz]
  rcases hA0.1.2 with ⟨hv0, hn⟩ | ⟨g, cap, cur, hv0, hb, hgg, h3, h4, h5, h6⟩
  · omega
  · injection hv0 with hp _ hc
    subst hp
    subst hc
    have hjm : j.toNat * e.k + e.k ≤ xs.length * e.k := by
      have : j.toNat + 1 ≤ xs.length := by omega
      have := Nat.mul_le_mul_right e.k this
      rw [Nat.add_mul] at this
      omega
    have hfit : j.toNat * e.k + off + ds.length ≤ cur.size := by
      have := Nat.mul_le_mul_right e.k h3
      omega
    have hadd : (adr (some (⟨g, 0, none⟩ : Addr))).add (j.toNat * e.k + off) = ⟨g, j.toNat * e.k + off, none⟩ := add0 g _
    rw [hadd] at hx
    have hrun := run_storeAny (P := P) (off := j.toNat * e.k + off) hgg hT hv hfit h1
    refine R.unit (w' := w.setRow g (ovl cur.toList (j.toNat * e.k + off) ds).toArray) (fun a ha => by simp [execOp, ha.ev hx, ha.ev hy, Instr.storeAt, Instr.sureAddr, hrun]) (k _ ?_)
    refine h.upd i hi (fun F hA hF => ⟨?_, F, ⟨⟨?_, .inr ⟨g, c, (ovl cur.toList (j.toNat * e.k + off) ds).toArray, ?_, hb, setRow_heap w g cur _ E _ hgg, ?_, ?_, ?_, ?_⟩⟩, ?_⟩, fun x hx => ⟨by have := hF x hx; simpa using this, .inl hx⟩⟩)
    · have := Fr.setRow w g (ovl cur.toList (j.toNat * e.k + off) ds).toArray
      exact ⟨this.os, this.tape, this.output, this.size, fun x hx hn => this.block x hx (fun e1 => hn ((hA.2 x).2 (by simp [Value.ownBlock, e1])))⟩
    · rw [e.flat_len]
    · simp
    · simp; omega
    · omega
    · simp [ovl]; omega
    · rw [List.length_set]
      show ((ovl cur.toList (j.toNat * e.k + off) ds).toArray.toList).take _ = _
      rw [List.toList_toArray, ovl_take (by omega), h6, flat_set e he hl' xs _ hxm]
    · intro x
      rw [List.length_set]
      exact hA.2 x

/-- '[]T{x, y, ..}', elements of any size. -/
theorem R.litK {α : Type} {E : TypeId} {e : Enc α} {z : Value} {len : Nat} {parts : List (Nat × Operand)} {vs : List Value} {xs : List α} (hd : Nat.blt d n = true) (h : H W0 S w D L)
    (hu : P.underlying T = some (.slice E)) (hin : (P.info? E).map (fun i => (i.zero, i.size)) = some (some z, e.k)) (hk0 : Nat.blt 0 e.k = true)
    (hv : evP σ parts = some ((vs.zipIdx 0).map fun x => (x.2, x.1))) (hx : vs.map (fun v => v.cells.toList) = xs.map e.enc) (hlen : xs.length = len) (hl0 : Nat.blt 0 len = true) (hl : Nat.ble (len * e.k) 16777216 = true)
    (k : ∀ p c w', H W0 S w' D (L ++ [ASl E e p c xs]) → R P n ops l Q ((d, .slice p xs.length c) :: σ) w') :
    R P n ops ({ dst := some d, op := .buildSlice T len parts.toArray, type := ty, pos := pos, after := af, guard := none } :: l) Q σ w := by
  obtain ⟨ie, hie, hzz⟩ := Option.map_eq_some_iff.1 hin
  simp only [Prod.mk.injEq] at hzz
  have hl0' : 0 < len := by simpa [Nat.blt_eq] using hl0
  have hk0' : 0 < e.k := by simpa [Nat.blt_eq] using hk0
  have hl' : len * e.k ≤ 16777216 := Nat.le_of_ble_eq_true hl
  have hvl : vs.length = len := by have := congrArg List.length hx; simpa [hlen] using this
  have hsz : ∀ v ∈ vs, v.cells.size = e.k := by
    intro v hv
    have : v.cells.toList ∈ xs.map e.enc := by rw [← hx]; exact List.mem_map_of_mem hv
    obtain ⟨y, _, hy⟩ := List.mem_map.1 this
    rw [← Array.length_toList, ← hy, e.len]
  refine R.lit (vals := ((vs.zipIdx 0).map fun x => (x.2, x.1)).toArray) hd h hu hie hzz.1 hzz.2 hk0' hlen hl0' hl' (fun ρ hρ => ?_) ?_ k
  · rw [List.map_toArray, hρ.evP hv]
  · have := fill_many e.k vs [] ((Array.range (len * e.k)).map (z.cells[· % z.cells.size]!)).toList 0 hsz (by simp [hvl]) (by simp)
    rw [List.nil_append, Array.toArray_toList] at this
    rw [this]
    congr 2
    have h2 : vs.flatMap (fun v => v.cells.toList) = (vs.map (fun v => v.cells.toList)).flatten := by rw [List.flatMap_def]
    rw [List.nil_append, h2, hx, ← List.flatMap_def]
    rfl

/-- 'make([]T, n)' -/
theorem R.mkS {α : Type} {E : TypeId} {e : Enc α} {z : Value} {z0 : α} {bt : Nat} {x y : Operand} {k1 k2 : IntKind} {m : Int} (hd : Nat.blt d n = true) (h : H W0 S w D L)
    (hu : P.underlying T = some (.slice E)) (hin : (P.info? E).map (fun i => (i.zero, i.size, i.bytes)) = some (some z, e.k, bt)) (hz : z.cells = (e.enc z0).toArray)
    (hx : evS σ x = some (.int k1 m)) (hy : evS σ y = some (.int k2 m)) (h0 : 0 ≤ m) (hb : bt * m.toNat ≤ 281474976710656) (h63 : m ≤ 9223372036854775807)
    (k : ∀ p c w', H W0 S w' D (L ++ [ASl E e p c (List.replicate m.toNat z0)]) → R P n ops l Q ((d, .slice p (List.replicate m.toNat z0).length c) :: σ) w') :
    R P n ops ({ dst := some d, op := .makeSlice T x y, type := ty, pos := pos, after := af, guard := none } :: l) Q σ w := by
  obtain ⟨ie, hie, hzz⟩ := Option.map_eq_some_iff.1 hin
  simp only [Prod.mk.injEq] at hzz
  obtain ⟨q, rfl⟩ := Int.eq_ofNat_of_zero_le h0
  have hq : ((q : Int)).toNat = q := by simp
  obtain ⟨w', hrun, hown, hgr⟩ := run_make_full (P := P) w 0 T E ie z e.k hu hie hzz.1 hzz.2.1 k1 k2 q (by rw [hzz.2.2]; rw [hq] at hb; exact hb) (by unfold maxLen; omega) (Nat.zero_le _)
  refine R.val hd (v := .slice (some ⟨w.heap.size, 0, none⟩) (List.replicate ((q : Int)).toNat z0).length q) (w' := w') (fun ρ a => ?_) (k _ _ _ ?_)
  · simp only [execOp, a.ev hx, a.ev hy, Sem.run_bind, hrun, Result.andThen_ok]
    simp
  · refine h.new (Fr.of_grown_none hgr) (F' := fun b => b = w.heap.size) ⟨?_, fun b => by simp [Value.ownBlock, eq_comm]⟩ ?_
    · rw [hz, flat_replicate] at hown
      simpa using hown
    · rintro b rfl
      rcases hown.2 with ⟨h', _⟩ | ⟨g', cap', cur, h', _, hg, _⟩
      · simp at h'
      · simp only [Value.slice.injEq, Option.some.injEq, Addr.mk.injEq, and_true, true_and] at h'
        obtain ⟨rfl, _⟩ := h'
        exact ⟨(Array.getElem?_eq_some_iff.1 hg).1, Nat.le_refl _⟩
end
end Go.Proofs.YtflmncjhonmmhaaDoor
