/- More rules: tables, arrays, bytes as texts, maps with few entries, pointers held against nil. -/
import Derived.Test.YtflmncjhonmmhaaDoorLib18
namespace Go.Proofs.YtflmncjhonmmhaaDoor
open Go
set_option linter.unusedVariables false
set_option linter.unusedSimpArgs false

theorem must_ltN {x y : Nat} {u : Unit} (h : must (decide (x < y)) = some u) : x < y := of_decide_eq_true (must_some h)
theorem not_of_t {b : Bool} (h : b = true) : (!b) = false := by rw [h]; rfl
theorem not_of_f {b : Bool} (h : b = false) : (!b) = true := by rw [h]; rfl
theorem beq_str (x y : Str) : ((⟨x.toArray⟩ : ByteArray) == (⟨y.toArray⟩ : ByteArray)) = (x == y) := by
  rw [beq_toListBytes, ByteArray.toList_eq, ByteArray.toList_eq]
theorem Addr_add2 (b m o : Nat) : (⟨b, m, none⟩ : Addr).add o = ⟨b, m + o, none⟩ := Addr.add_mid b m o
/-- The table g. -/
def GT {α : Type} (w : World) (g : Nat) (e : Enc α) (xs : List α) : Prop := ∀ (j : Nat) u, (e.flat xs)[j]? = some u → w.cell? ⟨g, j, none⟩ = some u
theorem GT.cell {α : Type} {w : World} {g : Nat} {e : Enc α} {xs : List α} (h : GT w g e xs) {i : Int} {x : α} (hx : getI xs i = some x) (off : Nat) {u : Value} (hu : (e.enc x)[off]? = some u) : w.cell? ((⟨g, 0, none⟩ : Addr).add (i.toNat * e.k + off)) = some u := by
  rw [add0]
  exact h _ u (e.flat_get xs _ off x u (getI_some hx).2.2 hu)
theorem GT.cells {α : Type} {w : World} {g : Nat} {e : Enc α} {xs : List α} (h : GT w g e xs) {i : Int} {x : α} (hx : getI xs i = some x) (off : Nat) {ds : List Value} (hs : ((e.enc x).drop off).take ds.length = ds) :
    ∀ (j : Nat) v, ds[j]? = some v → w.cell? (((⟨g, 0, none⟩ : Addr).add (i.toNat * e.k + off)).add j) = some v := by
  intro j v hv
  rw [Addr.add_add, Nat.add_assoc]
  exact h.cell hx _ (ovl_get hs hv)
theorem GT.all {α : Type} {w : World} {g : Nat} {e : Enc α} {xs : List α} (h : GT w g e xs) : ∀ (j : Nat) v, (e.flat xs)[j]? = some v → w.cell? ((⟨g, 0, none⟩ : Addr).add j) = some v := by
  intro j v hv
  rw [add0]
  exact h j v hv
theorem GT.ofTab {w : World} {g : Nat} {k : IntKind} {zs : List Int} (h : GTab w g k zs) : GT w g (encI k) zs := by
  intro j u hu
  rw [flatI] at hu
  obtain ⟨x, hx, rfl⟩ := List.getElem?_eq_some_iff.1 hu |> fun ⟨h1, h2⟩ => (⟨zs[j]'(by simpa using h1), by simp, by simpa using h2.symm⟩ : ∃ x, zs[j]? = some x ∧ u = Value.int k x)
  exact h j x hx
theorem GT.fr {α : Type} {w w' : World} {g : Nat} {e : Enc α} {xs : List α} (h : GT w g e xs) (hf : Fr0 w w') : GT w' g e xs := fun j u hu => cell_fr (h j u hu) hf

/-- A map with these entries, in the order in which they came. -/
def AMap (b : Nat) (kvs : List (Int × Value)) : Asn :=
  ⟨fun w F => (∃ es clock, w.heap[b]? = some (.map es clock) ∧ es.toList.map (fun e => (e.key, e.val)) = kvs.map (fun x => (Value.int .i64 x.1, x.2))) ∧ ∀ x, F x ↔ x = b,
    fun h hF => by
      obtain ⟨⟨es, cl, h1, h2⟩, h3⟩ := h
      exact ⟨⟨es, cl, (hF b ((h3 b).2 rfl)).trans h1, h2⟩, h3⟩⟩
def findK : List (Int × Value) → Int → Option Value
  | [], _ => none
  | (j, v) :: r, k => if (k == j) = true then some v else findK r k
theorem findK_eq {j k : Int} {v : Value} {r : List (Int × Value)} (h : (k == j) = true) : findK ((j, v) :: r) k = some v := by simp [findK, h]
theorem findK_ne {j k : Int} {v : Value} {r : List (Int × Value)} {x : Option Value} (h : (k == j) = false) (hx : findK r k = x) : findK ((j, v) :: r) k = x := by simp [findK, h, hx]
theorem findNow_k {kd : IntKind} (k : Int) : ∀ (es : List MapEntry) (kvs : List (Int × Value)) (i : Nat), es.map (fun e => (e.key, e.val)) = kvs.map (fun x => (Value.int .i64 x.1, x.2)) →
    ∃ r, Instr.findNow (.int kd) (.int .i64 k) es i = some r ∧ r.map (·.2) = findK kvs k := by
  intro es
  induction es with
  | nil => intro kvs i h; cases kvs with | nil => exact ⟨none, rfl, rfl⟩ | cons x r => simp at h
  | cons e es ih =>
    intro kvs i h
    cases kvs with
    | nil => simp at h
    | cons x r =>
      obtain ⟨j, v⟩ := x
      simp only [List.map_cons, List.cons.injEq, Prod.mk.injEq] at h
      obtain ⟨⟨h1, h2⟩, h3⟩ := h
      simp only [Instr.findNow, h1, Instr.sameNow, if_true]
      cases hb : (k == j)
      · obtain ⟨r', h4, h5⟩ := ih r (i + 1) h3
        exact ⟨r', by simpa using h4, by rw [h5]; simp [findK, hb]⟩
      · exact ⟨some (i, e.val), by simp, by simp [findK, hb, h2]⟩

section
variable {P : Program} {n : Nat} {Q : Post} {σ : Sto} {w W0 : World} {S : FP} {D L : List Asn} {ops : Array Oper} {l : List Oper} {d : Nat} {ty T U : TypeId} {pos : String} {af : Array Edge}

theorem H.rS {α : Type} {e : Enc α} {p : Option Addr} {c : Nat} {xs : List α} (h : H W0 S w D L) (i : Nat) (hi : D[i]? = some (DS e p c xs)) : RdS w e p c xs := h.d i hi
theorem H.rX {α : Type} {e : Enc α} {p : Option Addr} {c : Nat} {xs : List α} (h : H W0 S w D L) (i : Nat) (hi : L[i]? = some (DS e p c xs)) : RdS w e p c xs := h.l i hi
theorem H.rL {α : Type} {E : TypeId} {e : Enc α} {p : Option Addr} {c : Nat} {xs : List α} (h : H W0 S w D L) (i : Nat) (hi : L[i]? = some (ASl E e p c xs)) : RdS w e p c xs := RdS.ofA (h.l i hi)

/-- The address of a field of a box. -/
theorem R.fldB {x : Operand} {i o b m : Nat} (hd : Nat.blt d n = true) (hT : fieldOff P T i = some o) (hx : evS σ x = some (.pointer (some ⟨b, m, none⟩))) (k : R P n ops l Q ((d, .pointer (some ⟨b, m + o, none⟩)) :: σ) w) :
    R P n ops ({ dst := some d, op := .fieldAddr T x i, type := ty, pos := pos, after := af, guard := none } :: l) Q σ w :=
  R.fld hd hT hx (by rw [Addr_add2]; exact k)

theorem flat_extract {α : Type} (e : Enc α) {xs : List α} {m : Nat} {u : α} (h : xs[m]? = some u) : (e.flat xs).toArray.extract (m * e.k) (m * e.k + e.k) = (e.enc u).toArray := by
  apply Array.ext'
  rw [Array.toList_extract, List.toList_toArray]
  apply List.ext_getElem?
  intro j
  have hm := (List.getElem?_eq_some_iff.1 h).1
  rw [List.extract_eq_take_drop, List.getElem?_take]
  by_cases hj : j < e.k
  · rw [if_pos (by omega), List.getElem?_drop]
    have h2 : (e.enc u)[j]? = some ((e.enc u)[j]'(by rw [e.len]; exact hj)) := List.getElem?_eq_getElem _
    rw [e.flat_get xs m j u _ h h2, h2]
  · rw [if_neg (by omega)]
    exact (List.getElem?_eq_none (by rw [e.len]; omega)).symm
/-- An element of a table that is loaded as a whole. -/
theorem R.ixTab {α : Type} {e : Enc α} {x y : Operand} {m : Nat} {b : Bool} {xs : List α} {ik : IntKind} {i : Int} {u : α} {E : TypeId} {v : Value} (hd : Nat.blt d n = true) (hT : P.underlying T = some (.array m E)) (hE : shapeOf P E = some (b, e.k))
    (hx : evS σ x = some (.agg (e.flat xs).toArray)) (hy : evS σ y = some (.int ik i)) (hm : xs.length = m) (hg : getI xs i = some u) (hv : (match b with | true => some (.agg (e.enc u).toArray) | false => (e.enc u)[0]?) = some v) (kk : R P n ops l Q ((d, v) :: σ) w) :
    R P n ops ({ dst := some d, op := .index T x y, type := ty, pos := pos, after := af, guard := none } :: l) Q σ w := by
  obtain ⟨h0, h1, h2⟩ := getI_some hg
  refine R.idxG hd hT hE hx hy h0 (by omega) ?_ kk
  cases b with
  | true => simp at hv; subst hv; simp only [partV, flat_extract e h2]
  | false =>
    have := e.flat_get xs i.toNat 0 u v h2 hv
    simpa [partV] using this
/-- The address of an element of a table. -/
theorem R.iaG {α : Type} {x y : Operand} {g m k0 : Nat} {ik : IntKind} {i : Int} {xs : List α} {v : α} (hd : Nat.blt d n = true) (hT : arSz P T = some (m, k0)) (hx : evS σ x = some (.pointer (some ⟨g, 0, none⟩))) (hy : evS σ y = some (.int ik i))
    (hm : xs.length = m) (hv : getI xs i = some v) (k : R P n ops l Q ((d, .pointer (some ((⟨g, 0, none⟩ : Addr).add (i.toNat * k0)))) :: σ) w) :
    R P n ops ({ dst := some d, op := .indexAddr T x y, type := ty, pos := pos, after := af, guard := none } :: l) Q σ w := by
  obtain ⟨h0, h1, h2⟩ := getI_some hv
  exact R.idxA hd hT hx hy h0 (by omega) k
theorem H.arrG {α : Type} {e : Enc α} (h : H W0 S w D L) (i : Nat) {b : Nat} {xs : List α} {j : Int} {x : α} {v : Value} (hi : L[i]? = some (AArr b U e xs)) (hx : getI xs j = some x) (hk : e.k = 1 := by rfl) (hv : (e.enc x)[0]? = some v := by rfl) : w.cell? ((⟨b, 0, none⟩ : Addr).add (j.toNat * 1)) = some v := by
  rw [add0]
  refine h.box i _ hi ?_
  have := e.flat_get xs j.toNat 0 x v (getI_some hx).2.2 hv
  rw [hk] at this
  simpa using this
theorem R.stAG {α : Type} {e : Enc α} {x y : Operand} {b : Nat} {xs : List α} {j : Int} {u u' : α} {v : Value} (i : Nat) (h : H W0 S w D L) (hi : L[i]? = some (AArr b U e xs)) (hT : (P.info? T).map (·.size) = some 1)
    (hx : evS σ x = some (.pointer (some ((⟨b, 0, none⟩ : Addr).add (j.toNat * 1))))) (hy : evS σ y = some v) (hv : e.enc u' = [v]) (hj : getI xs j = some u)
    (kk : ∀ w', H W0 S w' D (L.set i (AArr b U e (xs.set j.toNat u'))) → R P n ops l Q σ w') :
    R P n ops ({ dst := none, op := .store T x y, type := ty, pos := pos, after := af, guard := none } :: l) Q σ w := by
  rw [add0, Nat.mul_one] at hx
  obtain ⟨h0, h1, h2⟩ := getI_some hj
  have hk : e.k = 1 := by rw [← e.len u', hv]; rfl
  have h1v : v.oneCell' = true := e.one u' v (by rw [hv]; simp)
  have hfl : (e.flat xs).length = xs.length := by rw [e.flat_len, hk]; omega
  refine R.st i h hi hT hx hy h1v (by simp [Nat.blt_eq, hfl]; omega) fun w' h' => kk w' ?_
  have he : ovl (e.enc u) 0 [v] = e.enc u' := by
    have hl : (e.enc u).length = 1 := by rw [e.len, hk]
    match hu : e.enc u, hl with
    | [z], _ => rw [hv]; rfl
  have hs := flat_set e he (by rw [hk]; simp) xs j.toNat h2
  have e2 : ((e.flat xs).toArray.setIfInBounds j.toNat v) = (e.flat (xs.set j.toNat u')).toArray := by
    rw [hs, hk]
    apply Array.ext'
    simp only [Array.toList_setIfInBounds, Nat.mul_one, Nat.add_zero]
    rw [List.set_eq_take_append_cons_drop, if_pos (by rw [hfl]; omega)]
    simp [ovl]
  rw [e2] at h'
  exact h'

/-- Bytes as a text. -/
theorem RdS.text {p : Option Addr} {c : Nat} {xs : List Int} {src dst' E : TypeId} (hr : RdS w (encI .u8) p c xs) (hs : slSz P src = some (E, 1)) (he : P.underlying E = some (.int .u8)) (hT : P.underlying dst' = some .string) :
    (convert src dst' (.slice p xs.length c)).run P w = .ok (vS (Proofs.YtflmncjhonmmhaaDoor.text xs)) w := by
  obtain ⟨hu, ti, hti, hsz⟩ := slSz_spec hs
  obtain ⟨h1, h2, _, _⟩ := hr.all
  cases p with
  | none =>
    have : xs.length = 0 := by
      rcases Nat.eq_zero_or_pos xs.length with h | h
      · exact h
      · have := h1 h; simp at this
    obtain rfl := List.eq_nil_of_length_eq_zero this
    exact run_convert_bytes_nil (P := P) w src E hu he 0 c dst' hT
  | some a =>
    have hl := run_loadCells_list (P := P) (w := w) a ((encI .u8).flat xs) h2
    rw [flatI] at hl
    rw [List.length_map] at hl
    rw [run_convert_bytes_string w src dst' E _ xs.length c hu he hT, run_bytesToString w _ xs.length c xs hl, foldl_push_bytes]
    simp [vS, Proofs.YtflmncjhonmmhaaDoor.text, ByteArray.empty, ByteArray.emptyWithCapacity]
    try rfl
theorem R.b2sR {src dst' E : TypeId} {x : Operand} {p : Option Addr} {c : Nat} {xs : List Int} (hd : Nat.blt d n = true) (hr : RdS w (encI .u8) p c xs) (hs : slSz P src = some (E, 1)) (he : P.underlying E = some (.int .u8)) (hT : P.underlying dst' = some .string)
    (hx : evS σ x = some (.slice p xs.length c)) (k : R P n ops l Q ((d, vS (text xs)) :: σ) w) :
    R P n ops ({ dst := some d, op := .convert src dst' x, type := ty, pos := pos, after := af, guard := none } :: l) Q σ w :=
  R.val hd (fun ρ a => by simp only [execOp, a.ev hx, Sem.run_bind, hr.text hs he hT, Result.andThen_ok]; rfl) k
theorem R.s2bR {src dst' E : TypeId} {x : Operand} {s : Str} (hd : Nat.blt d n = true) (h : H W0 S w D L) (hs : P.underlying src = some .string) (hT : P.underlying dst' = some (.slice E)) (he : P.underlying E = some (.int .u8))
    (hx : evS σ x = some (vS s)) (hl : s.length ≤ 9223372036854775807) (k : ∀ p c w', H W0 S w' D (L ++ [DS (encI .u8) p c (bytes s)]) → R P n ops l Q ((d, .slice p (bytes s).length c) :: σ) w') :
    R P n ops ({ dst := some d, op := .convert src dst' x, type := ty, pos := pos, after := af, guard := none } :: l) Q σ w := by
  have hrun := Lib.run_convert_string_bytes (P := P) w src dst' E ⟨s.toArray⟩ hs hT he
  have hsz : (⟨s.toArray⟩ : ByteArray).size = (bytes s).length := by rw [size_str, bytes_length]
  rw [hsz] at hrun
  refine R.val hd (w' := Lib.bytesWorld w E ⟨s.toArray⟩) (fun ρ a => by simp only [execOp, a.ev hx, vS, Sem.run_bind, hrun, Result.andThen_ok]; rfl) (k _ (grownCap w (bytes s).length 0 E) _ ?_)
  refine h.new (bytesWorld_fr w E _) (F' := fun x => 0 < ((encI .u8).flat (bytes s)).length ∧ x = w.heap.size) ⟨⟨fun _ => rfl, ?_, by rw [bytes_length]; exact hl, by simp [adr]⟩, ?_⟩ ?_
  · intro j u hu
    have hj : j < s.length := by
      have := (List.getElem?_eq_some_iff.1 hu).1
      rw [flatI, List.length_map, bytes_length] at this
      exact this
    have hc := Lib.bytesWorld_cell w E ⟨s.toArray⟩ j (by rw [size_str]; exact hj)
    show (Lib.bytesWorld w E ⟨s.toArray⟩).cell? ((⟨w.heap.size, 0, none⟩ : Addr).add j) = some u
    rw [add0, hc, ← hu, flatI]
    simp [bytes, List.getD, hj]
  · exact grownCap_ge w _ 0 E
  · rintro x ⟨_, rfl⟩
    rw [Lib.bytesWorld_size]
    omega

/-! ### maps -/
theorem R.mkMap (hd : Nat.blt d n = true) (h : H W0 S w D L) (k : ∀ b w', H W0 S w' D (L ++ [AMap b []]) → R P n ops l Q ((d, .map (some b)) :: σ) w') :
    R P n ops ({ dst := some d, op := .makeMap T none, type := ty, pos := pos, after := af, guard := none } :: l) Q σ w := by
  refine R.val hd (w' := w.alloc (.map #[] 0)) (v := .map (some w.heap.size)) (fun ρ a => by simp [execOp, Instr.makeMap]) (k _ _ ?_)
  exact h.new (Fr.alloc _ _) (F' := fun x => x = w.heap.size) ⟨⟨#[], 0, heap_alloc_new w _, rfl⟩, fun _ => Iff.rfl⟩ (by rintro b rfl; simp)
theorem checkKey_int {kt : TypeId} {kd : IntKind} (hk : P.underlying kt = some (.int kd)) (b : Bool) (v : Value) (w : World) : (Instr.checkKey b 10000 kt v).run P w = .ok () w := by
  show (Instr.checkKey b (9999 + 1) kt v).run P w = .ok () w
  rw [Instr.checkKey, Sem.run_bind, run_underlying hk]
  rfl
theorem findKey_k {kt : TypeId} {kd : IntKind} (hk : P.underlying kt = some (.int kd)) {k : Int} {es : List MapEntry} {kvs : List (Int × Value)} (h : es.map (fun e => (e.key, e.val)) = kvs.map (fun x => (Value.int .i64 x.1, x.2))) (w : World) :
    ∃ r, (Instr.findKey kt (.int .i64 k) es).run P w = .ok r w ∧ r.map (·.2) = findK kvs k := by
  obtain ⟨r, h1, h2⟩ := findNow_k (kd := kd) k es kvs 0 h
  exact ⟨r, by simp [Instr.findKey, run_underlying hk, h1], h2⟩
theorem R.ins {m k0 v0 : Operand} {kt et : TypeId} {b : Nat} {kvs : List (Int × Value)} {k1 : Int} {v : Value} {kd : IntKind} (i : Nat) (h : H W0 S w D L) (hi : L[i]? = some (AMap b kvs)) (hT : P.underlying T = some (.map kt et)) (hk : P.underlying kt = some (.int kd))
    (hm : evS σ m = some (.map (some b))) (hk0 : evS σ k0 = some (.int .i64 k1)) (hv : evS σ v0 = some v) (hn : findK kvs k1 = none)
    (k : ∀ w', H W0 S w' D (L.set i (AMap b (kvs ++ [(k1, v)]))) → R P n ops l Q σ w') :
    R P n ops ({ dst := none, op := .insert T m k0 v0, type := ty, pos := pos, after := af, guard := none } :: l) Q σ w := by
  obtain ⟨F, ⟨es, cl, hb, hes⟩, hF⟩ := h.l i hi
  obtain ⟨r, hr1, hr2⟩ := findKey_k (P := P) hk (k := k1) hes w
  rw [hn] at hr2
  have hr3 : r = none := by cases r with | none => rfl | some x => simp at hr2
  subst hr3
  have hlt : b < w.heap.size := (Array.getElem?_eq_some_iff.1 hb).1
  refine R.unit (w' := { w with heap := w.heap.setIfInBounds b (.map (es.push { key := .int .i64 k1, val := v, born := cl }) (cl + 1)) }) (fun ρ a => ?_) (k _ ?_)
  · simp [execOp, Instr.mapUpdate, run_underlying hT, a.ev hm, a.ev hk0, a.ev hv, getObj, setObj, Sem.run, hb, checkKey_int hk, hr1]
  · refine h.upd i hi (fun F hA hFb => ⟨⟨rfl, rfl, rfl, by simp, fun x hx hn => ?_⟩, F, ⟨⟨es.push { key := .int .i64 k1, val := v, born := cl }, cl + 1, by simp [hlt], ?_⟩, hA.2⟩, fun x hx => ⟨by have := hFb x hx; simpa using this, .inl hx⟩⟩)
    · have : b ≠ x := fun e => hn ((hA.2 x).2 e.symm)
      simp [Array.getElem?_setIfInBounds, this]
    · simp [hes]
theorem run_lookup {kt et : TypeId} {b : Nat} {kvs : List (Int × Value)} {k1 : Int} {kd : IntKind} (h : H W0 S w D L) (i : Nat) (hi : L[i]? = some (AMap b kvs)) (hT : P.underlying T = some (.map kt et)) (hk : P.underlying kt = some (.int kd)) (ok : Bool) :
    (∀ v, findK kvs k1 = some v → (Instr.lookup T (.map (some b)) (.int .i64 k1) ok).run P w = .ok (if ok then .tuple #[v, .bool true] else v) w) ∧
    (∀ z, findK kvs k1 = none → (P.info? et).bind (·.zero) = some z → (Instr.lookup T (.map (some b)) (.int .i64 k1) ok).run P w = .ok (if ok then .tuple #[z, .bool false] else z) w) := by
  obtain ⟨F, ⟨es, cl, hb, hes⟩, hF⟩ := h.l i hi
  obtain ⟨r, hr1, hr2⟩ := findKey_k (P := P) hk (k := k1) hes w
  constructor
  · intro v hv
    rw [hv] at hr2
    obtain ⟨x, rfl, hx⟩ := Option.map_eq_some_iff.1 hr2
    obtain ⟨j, y⟩ := x
    simp at hx
    subst hx
    simp [Instr.lookup, run_underlying hT, getObj, Sem.run, hb, checkKey_int hk, hr1]
  · intro z hn hz
    rw [hn] at hr2
    have hr3 : r = none := by cases r with | none => rfl | some x => simp at hr2
    subst hr3
    obtain ⟨ti, hti, hzz⟩ := Option.bind_eq_some_iff.1 hz
    simp [Instr.lookup, run_underlying hT, getObj, Sem.run, hb, checkKey_int hk, hr1, zeroValue, typeInfo, hti, hzz]
theorem R.lkOY {x y : Operand} {kt et : TypeId} {b : Nat} {kvs : List (Int × Value)} {k1 : Int} {v : Value} {kd : IntKind} (i : Nat) (hd : Nat.blt d n = true) (h : H W0 S w D L) (hi : L[i]? = some (AMap b kvs)) (hT : P.underlying T = some (.map kt et)) (hk : P.underlying kt = some (.int kd))
    (hx : evS σ x = some (.map (some b))) (hy : evS σ y = some (.int .i64 k1)) (hf : findK kvs k1 = some v) (k : R P n ops l Q ((d, .tuple #[v, .bool true]) :: σ) w) :
    R P n ops ({ dst := some d, op := .lookup T x y true, type := ty, pos := pos, after := af, guard := none } :: l) Q σ w :=
  R.val hd (fun ρ a => by simp only [execOp, a.ev hx, a.ev hy, Sem.run_bind, (run_lookup h i hi hT hk true).1 v hf, Result.andThen_ok]; rfl) k
theorem R.lkON {x y : Operand} {kt et : TypeId} {b : Nat} {kvs : List (Int × Value)} {k1 : Int} {z : Value} {kd : IntKind} (i : Nat) (hd : Nat.blt d n = true) (h : H W0 S w D L) (hi : L[i]? = some (AMap b kvs)) (hT : P.underlying T = some (.map kt et)) (hk : P.underlying kt = some (.int kd))
    (hz : (P.info? et).bind (·.zero) = some z) (hx : evS σ x = some (.map (some b))) (hy : evS σ y = some (.int .i64 k1)) (hf : findK kvs k1 = none) (k : R P n ops l Q ((d, .tuple #[z, .bool false]) :: σ) w) :
    R P n ops ({ dst := some d, op := .lookup T x y true, type := ty, pos := pos, after := af, guard := none } :: l) Q σ w :=
  R.val hd (fun ρ a => by simp only [execOp, a.ev hx, a.ev hy, Sem.run_bind, (run_lookup h i hi hT hk true).2 z hf hz, Result.andThen_ok]; rfl) k
theorem R.lkY {x y : Operand} {kt et : TypeId} {b : Nat} {kvs : List (Int × Value)} {k1 : Int} {v : Value} {kd : IntKind} (i : Nat) (hd : Nat.blt d n = true) (h : H W0 S w D L) (hi : L[i]? = some (AMap b kvs)) (hT : P.underlying T = some (.map kt et)) (hk : P.underlying kt = some (.int kd))
    (hx : evS σ x = some (.map (some b))) (hy : evS σ y = some (.int .i64 k1)) (hf : findK kvs k1 = some v) (k : R P n ops l Q ((d, v) :: σ) w) :
    R P n ops ({ dst := some d, op := .lookup T x y false, type := ty, pos := pos, after := af, guard := none } :: l) Q σ w :=
  R.val hd (fun ρ a => by simp only [execOp, a.ev hx, a.ev hy, Sem.run_bind, (run_lookup h i hi hT hk false).1 v hf, Result.andThen_ok]; rfl) k
theorem R.lkN {x y : Operand} {kt et : TypeId} {b : Nat} {kvs : List (Int × Value)} {k1 : Int} {z : Value} {kd : IntKind} (i : Nat) (hd : Nat.blt d n = true) (h : H W0 S w D L) (hi : L[i]? = some (AMap b kvs)) (hT : P.underlying T = some (.map kt et)) (hk : P.underlying kt = some (.int kd))
    (hz : (P.info? et).bind (·.zero) = some z) (hx : evS σ x = some (.map (some b))) (hy : evS σ y = some (.int .i64 k1)) (hf : findK kvs k1 = none) (k : R P n ops l Q ((d, z) :: σ) w) :
    R P n ops ({ dst := some d, op := .lookup T x y false, type := ty, pos := pos, after := af, guard := none } :: l) Q σ w :=
  R.val hd (fun ρ a => by simp only [execOp, a.ev hx, a.ev hy, Sem.run_bind, (run_lookup h i hi hT hk false).2 z hf hz, Result.andThen_ok]; rfl) k

/-- A pointer held against nil. -/
def pnv : BinOp → Option Addr → Option Addr → Option Bool
  | .eql, none, q => some q.isNone
  | .eql, some _, none => some false
  | .neq, none, q => some (!q.isNone)
  | .neq, some _, none => some true
  | _, _, _ => none
theorem R.pn {op : BinOp} {x y : Operand} {ty' : TypeId} {p q : Option Addr} {r : Bool} (hd : Nat.blt d n = true) (hu : ∃ e, P.underlying U = some (.pointer e)) (hx : evS σ x = some (.pointer p)) (hy : evS σ y = some (.pointer q)) (hv : pnv op p q = some r) (kk : R P n ops l Q ((d, .bool r) :: σ) w) :
    R P n ops ({ dst := some d, op := .binOp op U x y ty', type := ty, pos := pos, after := af, guard := none } :: l) Q σ w := by
  obtain ⟨e, hu⟩ := hu
  have hg : ∀ u v, eqGuard op U x y (.pointer u) v = pure () := fun u v => by cases op <;> rfl
  have key : ∀ (d : Nat) (p q : Option Addr) (r : Bool), pnv .eql p q = some r → (Op.equalIn (d + 1) U (.pointer p) (.pointer q)).run P w = .ok r w := by
    intro d p q r hv
    rw [Op.equalIn, Sem.run_bind, run_underlying hu]
    cases p <;> cases q <;> simp [pnv] at hv <;> subst hv <;> rfl
  refine R.val hd (fun ρ h => ?_) kk
  have hopt : op = .eql ∨ op = .neq := by cases op <;> simp [pnv] at hv <;> simp
  rcases hopt with rfl | rfl
  · have := key 9999 p q r hv
    simp only [execOp, h.ev hx, h.ev hy, hg, Sem.run_bind, Sem.run_pure, Result.andThen_ok]
    simp [binOp, Op.equal, Op.maxDepth, this]
  · have h2 : pnv .eql p q = some (!r) := by cases p <;> cases q <;> simp [pnv] at hv ⊢ <;> simp [← hv]
    have := key 9999 p q _ h2
    simp only [execOp, h.ev hx, h.ev hy, hg, Sem.run_bind, Sem.run_pure, Result.andThen_ok]
    simp [binOp, Op.equal, Op.maxDepth, this]
end
end Go.Proofs.YtflmncjhonmmhaaDoor
