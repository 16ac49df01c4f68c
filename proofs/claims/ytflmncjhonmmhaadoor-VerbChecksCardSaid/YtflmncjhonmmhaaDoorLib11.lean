/- Arrays: the program's tables, arrays of a call; errors. -/
import Derived.Test.YtflmncjhonmmhaaDoorLib10
import Derived.WideLaws
import Derived.ChangeKeysEq
import Derived.Laws.Entries
import Derived.Lib.ConvBytes
import Derived.Lib.LaidTab
import Derived.Shelf.Vars
namespace Go.Proofs.YtflmncjhonmmhaaDoor
open Go
set_option linter.unusedVariables false
set_option linter.unusedSimpArgs false

/-- The table g holds these numbers. -/
def GTab (w : World) (g : Nat) (k : IntKind) (zs : List Int) : Prop := ∀ (j : Nat) x, zs[j]? = some x → w.cell? ⟨g, j, none⟩ = some (.int k x)
theorem add0 (b j : Nat) : (⟨b, 0, none⟩ : Addr).add j = ⟨b, j, none⟩ := by unfold Addr.add; split <;> simp_all
theorem GTab.at {w : World} {g : Nat} {k : IntKind} {zs : List Int} (h : GTab w g k zs) {i x : Int} (hx : getI zs i = some x) : w.cell? ((⟨g, 0, none⟩ : Addr).add (i.toNat * 1)) = some (.int k x) := by
  rw [add0, Nat.mul_one]
  exact h _ _ (getI_some hx).2.2
theorem GTab.all {w : World} {g : Nat} {k : IntKind} {zs : List Int} (h : GTab w g k zs) : ∀ (j : Nat) v, (zs.map (Value.int k))[j]? = some v → w.cell? ((⟨g, 0, none⟩ : Addr).add j) = some v := by
  intro j v hj
  rw [add0]
  obtain ⟨x, hx, rfl⟩ := List.getElem?_eq_some_iff.1 hj |> fun ⟨h1, h2⟩ => (⟨zs[j]'(by simpa using h1), by simp, by simpa using h2.symm⟩ : ∃ x, zs[j]? = some x ∧ v = Value.int k x)
  exact h j x hx
theorem getI_ok {α : Type} {xs : List α} {i : Int} {x : α} (h : getI xs i = some x) : 0 ≤ i ∧ i.toNat < xs.length := by
  obtain ⟨h0, h1, _⟩ := getI_some h
  exact ⟨h0, by omega⟩

/-- An array of a call. -/
def AArr {α : Type} (b : Nat) (T : TypeId) (e : Enc α) (xs : List α) : Asn := ABox b T (e.flat xs).toArray
theorem flatI (k : IntKind) (xs : List Int) : (encI k).flat xs = xs.map (Value.int k) := by
  induction xs with
  | nil => rfl
  | cons x xs ih => simp only [Enc.flat, List.flatMap_cons, List.map_cons] at ih ⊢; rw [ih]; rfl

/-- An error: none, or some value. -/
def ErrV (b : Bool) (v : Value) : Prop := (b = false ∧ v = .nilIface) ∨ (b = true ∧ ∃ t x, v = .iface t x)
theorem ErrV.none : ErrV false .nilIface := .inl ⟨rfl, rfl⟩
theorem ErrV.some (t : TypeId) (x : Value) : ErrV true (.iface t x) := .inr ⟨rfl, t, x, rfl⟩

/-- An array that is cut, as a slice. -/
def vAr (b n lo hi : Nat) : Value := .slice (some (if n = lo then ⟨b, 0, none⟩ else ⟨b, lo, none⟩)) (hi - lo) (n - lo)

section
variable {P : Program} {n : Nat} {Q : Post} {σ : Sto} {w W0 : World} {S : FP} {D L : List Asn} {ops : Array Oper} {l : List Oper} {d : Nat} {ty U T : TypeId} {pos : String} {af : Array Edge}

/-- An element of a table that is loaded as a whole. -/
theorem R.ixT {x y : Operand} {m : Nat} {zs : List Int} {k ik : IntKind} {i v : Int} {e : TypeId} (hd : Nat.blt d n = true) (hT : P.underlying T = some (.array m e)) (hE : shapeOf P e = some (false, 1))
    (hx : evS σ x = some (.agg (zs.map (Value.int k)).toArray)) (hy : evS σ y = some (.int ik i)) (hm : zs.length = m) (hv : getI zs i = some v) (kk : R P n ops l Q ((d, .int k v) :: σ) w) :
    R P n ops ({ dst := some d, op := .index T x y, type := ty, pos := pos, after := af, guard := none } :: l) Q σ w := by
  obtain ⟨h0, h1, h2⟩ := getI_some hv
  refine R.idxV hd hT hE ?_ hx hy h0 (by omega) ?_ kk
  · unfold shapeOf at hE
    split at hE <;> simp at hE
    rename_i hti
    rw [hti]
    simp [hE]
  · simp [h2]
/-- The address of an element of an array. -/
theorem R.ia {α : Type} {x y : Operand} {a : Addr} {m : Nat} {ik : IntKind} {i : Int} {zs : List α} {v : α} (hd : Nat.blt d n = true) (hT : arSz P T = some (m, 1)) (hx : evS σ x = some (.pointer (some a))) (hy : evS σ y = some (.int ik i))
    (hm : zs.length = m) (hv : getI zs i = some v) (k : R P n ops l Q ((d, .pointer (some (a.add (i.toNat * 1)))) :: σ) w) :
    R P n ops ({ dst := some d, op := .indexAddr T x y, type := ty, pos := pos, after := af, guard := none } :: l) Q σ w := by
  obtain ⟨h0, h1, h2⟩ := getI_some hv
  exact R.idxA hd hT hx hy h0 (by omega) k

theorem R.allocA {α : Type} {e : Enc α} {xs : List α} (hd : Nat.blt d n = true) (h : H W0 S w D L) (hz : ((P.info? T).bind (·.zero)).map (·.cells) = some (e.flat xs).toArray)
    (k : ∀ b w', H W0 S w' D (L ++ [AArr b T e xs]) → R P n ops l Q ((d, .pointer (some ⟨b, 0, none⟩)) :: σ) w') :
    R P n ops ({ dst := some d, op := .alloc T, type := ty, pos := pos, after := af, guard := none } :: l) Q σ w := by
  obtain ⟨z, hz1, hz2⟩ := Option.map_eq_some_iff.1 hz
  refine R.alloc hd h hz1 fun b w' h' => k b w' ?_
  rw [hz2] at h'
  exact h'
theorem H.arrI (h : H W0 S w D L) (i : Nat) {b : Nat} {k : IntKind} {xs : List Int} {j x : Int} (hi : L[i]? = some (AArr b T (encI k) xs)) (hx : getI xs j = some x) : w.cell? ((⟨b, 0, none⟩ : Addr).add (j.toNat * 1)) = some (.int k x) := by
  rw [add0, Nat.mul_one]
  refine h.box i _ hi ?_
  rw [flatI]
  simp [(getI_some hx).2.2]
theorem R.stA {x y : Operand} {b : Nat} {k : IntKind} {xs : List Int} {j v u : Int} (i : Nat) (h : H W0 S w D L) (hi : L[i]? = some (AArr b U (encI k) xs)) (hT : (P.info? T).map (·.size) = some 1)
    (hx : evS σ x = some (.pointer (some ((⟨b, 0, none⟩ : Addr).add (j.toNat * 1))))) (hy : evS σ y = some (.int k v)) (hj : getI xs j = some u)
    (kk : ∀ w', H W0 S w' D (L.set i (AArr b U (encI k) (xs.set j.toNat v))) → R P n ops l Q σ w') :
    R P n ops ({ dst := none, op := .store T x y, type := ty, pos := pos, after := af, guard := none } :: l) Q σ w := by
  rw [add0, Nat.mul_one] at hx
  have hlt := (getI_ok hj).2
  refine R.st i h hi hT hx hy rfl (by rw [flatI]; simpa [Nat.blt_eq] using hlt) fun w' h' => kk w' ?_
  have e : (((encI k).flat xs).toArray.setIfInBounds j.toNat (.int k v)) = ((encI k).flat (xs.set j.toNat v)).toArray := by
    rw [flatI, flatI]
    simp [List.map_set]
  rw [e] at h'
  exact h'
/-- An array from a place on. -/
theorem R.slAL {x y : Operand} {b m : Nat} {ik : IntKind} {i : Int} (hd : Nat.blt d n = true) (hT : arSz P T = some (m, 1)) (hx : evS σ x = some (.pointer (some ⟨b, 0, none⟩))) (hy : evS σ y = some (.int ik i)) (h0 : 0 ≤ i) (h1 : i ≤ m)
    (k : R P n ops l Q ((d, vAr b m i.toNat m) :: σ) w) :
    R P n ops ({ dst := some d, op := .slice T x (some y) none none, type := ty, pos := pos, after := af, guard := none } :: l) Q σ w := by
  obtain ⟨e, hu, ti, hti, hs⟩ := arSz_spec hT
  refine R.val hd (fun ρ a => ?_) k
  simp [execOp, a.ev hx, a.ev hy, Instr.sliceAt, run_underlying hu, Instr.sureAddr, Instr.sliceBounds, Instr.sliceBound, asIntOf, sizeOf, typeInfo, hti, hs, h0, h1, vAr, add0]
theorem arr_bytes {w : World} {b m lo : Nat} {U : TypeId} {xs : List Int} (hb : w.heap[b]? = some (.cells ((encI .u8).flat xs).toArray U (0, 0))) (hm : xs.length = m) (hlo : lo ≤ m)
    {src dst' E : TypeId} (hs : slSz P src = some (E, 1)) (he : P.underlying E = some (.int .u8)) (hT : P.underlying dst' = some .string) : (convert src dst' (vAr b m lo m)).run P w = .ok (vS (text (xs.drop lo))) w := by
  obtain ⟨hu, ti, hti, hsz⟩ := slSz_spec hs
  unfold vAr
  have hx : (if m = lo then (⟨b, 0, none⟩ : Addr) else ⟨b, lo, none⟩) = ⟨b, if m = lo then 0 else lo, none⟩ := by split <;> rfl
  rw [hx]
  have := run_convert_bytes_arg (P := P) w src E hu he b (if m = lo then 0 else lo) (m - lo) (m - lo) (xs.drop lo) (by simp [hm]) (fun j hj => ?_) dst' hT
  · rw [this]; rfl
  · have hne : ¬ m = lo := by omega
    rw [if_neg hne]
    have hlt : lo + j < xs.length := by omega
    refine cell_of_box hb ?_
    rw [flatI]
    simp [List.getD, hlt]
theorem R.a2s {src dst' E : TypeId} {x : Operand} {b m lo : Nat} {xs : List Int} (i : Nat) (hd : Nat.blt d n = true) (h : H W0 S w D L) (hi : L[i]? = some (AArr b U (encI .u8) xs)) (hm : xs.length = m) (hlo : lo ≤ m)
    (hs : slSz P src = some (E, 1)) (he : P.underlying E = some (.int .u8)) (hT : P.underlying dst' = some .string)
    (hx : evS σ x = some (vAr b m lo m)) (k : R P n ops l Q ((d, vS (text (xs.drop lo))) :: σ) w) :
    R P n ops ({ dst := some d, op := .convert src dst' x, type := ty, pos := pos, after := af, guard := none } :: l) Q σ w :=
  R.val hd (fun ρ a => by simp only [execOp, a.ev hx, Sem.run_bind, arr_bytes (h.boxAt i hi) hm hlo hs he hT, Result.andThen_ok]; rfl) k
def bop (op : BinOp) (x y : Bool) : Option Value :=
  match op with
  | .eql => some (.bool (x == y))
  | .neq => some (.bool (!(x == y)))
  | _ => none
theorem R.bb {op : BinOp} {x y : Operand} {ty' : TypeId} {i j : Bool} {v : Value} (hd : Nat.blt d n = true) (hu : P.underlying U = some .bool) (hx : evS σ x = some (.bool i)) (hy : evS σ y = some (.bool j)) (hv : bop op i j = some v) (kk : R P n ops l Q ((d, v) :: σ) w) :
    R P n ops ({ dst := some d, op := .binOp op U x y ty', type := ty, pos := pos, after := af, guard := none } :: l) Q σ w :=
  R.val hd (fun ρ h => by
    have e : (Op.equal U (.bool i) (.bool j)).run P w = .ok (i == j) w := run_equalIn_bool w 9999 U i j hu
    simp only [execOp, h.ev hx, h.ev hy]
    cases op <;> simp only [bop, Option.some.injEq, reduceCtorEq] at hv <;> subst hv <;>
      simp [binOp, go_sem, e]) kk
/-- An interface value of a number's. -/
theorem R.mki {x : Operand} {kk : IntKind} {v : Value} (hd : Nat.blt d n = true) (hT : P.underlying T = some (.int kk)) (hx : evS σ x = some v) (k : R P n ops l Q ((d, .iface T v) :: σ) w) :
    R P n ops ({ dst := some d, op := .makeInterface T x, type := ty, pos := pos, after := af, guard := none } :: l) Q σ w :=
  R.val hd (fun ρ a => by simp [execOp, a.ev hx, Instr.makeInterface, run_underlying hT]) k
/-- Is there an error? -/
theorem R.enq {x : Operand} {ty' : TypeId} {b : Bool} {v : Value} (hd : Nat.blt d n = true) (hu : P.underlying U = some (.interface (P.methodsAt U))) (he : ErrV b v) (hx : evS σ x = some v) (k : R P n ops l Q ((d, .bool b) :: σ) w) :
    R P n ops ({ dst := some d, op := .binOp .neq U x (.const .nilIface) ty', type := ty, pos := pos, after := af, guard := none } :: l) Q σ w := by
  rcases he with ⟨rfl, rfl⟩ | ⟨rfl, t, z, rfl⟩
  · refine R.val hd (fun ρ a => ?_) k
    have e2 : ρ (.const .nilIface) = .nilIface := a.ev rfl
    simp only [execOp, a.ev hx, e2, Sem.run_bind, eqGuard_nil_constR, Sem.run_pure, Result.andThen_ok, run_neq_nil_nil w U hu]
  · refine R.val hd (fun ρ a => ?_) k
    have e2 : ρ (.const .nilIface) = .nilIface := a.ev rfl
    simp only [execOp, a.ev hx, e2, Sem.run_bind, eqGuard_at_iface, Sem.run_pure, Result.andThen_ok, run_neq_held_nil w U t z hu]
/-- A text's bytes. -/
def bytes (s : Str) : List Int := s.map fun b => (b.toNat : Int)
theorem bytes_length (s : Str) : (bytes s).length = s.length := by simp [bytes]
theorem H.rdX {α : Type} {e : Enc α} {p : Option Addr} {xs : List α} (h : H W0 S w D L) (i : Nat) (hi : L[i]? = some (DSl e p xs)) {m : Nat} {x : α} (hx : xs[m]? = some x) :
    p = some (adr p) ∧ ∀ (j : Nat) u, (e.enc x)[j]? = some u → w.cell? ((adr p).add (m * e.k + j)) = some u := by
  obtain ⟨F, h1, h2, _⟩ := h.l i hi
  have hm := (List.getElem?_eq_some_iff.1 hx).1
  exact ⟨h1 (by omega), fun j u hu => h2 _ u (e.flat_get xs m j x u hx hu)⟩
theorem bytesWorld_fr (w : World) (e : TypeId) (s : ByteArray) : Fr (fun _ => False) w (Lib.bytesWorld w e s) := by
  refine ⟨rfl, rfl, rfl, by rw [Lib.bytesWorld_size]; omega, fun b hb _ => Lib.bytesWorld_at_old w e s b hb⟩
theorem R.s2b {src dst' E : TypeId} {x : Operand} {s : Str} (hd : Nat.blt d n = true) (h : H W0 S w D L) (hs : P.underlying src = some .string) (hT : P.underlying dst' = some (.slice E)) (he : P.underlying E = some (.int .u8))
    (hx : evS σ x = some (vS s)) (hl : s.length ≤ 9223372036854775807) (k : ∀ p c w', H W0 S w' D (L ++ [DSl (encI .u8) p (bytes s)]) → R P n ops l Q ((d, .slice p (bytes s).length c) :: σ) w') :
    R P n ops ({ dst := some d, op := .convert src dst' x, type := ty, pos := pos, after := af, guard := none } :: l) Q σ w := by
  have hrun := Lib.run_convert_string_bytes (P := P) w src dst' E ⟨s.toArray⟩ hs hT he
  have hsz : (⟨s.toArray⟩ : ByteArray).size = (bytes s).length := by rw [size_str, bytes_length]
  rw [hsz] at hrun
  refine R.val hd (w' := Lib.bytesWorld w E ⟨s.toArray⟩) (fun ρ a => by simp only [execOp, a.ev hx, vS, Sem.run_bind, hrun, Result.andThen_ok]; rfl) (k _ _ _ ?_)
  refine h.new (bytesWorld_fr w E _) (F' := fun x => 0 < ((encI .u8).flat (bytes s)).length ∧ x = w.heap.size) ⟨fun _ => rfl, ?_, by rw [bytes_length]; exact hl, by simp [adr]⟩ ?_
  · intro j u hu
    have hj : j < s.length := by
      have := (List.getElem?_eq_some_iff.1 hu).1
      rw [flatI, List.length_map, bytes_length] at this
      exact this
    have hc := Lib.bytesWorld_cell w E ⟨s.toArray⟩ j (by rw [size_str]; exact hj)
    show (Lib.bytesWorld w E ⟨s.toArray⟩).cell? ((⟨w.heap.size, 0, none⟩ : Addr).add j) = some u
    rw [add0, hc, ← hu, flatI]
    simp [bytes, List.getD, hj]
  · rintro x ⟨_, rfl⟩
    rw [Lib.bytesWorld_size]
    omega
end
theorem var_fr {P : Program} {w w' : World} {name : String} {cs : Array Value} (h : w.var? P name = some cs) (hf : Fr0 w w') : w'.var? P name = some cs := by
  unfold World.var? at h ⊢
  obtain ⟨g, hg, h⟩ := Option.bind_eq_some_iff.1 h
  refine Option.bind_eq_some_iff.2 ⟨g, hg, ?_⟩
  have hb : g < w.heap.size := by
    rcases Nat.lt_or_ge g w.heap.size with hlt | hge
    · exact hlt
    · simp [Array.getElem?_eq_none hge] at h
  rw [hf.block g hb (fun h => h)]
  exact h
theorem cell_fr {w w' : World} {a : Addr} {v : Value} (h : w.cell? a = some v) (hf : Fr0 w w') : w'.cell? a = some v :=
  (World.cell?_of_block (hf.block a.block (World.block_lt_of_cell? w a h) (fun h => h))).trans h
theorem arr_str (s : Str) : (⟨s.toArray⟩ : ByteArray).data.toList = s := by simp

theorem GTab.of_tab {P : Program} {w : World} {name : String} {k : IntKind} {zs : List Int} {g : Nat} (h : Lib.TabIs P w name k zs) (hg : P.globalNamed name = some g) : GTab w g k zs := by
  intro j x hj
  have hlt := (List.getElem?_eq_some_iff.1 hj).1
  rw [h.cell hg j hlt, List.getD_eq_getElem?_getD, hj]
  rfl
theorem iface_of_laid {P : Program} {n nm : String} {d : DataW Unit} {r : List (String × DataW Unit)} {W : World} {g : Nat} {t : TypeId} {ms : Array (String × TypeId)}
    (h : laidMet P ((n, .iface nm d) :: r) W) (hg : P.globalNamed n = some g) (ht : (P.globals[g]?).map (·.type) = some t) (hi : P.underlying t = some (.interface ms)) :
    ∃ v, W.cell? ⟨g, 0, none⟩ = some v ∧ (v = .nilIface ∨ ∃ te pe, v = .iface te pe) := by
  obtain ⟨ps, ⟨g', t', cs, fuel, p, q, hg', ht', hvar, hd, _, _⟩, _⟩ := h
  obtain rfl := Option.some.inj (hg.symm.trans hg')
  obtain rfl := Option.some.inj (ht.symm.trans ht')
  cases fuel with
  | zero => simp [DataW.trod] at hd
  | succ fuel =>
    obtain ⟨l⟩ := cs
    unfold DataW.trod at hd
    rw [hi] at hd
    match l, hd, hvar with
    | [.iface u v], _, hvar =>
      refine ⟨.iface u v, ?_, .inr ⟨u, v, rfl⟩⟩
      have := World.var?_cell hg hvar 0
      simpa using this
    | [.nilIface], _, hvar =>
      refine ⟨.nilIface, ?_, .inl rfl⟩
      have := World.var?_cell hg hvar 0
      simpa using this
def isErr : Value → Option Bool
  | .nilIface => some false
  | .iface _ _ => some true
  | _ => none
theorem isErr_some {v : Value} {b : Bool} (h : isErr v = some b) : ErrV b v := by
  cases v <;> simp only [isErr, Option.some.injEq, reduceCtorEq] at h <;> subst h <;> first | exact ErrV.none | exact ErrV.some _ _
theorem must_eq {x y : Nat} {u : Unit} (h : must (x == y) = some u) : x = y := by simpa using must_some h
theorem must_leN {x y : Nat} {u : Unit} (h : must (decide (x ≤ y)) = some u) : x ≤ y := of_decide_eq_true (must_some h)
theorem toNat_le {i : Int} {n : Nat} (h : i ≤ (n : Int)) : i.toNat ≤ n := by omega
end Go.Proofs.YtflmncjhonmmhaaDoor
