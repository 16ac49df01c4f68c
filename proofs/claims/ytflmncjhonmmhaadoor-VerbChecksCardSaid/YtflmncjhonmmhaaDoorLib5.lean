/- What lies in memory, by the data that it means: boxes, slices that are read, slices that are owned; and the operations on them. -/
import Derived.Test.YtflmncjhonmmhaaDoorLib4
import Derived.Laws.IdiomCopy
import Derived.Laws.Rows
import Derived.Deep.MidRow
import Derived.Great.BuildSlice
import Derived.Maps.AppendAt
import Derived.Laws.MakeOwn
import Derived.Laws.OwnMore
namespace Go.Proofs.YtflmncjhonmmhaaDoor
open Go
set_option linter.unusedVariables false
set_option linter.unusedSimpArgs false

/-! ### facts on a program's types, as sums that the kernel does -/
def fieldOff (P : Program) (T : TypeId) (i : Nat) : Option Nat :=
  match P.underlying T with
  | some (.struct fs) => match fs[i]? with
    | some f => match P.info? f.type with
      | some ti => if ti.size = 0 then none else some f.offset
      | none => none
    | none => none
  | _ => none
def slSz (P : Program) (T : TypeId) : Option (TypeId × Nat) :=
  match P.underlying T with
  | some (.slice e) => match P.info? e with
    | some ti => some (e, ti.size)
    | none => none
  | _ => none
def arSz (P : Program) (T : TypeId) : Option (Nat × Nat) :=
  match P.underlying T with
  | some (.array n e) => match P.info? e with
    | some ti => some (n, ti.size)
    | none => none
  | _ => none
/-- One cell (false), or so many cells as one value (true). -/
def shapeOf (P : Program) (T : TypeId) : Option (Bool × Nat) :=
  match P.underlying T, P.info? T with
  | some (.struct _), some ti => some (true, ti.size)
  | some (.array _ _), some ti => some (true, ti.size)
  | some _, some ti => some (false, ti.size)
  | _, _ => none

theorem slSz_spec {P : Program} {T e : TypeId} {k : Nat} (h : slSz P T = some (e, k)) : P.underlying T = some (.slice e) ∧ ∃ ti, P.info? e = some ti ∧ ti.size = k := by
  unfold slSz at h
  split at h <;> try (cases h; done)
  rename_i e' he
  split at h <;> try (cases h; done)
  rename_i ti hti
  cases h
  exact ⟨he, ti, hti, rfl⟩
theorem arSz_spec {P : Program} {T : TypeId} {n k : Nat} (h : arSz P T = some (n, k)) : ∃ e, P.underlying T = some (.array n e) ∧ ∃ ti, P.info? e = some ti ∧ ti.size = k := by
  unfold arSz at h
  split at h <;> try (cases h; done)
  rename_i n' e' he
  split at h <;> try (cases h; done)
  rename_i ti hti
  cases h
  exact ⟨e', he, ti, hti, rfl⟩

section
variable {P : Program}
theorem run_fld {T : TypeId} {i o : Nat} (h : fieldOff P T i = some o) (a : Addr) (w : World) : (Instr.fieldAt T (.pointer (some a)) i).run P w = .ok (.pointer (some (a.add o))) w := by
  unfold fieldOff at h
  split at h <;> try (cases h; done)
  rename_i fs hfs
  split at h <;> try (cases h; done)
  rename_i f hf
  split at h <;> try (cases h; done)
  rename_i ti hti
  split at h <;> try (cases h; done)
  rename_i hz
  cases h
  simp [Instr.fieldAt, run_underlying hfs, hf, Instr.sureAddr, fieldPlace, sizeOf, typeInfo, hti, hz]

theorem run_idx {T e : TypeId} {k : Nat} (h : slSz P T = some (e, k)) (a : Addr) (n c : Nat) (kk : IntKind) (i : Int) (h0 : 0 ≤ i) (h1 : i < n) (w : World) :
    (Instr.indexAt T (.slice (some a) n c) (.int kk i)).run P w = .ok (.pointer (some (a.add (i.toNat * k)))) w := by
  obtain ⟨hu, ti, hti, rfl⟩ := slSz_spec h
  simp [Instr.indexAt, asIntOf, run_underlying hu, h0, h1, sizeOf, typeInfo, hti]

theorem run_idxA {T : TypeId} {m k : Nat} (h : arSz P T = some (m, k)) (a : Addr) (kk : IntKind) (i : Int) (h0 : 0 ≤ i) (h1 : i < m) (w : World) :
    (Instr.indexAt T (.pointer (some a)) (.int kk i)).run P w = .ok (.pointer (some (a.add (i.toNat * k)))) w := by
  obtain ⟨e, hu, ti, hti, rfl⟩ := arSz_spec h
  simp [Instr.indexAt, asIntOf, run_underlying hu, h0, h1, sizeOf, typeInfo, hti, Instr.sureAddr]

theorem run_ld1 {T : TypeId} {k : Nat} (h : shapeOf P T = some (false, k)) (a : Addr) (v : Value) (w : World) (hc : w.cell? a = some v) : (Instr.loadAt T (.pointer (some a))).run P w = .ok v w := by
  have hu : ∃ d, P.underlying T = some d ∧ (∀ fs, d ≠ .struct fs) ∧ ∀ m e, d ≠ .array m e := by
    unfold shapeOf at h
    split at h <;> simp at h
    rename_i _ _ d0 ti0 h1 h2 hd hti
    exact ⟨_, hd, fun fs e => h1 fs e, fun m e e' => h2 m e e'⟩
  obtain ⟨d, hd, h1, h2⟩ := hu
  cases d <;> first
    | (exact absurd rfl (h1 _))
    | (exact absurd rfl (h2 _ _))
    | simp [Instr.loadAt, Instr.sureAddr, loadVar, isAgg, run_underlying hd, load, Sem.run, hc]

theorem run_ldN {T : TypeId} {k : Nat} (h : shapeOf P T = some (true, k)) (a : Addr) (cs : List Value) (hk : cs.length = k) (w : World) (hc : ∀ j v, cs[j]? = some v → w.cell? (a.add j) = some v) :
    (Instr.loadAt T (.pointer (some a))).run P w = .ok (.agg cs.toArray) w := by
  have hu : ∃ d ti, P.underlying T = some d ∧ P.info? T = some ti ∧ ti.size = k ∧ ((∃ fs, d = .struct fs) ∨ ∃ m e, d = .array m e) := by
    unfold shapeOf at h
    split at h <;> simp at h
    · rename_i fs ti hd hti; exact ⟨_, _, hd, hti, h, .inl ⟨_, rfl⟩⟩
    · rename_i m e ti hd hti; exact ⟨_, _, hd, hti, h, .inr ⟨_, _, rfl⟩⟩
  obtain ⟨d, ti, hd, hti, hs, hor⟩ := hu
  have hl := run_loadCells_list (P := P) (w := w) a cs hc
  rw [hk] at hl
  rcases hor with ⟨fs, rfl⟩ | ⟨m, e, rfl⟩ <;>
    simp [Instr.loadAt, Instr.sureAddr, loadVar, isAgg, run_underlying hd, sizeOf, typeInfo, hti, hs, hl]
end

/-! ### data as cells -/
structure Enc (α : Type) where
  k : Nat
  enc : α → List Value
  len : ∀ x, (enc x).length = k
  one : ∀ x u, u ∈ enc x → u.oneCell' = true
def Enc.flat {α : Type} (e : Enc α) (xs : List α) : List Value := xs.flatMap e.enc
theorem Enc.flat_len {α : Type} (e : Enc α) (xs : List α) : (e.flat xs).length = xs.length * e.k := by
  induction xs with
  | nil => simp [Enc.flat]
  | cons x xs ih => simp only [Enc.flat, List.flatMap_cons, List.length_append, e.len, List.length_cons] at ih ⊢; rw [ih, Nat.add_mul]; omega
theorem Enc.flat_get {α : Type} (e : Enc α) : ∀ (xs : List α) (m j : Nat) (x : α) (u : Value), xs[m]? = some x → (e.enc x)[j]? = some u → (e.flat xs)[m * e.k + j]? = some u := by
  intro xs
  induction xs with
  | nil => intro m j x u h; simp at h
  | cons y ys ih =>
    intro m j x u hx hu
    have hj : j < e.k := by rw [← e.len x]; exact (List.getElem?_eq_some_iff.1 hu).1
    simp only [Enc.flat, List.flatMap_cons]
    cases m with
    | zero =>
      simp at hx; subst hx
      rw [Nat.zero_mul, Nat.zero_add, List.getElem?_append_left (by rw [e.len]; exact hj)]
      exact hu
    | succ m =>
      rw [List.getElem?_append_right (by rw [e.len, Nat.add_mul]; omega), e.len]
      have : (m + 1) * e.k + j - e.k = m * e.k + j := by rw [Nat.add_mul]; omega
      rw [this]
      exact ih m j x u (by simpa using hx) hu
theorem Enc.flat_append {α : Type} (e : Enc α) (xs ys : List α) : e.flat (xs ++ ys) = e.flat xs ++ e.flat ys := by simp [Enc.flat]
theorem Enc.flat_one {α : Type} (e : Enc α) (xs : List α) (u : Value) (h : u ∈ e.flat xs) : u.oneCell' = true := by
  simp only [Enc.flat, List.mem_flatMap] at h
  obtain ⟨x, _, hx⟩ := h
  exact e.one x u hx

def encI (k : IntKind) : Enc Int := ⟨1, fun x => [.int k x], fun _ => rfl, fun _ u h => by simp at h; subst h; rfl⟩
def encB : Enc Bool := ⟨1, fun x => [.bool x], fun _ => rfl, fun _ u h => by simp at h; subst h; rfl⟩
def encS : Enc Str := ⟨1, fun x => [vS x], fun _ => rfl, fun _ u h => by simp at h; subst h; rfl⟩

def adr (p : Option Addr) : Addr := p.getD ⟨0, 0, none⟩

/-- Block b holds just these cells. -/
def ABox (b : Nat) (T : TypeId) (cs : Array Value) : Asn :=
  ⟨fun w F => w.heap[b]? = some (.cells cs T (0, 0)) ∧ ∀ x, F x ↔ x = b, fun h hF => ⟨(hF b ((h.2 b).2 rfl)).trans h.1, h.2⟩⟩

/-- Block b begins with these cells, and may be read. -/
def DCel (b : Nat) (cs : List Value) : Asn :=
  ⟨fun w F => (∀ (j : Nat) u, cs[j]? = some u → w.cell? ⟨b, j, none⟩ = some u) ∧ ∀ x, F x ↔ x = b,
    fun h hF => ⟨fun j u hu => (World.cell?_of_block (hF b ((h.2 b).2 rfl))).trans (h.1 j u hu), h.2⟩⟩

/-- A slice (p, xs.length, c) whose elements may be read. -/
def DSl {α : Type} (e : Enc α) (p : Option Addr) (xs : List α) : Asn where
  holds w F := (0 < xs.length → p = some (adr p)) ∧ (∀ (j : Nat) u, (e.flat xs)[j]? = some u → w.cell? ((adr p).add j) = some u) ∧ xs.length ≤ 9223372036854775807 ∧ ∀ x, F x ↔ (0 < (e.flat xs).length ∧ x = (adr p).block)
  loc := by
    rintro w w' F ⟨h1, h2, h3, h4⟩ hF
    refine ⟨h1, fun j u hu => ?_, h3, h4⟩
    have hb : w'.heap[(adr p).block]? = w.heap[(adr p).block]? := hF _ ((h4 _).2 ⟨by have := (List.getElem?_eq_some_iff.1 hu).1; omega, rfl⟩)
    have := h2 j u hu
    have hblk : ((adr p).add j).block = (adr p).block := by unfold Addr.add; split <;> rfl
    rw [← this]
    exact World.cell?_of_block (by rw [hblk]; exact hb)

/-- A slice (p, xs.length, c) of elements of type E that nothing else names. -/
def ASl {α : Type} (E : TypeId) (e : Enc α) (p : Option Addr) (c : Nat) (xs : List α) : Asn where
  holds w F := w.ownsRow 0 E e.k (.slice p xs.length c) xs.length (e.flat xs) ∧ ∀ x, F x ↔ (Value.slice p xs.length c).ownBlock = some x
  loc := by
    rintro w w' F ⟨h1, h2⟩ hF
    refine ⟨⟨h1.1, ?_⟩, h2⟩
    rcases h1.2 with h | ⟨g, cap, cur, hv, hb, hg, r⟩
    · exact .inl h
    · refine .inr ⟨g, cap, cur, hv, hb, ?_, r⟩
      rw [hF g ((h2 g).2 (by rw [hv]; rfl))]
      exact hg

section
variable {W0 w : World} {S : FP} {D L : List Asn}

/-! ### reading -/
theorem H.boxAt (h : H W0 S w D L) (i : Nat) {b : Nat} {T : TypeId} {cs : Array Value} (hi : L[i]? = some (ABox b T cs)) : w.heap[b]? = some (.cells cs T (0, 0)) := by
  obtain ⟨F, hh⟩ := h.l i hi
  exact hh.1
theorem cell_of_box {b j : Nat} {T : TypeId} {cs : Array Value} {v : Value} (h : w.heap[b]? = some (.cells cs T (0, 0))) (hj : cs[j]? = some v) : w.cell? ⟨b, j, none⟩ = some v := by simp [World.cell?, h, hj]
theorem H.box (h : H W0 S w D L) (i j : Nat) {b : Nat} {T : TypeId} {cs : Array Value} {v : Value} (hi : L[i]? = some (ABox b T cs)) (hj : cs[j]? = some v) : w.cell? ⟨b, j, none⟩ = some v := cell_of_box (h.boxAt i hi) hj
theorem H.boxD (h : H W0 S w D L) (i j : Nat) {b : Nat} {T : TypeId} {cs : Array Value} {v : Value} (hi : D[i]? = some (ABox b T cs)) (hj : cs[j]? = some v) : w.cell? ⟨b, j, none⟩ = some v := by
  obtain ⟨F, hh⟩ := h.d i hi
  exact cell_of_box hh.1 hj

theorem H.cel (h : H W0 S w D L) (i j : Nat) {b : Nat} {cs : List Value} {v : Value} (hi : D[i]? = some (DCel b cs)) (hj : cs[j]? = some v) : w.cell? ⟨b, j, none⟩ = some v := by
  obtain ⟨F, hh⟩ := h.d i hi
  exact hh.1 j v hj
theorem H.cels (h : H W0 S w D L) (i : Nat) {b : Nat} {cs : List Value} (hi : D[i]? = some (DCel b cs)) : ∀ (j : Nat) v, cs[j]? = some v → w.cell? ((⟨b, 0, none⟩ : Addr).add j) = some v := by
  obtain ⟨F, hh⟩ := h.d i hi
  intro j v hj
  have e : (⟨b, 0, none⟩ : Addr).add j = ⟨b, j, none⟩ := by unfold Addr.add; split <;> simp_all
  rw [e]
  exact hh.1 j v hj
theorem cell_add {w : World} {b j : Nat} {v : Value} (h : w.cell? ⟨b, j, none⟩ = some v) : w.cell? ((⟨b, 0, none⟩ : Addr).add j) = some v := by
  have e : (⟨b, 0, none⟩ : Addr).add j = ⟨b, j, none⟩ := by unfold Addr.add; split <;> simp_all
  rw [e]; exact h

theorem H.rdD {α : Type} {e : Enc α} {p : Option Addr} {xs : List α} (h : H W0 S w D L) (i : Nat) (hi : D[i]? = some (DSl e p xs)) {m : Nat} {x : α} (hx : xs[m]? = some x) :
    p = some (adr p) ∧ ∀ (j : Nat) u, (e.enc x)[j]? = some u → w.cell? ((adr p).add (m * e.k + j)) = some u := by
  obtain ⟨F, h1, h2, _⟩ := h.d i hi
  have hm := (List.getElem?_eq_some_iff.1 hx).1
  exact ⟨h1 (by omega), fun j u hu => h2 _ u (e.flat_get xs m j x u hx hu)⟩
theorem DSl.of_ASl {α : Type} {E : TypeId} {e : Enc α} {p : Option Addr} {c : Nat} {xs : List α} {w : World} {F : FP} (h : (ASl E e p c xs).holds w F) : ∃ F', (DSl e p xs).holds w F' ∧ ∀ x, F' x → F x := by
  obtain ⟨⟨hl, h1⟩, h2⟩ := h
  rcases h1 with ⟨hv, hn⟩ | ⟨g, cap, cur, hv, hb, hg, h3, h4, h5, h6⟩
  · have hnil : xs = [] := List.eq_nil_of_length_eq_zero hn
    subst hnil
    refine ⟨fun _ => False, ⟨by simp, by simp [Enc.flat], by simp, by simp [Enc.flat]⟩, fun _ h => h.elim⟩
  · injection hv with hp hn hc
    subst hp
    refine ⟨fun x => 0 < (e.flat xs).length ∧ x = g, ⟨fun _ => rfl, ?_, by unfold maxLen at h4; omega, by simp [adr]⟩, ?_⟩
    · intro j u hu
      have hadd : (adr (some ⟨g, 0, none⟩)).add j = ⟨g, j, none⟩ := by unfold adr Addr.add; split <;> simp_all
      rw [hadd]
      rw [← h6, List.getElem?_take] at hu
      split at hu
      · simp [World.cell?, hg]; simpa using hu
      · cases hu
    · rintro x ⟨_, rfl⟩
      exact (h2 x).2 rfl
theorem H.rdL {α : Type} {E : TypeId} {e : Enc α} {p : Option Addr} {c : Nat} {xs : List α} (h : H W0 S w D L) (i : Nat) (hi : L[i]? = some (ASl E e p c xs)) {m : Nat} {x : α} (hx : xs[m]? = some x) :
    p = some (adr p) ∧ ∀ (j : Nat) u, (e.enc x)[j]? = some u → w.cell? ((adr p).add (m * e.k + j)) = some u := by
  obtain ⟨F, hh⟩ := h.l i hi
  obtain ⟨F', ⟨h1, h2, _⟩, _⟩ := DSl.of_ASl hh
  have hm := (List.getElem?_eq_some_iff.1 hx).1
  exact ⟨h1 (by omega), fun j u hu => h2 _ u (e.flat_get xs m j x u hx hu)⟩
end
end Go.Proofs.YtflmncjhonmmhaaDoor
