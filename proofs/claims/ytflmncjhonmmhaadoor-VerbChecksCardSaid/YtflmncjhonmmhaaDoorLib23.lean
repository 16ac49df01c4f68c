/- Arguments of structures and slices, opened: out of what a row reads, the Lean value and the slices that may be read. -/
import Derived.Test.YtflmncjhonmmhaaDoorLib22
import Derived.WalkKit
import Derived.ChangeArms
import Derived.ChangeOld
import Derived.SizedLaws
import Derived.WideShapes
namespace Go.Proofs.YtflmncjhonmmhaaDoor
open Go
set_option linter.unusedVariables false
set_option linter.unusedSimpArgs false

/-- A type of cells alone opens. -/
def OpF (P : Program) (E : TypeId) {α : Type} (e : Enc α) (wf : α → Prop) : Prop :=
  P.cellsOf E = e.k ∧ ∀ (H : Type) (enc : TypeId × Value → H) (w : World) (base : Nat) (sp : Nat → Bool) (held : Bool) (fuel : Nat) (cs : List Value) (x : DataW H × List MemPlace), DataW.trod enc P w base sp held fuel E cs = some x → ∃ a, cs = e.enc a ∧ wf a

def wfI (k : IntKind) (n : Int) : Prop := (Lit.int k n).wf = true
def wfB (b : Bool) : Prop := True
def wfS (s : Str) : Prop := s.length ≤ maxLen
theorem opF_int {P : Program} {E : TypeId} {k : IntKind} (hu : P.underlying E = some (.int k)) (hk : P.cellsOf E = 1) : OpF P E (encI k) (wfI k) :=
  ⟨hk, fun H enc w base sp held fuel cs x h => by
    obtain ⟨n, rfl, _, hw⟩ := DataW.trod_int hu h
    exact ⟨n, rfl, hw⟩⟩
theorem opF_bool {P : Program} {E : TypeId} (hu : P.underlying E = some .bool) (hk : P.cellsOf E = 1) : OpF P E encB wfB :=
  ⟨hk, fun H enc w base sp held fuel cs x h => by
    obtain ⟨n, rfl, _⟩ := DataW.trod_bool hu h
    exact ⟨n, rfl, trivial⟩⟩
theorem opF_str {P : Program} {E : TypeId} (hu : P.underlying E = some .string) (hk : P.cellsOf E = 1) : OpF P E encS wfS :=
  ⟨hk, fun H enc w base sp held fuel cs x h => by
    obtain ⟨s, rfl, _, hs⟩ := DataW.trod_string hu h
    exact ⟨s.data.toList, by simp [encS, vS], by simpa [wfS] using hs⟩⟩

theorem tile {cs A B : List Value} {o k : Nat} (h : (cs.drop o).take k = A) (r : cs.drop (o + k) = B) : cs.drop o = A ++ B := by
  rw [← h, ← r, ← List.drop_drop, List.take_append_drop]
theorem tile_end {cs : List Value} {n : Nat} (h : cs.length = n) : cs.drop n = [] := List.drop_of_length_le (by omega)
theorem arr_of {u : Array Value} {l : List Value} (h : u.toList = l) : u = l.toArray := by subst h; simp

section
variable {P : Program} {H : Type} {enc : TypeId × Value → H} {w : World} {sp : Nat → Bool} {held : Bool} {n : Nat} {cs : List Value} {xs : List (DataW H × List MemPlace)} {fs : Array Field} {base : Nat}
theorem OpF.field {E : TypeId} {α : Type} {e : Enc α} {wf : α → Prop} (he : OpF P E e wf) (hn : xs.length = fs.size)
    (hf : ∀ (i : Nat) (f : Field), fs[i]? = some f → DataW.trod enc P w base sp held n f.type ((cs.drop f.offset).take (P.cellsOf f.type)) = xs[i]?)
    (i : Nat) {o : Nat} (hi : (fs[i]?).map (fun f => (f.type, f.offset)) = some (E, o)) : ∃ a, (cs.drop o).take e.k = e.enc a ∧ wf a := by
  rw [Option.map_eq_some_iff] at hi
  obtain ⟨f, hf1, hf2⟩ := hi
  obtain ⟨rfl, rfl⟩ := Prod.mk.inj hf2
  have h1 := hf i f hf1
  have hlt : i < xs.length := by rw [hn]; exact (Array.getElem?_eq_some_iff.1 hf1).1
  rw [List.getElem?_eq_getElem hlt, he.1] at h1
  exact he.2 _ _ _ _ _ _ _ _ _ h1

theorem listOf {α : Type} (Q : Nat → α → Prop) : ∀ (n : Nat), (∀ i, i < n → ∃ a, Q i a) → ∃ xs : List α, xs.length = n ∧ ∀ (i : Nat) a, xs[i]? = some a → Q i a := by
  intro n
  induction n with
  | zero => intro _; exact ⟨[], rfl, fun i a h => by simp at h⟩
  | succ n ih =>
    intro h
    obtain ⟨xs, hl, hx⟩ := ih (fun i hi => h i (by omega))
    obtain ⟨a, ha⟩ := h n (by omega)
    refine ⟨xs ++ [a], by simp [hl], fun i b hb => ?_⟩
    rcases Nat.lt_or_ge i xs.length with h1 | h1
    · rw [List.getElem?_append_left h1] at hb; exact hx i b hb
    · rw [List.getElem?_append_right h1] at hb
      have h2 := (List.getElem?_eq_some_iff.1 hb).1
      have h3 : i = xs.length := by simp at h2; omega
      subst h3
      simp at hb
      subst hb
      rw [hl]; exact ha

theorem Enc.flat_inv {α : Type} (e : Enc α) : ∀ (xs : List α) (j : Nat) (u : Value), (e.flat xs)[j]? = some u → ∃ (i off : Nat) (x : α), j = i * e.k + off ∧ xs[i]? = some x ∧ (e.enc x)[off]? = some u := by
  intro xs
  induction xs with
  | nil => intro j u h; simp [Enc.flat] at h
  | cons x xs ih =>
    intro j u h
    have hx : e.flat (x :: xs) = e.enc x ++ e.flat xs := by simp [Enc.flat]
    rw [hx] at h
    rcases Nat.lt_or_ge j (e.enc x).length with h1 | h1
    · rw [List.getElem?_append_left h1] at h
      exact ⟨0, j, x, by simp, rfl, h⟩
    · rw [List.getElem?_append_right h1] at h
      obtain ⟨i, off, y, h2, h3, h4⟩ := ih _ _ h
      rw [e.len] at h2 h1
      exact ⟨i + 1, off, y, by rw [Nat.add_mul]; omega, h3, h4⟩

theorem open_sl {E t : TypeId} {α : Type} {e : Enc α} {wf : α → Prop} (he : OpF P E e wf) (ht : P.underlying t = some (.slice E)) {x : DataW H × List MemPlace}
    (h : DataW.trod enc P w base sp held n t cs = some x) (hs : ∀ m ∈ x.1.weights P t, m ≤ reachBytes) :
    ∃ p c ys, cs = [.slice p ys.length c] ∧ RdS w e p c ys ∧ (∀ a ∈ ys, wf a) ∧ ys.length * P.bytesOf E ≤ reachBytes := by
  rcases DataW.trod_slice ht h with ⟨rfl, rfl⟩ | ⟨a, len, cap, elems, rest, m, _, rfl, rfl, _, hl, hc, hlen, hel, _⟩
  · exact ⟨none, 0, [], rfl, RdS.nil, by simp, by simp⟩
  · obtain ⟨ys, hy, hq⟩ := listOf (fun i (b : α) => w.cells? base (a.add (i * e.k)) e.k = some (e.enc b) ∧ wf b) len (fun i hi => by
      have h1 := hel i hi
      rw [List.getElem?_eq_getElem (by omega), Option.bind_eq_some_iff, he.1] at h1
      obtain ⟨c1, h2, h3⟩ := h1
      obtain ⟨b, rfl, hb⟩ := he.2 _ _ _ _ _ _ _ _ _ h3
      exact ⟨b, h2, hb⟩)
    subst hy
    refine ⟨some a, cap, ys, rfl, ⟨fun x => 0 < (e.flat ys).length ∧ x = (adr (some a)).block, ⟨fun _ => rfl, fun j u hu => ?_, ?_, fun _ => Iff.rfl⟩, hl⟩, fun b hb => ?_, ?_⟩
    · obtain ⟨i, off, y, rfl, h1, h2⟩ := e.flat_inv ys j u hu
      have h3 := (World.cells?_some (hq i y h1).1).2.2 off (by rw [← e.len y]; exact (List.getElem?_eq_some_iff.1 h2).1)
      rw [h2, Addr.add_add] at h3
      exact h3
    · have : maxLen = 9223372036854775807 := rfl
      omega
    · obtain ⟨i, hi⟩ := List.getElem?_of_mem hb
      exact (hq i b hi).2
    · have h1 := hs ((elems.length + rest.length) * P.bytesOf E) (by simp [DataW.weights, ht])
      rw [← hlen]
      exact Nat.le_trans (Nat.mul_le_mul_right _ (by omega)) h1

theorem OpF.fieldS {t T E : TypeId} {α : Type} {e : Enc α} {wf : α → Prop} (he : OpF P E e wf) (ht : P.underlying t = some (.struct fs)) (hn : xs.length = fs.size)
    (hf : ∀ (i : Nat) (f : Field), fs[i]? = some f → DataW.trod enc P w base sp held n f.type ((cs.drop f.offset).take (P.cellsOf f.type)) = xs[i]?)
    (hs : ∀ m ∈ DataW.weights P t (.agg (xs.map (·.1))), m ≤ reachBytes)
    (i : Nat) {o : Nat} (hi : (fs[i]?).map (fun f => (f.type, f.offset)) = some (T, o)) (hT : P.underlying T = some (.slice E)) (hk : P.cellsOf T = 1) :
    ∃ p c ys, (cs.drop o).take 1 = [.slice p ys.length c] ∧ RdS w e p c ys ∧ (∀ a ∈ ys, wf a) ∧ ys.length * P.bytesOf E ≤ reachBytes := by
  rw [Option.map_eq_some_iff] at hi
  obtain ⟨f, hf1, hf2⟩ := hi
  obtain ⟨rfl, rfl⟩ := Prod.mk.inj hf2
  have h1 := hf i f hf1
  have hlt : i < xs.length := by rw [hn]; exact (Array.getElem?_eq_some_iff.1 hf1).1
  rw [List.getElem?_eq_getElem hlt, hk] at h1
  refine open_sl he hT h1 fun m hm => hs m ?_
  simp only [DataW.weights, ht]
  refine DataW.weights_mem_each (j := i) (t := f.type) (d := xs[i].1) ?_ ?_ m hm
  · simp [hf1]
  · simp [List.getElem?_eq_getElem hlt]
end
end Go.Proofs.YtflmncjhonmmhaaDoor
