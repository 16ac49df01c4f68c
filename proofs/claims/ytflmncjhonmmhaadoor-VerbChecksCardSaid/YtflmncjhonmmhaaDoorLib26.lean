/- Tables of the program that are no arrays of numbers: out of the row's list. -/
import Derived.Test.YtflmncjhonmmhaaDoorLib25
import Derived.Lib.LaidTab
namespace Go.Proofs.YtflmncjhonmmhaaDoor
open Go
set_option linter.unusedVariables false
set_option linter.unusedSimpArgs false
/-- A type of cells whose datum tells the value. -/
def OpD (P : Program) (E : TypeId) {α : Type} (e : Enc α) (dat : α → DataW Unit) : Prop :=
  P.cellsOf E = e.k ∧ ∀ (enc : TypeId × Value → Unit) (w : World) (base : Nat) (sp : Nat → Bool) (held : Bool) (fuel : Nat) (cs : List Value) (x : DataW Unit × List MemPlace), DataW.trod enc P w base sp held fuel E cs = some x → ∃ a, cs = e.enc a ∧ x.1 = dat a
def datI (k : IntKind) (n : Int) : DataW Unit := .lit (.int k n)
def datS (s : Str) : DataW Unit := .lit (.string s)
theorem opD_str {P : Program} {E : TypeId} (hu : P.underlying E = some .string) (hk : P.cellsOf E = 1) : OpD P E encS datS :=
  ⟨hk, fun enc w base sp held fuel cs x h => by
    obtain ⟨s, rfl, rfl, hs⟩ := DataW.trod_string hu h
    exact ⟨s.data.toList, by simp [encS, vS], rfl⟩⟩
theorem opD_int {P : Program} {E : TypeId} {k : IntKind} (hu : P.underlying E = some (.int k)) (hk : P.cellsOf E = 1) : OpD P E (encI k) (datI k) :=
  ⟨hk, fun enc w base sp held fuel cs x h => by
    obtain ⟨n, rfl, rfl, hw⟩ := DataW.trod_int hu h
    exact ⟨n, rfl, rfl⟩⟩
theorem datS_inj (a b : Str) (h : datS a = datS b) : a = b := by
  simpa [datS] using h
theorem GT.ofLaid {P : Program} {W : World} {name : String} {rest : List (String × DataW Unit)} {g m : Nat} {t E : TypeId} {α : Type} {e : Enc α} {dat : α → DataW Unit} {zs : List α} (he : OpD P E e dat) (inj : ∀ a b, dat a = dat b → a = b)
    (hg : P.globalNamed name = some g) (hty : (P.globals[g]?).map (·.type) = some t) (ht : P.underlying t = some (.array m E)) (h : laidMet P ((name, .agg (zs.map dat)) :: rest) W) : GT W g e zs := by
  obtain ⟨ps, ⟨g', t', cs, fuel, p, q, hg', ht', hvar, hd, _, _⟩, _⟩ := h
  obtain rfl := Option.some.inj (hg.symm.trans hg')
  obtain rfl := Option.some.inj (hty.symm.trans ht')
  obtain ⟨xs, f2, hm, hx⟩ : ∃ (xs : List (DataW Unit × List MemPlace)) (f2 : Nat), ((List.range m).mapM fun i => DataW.trod (fun _ => ()) P W 0 (fun _ => true) false f2 E ((cs.toList.drop (i * P.cellsOf E)).take (P.cellsOf E))) = some xs ∧ DataW.agg (zs.map dat) = .agg (xs.map (·.1)) := by
    cases fuel with
    | zero => simp [DataW.trod] at hd
    | succ f2 =>
      simp only [DataW.trod, ht] at hd
      split at hd
      · obtain ⟨xs, hm, hx⟩ := Option.map_eq_some_iff.1 hd
        exact ⟨xs, f2, hm, (congrArg Prod.fst hx).symm⟩
      · cases hd
  have hlen : xs.length = m := by simpa using Lib.mapM_length hm
  simp only [DataW.agg.injEq] at hx
  intro j u hu
  obtain ⟨i, off, x, rfl, h1, h2⟩ := e.flat_inv zs j u hu
  have h3 : (xs.map (·.1))[i]? = some (dat x) := by rw [← hx, List.getElem?_map, h1]; rfl
  rw [List.getElem?_map, Option.map_eq_some_iff] at h3
  obtain ⟨y, h4, h5⟩ := h3
  have hi : i < m := by rw [← hlen]; exact (List.getElem?_eq_some_iff.1 h4).1
  obtain ⟨b, hb, h6⟩ := Lib.mapM_at hm i i (by simp [hi])
  obtain rfl := Option.some.inj (h4.symm.trans hb)
  rw [he.1] at h6
  obtain ⟨a, h7, h8⟩ := he.2 _ _ _ _ _ _ _ _ h6
  obtain rfl := inj a x (h8.symm.trans h5)
  rw [← h7] at h2
  have h9 := List.getElem?_eq_some_iff.1 h2
  rw [List.getElem?_take] at h2
  split at h2
  · rw [List.getElem?_drop] at h2
    rw [World.var?_cell hg hvar]
    simpa using h2
  · cases h2
end Go.Proofs.YtflmncjhonmmhaaDoor
