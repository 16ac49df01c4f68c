/- The plain law of VerbRanges. -/
import Derived.Test.YtflmncjhonmmhaaDoorVcPureA
import Derived.Test.YtflmncjhonmmhaaDoorVcOpn
import Derived.OpenShut
namespace Go.Proofs.YtflmncjhonmmhaaDoor.Vc.Pure
open Go Go.RowKit Go.ChangeShapes Go.WideShapes
set_option linter.unusedVariables false
set_option linter.unusedSimpArgs false
set_option maxRecDepth 100000
theorem getI_nat {α : Type} (xs : List α) (i : Nat) : getI xs (i : Int) = xs[i]? := by simp [getI]
noncomputable def cf (L : List GOperand) (A B C : Int) : Int → Option (Int ⊕ (Unit ⊕ Int)) := (fun (s147 : Int) => if decide (s147 < 3) then (getI [A, B, C] s147).bind fun (x155 : Int) => ((some (decide (s147 < (L.length : Int)))).bind fun (x163 : Bool) => if x163 then (getI L s147).bind fun (x166 : GOperand) => some x166 else some (GOperand.mk ([]) 0 0)).bind fun (y161 : GOperand) => (if decide (x155 < y161.Least) then some true else some (decide (x155 > y161.Most))).bind fun (y169 : Bool) => if y169 then some (.inr (.inr 71)) else some (.inl (W (s147 + 1))) else some (.inr ((.inl ()))))
noncomputable def rf (L : List GOperand) (A B C : Int) : Int → Option (Int ⊕ (Unit ⊕ Int)) := (fun (s166 : Int) => if decide (s166 < 3) then (if decide (s166 ≥ (L.length : Int)) then (must (([A, B, C] : List Int).length == 3)).bind fun _ => (getI ([A, B, C] : List Int) s166).bind fun (x176 : Int) => if x176 != 0 then some true else if decide (s166 < (L.length : Int)) then (must (([A, B, C] : List Int).length == 3)).bind fun _ => (getI ([A, B, C] : List Int) s166).bind fun (x181 : Int) => (getI L s166).bind fun (x184 : GOperand) => if decide (x181 < x184.Least) then some true else (must (([A, B, C] : List Int).length == 3)).bind fun _ => (getI ([A, B, C] : List Int) s166).bind fun (x187 : Int) => (getI L s166).bind fun (x190 : GOperand) => some (decide (x187 > x190.Most)) else some false else if decide (s166 < (L.length : Int)) then (must (([A, B, C] : List Int).length == 3)).bind fun _ => (getI ([A, B, C] : List Int) s166).bind fun (x193 : Int) => (getI L s166).bind fun (x196 : GOperand) => if decide (x193 < x196.Least) then some true else (must (([A, B, C] : List Int).length == 3)).bind fun _ => (getI ([A, B, C] : List Int) s166).bind fun (x199 : Int) => (getI L s166).bind fun (x202 : GOperand) => some (decide (x199 > x202.Most)) else some false).bind fun (y174 : Bool) => if y174 then some (.inr (.inr 71)) else some (.inl (W (s166 + 1))) else some (.inr ((.inl ()))))
/-- Is an operand out of range. -/
def bd (L : List GOperand) (i : Nat) (n : Int) : Bool := match L[i]? with
  | some x => decide (n < x.Least) || decide (n > x.Most)
  | none => decide (n < 0) || decide (n > 0)
theorem bifs (a b : Bool) : (if a then some true else some b) = some (a || b) := by cases a <;> rfl
theorem W1 (i : Nat) (h : i < 3) : W ((i : Int) + 1) = ((i + 1 : Nat) : Int) := by unfold W; rw [IntKind.wrap_i64]; omega
theorem stepC (L : List GOperand) (A B C : Int) (i : Nat) (n : Int) (hn : [A, B, C][i]? = some n) (hi : i < 3) : cf L A B C (i : Int) = if bd L i n then some (.inr (.inr 71)) else some (.inl ((i + 1 : Nat) : Int)) := by
  have h3 : decide ((i : Int) < 3) = true := by simp; omega
  unfold cf bd
  simp only [h3, if_true, getI_nat, hn, Option.bind_some, W1 i hi]
  cases h : L[i]? with
  | none =>
    have hl : decide ((i : Int) < (L.length : Int)) = false := by
      have := List.getElem?_eq_none_iff.1 h
      simp; omega
    simp only [hl, Bool.false_eq_true, if_false, Option.bind_some, bifs]
  | some x =>
    have hl : decide ((i : Int) < (L.length : Int)) = true := by
      have := (List.getElem?_eq_some_iff.1 h).1
      simp; omega
    simp only [hl, if_true, Option.bind_some, bifs]
theorem runC3 (L : List GOperand) (A B C : Int) : Loop.run (cf L A B C) 0 = some (if bd L 0 A || (bd L 1 B || bd L 2 C) then .inr 71 else .inl ()) := by
  have s0 := stepC L A B C 0 A rfl (by omega)
  have s1 := stepC L A B C 1 B rfl (by omega)
  have s2 := stepC L A B C 2 C rfl (by omega)
  have s3 : cf L A B C 3 = some (.inr (.inl ())) := by unfold cf; simp
  cases h0 : bd L 0 A with
  | true => rw [h0] at s0; exact Loop.run_inr s0
  | false =>
    rw [h0] at s0
    refine (Loop.run_inl s0).trans ?_
    cases h1 : bd L 1 B with
    | true => rw [h1] at s1; exact Loop.run_inr s1
    | false =>
      rw [h1] at s1
      refine (Loop.run_inl s1).trans ?_
      cases h2 : bd L 2 C with
      | true => rw [h2] at s2; exact Loop.run_inr s2
      | false => rw [h2] at s2; exact (Loop.run_inl s2).trans (Loop.run_inr s3)
theorem check {o : GOrder} {nm : Str} {L : List GOperand} (sp : verb_specOf o.Verb = some (Gspec.mk nm L, true)) : verb_Check o = some (if bd L 0 o.A || (bd L 1 o.B || bd L 2 o.C) then 71 else 0) := by
  unfold verb_Check
  rw [sp]
  refine (congrArg (fun u => Option.bind u _) (runC3 L o.A o.B o.C)).trans ?_
  cases (bd L 0 o.A || (bd L 1 o.B || bd L 2 o.C)) <;> rfl
theorem stepR (L : List GOperand) (A B C : Int) (i : Nat) (n : Int) (hn : [A, B, C][i]? = some n) (hi : i < 3) : rf L A B C (i : Int) = if bd L i n then some (.inr (.inr 71)) else some (.inl ((i + 1 : Nat) : Int)) := by
  have h3 : decide ((i : Int) < 3) = true := by simp; omega
  have hm : must (([A, B, C] : List Int).length == 3) = some () := rfl
  unfold rf bd
  simp only [h3, if_true, getI_nat, hn, Option.bind_some, W1 i hi, hm]
  cases h : L[i]? with
  | none =>
    have hl : decide ((i : Int) < (L.length : Int)) = false := by
      have := List.getElem?_eq_none_iff.1 h
      simp; omega
    have hg : decide ((i : Int) ≥ (L.length : Int)) = true := by
      have := List.getElem?_eq_none_iff.1 h
      simp; omega
    have hz : (n != 0) = (decide (n < 0) || decide (n > 0)) := by
      rw [Bool.eq_iff_iff]; simp only [bne_iff_ne, ne_eq, Bool.or_eq_true, decide_eq_true_eq]; omega
    simp only [hl, hg, if_true, Bool.false_eq_true, if_false, Option.bind_some, hz, bifs, Bool.or_false]
  | some x =>
    have hl : decide ((i : Int) < (L.length : Int)) = true := by
      have := (List.getElem?_eq_some_iff.1 h).1
      simp; omega
    have hg : decide ((i : Int) ≥ (L.length : Int)) = false := by
      have := (List.getElem?_eq_some_iff.1 h).1
      simp; omega
    simp only [hl, hg, if_true, Bool.false_eq_true, if_false, Option.bind_some, bifs]
theorem runR3 (L : List GOperand) (A B C : Int) : Loop.run (rf L A B C) 0 = some (if bd L 0 A || (bd L 1 B || bd L 2 C) then .inr 71 else .inl ()) := by
  have s0 := stepR L A B C 0 A rfl (by omega)
  have s1 := stepR L A B C 1 B rfl (by omega)
  have s2 := stepR L A B C 2 C rfl (by omega)
  have s3 : rf L A B C 3 = some (.inr (.inl ())) := by unfold rf; simp
  cases h0 : bd L 0 A with
  | true => rw [h0] at s0; exact Loop.run_inr s0
  | false =>
    rw [h0] at s0
    refine (Loop.run_inl s0).trans ?_
    cases h1 : bd L 1 B with
    | true => rw [h1] at s1; exact Loop.run_inr s1
    | false =>
      rw [h1] at s1
      refine (Loop.run_inl s1).trans ?_
      cases h2 : bd L 2 C with
      | true => rw [h2] at s2; exact Loop.run_inr s2
      | false => rw [h2] at s2; exact (Loop.run_inl s2).trans (Loop.run_inr s3)
theorem checkR {o : GOrder} {L : List GOperand} (hi : echelonref07_Is o.Verb = some true) (ho : echelonref07_Operands o.Verb = some L) : echelonref07_Check o = some (if bd L 0 o.A || (bd L 1 o.B || bd L 2 o.C) then 71 else 0) := by
  unfold echelonref07_Check
  rw [hi, Option.bind_some, ho]
  refine (congrArg (fun u => Option.bind u _) (runR3 L o.A o.B o.C)).trans ?_
  cases (bd L 0 o.A || (bd L 1 o.B || bd L 2 o.C)) <;> rfl
theorem law {o : GOrder} {nm : Str} {L : List GOperand} (sp : verb_specOf o.Verb = some (Gspec.mk nm L, true)) (hi : echelonref07_Is o.Verb = some true) (ho : echelonref07_Operands o.Verb = some L) : echelonlaw07_VerbChecks o = some true := by
  unfold echelonlaw07_VerbChecks
  rw [awake, check sp, checkR hi ho]
  simp
theorem sp1 : verb_specOf 1 = some (Gspec.mk [115, 116, 101, 101, 114] [GOperand.mk [120] (-8) 8, GOperand.mk [121] (-8) 8], true) := verb_specOf_c.le (k := 4) _ (by kernel_rfl)
theorem sp2 : verb_specOf 2 = some (Gspec.mk [104, 97, 108, 116] [], true) := verb_specOf_c.le (k := 4) _ (by kernel_rfl)
theorem sp3 : verb_specOf 3 = some (Gspec.mk [97, 105, 109] [GOperand.mk [116, 111] 0 15], true) := verb_specOf_c.le (k := 4) _ (by kernel_rfl)
theorem sp4 : verb_specOf 4 = some (Gspec.mk [102, 105, 114, 101] [GOperand.mk [112, 111, 119, 101, 114] 1 3], true) := verb_specOf_c.le (k := 4) _ (by kernel_rfl)
theorem sp5 : verb_specOf 5 = some (Gspec.mk [115, 104, 105, 101, 108, 100] [GOperand.mk [111, 110] 0 1], true) := verb_specOf_c.le (k := 4) _ (by kernel_rfl)
theorem sp6 : verb_specOf 6 = some (Gspec.mk [100, 97, 115, 104] [GOperand.mk [116, 111] 0 15], true) := verb_specOf_c.le (k := 4) _ (by kernel_rfl)
theorem sp7 : verb_specOf 7 = some (Gspec.mk [115, 97, 121] [GOperand.mk [119, 104, 97, 116] 0 255], true) := verb_specOf_c.le (k := 4) _ (by kernel_rfl)
theorem spN {v : Int} (h : v < 1 ∨ 7 < v) : verb_specOf v = some (Gspec.mk [] [], false) := by
  have e : ∀ k : Int, 1 ≤ k → k ≤ 7 → (v == k) = false := fun k h1 h2 => by rw [beq_eq_false_iff_ne]; omega
  unfold verb_specOf
  simp only [Option.bind_some, e 7 (by omega) (by omega), e 6 (by omega) (by omega), e 5 (by omega) (by omega), e 4 (by omega) (by omega), e 3 (by omega) (by omega), e 2 (by omega) (by omega), e 1 (by omega) (by omega), Bool.false_eq_true, if_false]
theorem VerbChecks (o : GOrder) (w : wf_GOrder o) : echelonlaw07_VerbChecks o = some true := by
  by_cases h : o.Verb < 1 ∨ 7 < o.Verb
  · have hc : verb_Check o = some 70 := by unfold verb_Check; rw [spN h]; rfl
    have hi : echelonref07_Is o.Verb = some false := by
      unfold echelonref07_Is
      rcases h with h | h
      · have : decide (o.Verb ≥ 1) = false := by simp; omega
        simp [this]
      · have : decide (o.Verb ≤ 7) = false := by simp; omega
        simp [this]
    have hr : echelonref07_Check o = some 70 := by unfold echelonref07_Check; rw [hi]; rfl
    unfold echelonlaw07_VerbChecks
    rw [awake, hc, hr]
    simp
  · obtain ⟨V, A, B, C⟩ := o
    have : V = 1 ∨ V = 2 ∨ V = 3 ∨ V = 4 ∨ V = 5 ∨ V = 6 ∨ V = 7 := by simp only at h; omega
    rcases this with rfl | rfl | rfl | rfl | rfl | rfl | rfl
    · exact law (o := GOrder.mk 1 A B C) sp1 (echelonref07_Is_c.le (k := 3) _ (by kernel_rfl)) (echelonref07_Operands_c.le (k := 3) _ (by kernel_rfl))
    · exact law (o := GOrder.mk 2 A B C) sp2 (echelonref07_Is_c.le (k := 3) _ (by kernel_rfl)) (echelonref07_Operands_c.le (k := 3) _ (by kernel_rfl))
    · exact law (o := GOrder.mk 3 A B C) sp3 (echelonref07_Is_c.le (k := 3) _ (by kernel_rfl)) (echelonref07_Operands_c.le (k := 3) _ (by kernel_rfl))
    · exact law (o := GOrder.mk 4 A B C) sp4 (echelonref07_Is_c.le (k := 3) _ (by kernel_rfl)) (echelonref07_Operands_c.le (k := 3) _ (by kernel_rfl))
    · exact law (o := GOrder.mk 5 A B C) sp5 (echelonref07_Is_c.le (k := 3) _ (by kernel_rfl)) (echelonref07_Operands_c.le (k := 3) _ (by kernel_rfl))
    · exact law (o := GOrder.mk 6 A B C) sp6 (echelonref07_Is_c.le (k := 3) _ (by kernel_rfl)) (echelonref07_Operands_c.le (k := 3) _ (by kernel_rfl))
    · exact law (o := GOrder.mk 7 A B C) sp7 (echelonref07_Is_c.le (k := 3) _ (by kernel_rfl)) (echelonref07_Operands_c.le (k := 3) _ (by kernel_rfl))

end Go.Proofs.YtflmncjhonmmhaaDoor.Vc.Pure
