/- The plain law of VerbRanges. -/
import Derived.Test.YtflmncjhonmmhaaDoorVrPureA
import Derived.Test.YtflmncjhonmmhaaDoorVrOpn
import Derived.OpenShut
namespace Go.Proofs.YtflmncjhonmmhaaDoor.Vr.Pure
open Go Go.RowKit Go.ChangeShapes Go.WideShapes
set_option linter.unusedVariables false
set_option linter.unusedSimpArgs false
set_option maxRecDepth 100000
theorem getI_nat {α : Type} (xs : List α) (i : Nat) : getI xs (i : Int) = xs[i]? := by simp [getI]
noncomputable def cf (L : List GOperand) (A B C : Int) : Int → Option (Int ⊕ (Unit ⊕ Int)) := (fun (s147 : Int) => if decide (s147 < 3) then (getI [A, B, C] s147).bind fun (x155 : Int) => ((some (decide (s147 < (L.length : Int)))).bind fun (x163 : Bool) => if x163 then (getI L s147).bind fun (x166 : GOperand) => some x166 else some (GOperand.mk ([]) 0 0)).bind fun (y161 : GOperand) => (if decide (x155 < y161.Least) then some true else some (decide (x155 > y161.Most))).bind fun (y169 : Bool) => if y169 then some (.inr (.inr 71)) else some (.inl (W (s147 + 1))) else some (.inr ((.inl ()))))
noncomputable def rf (L : List GOperand) (A B C : Int) : Int × Int → Option ((Int × Int) ⊕ Int) := (fun (s166 : Int × Int) => if decide (s166.2 < 3) then ((if decide (s166.2 ≥ (L.length : Int)) then (must (([A, B, C] : List Int).length == 3)).bind fun _ => (getI ([A, B, C] : List Int) s166.2).bind fun (x177 : Int) => if x177 != 0 then some true else if decide (s166.2 < (L.length : Int)) then (must (([A, B, C] : List Int).length == 3)).bind fun _ => (getI ([A, B, C] : List Int) s166.2).bind fun (x182 : Int) => (getI L s166.2).bind fun (x185 : GOperand) => if decide (x182 < x185.Least) then some true else (must (([A, B, C] : List Int).length == 3)).bind fun _ => (getI ([A, B, C] : List Int) s166.2).bind fun (x188 : Int) => (getI L s166.2).bind fun (x191 : GOperand) => some (decide (x188 > x191.Most)) else some false else if decide (s166.2 < (L.length : Int)) then (must (([A, B, C] : List Int).length == 3)).bind fun _ => (getI ([A, B, C] : List Int) s166.2).bind fun (x194 : Int) => (getI L s166.2).bind fun (x197 : GOperand) => if decide (x194 < x197.Least) then some true else (must (([A, B, C] : List Int).length == 3)).bind fun _ => (getI ([A, B, C] : List Int) s166.2).bind fun (x200 : Int) => (getI L s166.2).bind fun (x203 : GOperand) => some (decide (x200 > x203.Most)) else some false).bind fun (y175 : Bool) => if y175 then some 71 else some s166.1).bind fun (y173 : Int) => some (.inl (y173, W (s166.2 + 1))) else some (.inr (s166.1)))
/-- Is an operand out of range. -/
def bd (L : List GOperand) (i : Nat) (n : Int) : Bool := match L[i]? with
  | some x => decide (n < x.Least) || decide (n > x.Most)
  | none => decide (n < 0) || decide (n > 0)
theorem bifs (a b : Bool) : (if a then some true else some b) = some (a || b) := by cases a <;> rfl
theorem W1 (i : Nat) (h : i < 3) : W ((i : Int) + 1) = ((i + 1 : Nat) : Int) := by unfold W; rw [IntKind.wrap_i64]; omega
theorem stepC (L : List GOperand) (A B C : Int) (i : Nat) (n : Int) (hn : [A, B, C][i]? = some n) (hi : i < 3) : cf L A B C (i : Int) = if bd L i n then some (.inr (.inr 71)) else some (.inl ((i + 1 : Nat) : Int)) := by
  have h3 : decide ((i : Int) < 3) = true := by simp; omega
  unfold cf bd
  simp only [h3, if_true, getI_nat, hn, Option.bind_some, W1 i hi]
  cases h : L[i]? with
  | none =>
    have hl : decide ((i : Int) < (L.length : Int)) = false := by
      have := List.getElem?_eq_none_iff.1 h
      simp; omega
    simp only [hl, Bool.false_eq_true, if_false, Option.bind_some, bifs]
  | some x =>
    have hl : decide ((i : Int) < (L.length : Int)) = true := by
      have := (List.getElem?_eq_some_iff.1 h).1
      simp; omega
    simp only [hl, if_true, Option.bind_some, bifs]
theorem runC3 (L : List GOperand) (A B C : Int) : Loop.run (cf L A B C) 0 = some (if bd L 0 A || (bd L 1 B || bd L 2 C) then .inr 71 else .inl ()) := by
  have s0 := stepC L A B C 0 A rfl (by omega)
  have s1 := stepC L A B C 1 B rfl (by omega)
  have s2 := stepC L A B C 2 C rfl (by omega)
  have s3 : cf L A B C 3 = some (.inr (.inl ())) := by unfold cf; simp
  cases h0 : bd L 0 A with
  | true => rw [h0] at s0; exact Loop.run_inr s0
  | false =>
    rw [h0] at s0
    refine (Loop.run_inl s0).trans ?_
    cases h1 : bd L 1 B with
    | true => rw [h1] at s1; exact Loop.run_inr s1
    | false =>
      rw [h1] at s1
      refine (Loop.run_inl s1).trans ?_
      cases h2 : bd L 2 C with
      | true => rw [h2] at s2; exact Loop.run_inr s2
      | false => rw [h2] at s2; exact (Loop.run_inl s2).trans (Loop.run_inr s3)
theorem finR (b : Bool) (w k : Int) : ((if b = true then some 71 else some w).bind fun (y : Int) => (some (.inl (y, k)) : Option ((Int × Int) ⊕ Int))) = some (.inl (if b = true then 71 else w, k)) := by cases b <;> rfl
theorem stepR (L : List GOperand) (A B C : Int) (i : Nat) (w n : Int) (hn : [A, B, C][i]? = some n) (hi : i < 3) : rf L A B C (w, (i : Int)) = some (.inl (if bd L i n then 71 else w, ((i + 1 : Nat) : Int))) := by
  have h3 : decide ((i : Int) < 3) = true := by simp; omega
  have hm : must (([A, B, C] : List Int).length == 3) = some () := rfl
  unfold rf bd
  simp only [h3, if_true, getI_nat, hn, Option.bind_some, W1 i hi, hm]
  cases h : L[i]? with
  | none =>
    have hl : decide ((i : Int) < (L.length : Int)) = false := by
      have := List.getElem?_eq_none_iff.1 h
      simp; omega
    have hg : decide ((i : Int) ≥ (L.length : Int)) = true := by
      have := List.getElem?_eq_none_iff.1 h
      simp; omega
    have hz : (n != 0) = (decide (n < 0) || decide (n > 0)) := by
      rw [Bool.eq_iff_iff]; simp only [bne_iff_ne, ne_eq, Bool.or_eq_true, decide_eq_true_eq]; omega
    simp only [hl, hg, if_true, Bool.false_eq_true, if_false, Option.bind_some, hz, bifs, Bool.or_false]
    exact finR _ w _
  | some x =>
    have hl : decide ((i : Int) < (L.length : Int)) = true := by
      have := (List.getElem?_eq_some_iff.1 h).1
      simp; omega
    have hg : decide ((i : Int) ≥ (L.length : Int)) = false := by
      have := (List.getElem?_eq_some_iff.1 h).1
      simp; omega
    simp only [hl, hg, if_true, Bool.false_eq_true, if_false, Option.bind_some, bifs]
    exact finR _ w _
theorem runR3 (L : List GOperand) (A B C : Int) : Loop.run (rf L A B C) (0, 0) = some (if bd L 0 A || (bd L 1 B || bd L 2 C) then 71 else 0) := by
  have s0 := stepR L A B C 0 0 A rfl (by omega)
  have s1 := fun w => stepR L A B C 1 w B rfl (by omega)
  have s2 := fun w => stepR L A B C 2 w C rfl (by omega)
  have s3 : ∀ w, rf L A B C (w, 3) = some (.inr w) := fun w => by unfold rf; simp
  refine (Loop.run_inl s0).trans ((Loop.run_inl (s1 _)).trans ((Loop.run_inl (s2 _)).trans ((Loop.run_inr (s3 _)).trans ?_)))
  cases bd L 0 A <;> cases bd L 1 B <;> cases bd L 2 C <;> rfl
theorem check {o : GOrder} {nm : Str} {L : List GOperand} (sp : verb_specOf o.Verb = some (Gspec.mk nm L, true)) : verb_Check o = some (if bd L 0 o.A || (bd L 1 o.B || bd L 2 o.C) then 71 else 0) := by
  unfold verb_Check
  rw [sp]
  refine (congrArg (fun u => Option.bind u _) (runC3 L o.A o.B o.C)).trans ?_
  cases (bd L 0 o.A || (bd L 1 o.B || bd L 2 o.C)) <;> rfl
theorem parse0 : verb_Parse [] = some (GOrder.mk 0 0 0 0, 72) := verb_Parse_c.le (k := 12) _ (by kernel_rfl)
noncomputable def good (o : GOrder) : Bool := match verb_Print_c 8 o with
  | some (s, e) => (e == 0) && ((s != []) && decide (verb_Parse_c 12 s = some (o, 0)))
  | none => false

theorem good_some {o : GOrder} (h : good o = true) : ∃ s, verb_Print o = some (s, 0) ∧ verb_Parse s = some (o, 0) ∧ (s == []) = false := by
  unfold good at h
  split at h
  · rename_i s e hp
    simp only [Bool.and_eq_true, decide_eq_true_eq, beq_iff_eq] at h
    obtain ⟨rfl, h1, h2⟩ := h
    refine ⟨s, verb_Print_c.le _ hp, verb_Parse_c.le _ h2, ?_⟩
    unfold bne at h1
    cases hs : (s == []) with
    | false => rfl
    | true => rw [hs] at h1; cases h1
  · cases h
theorem count7 : verb_Count = some 7 := by unfold verb_Count; rfl
theorem valid {o : GOrder} {nm : Str} {L : List GOperand} (sp : verb_specOf o.Verb = some (Gspec.mk nm L, true)) (hL : L.length ≤ 3) (hnm : (nm == []) = false) (h1 : decide (o.Verb < 1) = false) (h7 : decide (o.Verb > 7) = false)
    (hg : (bd L 0 o.A || (bd L 1 o.B || bd L 2 o.C)) = false → good o = true) : echelonlaw07_VerbRanges o = some true := by
  have ho : verb_Operands o.Verb = some L := by unfold verb_Operands; rw [sp]; rfl
  have hn : verb_Name o.Verb = some nm := by unfold verb_Name; rw [sp]; rfl
  have hl : decide ((L.length : Int) > 3) = false := by simp; omega
  have hc := check sp
  unfold echelonlaw07_VerbRanges
  rw [awake, Option.bind_some, ho, Option.bind_some, hl]
  simp only [Bool.false_eq_true, if_false]
  refine (congrArg (fun u => Option.bind u _) (runR3 L o.A o.B o.C)).trans ?_
  simp only [Option.bind_some, h1, h7, count7, Bool.false_eq_true, if_false, hc]
  cases hP : (bd L 0 o.A || (bd L 1 o.B || bd L 2 o.C)) with
  | true =>
    have hp : verb_Print o = some ([], 71) := by unfold verb_Print; rw [hc, hP]; rfl
    have hnm' : nm ≠ [] := by simpa using hnm
    simp [hp, parse0, hn, hnm']
  | false =>
    obtain ⟨s, e1, e2, e3⟩ := good_some (hg hP)
    have hnm' : nm ≠ [] := by simpa using hnm
    have e3' : s ≠ [] := by simpa using e3
    simp [e1, e2, hn, hnm', e3']
theorem sp1 : verb_specOf 1 = some (Gspec.mk [115, 116, 101, 101, 114] [GOperand.mk [120] (-8) 8, GOperand.mk [121] (-8) 8], true) := verb_specOf_c.le (k := 4) _ (by kernel_rfl)
theorem tb1 : ((List.range 17).all fun i => (List.range 17).all fun j => good (GOrder.mk 1 (-8 + (i : Int)) (-8 + (j : Int)) 0)) = true := by kernel_rfl
theorem v1 (A B C : Int) : echelonlaw07_VerbRanges (GOrder.mk 1 A B C) = some true := by
  refine valid (o := GOrder.mk 1 A B C) sp1 (by simp) (by rfl) (by rfl) (by rfl) fun h => ?_
  simp only [bd, List.getElem?_cons_zero, List.getElem?_cons_succ, List.getElem?_nil, Bool.or_eq_false_iff, decide_eq_false_iff_not] at h
  have t := tb1
  simp only [List.all_eq_true, List.mem_range] at t
  have t2 := t (A - (-8)).toNat (by omega) (B - (-8)).toNat (by omega)
  have eA : -8 + ((A - (-8)).toNat : Int) = A := by omega
  have eB : -8 + ((B - (-8)).toNat : Int) = B := by omega
  have eC : C = 0 := by omega
  rw [eA, eB] at t2
  rw [eC]
  exact t2
theorem sp2 : verb_specOf 2 = some (Gspec.mk [104, 97, 108, 116] [], true) := verb_specOf_c.le (k := 4) _ (by kernel_rfl)
theorem tb2 : ((List.range 1).all fun i => (List.range 1).all fun j => good (GOrder.mk 2 (0 + (i : Int)) (0 + (j : Int)) 0)) = true := by kernel_rfl
theorem v2 (A B C : Int) : echelonlaw07_VerbRanges (GOrder.mk 2 A B C) = some true := by
  refine valid (o := GOrder.mk 2 A B C) sp2 (by simp) (by rfl) (by rfl) (by rfl) fun h => ?_
  simp only [bd, List.getElem?_cons_zero, List.getElem?_cons_succ, List.getElem?_nil, Bool.or_eq_false_iff, decide_eq_false_iff_not] at h
  have t := tb2
  simp only [List.all_eq_true, List.mem_range] at t
  have t2 := t (A - (0)).toNat (by omega) (B - (0)).toNat (by omega)
  have eA : 0 + ((A - (0)).toNat : Int) = A := by omega
  have eB : 0 + ((B - (0)).toNat : Int) = B := by omega
  have eC : C = 0 := by omega
  rw [eA, eB] at t2
  rw [eC]
  exact t2
theorem sp3 : verb_specOf 3 = some (Gspec.mk [97, 105, 109] [GOperand.mk [116, 111] 0 15], true) := verb_specOf_c.le (k := 4) _ (by kernel_rfl)
theorem tb3 : ((List.range 16).all fun i => (List.range 1).all fun j => good (GOrder.mk 3 (0 + (i : Int)) (0 + (j : Int)) 0)) = true := by kernel_rfl
theorem v3 (A B C : Int) : echelonlaw07_VerbRanges (GOrder.mk 3 A B C) = some true := by
  refine valid (o := GOrder.mk 3 A B C) sp3 (by simp) (by rfl) (by rfl) (by rfl) fun h => ?_
  simp only [bd, List.getElem?_cons_zero, List.getElem?_cons_succ, List.getElem?_nil, Bool.or_eq_false_iff, decide_eq_false_iff_not] at h
  have t := tb3
  simp only [List.all_eq_true, List.mem_range] at t
  have t2 := t (A - (0)).toNat (by omega) (B - (0)).toNat (by omega)
  have eA : 0 + ((A - (0)).toNat : Int) = A := by omega
  have eB : 0 + ((B - (0)).toNat : Int) = B := by omega
  have eC : C = 0 := by omega
  rw [eA, eB] at t2
  rw [eC]
  exact t2
theorem sp4 : verb_specOf 4 = some (Gspec.mk [102, 105, 114, 101] [GOperand.mk [112, 111, 119, 101, 114] 1 3], true) := verb_specOf_c.le (k := 4) _ (by kernel_rfl)
theorem tb4 : ((List.range 3).all fun i => (List.range 1).all fun j => good (GOrder.mk 4 (1 + (i : Int)) (0 + (j : Int)) 0)) = true := by kernel_rfl
theorem v4 (A B C : Int) : echelonlaw07_VerbRanges (GOrder.mk 4 A B C) = some true := by
  refine valid (o := GOrder.mk 4 A B C) sp4 (by simp) (by rfl) (by rfl) (by rfl) fun h => ?_
  simp only [bd, List.getElem?_cons_zero, List.getElem?_cons_succ, List.getElem?_nil, Bool.or_eq_false_iff, decide_eq_false_iff_not] at h
  have t := tb4
  simp only [List.all_eq_true, List.mem_range] at t
  have t2 := t (A - (1)).toNat (by omega) (B - (0)).toNat (by omega)
  have eA : 1 + ((A - (1)).toNat : Int) = A := by omega
  have eB : 0 + ((B - (0)).toNat : Int) = B := by omega
  have eC : C = 0 := by omega
  rw [eA, eB] at t2
  rw [eC]
  exact t2
theorem sp5 : verb_specOf 5 = some (Gspec.mk [115, 104, 105, 101, 108, 100] [GOperand.mk [111, 110] 0 1], true) := verb_specOf_c.le (k := 4) _ (by kernel_rfl)
theorem tb5 : ((List.range 2).all fun i => (List.range 1).all fun j => good (GOrder.mk 5 (0 + (i : Int)) (0 + (j : Int)) 0)) = true := by kernel_rfl
theorem v5 (A B C : Int) : echelonlaw07_VerbRanges (GOrder.mk 5 A B C) = some true := by
  refine valid (o := GOrder.mk 5 A B C) sp5 (by simp) (by rfl) (by rfl) (by rfl) fun h => ?_
  simp only [bd, List.getElem?_cons_zero, List.getElem?_cons_succ, List.getElem?_nil, Bool.or_eq_false_iff, decide_eq_false_iff_not] at h
  have t := tb5
  simp only [List.all_eq_true, List.mem_range] at t
  have t2 := t (A - (0)).toNat (by omega) (B - (0)).toNat (by omega)
  have eA : 0 + ((A - (0)).toNat : Int) = A := by omega
  have eB : 0 + ((B - (0)).toNat : Int) = B := by omega
  have eC : C = 0 := by omega
  rw [eA, eB] at t2
  rw [eC]
  exact t2
theorem sp6 : verb_specOf 6 = some (Gspec.mk [100, 97, 115, 104] [GOperand.mk [116, 111] 0 15], true) := verb_specOf_c.le (k := 4) _ (by kernel_rfl)
theorem tb6 : ((List.range 16).all fun i => (List.range 1).all fun j => good (GOrder.mk 6 (0 + (i : Int)) (0 + (j : Int)) 0)) = true := by kernel_rfl
theorem v6 (A B C : Int) : echelonlaw07_VerbRanges (GOrder.mk 6 A B C) = some true := by
  refine valid (o := GOrder.mk 6 A B C) sp6 (by simp) (by rfl) (by rfl) (by rfl) fun h => ?_
  simp only [bd, List.getElem?_cons_zero, List.getElem?_cons_succ, List.getElem?_nil, Bool.or_eq_false_iff, decide_eq_false_iff_not] at h
  have t := tb6
  simp only [List.all_eq_true, List.mem_range] at t
  have t2 := t (A - (0)).toNat (by omega) (B - (0)).toNat (by omega)
  have eA : 0 + ((A - (0)).toNat : Int) = A := by omega
  have eB : 0 + ((B - (0)).toNat : Int) = B := by omega
  have eC : C = 0 := by omega
  rw [eA, eB] at t2
  rw [eC]
  exact t2
theorem sp7 : verb_specOf 7 = some (Gspec.mk [115, 97, 121] [GOperand.mk [119, 104, 97, 116] 0 255], true) := verb_specOf_c.le (k := 4) _ (by kernel_rfl)
theorem tb7 : ((List.range 256).all fun i => (List.range 1).all fun j => good (GOrder.mk 7 (0 + (i : Int)) (0 + (j : Int)) 0)) = true := by kernel_rfl
theorem v7 (A B C : Int) : echelonlaw07_VerbRanges (GOrder.mk 7 A B C) = some true := by
  refine valid (o := GOrder.mk 7 A B C) sp7 (by simp) (by rfl) (by rfl) (by rfl) fun h => ?_
  simp only [bd, List.getElem?_cons_zero, List.getElem?_cons_succ, List.getElem?_nil, Bool.or_eq_false_iff, decide_eq_false_iff_not] at h
  have t := tb7
  simp only [List.all_eq_true, List.mem_range] at t
  have t2 := t (A - (0)).toNat (by omega) (B - (0)).toNat (by omega)
  have eA : 0 + ((A - (0)).toNat : Int) = A := by omega
  have eB : 0 + ((B - (0)).toNat : Int) = B := by omega
  have eC : C = 0 := by omega
  rw [eA, eB] at t2
  rw [eC]
  exact t2
theorem spN {v : Int} (h : v < 1 ∨ 7 < v) : verb_specOf v = some (Gspec.mk [] [], false) := by
  have e : ∀ k : Int, 1 ≤ k → k ≤ 7 → (v == k) = false := fun k h1 h2 => by rw [beq_eq_false_iff_ne]; omega
  unfold verb_specOf
  simp only [Option.bind_some, e 7 (by omega) (by omega), e 6 (by omega) (by omega), e 5 (by omega) (by omega), e 4 (by omega) (by omega), e 3 (by omega) (by omega), e 2 (by omega) (by omega), e 1 (by omega) (by omega), Bool.false_eq_true, if_false]
theorem invalid {o : GOrder} (h : o.Verb < 1 ∨ 7 < o.Verb) : echelonlaw07_VerbRanges o = some true := by
  have sp := spN h
  have ho : verb_Operands o.Verb = some [] := by unfold verb_Operands; rw [sp]; rfl
  have hn : verb_Name o.Verb = some [] := by unfold verb_Name; rw [sp]; rfl
  have hc : verb_Check o = some 70 := by unfold verb_Check; rw [sp]; rfl
  have hp : verb_Print o = some ([], 70) := by unfold verb_Print; rw [hc]; rfl
  unfold echelonlaw07_VerbRanges
  rw [awake, Option.bind_some, ho, Option.bind_some]
  refine (congrArg (fun u => Option.bind u _) (runR3 [] o.A o.B o.C)).trans ?_
  have h7 : (if decide (o.Verb < 1) = true then some true else verb_Count.bind fun x211 => some (decide (o.Verb > x211))) = some true := by
    rw [count7]
    by_cases h1 : o.Verb < 1
    · simp [h1]
    · have : o.Verb > 7 := by omega
      simp [this]
  rw [Option.bind_some, h7]
  simp only [Option.bind_some, if_true, hc, hp, parse0, hn]
  simp
theorem VerbRanges (o : GOrder) (w : wf_GOrder o) : echelonlaw07_VerbRanges o = some true := by
  by_cases h : o.Verb < 1 ∨ 7 < o.Verb
  · exact invalid h
  · obtain ⟨V, A, B, C⟩ := o
    have : V = 1 ∨ V = 2 ∨ V = 3 ∨ V = 4 ∨ V = 5 ∨ V = 6 ∨ V = 7 := by simp only at h; omega
    rcases this with rfl | rfl | rfl | rfl | rfl | rfl | rfl
    · exact v1 A B C
    · exact v2 A B C
    · exact v3 A B C
    · exact v4 A B C
    · exact v5 A B C
    · exact v6 A B C
    · exact v7 A B C

end Go.Proofs.YtflmncjhonmmhaaDoor.Vr.Pure
