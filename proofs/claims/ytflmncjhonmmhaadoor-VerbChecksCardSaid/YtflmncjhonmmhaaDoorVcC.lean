/- Twins of the plain functions, with loops of a number of rounds, that the kernel can evaluate; written by my program g2.py. -/
import Derived.Test.YtflmncjhonmmhaaDoorProg
import Derived.Test.YtflmncjhonmmhaaDoorVcG1
import Derived.Test.YtflmncjhonmmhaaDoorLib25
namespace Go.Proofs.YtflmncjhonmmhaaDoor.Vc
open Go
set_option linter.unusedVariables false
set_option linter.unusedSimpArgs false
set_option maxRecDepth 4000
set_option maxHeartbeats 4000000
noncomputable def verb_kind_steer_c (k : Nat) (a0 : Int) : Option (Gspec) :=
  some (Gspec.mk ([115, 116, 101, 101, 114]) ([GOperand.mk ([120]) (-8) 8, GOperand.mk ([121]) (-8) 8]))
theorem verb_kind_steer_c.le {k : Nat} {a0 : Int} : Le (verb_kind_steer_c k a0) (verb_kind_steer a0) := by
  unfold verb_kind_steer_c verb_kind_steer
  repeat' with_reducible first | intro _ | apply Le.bind | apply Le.ite | apply Le.run | apply Le.elim | exact Le.refl _
attribute [irreducible] verb_kind_steer_c
noncomputable def verb_kind_halt_c (k : Nat) (a0 : Int) : Option (Gspec) :=
  some (Gspec.mk ([104, 97, 108, 116]) ([] : List GOperand))
theorem verb_kind_halt_c.le {k : Nat} {a0 : Int} : Le (verb_kind_halt_c k a0) (verb_kind_halt a0) := by
  unfold verb_kind_halt_c verb_kind_halt
  repeat' with_reducible first | intro _ | apply Le.bind | apply Le.ite | apply Le.run | apply Le.elim | exact Le.refl _
attribute [irreducible] verb_kind_halt_c
noncomputable def verb_kind_turn_c (k : Nat) (a0 : Int) : Option (Gspec) :=
  (if a0 == 6 then some ([100, 97, 115, 104]) else some ([97, 105, 109])).bind fun (y106 : Str) => some (Gspec.mk y106 ([GOperand.mk ([116, 111]) 0 15]))
theorem verb_kind_turn_c.le {k : Nat} {a0 : Int} : Le (verb_kind_turn_c k a0) (verb_kind_turn a0) := by
  unfold verb_kind_turn_c verb_kind_turn
  repeat' with_reducible first | intro _ | apply Le.bind | apply Le.ite | apply Le.run | apply Le.elim | exact Le.refl _
attribute [irreducible] verb_kind_turn_c
noncomputable def verb_kind_fire_c (k : Nat) (a0 : Int) : Option (Gspec) :=
  some (Gspec.mk ([102, 105, 114, 101]) ([GOperand.mk ([112, 111, 119, 101, 114]) 1 3]))
theorem verb_kind_fire_c.le {k : Nat} {a0 : Int} : Le (verb_kind_fire_c k a0) (verb_kind_fire a0) := by
  unfold verb_kind_fire_c verb_kind_fire
  repeat' with_reducible first | intro _ | apply Le.bind | apply Le.ite | apply Le.run | apply Le.elim | exact Le.refl _
attribute [irreducible] verb_kind_fire_c
noncomputable def verb_kind_shield_c (k : Nat) (a0 : Int) : Option (Gspec) :=
  some (Gspec.mk ([115, 104, 105, 101, 108, 100]) ([GOperand.mk ([111, 110]) 0 1]))
theorem verb_kind_shield_c.le {k : Nat} {a0 : Int} : Le (verb_kind_shield_c k a0) (verb_kind_shield a0) := by
  unfold verb_kind_shield_c verb_kind_shield
  repeat' with_reducible first | intro _ | apply Le.bind | apply Le.ite | apply Le.run | apply Le.elim | exact Le.refl _
attribute [irreducible] verb_kind_shield_c
noncomputable def verb_kind_say_c (k : Nat) (a0 : Int) : Option (Gspec) :=
  some (Gspec.mk ([115, 97, 121]) ([GOperand.mk ([119, 104, 97, 116]) 0 255]))
theorem verb_kind_say_c.le {k : Nat} {a0 : Int} : Le (verb_kind_say_c k a0) (verb_kind_say a0) := by
  unfold verb_kind_say_c verb_kind_say
  repeat' with_reducible first | intro _ | apply Le.bind | apply Le.ite | apply Le.run | apply Le.elim | exact Le.refl _
attribute [irreducible] verb_kind_say_c
noncomputable def verb_specOf_c (k : Nat) (a0 : Int) : Option (Gspec × Bool) :=
  (some ()).bind fun (y105 : Unit) => if a0 == 7 then (verb_kind_say_c k a0).bind fun x116 => some (x116, true) else if a0 == 6 then (verb_kind_turn_c k a0).bind fun x126 => some (x126, true) else if a0 == 5 then (verb_kind_shield_c k a0).bind fun x136 => some (x136, true) else if a0 == 4 then (verb_kind_fire_c k a0).bind fun x146 => some (x146, true) else if a0 == 3 then (verb_kind_turn_c k a0).bind fun x156 => some (x156, true) else if a0 == 2 then (verb_kind_halt_c k a0).bind fun x166 => some (x166, true) else if a0 == 1 then (verb_kind_steer_c k a0).bind fun x176 => some (x176, true) else some (Gspec.mk ([]) ([] : List GOperand), false)
theorem verb_specOf_c.le {k : Nat} {a0 : Int} : Le (verb_specOf_c k a0) (verb_specOf a0) := by
  unfold verb_specOf_c verb_specOf
  repeat' with_reducible first | intro _ | apply Le.bind | apply Le.ite | apply Le.run | apply Le.elim | exact verb_kind_fire_c.le | exact verb_kind_halt_c.le | exact verb_kind_say_c.le | exact verb_kind_shield_c.le | exact verb_kind_steer_c.le | exact verb_kind_turn_c.le | exact Le.refl _
attribute [irreducible] verb_specOf_c
noncomputable def verb_Check_c (k : Nat) (a0 : GOrder) : Option (Int) :=
  (verb_specOf_c k a0.Verb).bind fun x105 => if !x105.2 then some 70 else (Loop.runC k (fun (s147 : Int) => if decide (s147 < 3) then (getI [a0.A, a0.B, a0.C] s147).bind fun (x155 : Int) => ((some (decide (s147 < (x105.1.f_operands.length : Int)))).bind fun (x163 : Bool) => if x163 then (getI x105.1.f_operands s147).bind fun (x166 : GOperand) => some x166 else some (GOperand.mk ([]) 0 0)).bind fun (y161 : GOperand) => (if decide (x155 < y161.Least) then some true else some (decide (x155 > y161.Most))).bind fun (y169 : Bool) => if y169 then some (.inr (.inr 71)) else some (.inl (W (s147 + 1))) else some (.inr ((.inl ())))) 0 : Option ((Unit) ⊕ _)).bind fun y118 => Sum.elim (fun (y119 : Unit) => some 0) some y118
theorem verb_Check_c.le {k : Nat} {a0 : GOrder} : Le (verb_Check_c k a0) (verb_Check a0) := by
  unfold verb_Check_c verb_Check
  repeat' with_reducible first | intro _ | apply Le.bind | apply Le.ite | apply Le.run | apply Le.elim | exact verb_specOf_c.le | exact Le.refl _
attribute [irreducible] verb_Check_c
noncomputable def verb_Print_c (k : Nat) (a0 : GOrder) : Option (Str × Int) :=
  (verb_Check_c k a0).bind fun x106 => if x106 != 0 then some ([], x106) else (verb_specOf_c k a0.Verb).bind fun x113 => (Loop.runC k (fun (s144 : Str × Int) => (some (decide (s144.2 < (x113.1.f_operands.length : Int)))).bind fun (x148 : Bool) => if x148 then (getI [a0.A, a0.B, a0.C] s144.2).bind fun (x154 : Int) => (lib_Itoa x154).bind fun x156 => (cat ([32]) x156).bind fun (x159 : Str) => (cat s144.1 x159).bind fun (x161 : Str) => some (.inl (x161, W (s144.2 + 1))) else some (.inr (s144.1))) (x113.1.f_name, 0)).bind fun (y123 : Str) => some (y123, 0)
theorem verb_Print_c.le {k : Nat} {a0 : GOrder} : Le (verb_Print_c k a0) (verb_Print a0) := by
  unfold verb_Print_c verb_Print
  repeat' with_reducible first | intro _ | apply Le.bind | apply Le.ite | apply Le.run | apply Le.elim | exact verb_Check_c.le | exact verb_specOf_c.le | exact Le.refl _
attribute [irreducible] verb_Print_c
noncomputable def verb_Parse_c (k : Nat) (a0 : Str) : Option (GOrder × Int) :=
  (lib_Split a0 ([32])).bind fun x105 => (Loop.runC k (fun (s191 : Int) => (if decide (s191 ≤ 7) then some (decide ((x105.length : Int) ≤ 4)) else some false).bind fun (y196 : Bool) => if y196 then (((must (decide (1 ≤ (x105.length : Int)))).bind fun _ => (some (((x105.drop (1 : Int).toNat).take (x105.length - (1 : Int).toNat)).length : Int)).bind fun (x210 : Int) => Loop.runC k (fun (s235 : Int × Int × Int × Int) => if decide (s235.1 < x210) then (getI ((x105.drop (1 : Int).toNat).take (x105.length - (1 : Int).toNat)) s235.1).bind fun (x243 : Str) => (lib_Atoi x243).bind fun x246 => if x246.2 then some (.inr (.inr (.inr (.inr (.inr (GOrder.mk 0 0 0 0, 72)))))) else if s235.1 == 0 then some (.inl (W (s235.1 + 1), x246.1, s235.2.2.1, s235.2.2.2)) else if s235.1 == 1 then some (.inl (W (s235.1 + 1), s235.2.1, x246.1, s235.2.2.2)) else if s235.1 == 2 then some (.inl (W (s235.1 + 1), s235.2.1, s235.2.2.1, x246.1)) else none else some (.inr ((.inl (s235.2.1, s235.2.2.1, s235.2.2.2))))) (0, 0, 0, 0) : Option ((Int × Int × Int) ⊕ _)).bind fun y206 => Sum.elim (fun (y207 : Int × Int × Int) => (verb_Print_c k (GOrder.mk s191 y207.1 y207.2.1 y207.2.2)).bind fun x259 => (if x259.2 == 0 then some (x259.1 == a0) else some false).bind fun (y263 : Bool) => if y263 then some (.inr (.inr (.inr (GOrder.mk s191 y207.1 y207.2.1 y207.2.2, 0)))) else some (.inl ())) some y206 : Option ((Unit) ⊕ _)).bind fun y200 => Sum.elim (fun (y201 : Unit) => some (.inl (W (s191 + 1)))) some y200 else some (.inr ((.inl ())))) 1 : Option ((Unit) ⊕ _)).bind fun y112 => Sum.elim (fun (y113 : Unit) => some (GOrder.mk 0 0 0 0, 72)) some y112
theorem verb_Parse_c.le {k : Nat} {a0 : Str} : Le (verb_Parse_c k a0) (verb_Parse a0) := by
  unfold verb_Parse_c verb_Parse
  repeat' with_reducible first | intro _ | apply Le.bind | apply Le.ite | apply Le.run | apply Le.elim | exact verb_Print_c.le | exact Le.refl _
attribute [irreducible] verb_Parse_c
noncomputable def verb_Count_c (k : Nat) : Option (Int) :=
  some 7
theorem verb_Count_c.le {k : Nat} : Le (verb_Count_c k) (verb_Count) := by
  unfold verb_Count_c verb_Count
  repeat' with_reducible first | intro _ | apply Le.bind | apply Le.ite | apply Le.run | apply Le.elim | exact Le.refl _
attribute [irreducible] verb_Count_c
noncomputable def verb_Name_c (k : Nat) (a0 : Int) : Option (Str) :=
  (verb_specOf_c k a0).bind fun x103 => some x103.1.f_name
theorem verb_Name_c.le {k : Nat} {a0 : Int} : Le (verb_Name_c k a0) (verb_Name a0) := by
  unfold verb_Name_c verb_Name
  repeat' with_reducible first | intro _ | apply Le.bind | apply Le.ite | apply Le.run | apply Le.elim | exact verb_specOf_c.le | exact Le.refl _
attribute [irreducible] verb_Name_c
noncomputable def echelonlaw07_awake_c (k : Nat) : Option (Bool) :=
  (verb_Parse_c k ([102, 105, 114, 101, 32, 50])).bind fun x103 => (verb_Print_c k (GOrder.mk 1 (-8) 8 0)).bind fun x109 => (verb_Check_c k (GOrder.mk 1 9 0 0)).bind fun x113 => ((verb_Count_c k).bind fun x118 => if x118 == 7 then (verb_Name_c k 1).bind fun x122 => if x122 == ([115, 116, 101, 101, 114]) then (some ((x103.1.Verb == 4) && ((x103.1.A == 2) && ((x103.1.B == 0) && ((x103.1.C == 0) && true))))).bind fun (x126 : Bool) => if x126 then if x103.2 == 0 then (some (x109.1 == ([115, 116, 101, 101, 114, 32, 45, 56, 32, 56]))).bind fun (x130 : Bool) => if x130 then if x109.2 == 0 then some (x113 == 71) else some false else some false else some false else some false else some false else some false).bind fun (y117 : Bool) => some y117
theorem echelonlaw07_awake_c.le {k : Nat} : Le (echelonlaw07_awake_c k) (echelonlaw07_awake) := by
  unfold echelonlaw07_awake_c echelonlaw07_awake
  repeat' with_reducible first | intro _ | apply Le.bind | apply Le.ite | apply Le.run | apply Le.elim | exact verb_Check_c.le | exact verb_Count_c.le | exact verb_Name_c.le | exact verb_Parse_c.le | exact verb_Print_c.le | exact Le.refl _
attribute [irreducible] echelonlaw07_awake_c
noncomputable def echelonref07_Is_c (k : Nat) (a0 : Int) : Option (Bool) :=
  (if decide (a0 ≥ 1) then some (decide (a0 ≤ 7)) else some false).bind fun (y103 : Bool) => some y103
theorem echelonref07_Is_c.le {k : Nat} {a0 : Int} : Le (echelonref07_Is_c k a0) (echelonref07_Is a0) := by
  unfold echelonref07_Is_c echelonref07_Is
  repeat' with_reducible first | intro _ | apply Le.bind | apply Le.ite | apply Le.run | apply Le.elim | exact Le.refl _
attribute [irreducible] echelonref07_Is_c
noncomputable def echelonref07_Operands_c (k : Nat) (a0 : Int) : Option (List GOperand) :=
  (echelonref07_Is_c k a0).bind fun x103 => (if !x103 then some true else (getI tab2 (W (a0 - 1))).bind fun (x110 : Str) => some (x110 == ([]))).bind fun (y108 : Bool) => if y108 then some ([] : List GOperand) else (getI tab2 (W (a0 - 1))).bind fun (x125 : Str) => (getI tab0 (W (a0 - 1))).bind fun (x127 : Int) => (getI tab1 (W (a0 - 1))).bind fun (x129 : Int) => (if a0 == 1 then (must (decide ((([GOperand.mk x125 x127 x129]).length + ([GOperand.mk ([121]) (-8) 8]).length) * 32 ≤ 140737488355328))).bind fun _ => some (([GOperand.mk x125 x127 x129]) ++ ([GOperand.mk ([121]) (-8) 8])) else some ([GOperand.mk x125 x127 x129])).bind fun (y135 : List GOperand) => some y135
theorem echelonref07_Operands_c.le {k : Nat} {a0 : Int} : Le (echelonref07_Operands_c k a0) (echelonref07_Operands a0) := by
  unfold echelonref07_Operands_c echelonref07_Operands
  repeat' with_reducible first | intro _ | apply Le.bind | apply Le.ite | apply Le.run | apply Le.elim | exact echelonref07_Is_c.le | exact Le.refl _
attribute [irreducible] echelonref07_Operands_c
noncomputable def echelonref07_Check_c (k : Nat) (a0 : GOrder) : Option (Int) :=
  (echelonref07_Is_c k a0.Verb).bind fun x105 => if !x105 then some 70 else (echelonref07_Operands_c k a0.Verb).bind fun x113 => (Loop.runC k (fun (s166 : Int) => if decide (s166 < 3) then (if decide (s166 ≥ (x113.length : Int)) then (must (([a0.A, a0.B, a0.C] : List Int).length == 3)).bind fun _ => (getI ([a0.A, a0.B, a0.C] : List Int) s166).bind fun (x176 : Int) => if x176 != 0 then some true else if decide (s166 < (x113.length : Int)) then (must (([a0.A, a0.B, a0.C] : List Int).length == 3)).bind fun _ => (getI ([a0.A, a0.B, a0.C] : List Int) s166).bind fun (x181 : Int) => (getI x113 s166).bind fun (x184 : GOperand) => if decide (x181 < x184.Least) then some true else (must (([a0.A, a0.B, a0.C] : List Int).length == 3)).bind fun _ => (getI ([a0.A, a0.B, a0.C] : List Int) s166).bind fun (x187 : Int) => (getI x113 s166).bind fun (x190 : GOperand) => some (decide (x187 > x190.Most)) else some false else if decide (s166 < (x113.length : Int)) then (must (([a0.A, a0.B, a0.C] : List Int).length == 3)).bind fun _ => (getI ([a0.A, a0.B, a0.C] : List Int) s166).bind fun (x193 : Int) => (getI x113 s166).bind fun (x196 : GOperand) => if decide (x193 < x196.Least) then some true else (must (([a0.A, a0.B, a0.C] : List Int).length == 3)).bind fun _ => (getI ([a0.A, a0.B, a0.C] : List Int) s166).bind fun (x199 : Int) => (getI x113 s166).bind fun (x202 : GOperand) => some (decide (x199 > x202.Most)) else some false).bind fun (y174 : Bool) => if y174 then some (.inr (.inr 71)) else some (.inl (W (s166 + 1))) else some (.inr ((.inl ())))) 0 : Option ((Unit) ⊕ _)).bind fun y123 => Sum.elim (fun (y124 : Unit) => some 0) some y123
theorem echelonref07_Check_c.le {k : Nat} {a0 : GOrder} : Le (echelonref07_Check_c k a0) (echelonref07_Check a0) := by
  unfold echelonref07_Check_c echelonref07_Check
  repeat' with_reducible first | intro _ | apply Le.bind | apply Le.ite | apply Le.run | apply Le.elim | exact echelonref07_Is_c.le | exact echelonref07_Operands_c.le | exact Le.refl _
attribute [irreducible] echelonref07_Check_c
noncomputable def echelonlaw07_VerbChecks_c (k : Nat) (a0 : GOrder) : Option (Bool) :=
  (echelonlaw07_awake_c k).bind fun x105 => (if x105 then (verb_Check_c k a0).bind fun x111 => (echelonref07_Check_c k a0).bind fun x113 => some (x111 == x113) else some false).bind fun (y109 : Bool) => some y109
theorem echelonlaw07_VerbChecks_c.le {k : Nat} {a0 : GOrder} : Le (echelonlaw07_VerbChecks_c k a0) (echelonlaw07_VerbChecks a0) := by
  unfold echelonlaw07_VerbChecks_c echelonlaw07_VerbChecks
  repeat' with_reducible first | intro _ | apply Le.bind | apply Le.ite | apply Le.run | apply Le.elim | exact echelonlaw07_awake_c.le | exact echelonref07_Check_c.le | exact verb_Check_c.le | exact Le.refl _
attribute [irreducible] echelonlaw07_VerbChecks_c
end Go.Proofs.YtflmncjhonmmhaaDoor.Vc
