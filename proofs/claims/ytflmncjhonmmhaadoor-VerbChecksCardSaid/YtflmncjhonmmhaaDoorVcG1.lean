/- Walks of functions, written by my program g2.py out of Lean's print. -/
import Derived.Test.YtflmncjhonmmhaaDoorProg
import Derived.Test.YtflmncjhonmmhaaDoorVcG0
namespace Go.Proofs.YtflmncjhonmmhaaDoor.Vc
open Go
set_option linter.unusedVariables false
set_option linter.unusedSimpArgs false
set_option maxRecDepth 4000
set_option maxHeartbeats 4000000
/-! (echelon/verb.kind).steer: function 112 -/
noncomputable def verb_kind_steer (a0 : Int) : Option (Gspec) :=
  some (Gspec.mk ([115, 116, 101, 101, 114]) ([GOperand.mk ([120]) (-8) 8, GOperand.mk ([121]) (-8) 8]))
theorem verb_kind_steer.ok {a0 : Int} {r : Gspec} {W0 : World} (F : verb_kind_steer a0 = some r) (hg : Gl W0) :
    Calls Tryd.prog 112 [(.int .i64 a0 : Value)].toArray W0 fun e w' => ∃ v, e = .returned v ∧ ∃ q0 d0, (v = .agg #[vS r.f_name, .slice q0 r.f_operands.length d0] ∧ H W0 (fun _ => False) w' [] [ASl 77 encGOperand q0 d0 r.f_operands]) := by
  unfold verb_kind_steer at F
  refine calls_body 7 Tryd.func112 rfl rfl rfl ?_
  have h := H.nil W0
  refine T.seq fun Kk101 k101 => ?_
  refine T.region ?_
  refine R.alloc rfl h zr116 (fun b102 w (h : H W0 (fun _ => False) w [] [ABox b102 116 #[vS ([]), .slice none 0 0]]) => R.nil (k101 _ _ ?_))
  refine T.seq fun Kk104 k104 => ?_
  refine T.region ?_
  refine R.bld rfl rfl (bd0 _ _ _) (R.bld rfl rfl (bd0 _ _ _) (R.litK (e := encGOperand) (xs := [GOperand.mk ([120]) (-8) 8, GOperand.mk ([121]) (-8) 8]) (vs := [.agg #[vS ([120]), .int .i64 (-8), .int .i64 8], .agg #[vS ([121]), .int .i64 (-8), .int .i64 8]]) rfl h u73 in77 rfl rfl rfl rfl rfl rfl (fun p105 c106 w h => R.bld rfl rfl (bd1 _ _ _ _) (R.stB (ds := [vS ([115, 116, 101, 101, 114]), .slice p105 ([GOperand.mk ([120]) (-8) 8, GOperand.mk ([121]) (-8) 8]).length c106]) 0 h rfl sz116 rfl rfl rfl rfl rfl (fun w (h : H W0 (fun _ => False) w [] [ABox b102 116 #[vS ([115, 116, 101, 101, 114]), .slice p105 ([GOperand.mk ([120]) (-8) 8, GOperand.mk ([121]) (-8) 8]).length c106], ASl 77 encGOperand p105 c106 ([GOperand.mk ([120]) (-8) 8, GOperand.mk ([121]) (-8) 8])]) => R.nil (k104 _ _ ?_))))))
  obtain rfl := Option.some.inj F
  refine T.ret (retG (vs := [.agg #[vS ([115, 116, 101, 101, 114]), .slice p105 ([GOperand.mk ([120]) (-8) 8, GOperand.mk ([121]) (-8) 8]).length c106]]) [.cell 2 116] rfl ⟨⟨_, rfl, h.loadBox 0 rfl sh116⟩, trivial⟩ ⟨_, _, rfl, ((h.sel [1] rfl (by decide))).out⟩)
attribute [irreducible] verb_kind_steer

/-! (echelon/verb.kind).halt: function 113 -/
noncomputable def verb_kind_halt (a0 : Int) : Option (Gspec) :=
  some (Gspec.mk ([104, 97, 108, 116]) ([] : List GOperand))
theorem verb_kind_halt.ok {a0 : Int} {r : Gspec} {W0 : World} (F : verb_kind_halt a0 = some r) (hg : Gl W0) :
    Calls Tryd.prog 113 [(.int .i64 a0 : Value)].toArray W0 fun e w' => ∃ v, e = .returned v ∧ ∃ q0 d0, (v = .agg #[vS r.f_name, .slice q0 r.f_operands.length d0] ∧ H W0 (fun _ => False) w' [] [ASl 77 encGOperand q0 d0 r.f_operands]) := by
  unfold verb_kind_halt at F
  refine calls_body 4 Tryd.func113 rfl rfl rfl ?_
  have h := H.nil W0
  refine T.seq fun Kk101 k101 => ?_
  refine T.region ?_
  refine R.alloc rfl h zr116 (fun b102 w (h : H W0 (fun _ => False) w [] [ABox b102 116 #[vS ([]), .slice none 0 0]]) => R.nil (k101 _ _ ?_))
  refine T.seq fun Kk104 k104 => ?_
  refine T.region ?_
  refine R.bld rfl rfl (bd2 _) (R.stB (ds := [vS ([104, 97, 108, 116]), .slice none 0 0]) 0 h rfl sz116 rfl rfl rfl rfl rfl (fun w (h : H W0 (fun _ => False) w [] [ABox b102 116 #[vS ([104, 97, 108, 116]), .slice none 0 0]]) => R.nil (k104 _ _ ?_)))
  obtain rfl := Option.some.inj F
  replace h := h.nilSl 77 encGOperand
  refine T.ret (retG (vs := [.agg #[vS ([104, 97, 108, 116]), .slice none ([] : List GOperand).length 0]]) [.cell 2 116] rfl ⟨⟨_, rfl, h.loadBox 0 rfl sh116⟩, trivial⟩ ⟨_, _, rfl, ((h.sel [1] rfl (by decide))).out⟩)
attribute [irreducible] verb_kind_halt

/-! (echelon/verb.kind).turn: function 114 -/
noncomputable def verb_kind_turn (a0 : Int) : Option (Gspec) :=
  (if a0 == 6 then some ([100, 97, 115, 104]) else some ([97, 105, 109])).bind fun (y106 : Str) => some (Gspec.mk y106 ([GOperand.mk ([116, 111]) 0 15]))
theorem verb_kind_turn.ok {a0 : Int} {r : Gspec} {W0 : World} (F : verb_kind_turn a0 = some r) (hg : Gl W0) :
    Calls Tryd.prog 114 [(.int .i64 a0 : Value)].toArray W0 fun e w' => ∃ v, e = .returned v ∧ ∃ q0 d0, (v = .agg #[vS r.f_name, .slice q0 r.f_operands.length d0] ∧ H W0 (fun _ => False) w' [] [ASl 77 encGOperand q0 d0 r.f_operands]) := by
  unfold verb_kind_turn at F
  refine calls_body 10 Tryd.func114 rfl rfl rfl ?_
  have h := H.nil W0
  refine T.seq fun Kk101 k101 => ?_
  refine T.region ?_
  refine R.alloc rfl h zr116 (fun b102 w (h : H W0 (fun _ => False) w [] [ABox b102 116 #[vS ([]), .slice none 0 0]]) => R.nil (k101 _ _ ?_))
  refine T.seq fun Kk104 k104 => ?_
  refine T.region ?_
  refine R.as rfl rfl (R.nil (k104 _ _ ?_))
  obtain ⟨y106, F, E105⟩ := Option.bind_eq_some_iff.1 F
  refine T.cut (fun a w => Agr 10 [(2, .pointer (some ⟨b102, 0, none⟩)), (3, vS y106)] a ∧ H W0 (fun _ => False) w [] [ABox b102 116 #[vS ([]), .slice none 0 0]]) ?_ ?_
  · refine T.seq fun Kk107 k107 => ?_
    refine T.region ?_
    refine R.mv rfl rfl (R.ib rfl rfl rfl rfl (R.nil (k107 _ _ ?_)))
    refine T.cond rfl (fun c108 => ?_) (fun c108 => ?_)
    · replace F := (ifT c108).symm.trans F
      refine T.region ?_
      obtain rfl := Option.some.inj F
      refine R.as rfl rfl (R.nil (fun a ha => ⟨ha.sub ⟨rfl, rfl, trivial⟩, h⟩))
    · replace F := (ifF c108).symm.trans F
      obtain rfl := Option.some.inj F
      refine T.skip (fun a ha => ⟨ha.sub ⟨rfl, rfl, trivial⟩, h⟩)
  · clear F
    rintro a w ⟨ha, h⟩
    refine T.use ?_ ha
    have F := E105
    refine T.seq fun Kk109 k109 => ?_
    refine T.region ?_
    refine R.mv rfl rfl (R.bld rfl rfl (bd3 _ _) (R.litK (e := encGOperand) (xs := [GOperand.mk ([116, 111]) 0 15]) (vs := [.agg #[vS ([116, 111]), .int .i64 0, .int .i64 15]]) rfl h u73 in77 rfl rfl rfl rfl rfl rfl (fun p110 c111 w h => R.bld rfl rfl (bd1 _ _ _ _) (R.stB (ds := [vS y106, .slice p110 ([GOperand.mk ([116, 111]) 0 15]).length c111]) 0 h rfl sz116 rfl rfl rfl rfl rfl (fun w (h : H W0 (fun _ => False) w [] [ABox b102 116 #[vS y106, .slice p110 ([GOperand.mk ([116, 111]) 0 15]).length c111], ASl 77 encGOperand p110 c111 ([GOperand.mk ([116, 111]) 0 15])]) => R.nil (k109 _ _ ?_))))))
    obtain rfl := Option.some.inj F
    refine T.ret (retG (vs := [.agg #[vS y106, .slice p110 ([GOperand.mk ([116, 111]) 0 15]).length c111]]) [.cell 2 116] rfl ⟨⟨_, rfl, h.loadBox 0 rfl sh116⟩, trivial⟩ ⟨_, _, rfl, ((h.sel [1] rfl (by decide))).out⟩)
attribute [irreducible] verb_kind_turn

/-! (echelon/verb.kind).fire: function 115 -/
noncomputable def verb_kind_fire (a0 : Int) : Option (Gspec) :=
  some (Gspec.mk ([102, 105, 114, 101]) ([GOperand.mk ([112, 111, 119, 101, 114]) 1 3]))
theorem verb_kind_fire.ok {a0 : Int} {r : Gspec} {W0 : World} (F : verb_kind_fire a0 = some r) (hg : Gl W0) :
    Calls Tryd.prog 115 [(.int .i64 a0 : Value)].toArray W0 fun e w' => ∃ v, e = .returned v ∧ ∃ q0 d0, (v = .agg #[vS r.f_name, .slice q0 r.f_operands.length d0] ∧ H W0 (fun _ => False) w' [] [ASl 77 encGOperand q0 d0 r.f_operands]) := by
  unfold verb_kind_fire at F
  refine calls_body 6 Tryd.func115 rfl rfl rfl ?_
  have h := H.nil W0
  refine T.seq fun Kk101 k101 => ?_
  refine T.region ?_
  refine R.alloc rfl h zr116 (fun b102 w (h : H W0 (fun _ => False) w [] [ABox b102 116 #[vS ([]), .slice none 0 0]]) => R.nil (k101 _ _ ?_))
  refine T.seq fun Kk104 k104 => ?_
  refine T.region ?_
  refine R.bld rfl rfl (bd0 _ _ _) (R.litK (e := encGOperand) (xs := [GOperand.mk ([112, 111, 119, 101, 114]) 1 3]) (vs := [.agg #[vS ([112, 111, 119, 101, 114]), .int .i64 1, .int .i64 3]]) rfl h u73 in77 rfl rfl rfl rfl rfl rfl (fun p105 c106 w h => R.bld rfl rfl (bd1 _ _ _ _) (R.stB (ds := [vS ([102, 105, 114, 101]), .slice p105 ([GOperand.mk ([112, 111, 119, 101, 114]) 1 3]).length c106]) 0 h rfl sz116 rfl rfl rfl rfl rfl (fun w (h : H W0 (fun _ => False) w [] [ABox b102 116 #[vS ([102, 105, 114, 101]), .slice p105 ([GOperand.mk ([112, 111, 119, 101, 114]) 1 3]).length c106], ASl 77 encGOperand p105 c106 ([GOperand.mk ([112, 111, 119, 101, 114]) 1 3])]) => R.nil (k104 _ _ ?_)))))
  obtain rfl := Option.some.inj F
  refine T.ret (retG (vs := [.agg #[vS ([102, 105, 114, 101]), .slice p105 ([GOperand.mk ([112, 111, 119, 101, 114]) 1 3]).length c106]]) [.cell 2 116] rfl ⟨⟨_, rfl, h.loadBox 0 rfl sh116⟩, trivial⟩ ⟨_, _, rfl, ((h.sel [1] rfl (by decide))).out⟩)
attribute [irreducible] verb_kind_fire

/-! (echelon/verb.kind).shield: function 116 -/
noncomputable def verb_kind_shield (a0 : Int) : Option (Gspec) :=
  some (Gspec.mk ([115, 104, 105, 101, 108, 100]) ([GOperand.mk ([111, 110]) 0 1]))
theorem verb_kind_shield.ok {a0 : Int} {r : Gspec} {W0 : World} (F : verb_kind_shield a0 = some r) (hg : Gl W0) :
    Calls Tryd.prog 116 [(.int .i64 a0 : Value)].toArray W0 fun e w' => ∃ v, e = .returned v ∧ ∃ q0 d0, (v = .agg #[vS r.f_name, .slice q0 r.f_operands.length d0] ∧ H W0 (fun _ => False) w' [] [ASl 77 encGOperand q0 d0 r.f_operands]) := by
  unfold verb_kind_shield at F
  refine calls_body 6 Tryd.func116 rfl rfl rfl ?_
  have h := H.nil W0
  refine T.seq fun Kk101 k101 => ?_
  refine T.region ?_
  refine R.alloc rfl h zr116 (fun b102 w (h : H W0 (fun _ => False) w [] [ABox b102 116 #[vS ([]), .slice none 0 0]]) => R.nil (k101 _ _ ?_))
  refine T.seq fun Kk104 k104 => ?_
  refine T.region ?_
  refine R.bld rfl rfl (bd3 _ _) (R.litK (e := encGOperand) (xs := [GOperand.mk ([111, 110]) 0 1]) (vs := [.agg #[vS ([111, 110]), .int .i64 0, .int .i64 1]]) rfl h u73 in77 rfl rfl rfl rfl rfl rfl (fun p105 c106 w h => R.bld rfl rfl (bd1 _ _ _ _) (R.stB (ds := [vS ([115, 104, 105, 101, 108, 100]), .slice p105 ([GOperand.mk ([111, 110]) 0 1]).length c106]) 0 h rfl sz116 rfl rfl rfl rfl rfl (fun w (h : H W0 (fun _ => False) w [] [ABox b102 116 #[vS ([115, 104, 105, 101, 108, 100]), .slice p105 ([GOperand.mk ([111, 110]) 0 1]).length c106], ASl 77 encGOperand p105 c106 ([GOperand.mk ([111, 110]) 0 1])]) => R.nil (k104 _ _ ?_)))))
  obtain rfl := Option.some.inj F
  refine T.ret (retG (vs := [.agg #[vS ([115, 104, 105, 101, 108, 100]), .slice p105 ([GOperand.mk ([111, 110]) 0 1]).length c106]]) [.cell 2 116] rfl ⟨⟨_, rfl, h.loadBox 0 rfl sh116⟩, trivial⟩ ⟨_, _, rfl, ((h.sel [1] rfl (by decide))).out⟩)
attribute [irreducible] verb_kind_shield

/-! (echelon/verb.kind).say: function 117 -/
noncomputable def verb_kind_say (a0 : Int) : Option (Gspec) :=
  some (Gspec.mk ([115, 97, 121]) ([GOperand.mk ([119, 104, 97, 116]) 0 255]))
theorem verb_kind_say.ok {a0 : Int} {r : Gspec} {W0 : World} (F : verb_kind_say a0 = some r) (hg : Gl W0) :
    Calls Tryd.prog 117 [(.int .i64 a0 : Value)].toArray W0 fun e w' => ∃ v, e = .returned v ∧ ∃ q0 d0, (v = .agg #[vS r.f_name, .slice q0 r.f_operands.length d0] ∧ H W0 (fun _ => False) w' [] [ASl 77 encGOperand q0 d0 r.f_operands]) := by
  unfold verb_kind_say at F
  refine calls_body 6 Tryd.func117 rfl rfl rfl ?_
  have h := H.nil W0
  refine T.seq fun Kk101 k101 => ?_
  refine T.region ?_
  refine R.alloc rfl h zr116 (fun b102 w (h : H W0 (fun _ => False) w [] [ABox b102 116 #[vS ([]), .slice none 0 0]]) => R.nil (k101 _ _ ?_))
  refine T.seq fun Kk104 k104 => ?_
  refine T.region ?_
  refine R.bld rfl rfl (bd3 _ _) (R.litK (e := encGOperand) (xs := [GOperand.mk ([119, 104, 97, 116]) 0 255]) (vs := [.agg #[vS ([119, 104, 97, 116]), .int .i64 0, .int .i64 255]]) rfl h u73 in77 rfl rfl rfl rfl rfl rfl (fun p105 c106 w h => R.bld rfl rfl (bd1 _ _ _ _) (R.stB (ds := [vS ([115, 97, 121]), .slice p105 ([GOperand.mk ([119, 104, 97, 116]) 0 255]).length c106]) 0 h rfl sz116 rfl rfl rfl rfl rfl (fun w (h : H W0 (fun _ => False) w [] [ABox b102 116 #[vS ([115, 97, 121]), .slice p105 ([GOperand.mk ([119, 104, 97, 116]) 0 255]).length c106], ASl 77 encGOperand p105 c106 ([GOperand.mk ([119, 104, 97, 116]) 0 255])]) => R.nil (k104 _ _ ?_)))))
  obtain rfl := Option.some.inj F
  refine T.ret (retG (vs := [.agg #[vS ([115, 97, 121]), .slice p105 ([GOperand.mk ([119, 104, 97, 116]) 0 255]).length c106]]) [.cell 2 116] rfl ⟨⟨_, rfl, h.loadBox 0 rfl sh116⟩, trivial⟩ ⟨_, _, rfl, ((h.sel [1] rfl (by decide))).out⟩)
attribute [irreducible] verb_kind_say

/-! echelon/verb.specOf: function 62 -/
noncomputable def verb_specOf (a0 : Int) : Option (Gspec × Bool) :=
  (some ()).bind fun (y105 : Unit) => if a0 == 7 then (verb_kind_say a0).bind fun x116 => some (x116, true) else if a0 == 6 then (verb_kind_turn a0).bind fun x126 => some (x126, true) else if a0 == 5 then (verb_kind_shield a0).bind fun x136 => some (x136, true) else if a0 == 4 then (verb_kind_fire a0).bind fun x146 => some (x146, true) else if a0 == 3 then (verb_kind_turn a0).bind fun x156 => some (x156, true) else if a0 == 2 then (verb_kind_halt a0).bind fun x166 => some (x166, true) else if a0 == 1 then (verb_kind_steer a0).bind fun x176 => some (x176, true) else some (Gspec.mk ([]) ([] : List GOperand), false)
theorem verb_specOf.ok {a0 : Int} {r : Gspec × Bool} {W0 : World} (F : verb_specOf a0 = some r) (hg : Gl W0) :
    Calls Tryd.prog 62 [(.int .i64 a0 : Value)].toArray W0 fun e w' => ∃ v, e = .returned v ∧ ∃ q0 d0, (v = .tuple #[.agg #[vS r.1.f_name, .slice q0 r.1.f_operands.length d0], .bool r.2] ∧ H W0 (fun _ => False) w' [] [ASl 77 encGOperand q0 d0 r.1.f_operands]) := by
  unfold verb_specOf at F
  refine calls_body 18 Tryd.func62 rfl rfl rfl ?_
  have h := H.nil W0
  refine T.seq fun Kk101 k101 => ?_
  refine T.region ?_
  refine R.alloc rfl h zr116 (fun b102 w (h : H W0 (fun _ => False) w [] [ABox b102 116 #[vS ([]), .slice none 0 0]]) => R.as rfl rfl (R.nil (k101 _ _ ?_)))
  refine T.seq fun Kk104 k104 => ?_
  refine T.region ?_
  obtain ⟨y105, F, E106⟩ := Option.bind_eq_some_iff.1 F
  refine R.callC (fl := []) (cl := []) (Z := fun v w => ∃ b111, v = .map (some b111) ∧ H W0 (fun _ => False) w [] [ABox b102 116 #[vS ([]), .slice none 0 0], AMapF b111 (putK true 7 (vfn 117) (putK true 6 (vfn 114) (putK true 5 (vfn 116) (putK true 4 (vfn 115) (putK true 3 (vfn 114) (putK true 2 (vfn 113) (putK true 1 (vfn 112) noneK)))))))]) rfl cf95 rfl rfl ?_ ?_
  · refine calls_body 3 Tryd.func95 rfl rfl rfl ?_
    refine T.seq fun Kk107 k107 => ?_
    refine T.region ?_
    refine R.as rfl rfl (R.nil (k107 _ _ ?_))
    refine T.seq fun Kk108 k108 => ?_
    refine T.region ?_
    refine R.mkMapF rfl h (fun b109 w h => R.insF 1 h rfl u139 uk139 rfl rfl rfl rfl putK_new (fun w h => R.insF 1 h rfl u139 uk139 rfl rfl rfl rfl putK_new (fun w h => R.insF 1 h rfl u139 uk139 rfl rfl rfl rfl putK_new (fun w h => R.insF 1 h rfl u139 uk139 rfl rfl rfl rfl putK_new (fun w h => R.insF 1 h rfl u139 uk139 rfl rfl rfl rfl putK_new (fun w h => R.insF 1 h rfl u139 uk139 rfl rfl rfl rfl putK_new (fun w h => R.insF 1 h rfl u139 uk139 rfl rfl rfl rfl putK_new (fun w h => R.mv rfl rfl (R.as rfl rfl (R.nil (k108 _ _ ?_)))))))))))
    obtain rfl := Option.some.inj F
    refine T.ret (retG (vs := [.map (some b109)]) [.tmp 0] rfl ⟨rfl, trivial⟩ ⟨_, rfl, h⟩)
  · clear F h
    rintro v w ⟨b111, rfl, h⟩
    have F := E106
    refine R.mv rfl rfl (?_)
    refine bsplit (a0 == 7) (fun c112 => ?_) (fun c112 => ?_)
    · replace F := (ifT c112).symm.trans F
      refine R.lkFOY 1 rfl h rfl u139 uk139 rfl rfl (putK_eq c112) (R.mv rfl rfl (R.ext rfl rfl rfl (R.ext rfl rfl rfl (R.as rfl rfl (R.as rfl rfl (R.nil (k104 _ _ ?_)))))))
      refine T.seq fun Kk113 k113 => ?_
      refine T.seq fun Kk114 k114 => ?_
      refine T.region ?_
      refine R.mv rfl rfl (R.not rfl rfl (R.nil (k114 _ _ ?_)))
      refine T.cF rfl rfl ?_
      refine T.skip (k113 _ _ ?_)
      refine T.seq fun Kk115 k115 => ?_
      refine T.region ?_
      obtain ⟨x116, e117, F⟩ := Option.bind_eq_some_iff.1 F
      refine R.mv rfl rfl (R.mv rfl rfl (R.callC (fl := []) (cl := []) rfl cf117 rfl rfl (verb_kind_say.ok e117 (hg.fr0 h.fr0)) (?_)))
      rintro _ w ⟨p118, c119, rfl, g120⟩
      replace h := h.join g120
      refine R.stB (ds := [vS x116.f_name, .slice p118 x116.f_operands.length c119]) 0 h rfl sz116 rfl rfl rfl rfl rfl (fun w (h : H W0 (fun _ => False) w [] [ABox b102 116 #[vS x116.f_name, .slice p118 x116.f_operands.length c119], AMapF b111 (putK true 7 (vfn 117) (putK true 6 (vfn 114) (putK true 5 (vfn 116) (putK true 4 (vfn 115) (putK true 3 (vfn 114) (putK true 2 (vfn 113) (putK true 1 (vfn 112) noneK))))))), ASl 77 encGOperand p118 c119 x116.f_operands]) => R.as rfl rfl (R.nil (k115 _ _ ?_)))
      obtain rfl := Option.some.inj F
      refine T.ret (retG (vs := [.agg #[vS x116.f_name, .slice p118 x116.f_operands.length c119], .bool true]) [.cell 2 116, .tmp 3] rfl ⟨⟨_, rfl, h.loadBox 0 rfl sh116⟩, rfl, trivial⟩ ⟨_, _, rfl, ((h.sel [2] rfl (by decide))).out⟩)
    · replace F := (ifF c112).symm.trans F
      refine bsplit (a0 == 6) (fun c122 => ?_) (fun c122 => ?_)
      · replace F := (ifT c122).symm.trans F
        refine R.lkFOY 1 rfl h rfl u139 uk139 rfl rfl (putK_ne c112 (putK_eq c122)) (R.mv rfl rfl (R.ext rfl rfl rfl (R.ext rfl rfl rfl (R.as rfl rfl (R.as rfl rfl (R.nil (k104 _ _ ?_)))))))
        refine T.seq fun Kk123 k123 => ?_
        refine T.seq fun Kk124 k124 => ?_
        refine T.region ?_
        refine R.mv rfl rfl (R.not rfl rfl (R.nil (k124 _ _ ?_)))
        refine T.cF rfl rfl ?_
        refine T.skip (k123 _ _ ?_)
        refine T.seq fun Kk125 k125 => ?_
        refine T.region ?_
        obtain ⟨x126, e127, F⟩ := Option.bind_eq_some_iff.1 F
        refine R.mv rfl rfl (R.mv rfl rfl (R.callC (fl := []) (cl := []) rfl cf114 rfl rfl (verb_kind_turn.ok e127 (hg.fr0 h.fr0)) (?_)))
        rintro _ w ⟨p128, c129, rfl, g130⟩
        replace h := h.join g130
        refine R.stB (ds := [vS x126.f_name, .slice p128 x126.f_operands.length c129]) 0 h rfl sz116 rfl rfl rfl rfl rfl (fun w (h : H W0 (fun _ => False) w [] [ABox b102 116 #[vS x126.f_name, .slice p128 x126.f_operands.length c129], AMapF b111 (putK true 7 (vfn 117) (putK true 6 (vfn 114) (putK true 5 (vfn 116) (putK true 4 (vfn 115) (putK true 3 (vfn 114) (putK true 2 (vfn 113) (putK true 1 (vfn 112) noneK))))))), ASl 77 encGOperand p128 c129 x126.f_operands]) => R.as rfl rfl (R.nil (k125 _ _ ?_)))
        obtain rfl := Option.some.inj F
        refine T.ret (retG (vs := [.agg #[vS x126.f_name, .slice p128 x126.f_operands.length c129], .bool true]) [.cell 2 116, .tmp 3] rfl ⟨⟨_, rfl, h.loadBox 0 rfl sh116⟩, rfl, trivial⟩ ⟨_, _, rfl, ((h.sel [2] rfl (by decide))).out⟩)
      · replace F := (ifF c122).symm.trans F
        refine bsplit (a0 == 5) (fun c132 => ?_) (fun c132 => ?_)
        · replace F := (ifT c132).symm.trans F
          refine R.lkFOY 1 rfl h rfl u139 uk139 rfl rfl (putK_ne c112 (putK_ne c122 (putK_eq c132))) (R.mv rfl rfl (R.ext rfl rfl rfl (R.ext rfl rfl rfl (R.as rfl rfl (R.as rfl rfl (R.nil (k104 _ _ ?_)))))))
          refine T.seq fun Kk133 k133 => ?_
          refine T.seq fun Kk134 k134 => ?_
          refine T.region ?_
          refine R.mv rfl rfl (R.not rfl rfl (R.nil (k134 _ _ ?_)))
          refine T.cF rfl rfl ?_
          refine T.skip (k133 _ _ ?_)
          refine T.seq fun Kk135 k135 => ?_
          refine T.region ?_
          obtain ⟨x136, e137, F⟩ := Option.bind_eq_some_iff.1 F
          refine R.mv rfl rfl (R.mv rfl rfl (R.callC (fl := []) (cl := []) rfl cf116 rfl rfl (verb_kind_shield.ok e137 (hg.fr0 h.fr0)) (?_)))
          rintro _ w ⟨p138, c139, rfl, g140⟩
          replace h := h.join g140
          refine R.stB (ds := [vS x136.f_name, .slice p138 x136.f_operands.length c139]) 0 h rfl sz116 rfl rfl rfl rfl rfl (fun w (h : H W0 (fun _ => False) w [] [ABox b102 116 #[vS x136.f_name, .slice p138 x136.f_operands.length c139], AMapF b111 (putK true 7 (vfn 117) (putK true 6 (vfn 114) (putK true 5 (vfn 116) (putK true 4 (vfn 115) (putK true 3 (vfn 114) (putK true 2 (vfn 113) (putK true 1 (vfn 112) noneK))))))), ASl 77 encGOperand p138 c139 x136.f_operands]) => R.as rfl rfl (R.nil (k135 _ _ ?_)))
          obtain rfl := Option.some.inj F
          refine T.ret (retG (vs := [.agg #[vS x136.f_name, .slice p138 x136.f_operands.length c139], .bool true]) [.cell 2 116, .tmp 3] rfl ⟨⟨_, rfl, h.loadBox 0 rfl sh116⟩, rfl, trivial⟩ ⟨_, _, rfl, ((h.sel [2] rfl (by decide))).out⟩)
        · replace F := (ifF c132).symm.trans F
          refine bsplit (a0 == 4) (fun c142 => ?_) (fun c142 => ?_)
          · replace F := (ifT c142).symm.trans F
            refine R.lkFOY 1 rfl h rfl u139 uk139 rfl rfl (putK_ne c112 (putK_ne c122 (putK_ne c132 (putK_eq c142)))) (R.mv rfl rfl (R.ext rfl rfl rfl (R.ext rfl rfl rfl (R.as rfl rfl (R.as rfl rfl (R.nil (k104 _ _ ?_)))))))
            refine T.seq fun Kk143 k143 => ?_
            refine T.seq fun Kk144 k144 => ?_
            refine T.region ?_
            refine R.mv rfl rfl (R.not rfl rfl (R.nil (k144 _ _ ?_)))
            refine T.cF rfl rfl ?_
            refine T.skip (k143 _ _ ?_)
            refine T.seq fun Kk145 k145 => ?_
            refine T.region ?_
            obtain ⟨x146, e147, F⟩ := Option.bind_eq_some_iff.1 F
            refine R.mv rfl rfl (R.mv rfl rfl (R.callC (fl := []) (cl := []) rfl cf115 rfl rfl (verb_kind_fire.ok e147 (hg.fr0 h.fr0)) (?_)))
            rintro _ w ⟨p148, c149, rfl, g150⟩
            replace h := h.join g150
            refine R.stB (ds := [vS x146.f_name, .slice p148 x146.f_operands.length c149]) 0 h rfl sz116 rfl rfl rfl rfl rfl (fun w (h : H W0 (fun _ => False) w [] [ABox b102 116 #[vS x146.f_name, .slice p148 x146.f_operands.length c149], AMapF b111 (putK true 7 (vfn 117) (putK true 6 (vfn 114) (putK true 5 (vfn 116) (putK true 4 (vfn 115) (putK true 3 (vfn 114) (putK true 2 (vfn 113) (putK true 1 (vfn 112) noneK))))))), ASl 77 encGOperand p148 c149 x146.f_operands]) => R.as rfl rfl (R.nil (k145 _ _ ?_)))
            obtain rfl := Option.some.inj F
            refine T.ret (retG (vs := [.agg #[vS x146.f_name, .slice p148 x146.f_operands.length c149], .bool true]) [.cell 2 116, .tmp 3] rfl ⟨⟨_, rfl, h.loadBox 0 rfl sh116⟩, rfl, trivial⟩ ⟨_, _, rfl, ((h.sel [2] rfl (by decide))).out⟩)
          · replace F := (ifF c142).symm.trans F
            refine bsplit (a0 == 3) (fun c152 => ?_) (fun c152 => ?_)
            · replace F := (ifT c152).symm.trans F
              refine R.lkFOY 1 rfl h rfl u139 uk139 rfl rfl (putK_ne c112 (putK_ne c122 (putK_ne c132 (putK_ne c142 (putK_eq c152))))) (R.mv rfl rfl (R.ext rfl rfl rfl (R.ext rfl rfl rfl (R.as rfl rfl (R.as rfl rfl (R.nil (k104 _ _ ?_)))))))
              refine T.seq fun Kk153 k153 => ?_
              refine T.seq fun Kk154 k154 => ?_
              refine T.region ?_
              refine R.mv rfl rfl (R.not rfl rfl (R.nil (k154 _ _ ?_)))
              refine T.cF rfl rfl ?_
              refine T.skip (k153 _ _ ?_)
              refine T.seq fun Kk155 k155 => ?_
              refine T.region ?_
              obtain ⟨x156, e157, F⟩ := Option.bind_eq_some_iff.1 F
              refine R.mv rfl rfl (R.mv rfl rfl (R.callC (fl := []) (cl := []) rfl cf114 rfl rfl (verb_kind_turn.ok e157 (hg.fr0 h.fr0)) (?_)))
              rintro _ w ⟨p158, c159, rfl, g160⟩
              replace h := h.join g160
              refine R.stB (ds := [vS x156.f_name, .slice p158 x156.f_operands.length c159]) 0 h rfl sz116 rfl rfl rfl rfl rfl (fun w (h : H W0 (fun _ => False) w [] [ABox b102 116 #[vS x156.f_name, .slice p158 x156.f_operands.length c159], AMapF b111 (putK true 7 (vfn 117) (putK true 6 (vfn 114) (putK true 5 (vfn 116) (putK true 4 (vfn 115) (putK true 3 (vfn 114) (putK true 2 (vfn 113) (putK true 1 (vfn 112) noneK))))))), ASl 77 encGOperand p158 c159 x156.f_operands]) => R.as rfl rfl (R.nil (k155 _ _ ?_)))
              obtain rfl := Option.some.inj F
              refine T.ret (retG (vs := [.agg #[vS x156.f_name, .slice p158 x156.f_operands.length c159], .bool true]) [.cell 2 116, .tmp 3] rfl ⟨⟨_, rfl, h.loadBox 0 rfl sh116⟩, rfl, trivial⟩ ⟨_, _, rfl, ((h.sel [2] rfl (by decide))).out⟩)
            · replace F := (ifF c152).symm.trans F
              refine bsplit (a0 == 2) (fun c162 => ?_) (fun c162 => ?_)
              · replace F := (ifT c162).symm.trans F
                refine R.lkFOY 1 rfl h rfl u139 uk139 rfl rfl (putK_ne c112 (putK_ne c122 (putK_ne c132 (putK_ne c142 (putK_ne c152 (putK_eq c162)))))) (R.mv rfl rfl (R.ext rfl rfl rfl (R.ext rfl rfl rfl (R.as rfl rfl (R.as rfl rfl (R.nil (k104 _ _ ?_)))))))
                refine T.seq fun Kk163 k163 => ?_
                refine T.seq fun Kk164 k164 => ?_
                refine T.region ?_
                refine R.mv rfl rfl (R.not rfl rfl (R.nil (k164 _ _ ?_)))
                refine T.cF rfl rfl ?_
                refine T.skip (k163 _ _ ?_)
                refine T.seq fun Kk165 k165 => ?_
                refine T.region ?_
                obtain ⟨x166, e167, F⟩ := Option.bind_eq_some_iff.1 F
                refine R.mv rfl rfl (R.mv rfl rfl (R.callC (fl := []) (cl := []) rfl cf113 rfl rfl (verb_kind_halt.ok e167 (hg.fr0 h.fr0)) (?_)))
                rintro _ w ⟨p168, c169, rfl, g170⟩
                replace h := h.join g170
                refine R.stB (ds := [vS x166.f_name, .slice p168 x166.f_operands.length c169]) 0 h rfl sz116 rfl rfl rfl rfl rfl (fun w (h : H W0 (fun _ => False) w [] [ABox b102 116 #[vS x166.f_name, .slice p168 x166.f_operands.length c169], AMapF b111 (putK true 7 (vfn 117) (putK true 6 (vfn 114) (putK true 5 (vfn 116) (putK true 4 (vfn 115) (putK true 3 (vfn 114) (putK true 2 (vfn 113) (putK true 1 (vfn 112) noneK))))))), ASl 77 encGOperand p168 c169 x166.f_operands]) => R.as rfl rfl (R.nil (k165 _ _ ?_)))
                obtain rfl := Option.some.inj F
                refine T.ret (retG (vs := [.agg #[vS x166.f_name, .slice p168 x166.f_operands.length c169], .bool true]) [.cell 2 116, .tmp 3] rfl ⟨⟨_, rfl, h.loadBox 0 rfl sh116⟩, rfl, trivial⟩ ⟨_, _, rfl, ((h.sel [2] rfl (by decide))).out⟩)
              · replace F := (ifF c162).symm.trans F
                refine bsplit (a0 == 1) (fun c172 => ?_) (fun c172 => ?_)
                · replace F := (ifT c172).symm.trans F
                  refine R.lkFOY 1 rfl h rfl u139 uk139 rfl rfl (putK_ne c112 (putK_ne c122 (putK_ne c132 (putK_ne c142 (putK_ne c152 (putK_ne c162 (putK_eq c172))))))) (R.mv rfl rfl (R.ext rfl rfl rfl (R.ext rfl rfl rfl (R.as rfl rfl (R.as rfl rfl (R.nil (k104 _ _ ?_)))))))
                  refine T.seq fun Kk173 k173 => ?_
                  refine T.seq fun Kk174 k174 => ?_
                  refine T.region ?_
                  refine R.mv rfl rfl (R.not rfl rfl (R.nil (k174 _ _ ?_)))
                  refine T.cF rfl rfl ?_
                  refine T.skip (k173 _ _ ?_)
                  refine T.seq fun Kk175 k175 => ?_
                  refine T.region ?_
                  obtain ⟨x176, e177, F⟩ := Option.bind_eq_some_iff.1 F
                  refine R.mv rfl rfl (R.mv rfl rfl (R.callC (fl := []) (cl := []) rfl cf112 rfl rfl (verb_kind_steer.ok e177 (hg.fr0 h.fr0)) (?_)))
                  rintro _ w ⟨p178, c179, rfl, g180⟩
                  replace h := h.join g180
                  refine R.stB (ds := [vS x176.f_name, .slice p178 x176.f_operands.length c179]) 0 h rfl sz116 rfl rfl rfl rfl rfl (fun w (h : H W0 (fun _ => False) w [] [ABox b102 116 #[vS x176.f_name, .slice p178 x176.f_operands.length c179], AMapF b111 (putK true 7 (vfn 117) (putK true 6 (vfn 114) (putK true 5 (vfn 116) (putK true 4 (vfn 115) (putK true 3 (vfn 114) (putK true 2 (vfn 113) (putK true 1 (vfn 112) noneK))))))), ASl 77 encGOperand p178 c179 x176.f_operands]) => R.as rfl rfl (R.nil (k175 _ _ ?_)))
                  obtain rfl := Option.some.inj F
                  refine T.ret (retG (vs := [.agg #[vS x176.f_name, .slice p178 x176.f_operands.length c179], .bool true]) [.cell 2 116, .tmp 3] rfl ⟨⟨_, rfl, h.loadBox 0 rfl sh116⟩, rfl, trivial⟩ ⟨_, _, rfl, ((h.sel [2] rfl (by decide))).out⟩)
                · replace F := (ifF c172).symm.trans F
                  refine R.lkFON 1 rfl h rfl u139 uk139 lz139 rfl rfl (putK_ne c112 (putK_ne c122 (putK_ne c132 (putK_ne c142 (putK_ne c152 (putK_ne c162 (putK_ne c172 rfl))))))) (R.mv rfl rfl (R.ext rfl rfl rfl (R.ext rfl rfl rfl (R.as rfl rfl (R.as rfl rfl (R.nil (k104 _ _ ?_)))))))
                  refine T.seq fun Kk182 k182 => ?_
                  refine T.seq fun Kk183 k183 => ?_
                  refine T.region ?_
                  refine R.mv rfl rfl (R.not rfl rfl (R.nil (k183 _ _ ?_)))
                  refine T.cT rfl rfl ?_
                  refine T.seq fun Kk184 k184 => ?_
                  refine T.region ?_
                  refine R.bld rfl rfl bd4 (R.stB (ds := [vS ([]), .slice none 0 0]) 0 h rfl sz116 rfl rfl rfl rfl rfl (fun w (h : H W0 (fun _ => False) w [] [ABox b102 116 #[vS ([]), .slice none 0 0], AMapF b111 (putK true 7 (vfn 117) (putK true 6 (vfn 114) (putK true 5 (vfn 116) (putK true 4 (vfn 115) (putK true 3 (vfn 114) (putK true 2 (vfn 113) (putK true 1 (vfn 112) noneK)))))))]) => R.as rfl rfl (R.nil (k184 _ _ ?_))))
                  obtain rfl := Option.some.inj F
                  replace h := h.nilSl 77 encGOperand
                  refine T.ret (retG (vs := [.agg #[vS ([]), .slice none ([] : List GOperand).length 0], .bool false]) [.cell 2 116, .tmp 3] rfl ⟨⟨_, rfl, h.loadBox 0 rfl sh116⟩, rfl, trivial⟩ ⟨_, _, rfl, ((h.sel [2] rfl (by decide))).out⟩)
attribute [irreducible] verb_specOf

/-! echelon/verb.Check: function 36 -/
noncomputable def verb_Check (a0 : GOrder) : Option (Int) :=
  (verb_specOf a0.Verb).bind fun x105 => if !x105.2 then some 70 else (Loop.run (fun (s147 : Int) => if decide (s147 < 3) then (getI [a0.A, a0.B, a0.C] s147).bind fun (x155 : Int) => ((some (decide (s147 < (x105.1.f_operands.length : Int)))).bind fun (x163 : Bool) => if x163 then (getI x105.1.f_operands s147).bind fun (x166 : GOperand) => some x166 else some (GOperand.mk ([]) 0 0)).bind fun (y161 : GOperand) => (if decide (x155 < y161.Least) then some true else some (decide (x155 > y161.Most))).bind fun (y169 : Bool) => if y169 then some (.inr (.inr 71)) else some (.inl (W (s147 + 1))) else some (.inr ((.inl ())))) 0 : Option ((Unit) ⊕ _)).bind fun y118 => Sum.elim (fun (y119 : Unit) => some 0) some y118
theorem verb_Check.ok {a0 : GOrder} {r : Int} {W0 : World} (F : verb_Check a0 = some r) (hg : Gl W0) :
    Calls Tryd.prog 36 [(vGOrder a0 : Value)].toArray W0 fun e w' => ∃ v, e = .returned v ∧ (v = .int .i64 r ∧ Fr0 W0 w') := by
  unfold verb_Check at F
  refine calls_body 48 Tryd.func36 rfl rfl rfl ?_
  have h := H.nil W0
  refine T.seq fun Kk101 k101 => ?_
  refine T.region ?_
  refine R.box rfl h rfl (fun b102 w (h : H W0 (fun _ => False) w [] [ABox b102 66 (encGOrder.enc a0).toArray]) => R.as rfl rfl (R.nil (k101 _ _ ?_)))
  refine T.seq fun Kk104 k104 => ?_
  refine T.region ?_
  obtain ⟨x105, e106, F⟩ := Option.bind_eq_some_iff.1 F
  refine R.fldB rfl fo66_0 rfl (R.ld rfl sh3 rfl (h.box 0 0 rfl rfl) (R.callC (fl := []) (cl := []) rfl cf62 rfl rfl (verb_specOf.ok e106 (hg.fr0 h.fr0)) (?_)))
  rintro _ w ⟨p107, c108, rfl, g109⟩
  replace h := h.join g109
  refine R.mv rfl rfl (R.ext rfl rfl rfl (R.ext rfl rfl rfl (R.alloc rfl h zr116 (fun b111 w (h : H W0 (fun _ => False) w [] [ABox b102 66 (encGOrder.enc a0).toArray, ASl 77 encGOperand p107 c108 x105.1.f_operands, ABox b111 116 #[vS ([]), .slice none 0 0]]) => R.stB (ds := [vS x105.1.f_name, .slice p107 x105.1.f_operands.length c108]) 2 h rfl sz116 rfl rfl rfl rfl rfl (fun w (h : H W0 (fun _ => False) w [] [ABox b102 66 (encGOrder.enc a0).toArray, ASl 77 encGOperand p107 c108 x105.1.f_operands, ABox b111 116 #[vS x105.1.f_name, .slice p107 x105.1.f_operands.length c108]]) => R.as rfl rfl (R.nil (k104 _ _ ?_)))))))
  refine T.seq fun Kk113 k113 => ?_
  refine T.seq fun Kk114 k114 => ?_
  refine T.region ?_
  refine R.mv rfl rfl (R.not rfl rfl (R.nil (k114 _ _ ?_)))
  refine T.cond rfl (fun c115 => ?_) (fun c115 => ?_)
  · replace F := (ifT c115).symm.trans F
    refine T.seq fun Kk116 k116 => ?_
    refine T.region ?_
    refine R.as rfl rfl (R.nil (k116 _ _ ?_))
    obtain rfl := Option.some.inj F
    refine T.ret (retG (vs := [.int .i64 70]) [.tmp 2] rfl ⟨rfl, trivial⟩ ⟨rfl, h.fr0⟩)
  · replace F := (ifF c115).symm.trans F
    refine T.skip (k113 _ _ ?_)
    obtain ⟨y118, F, E117⟩ := Option.bind_eq_some_iff.1 F
    refine T.cut (fun a w => ∃ y119, y118 = .inl y119 ∧ Agr 48 [] a ∧ H W0 (fun _ => False) w [] []) ?_ ?_
    · refine T.seq fun Kk120 k120 => ?_
      refine T.region ?_
      refine R.fldB rfl fo66_1 rfl (R.ld rfl sh3 rfl (h.box 0 1 rfl rfl) (R.fldB rfl fo66_2 rfl (R.ld rfl sh3 rfl (h.box 0 2 rfl rfl) (R.fldB rfl fo66_3 rfl (R.ld rfl sh3 rfl (h.box 0 3 rfl rfl) (R.bld rfl rfl (bd5 _ _ _) (R.mv rfl rfl (R.nil (k120 _ _ ?_)))))))))
      refine T.block ?_
      refine T.loop (fun (s147 : Int) a w => Agr 48 [(3, .pointer (some ⟨b111, 0, none⟩)), (22, .agg #[.int .i64 a0.A, .int .i64 a0.B, .int .i64 a0.C]), (23, .int .i64 s147)] a ∧ H W0 (fun _ => False) w [] [ASl 77 encGOperand p107 c108 x105.1.f_operands, ABox b111 116 #[vS x105.1.f_name, .slice p107 x105.1.f_operands.length c108]]) F (fun a ha => ⟨ha.sub ⟨rfl, rfl, rfl, trivial⟩, (h.sel [1, 2] rfl (by decide))⟩) ?_
      clear h F
      intro s147 F a w
      rintro ⟨ha, h⟩
      refine T.use ?_ ha
      obtain ⟨x149, F, c1, c2⟩ := Loop.run_step F
      have E148 := F
      refine T.seq fun Kk150 k150 => ?_
      refine T.region ?_
      refine R.ib rfl rfl rfl rfl (R.nil (k150 _ _ ?_))
      refine T.seq fun Kk151 k151 => ?_
      refine T.cond rfl (fun c152 => ?_) (fun c152 => ?_)
      · replace F := (ifT c152).symm.trans F
        refine T.skip (k151 _ _ ?_)
        refine T.seq fun Kk153 k153 => ?_
        refine T.block ?_
        refine T.seq fun Kk154 k154 => ?_
        refine T.region ?_
        obtain ⟨x155, e156, F⟩ := Option.bind_eq_some_iff.1 F
        refine R.mv rfl rfl (R.ixT (zs := [a0.A, a0.B, a0.C]) rfl u81 sh3 rfl rfl rfl e156 (R.as rfl rfl (R.as rfl rfl (R.nil (k154 _ _ ?_)))))
        refine T.seq fun Kk157 k157 => ?_
        refine T.region ?_
        refine R.alloc rfl h zr77 (fun b158 w (h : H W0 (fun _ => False) w [] [ASl 77 encGOperand p107 c108 x105.1.f_operands, ABox b111 116 #[vS x105.1.f_name, .slice p107 x105.1.f_operands.length c108], ABox b158 77 #[vS ([]), .int .i64 0, .int .i64 0]]) => R.nil (k157 _ _ ?_))
        obtain ⟨y161, F, E160⟩ := Option.bind_eq_some_iff.1 F
        refine T.cut (fun a w => Agr 48 [(3, .pointer (some ⟨b111, 0, none⟩)), (6, .int .i64 x155), (7, .pointer (some ⟨b158, 0, none⟩)), (22, .agg #[.int .i64 a0.A, .int .i64 a0.B, .int .i64 a0.C]), (23, .int .i64 s147)] a ∧ H W0 (fun _ => False) w [] [ASl 77 encGOperand p107 c108 x105.1.f_operands, ABox b111 116 #[vS x105.1.f_name, .slice p107 x105.1.f_operands.length c108], ABox b158 77 (encGOperand.enc y161).toArray]) ?_ ?_
        · refine T.seq fun Kk162 k162 => ?_
          refine T.region ?_
          obtain ⟨x163, e164, F⟩ := Option.bind_eq_some_iff.1 F
          refine R.mv rfl rfl (R.fldB rfl fo116_1 rfl (R.ld rfl sh73 rfl (h.box 1 1 rfl rfl) (R.lenSl rfl u73 rfl (R.ib rfl rfl rfl rfl (R.re (congrArg Value.bool (Option.some.inj e164)) (R.nil (k162 _ _ ?_)))))))
          refine T.cond rfl (fun c165 => ?_) (fun c165 => ?_)
          · replace F := (ifT c165).symm.trans F
            refine T.region ?_
            obtain ⟨x166, e167, F⟩ := Option.bind_eq_some_iff.1 F
            obtain rfl := Option.some.inj F
            refine R.fldB rfl fo116_1 rfl (R.ld rfl sh73 rfl (h.box 1 1 rfl rfl) (R.mv rfl rfl (R.ixS rfl ss73 rfl rfl (h.rL 0 rfl) e167 (R.ldN (cs := [vS x166.Name, .int .i64 x166.Least, .int .i64 x166.Most]) rfl sh77 rfl rfl (RdS.cells (h.rL 0 rfl) e167 0 rfl) (R.stB (ds := [vS x166.Name, .int .i64 x166.Least, .int .i64 x166.Most]) 2 h rfl sz77 rfl rfl rfl rfl rfl (fun w (h : H W0 (fun _ => False) w [] [ASl 77 encGOperand p107 c108 x105.1.f_operands, ABox b111 116 #[vS x105.1.f_name, .slice p107 x105.1.f_operands.length c108], ABox b158 77 (encGOperand.enc x166).toArray]) => R.nil (fun a ha => ⟨ha.sub ⟨rfl, rfl, rfl, rfl, rfl, trivial⟩, h⟩)))))))
          · replace F := (ifF c165).symm.trans F
            obtain rfl := Option.some.inj F
            refine T.skip (fun a ha => ⟨ha.sub ⟨rfl, rfl, rfl, rfl, rfl, trivial⟩, h⟩)
        · clear F
          rintro a w ⟨ha, h⟩
          refine T.use ?_ ha
          have F := E160
          obtain ⟨y169, F, E168⟩ := Option.bind_eq_some_iff.1 F
          refine T.cut (fun a w => Agr 48 [(3, .pointer (some ⟨b111, 0, none⟩)), (22, .agg #[.int .i64 a0.A, .int .i64 a0.B, .int .i64 a0.C]), (23, .int .i64 s147), (46, .bool y169)] a ∧ H W0 (fun _ => False) w [] [ASl 77 encGOperand p107 c108 x105.1.f_operands, ABox b111 116 #[vS x105.1.f_name, .slice p107 x105.1.f_operands.length c108]]) ?_ ?_
          · refine T.region ?_
            refine R.mv rfl rfl (R.fldB rfl fo77_1 rfl (R.ld rfl sh3 rfl (h.box 2 1 rfl rfl) (R.ib rfl rfl rfl rfl (R.mv rfl rfl (?_)))))
            refine bsplit (decide (x155 < y161.Least)) (fun c170 => ?_) (fun c170 => ?_)
            · replace F := (ifT c170).symm.trans F
              obtain rfl := Option.some.inj F
              refine R.not_ rfl rfl rfl c170 (R.not_ rfl rfl rfl c170 (R.not_ rfl rfl rfl c170 (R.not_ rfl rfl rfl c170 (R.pT rfl rfl c170 rfl (R.nil (fun a ha => ⟨ha.sub ⟨rfl, rfl, rfl, rfl, trivial⟩, (h.sel [0, 1] rfl (by decide))⟩))))))
            · replace F := (ifF c170).symm.trans F
              obtain rfl := Option.some.inj F
              refine R.iff rfl rfl c170 (R.mv rfl rfl (R.iff rfl rfl c170 (R.fldB rfl fo77_2 rfl (R.iff rfl rfl c170 (R.ld rfl sh3 rfl (h.box 2 2 rfl rfl) (R.iff rfl rfl c170 (R.ib rfl rfl rfl rfl (R.pF rfl rfl c170 rfl (R.nil (fun a ha => ⟨ha.sub ⟨rfl, rfl, rfl, rfl, trivial⟩, (h.sel [0, 1] rfl (by decide))⟩))))))))))
          · clear F
            rintro a w ⟨ha, h⟩
            refine T.use ?_ ha
            have F := E168
            refine T.cond rfl (fun c171 => ?_) (fun c171 => ?_)
            · replace F := (ifT c171).symm.trans F
              refine T.seq fun Kk172 k172 => ?_
              refine T.region ?_
              refine R.as rfl rfl (R.nil (k172 _ _ ?_))
              obtain rfl := Option.some.inj F
              replace F := congrArg some (c2 _ rfl)
              obtain rfl := Option.some.inj F
              replace F := elimR E117
              obtain rfl := Option.some.inj F
              refine T.ret (retG (vs := [.int .i64 71]) [.tmp 2] rfl ⟨rfl, trivial⟩ ⟨rfl, h.fr0⟩)
            · replace F := (ifF c171).symm.trans F
              refine T.skip (k153 _ _ ?_)
              refine T.region ?_
              obtain rfl := Option.some.inj F
              refine R.ib rfl rfl rfl rfl (R.mv rfl rfl (R.nil (fun a ha => ⟨_, E148, ha.sub ⟨rfl, rfl, rfl, trivial⟩, h⟩)))
      · replace F := (ifF c152).symm.trans F
        obtain rfl := Option.some.inj F
        replace F := congrArg some (c2 _ rfl)
        obtain rfl := Option.some.inj F
        refine T.exit (fun a ha => ⟨_, rfl, ha.sub trivial, (h.sel [] rfl (by decide))⟩)
    · clear F
      rintro a w ⟨y119, rfl, ha, h⟩
      refine T.use ?_ ha
      have F := elimL E117
      refine T.seq fun Kk173 k173 => ?_
      refine T.region ?_
      refine R.as rfl rfl (R.nil (k173 _ _ ?_))
      obtain rfl := Option.some.inj F
      refine T.ret (retG (vs := [.int .i64 0]) [.tmp 2] rfl ⟨rfl, trivial⟩ ⟨rfl, h.fr0⟩)
attribute [irreducible] verb_Check

/-! echelon/verb.Print: function 38 -/
noncomputable def verb_Print (a0 : GOrder) : Option (Str × Int) :=
  (verb_Check a0).bind fun x106 => if x106 != 0 then some ([], x106) else (verb_specOf a0.Verb).bind fun x113 => (Loop.run (fun (s144 : Str × Int) => (some (decide (s144.2 < (x113.1.f_operands.length : Int)))).bind fun (x148 : Bool) => if x148 then (getI [a0.A, a0.B, a0.C] s144.2).bind fun (x154 : Int) => (lib_Itoa x154).bind fun x156 => (cat ([32]) x156).bind fun (x159 : Str) => (cat s144.1 x159).bind fun (x161 : Str) => some (.inl (x161, W (s144.2 + 1))) else some (.inr (s144.1))) (x113.1.f_name, 0)).bind fun (y123 : Str) => some (y123, 0)
theorem verb_Print.ok {a0 : GOrder} {r : Str × Int} {W0 : World} (F : verb_Print a0 = some r) (hg : Gl W0) :
    Calls Tryd.prog 38 [(vGOrder a0 : Value)].toArray W0 fun e w' => ∃ v, e = .returned v ∧ (v = .tuple #[vS r.1, .int .i64 r.2] ∧ Fr0 W0 w') := by
  unfold verb_Print at F
  refine calls_body 43 Tryd.func38 rfl rfl rfl ?_
  have h := H.nil W0
  refine T.seq fun Kk101 k101 => ?_
  refine T.region ?_
  refine R.box rfl h rfl (fun b102 w (h : H W0 (fun _ => False) w [] [ABox b102 66 (encGOrder.enc a0).toArray]) => R.as rfl rfl (R.as rfl rfl (R.nil (k101 _ _ ?_))))
  refine T.seq fun Kk104 k104 => ?_
  refine T.seq fun Kk105 k105 => ?_
  refine T.region ?_
  obtain ⟨x106, e107, F⟩ := Option.bind_eq_some_iff.1 F
  refine R.ldN (cs := [.int .i64 a0.Verb, .int .i64 a0.A, .int .i64 a0.B, .int .i64 a0.C]) rfl sh66 rfl rfl (h.boxN 0 rfl rfl) (R.callC (fl := []) (cl := []) rfl cf36 rfl rfl (verb_Check.ok e107 (hg.fr0 h.fr0)) (?_))
  rintro _ w ⟨rfl, g108⟩
  replace h := h.same g108
  refine R.as rfl rfl (R.nil (k105 _ _ ?_))
  refine T.seq fun Kk109 k109 => ?_
  refine T.region ?_
  refine R.mv rfl rfl (R.ib rfl rfl rfl rfl (R.nil (k109 _ _ ?_)))
  refine T.cond rfl (fun c110 => ?_) (fun c110 => ?_)
  · replace F := (ifT c110).symm.trans F
    refine T.seq fun Kk111 k111 => ?_
    refine T.region ?_
    refine R.mv rfl rfl (R.as rfl rfl (R.as rfl rfl (R.nil (k111 _ _ ?_))))
    obtain rfl := Option.some.inj F
    refine T.ret (retG (vs := [vS ([]), .int .i64 x106]) [.tmp 2, .tmp 3] rfl ⟨rfl, rfl, trivial⟩ ⟨rfl, h.fr0⟩)
  · replace F := (ifF c110).symm.trans F
    refine T.skip (k104 _ _ ?_)
    refine T.seq fun Kk112 k112 => ?_
    refine T.region ?_
    obtain ⟨x113, e114, F⟩ := Option.bind_eq_some_iff.1 F
    refine R.fldB rfl fo66_0 rfl (R.ld rfl sh3 rfl (h.box 0 0 rfl rfl) (R.callC (fl := []) (cl := []) rfl cf62 rfl rfl (verb_specOf.ok e114 (hg.fr0 h.fr0)) (?_)))
    rintro _ w ⟨p115, c116, rfl, g117⟩
    replace h := h.join g117
    refine R.mv rfl rfl (R.ext rfl rfl rfl (R.ext rfl rfl rfl (R.alloc rfl h zr116 (fun b119 w (h : H W0 (fun _ => False) w [] [ABox b102 66 (encGOrder.enc a0).toArray, ASl 77 encGOperand p115 c116 x113.1.f_operands, ABox b119 116 #[vS ([]), .slice none 0 0]]) => R.stB (ds := [vS x113.1.f_name, .slice p115 x113.1.f_operands.length c116]) 2 h rfl sz116 rfl rfl rfl rfl rfl (fun w (h : H W0 (fun _ => False) w [] [ABox b102 66 (encGOrder.enc a0).toArray, ASl 77 encGOperand p115 c116 x113.1.f_operands, ABox b119 116 #[vS x113.1.f_name, .slice p115 x113.1.f_operands.length c116]]) => R.as rfl rfl (R.nil (k112 _ _ ?_)))))))
    refine T.seq fun Kk121 k121 => ?_
    refine T.region ?_
    refine R.fldB rfl fo116_0 rfl (R.ld rfl sh9 rfl (h.box 2 0 rfl rfl) (R.as rfl rfl (R.nil (k121 _ _ ?_))))
    obtain ⟨y123, F, E122⟩ := Option.bind_eq_some_iff.1 F
    refine T.cut (fun a w => Agr 43 [(7, vS y123)] a ∧ H W0 (fun _ => False) w [] []) ?_ ?_
    · refine T.seq fun Kk124 k124 => ?_
      refine T.region ?_
      refine R.fldB rfl fo116_1 rfl (R.ld rfl sh73 rfl (h.box 2 1 rfl rfl) (R.lenSl rfl u73 rfl (R.mv rfl rfl (R.nil (k124 _ _ ?_)))))
      refine T.block ?_
      refine T.loop (fun (s144 : Str × Int) a w => Agr 43 [(1, .pointer (some ⟨b102, 0, none⟩)), (7, vS s144.1), (24, .int .i64 (x113.1.f_operands.length : Int)), (25, .int .i64 s144.2)] a ∧ H W0 (fun _ => False) w [] [ABox b102 66 (encGOrder.enc a0).toArray]) F (fun a ha => ⟨ha.sub ⟨rfl, rfl, rfl, rfl, trivial⟩, (h.sel [0] rfl (by decide))⟩) ?_
      clear h F
      intro s144 F a w
      rintro ⟨ha, h⟩
      refine T.use ?_ ha
      obtain ⟨x146, F, c1, c2⟩ := Loop.run_step F
      have E145 := F
      refine T.seq fun Kk147 k147 => ?_
      refine T.region ?_
      obtain ⟨x148, e149, F⟩ := Option.bind_eq_some_iff.1 F
      refine R.ib rfl rfl rfl rfl (R.re (congrArg Value.bool (Option.some.inj e149)) (R.nil (k147 _ _ ?_)))
      refine T.seq fun Kk150 k150 => ?_
      refine T.cond rfl (fun c151 => ?_) (fun c151 => ?_)
      · replace F := (ifT c151).symm.trans F
        refine T.skip (k150 _ _ ?_)
        refine T.seq fun Kk152 k152 => ?_
        refine T.block ?_
        refine T.seq fun Kk153 k153 => ?_
        refine T.region ?_
        refine R.mv rfl rfl (R.as rfl rfl (R.nil (k153 _ _ ?_)))
        refine T.region ?_
        obtain ⟨x154, e155, F⟩ := Option.bind_eq_some_iff.1 F
        obtain ⟨x156, e157, F⟩ := Option.bind_eq_some_iff.1 F
        refine R.mv rfl rfl (R.fldB rfl fo66_1 rfl (R.ld rfl sh3 rfl (h.box 0 1 rfl rfl) (R.fldB rfl fo66_2 rfl (R.ld rfl sh3 rfl (h.box 0 2 rfl rfl) (R.fldB rfl fo66_3 rfl (R.ld rfl sh3 rfl (h.box 0 3 rfl rfl) (R.bld rfl rfl (bd5 _ _ _) (R.mv rfl rfl (R.ixT (zs := [a0.A, a0.B, a0.C]) rfl u81 sh3 rfl rfl rfl e155 (R.callC (fl := []) (cl := []) rfl cf52 rfl rfl (lib_Itoa.ok e157 (hg.fr0 h.fr0)) (?_)))))))))))
        rintro _ w ⟨rfl, g158⟩
        replace h := h.same g158
        obtain ⟨x159, e160, F⟩ := Option.bind_eq_some_iff.1 F
        obtain ⟨x161, e162, F⟩ := Option.bind_eq_some_iff.1 F
        refine R.sadd rfl rfl rfl e160 (R.sadd rfl rfl rfl e162 (R.as rfl rfl (R.nil (k152 _ _ ?_))))
        refine T.region ?_
        obtain rfl := Option.some.inj F
        refine R.ib rfl rfl rfl rfl (R.mv rfl rfl (R.nil (fun a ha => ⟨_, E145, ha.sub ⟨rfl, rfl, rfl, rfl, trivial⟩, h⟩)))
      · replace F := (ifF c151).symm.trans F
        obtain rfl := Option.some.inj F
        replace F := congrArg some (c2 _ rfl)
        obtain rfl := Option.some.inj F
        refine T.exit (fun a ha => ⟨ha.sub ⟨rfl, trivial⟩, (h.sel [] rfl (by decide))⟩)
    · clear F
      rintro a w ⟨ha, h⟩
      refine T.use ?_ ha
      have F := E122
      refine T.seq fun Kk163 k163 => ?_
      refine T.region ?_
      refine R.mv rfl rfl (R.as rfl rfl (R.as rfl rfl (R.nil (k163 _ _ ?_))))
      obtain rfl := Option.some.inj F
      refine T.ret (retG (vs := [vS y123, .int .i64 0]) [.tmp 2, .tmp 3] rfl ⟨rfl, rfl, trivial⟩ ⟨rfl, h.fr0⟩)
attribute [irreducible] verb_Print

/-! echelon/verb.Parse: function 40 -/
noncomputable def verb_Parse (a0 : Str) : Option (GOrder × Int) :=
  (lib_Split a0 ([32])).bind fun x105 => (Loop.run (fun (s191 : Int) => (if decide (s191 ≤ 7) then some (decide ((x105.length : Int) ≤ 4)) else some false).bind fun (y196 : Bool) => if y196 then (((must (decide (1 ≤ (x105.length : Int)))).bind fun _ => (some (((x105.drop (1 : Int).toNat).take (x105.length - (1 : Int).toNat)).length : Int)).bind fun (x210 : Int) => Loop.run (fun (s235 : Int × Int × Int × Int) => if decide (s235.1 < x210) then (getI ((x105.drop (1 : Int).toNat).take (x105.length - (1 : Int).toNat)) s235.1).bind fun (x243 : Str) => (lib_Atoi x243).bind fun x246 => if x246.2 then some (.inr (.inr (.inr (.inr (.inr (GOrder.mk 0 0 0 0, 72)))))) else if s235.1 == 0 then some (.inl (W (s235.1 + 1), x246.1, s235.2.2.1, s235.2.2.2)) else if s235.1 == 1 then some (.inl (W (s235.1 + 1), s235.2.1, x246.1, s235.2.2.2)) else if s235.1 == 2 then some (.inl (W (s235.1 + 1), s235.2.1, s235.2.2.1, x246.1)) else none else some (.inr ((.inl (s235.2.1, s235.2.2.1, s235.2.2.2))))) (0, 0, 0, 0) : Option ((Int × Int × Int) ⊕ _)).bind fun y206 => Sum.elim (fun (y207 : Int × Int × Int) => (verb_Print (GOrder.mk s191 y207.1 y207.2.1 y207.2.2)).bind fun x259 => (if x259.2 == 0 then some (x259.1 == a0) else some false).bind fun (y263 : Bool) => if y263 then some (.inr (.inr (.inr (GOrder.mk s191 y207.1 y207.2.1 y207.2.2, 0)))) else some (.inl ())) some y206 : Option ((Unit) ⊕ _)).bind fun y200 => Sum.elim (fun (y201 : Unit) => some (.inl (W (s191 + 1)))) some y200 else some (.inr ((.inl ())))) 1 : Option ((Unit) ⊕ _)).bind fun y112 => Sum.elim (fun (y113 : Unit) => some (GOrder.mk 0 0 0 0, 72)) some y112
theorem verb_Parse.ok {a0 : Str} {r : GOrder × Int} {W0 : World} (F : verb_Parse a0 = some r) (hg : Gl W0) :
    Calls Tryd.prog 40 [(vS a0 : Value)].toArray W0 fun e w' => ∃ v, e = .returned v ∧ (v = .tuple #[vGOrder r.1, .int .i64 r.2] ∧ Fr0 W0 w') := by
  unfold verb_Parse at F
  refine calls_body 65 Tryd.func40 rfl rfl rfl ?_
  have h := H.nil W0
  refine T.seq fun Kk101 k101 => ?_
  refine T.region ?_
  refine R.alloc rfl h zr66 (fun b102 w (h : H W0 (fun _ => False) w [] [ABox b102 66 #[.int .i64 0, .int .i64 0, .int .i64 0, .int .i64 0]]) => R.as rfl rfl (R.nil (k101 _ _ ?_)))
  refine T.seq fun Kk104 k104 => ?_
  refine T.region ?_
  obtain ⟨x105, e106, F⟩ := Option.bind_eq_some_iff.1 F
  refine R.mv rfl rfl (R.callC (fl := []) (cl := []) rfl cf65 rfl rfl (lib_Split.ok e106 (hg.fr0 h.fr0)) (?_))
  rintro _ w ⟨p107, c108, rfl, g109⟩
  replace h := h.join g109
  refine R.as rfl rfl (R.nil (k104 _ _ ?_))
  obtain ⟨y112, F, E111⟩ := Option.bind_eq_some_iff.1 F
  refine T.cut (fun a w => ∃ y113, y112 = .inl y113 ∧ Agr 65 [(2, .pointer (some ⟨b102, 0, none⟩))] a ∧ H W0 (fun _ => False) w [] [ABox b102 66 #[.int .i64 0, .int .i64 0, .int .i64 0, .int .i64 0]]) ?_ ?_
  · refine T.seq fun Kk114 k114 => ?_
    refine T.region ?_
    refine R.as rfl rfl (R.nil (k114 _ _ ?_))
    refine T.block ?_
    refine T.loop (fun (s191 : Int) a w => Agr 65 [(0, vS a0), (2, .pointer (some ⟨b102, 0, none⟩)), (4, .slice p107 x105.length c108), (5, .int .i64 s191)] a ∧ H W0 (fun _ => False) w [] [ABox b102 66 #[.int .i64 0, .int .i64 0, .int .i64 0, .int .i64 0], ASl 9 encS p107 c108 x105]) F (fun a ha => ⟨ha.sub ⟨rfl, rfl, rfl, rfl, trivial⟩, h⟩) ?_
    clear h F
    intro s191 F a w
    rintro ⟨ha, h⟩
    refine T.use ?_ ha
    obtain ⟨x193, F, c1, c2⟩ := Loop.run_step F
    have E192 := F
    refine T.seq fun Kk194 k194 => ?_
    obtain ⟨y196, F, E195⟩ := Option.bind_eq_some_iff.1 F
    refine T.cut (fun a w => Agr 65 [(0, vS a0), (2, .pointer (some ⟨b102, 0, none⟩)), (4, .slice p107 x105.length c108), (5, .int .i64 s191), (21, .bool y196)] a ∧ H W0 (fun _ => False) w [] [ABox b102 66 #[.int .i64 0, .int .i64 0, .int .i64 0, .int .i64 0], ASl 9 encS p107 c108 x105]) ?_ ?_
    · refine T.region ?_
      refine R.mv rfl rfl (R.ib rfl rfl rfl rfl (R.mv rfl rfl (?_)))
      refine bsplit (decide (s191 ≤ 7)) (fun c197 => ?_) (fun c197 => ?_)
      · replace F := (ifT c197).symm.trans F
        obtain rfl := Option.some.inj F
        refine R.iff rfl rfl c197 (R.mv rfl rfl (R.iff rfl rfl c197 (R.lenSl rfl u105 rfl (R.iff rfl rfl c197 (R.ib rfl rfl rfl rfl (R.pT rfl rfl c197 rfl (R.nil (fun a ha => ⟨ha.sub ⟨rfl, rfl, rfl, rfl, rfl, trivial⟩, h⟩))))))))
      · replace F := (ifF c197).symm.trans F
        obtain rfl := Option.some.inj F
        refine R.not_ rfl rfl rfl c197 (R.not_ rfl rfl rfl c197 (R.not_ rfl rfl rfl c197 (R.pF rfl rfl c197 rfl (R.nil (fun a ha => ⟨ha.sub ⟨rfl, rfl, rfl, rfl, rfl, trivial⟩, h⟩)))))
    · clear F
      rintro a w ⟨ha, h⟩
      refine T.use ?_ ha
      have F := E195
      refine T.cond rfl (fun c198 => ?_) (fun c198 => ?_)
      · replace F := (ifT c198).symm.trans F
        refine T.skip (k194 _ _ ?_)
        obtain ⟨y200, F, E199⟩ := Option.bind_eq_some_iff.1 F
        refine T.cut (fun a w => ∃ y201, y200 = .inl y201 ∧ Agr 65 [(0, vS a0), (2, .pointer (some ⟨b102, 0, none⟩)), (4, .slice p107 x105.length c108), (5, .int .i64 s191)] a ∧ H W0 (fun _ => False) w [] [ABox b102 66 #[.int .i64 0, .int .i64 0, .int .i64 0, .int .i64 0], ASl 9 encS p107 c108 x105]) ?_ ?_
        · refine T.block ?_
          refine T.seq fun Kk202 k202 => ?_
          refine T.region ?_
          refine R.mv rfl rfl (R.bld rfl rfl (bd6 _) (R.alloc rfl h zr66 (fun b203 w (h : H W0 (fun _ => False) w [] [ABox b102 66 #[.int .i64 0, .int .i64 0, .int .i64 0, .int .i64 0], ASl 9 encS p107 c108 x105, ABox b203 66 #[.int .i64 0, .int .i64 0, .int .i64 0, .int .i64 0]]) => R.stB (ds := [.int .i64 s191, .int .i64 0, .int .i64 0, .int .i64 0]) 2 h rfl sz66 rfl rfl rfl rfl rfl (fun w (h : H W0 (fun _ => False) w [] [ABox b102 66 #[.int .i64 0, .int .i64 0, .int .i64 0, .int .i64 0], ASl 9 encS p107 c108 x105, ABox b203 66 #[.int .i64 s191, .int .i64 0, .int .i64 0, .int .i64 0]]) => R.nil (k202 _ _ ?_)))))
          obtain ⟨y206, F, E205⟩ := Option.bind_eq_some_iff.1 F
          refine T.cut (fun a w => ∃ y207, y206 = .inl y207 ∧ Agr 65 [(0, vS a0), (2, .pointer (some ⟨b102, 0, none⟩)), (4, .slice p107 x105.length c108), (5, .int .i64 s191), (6, .pointer (some ⟨b203, 0, none⟩))] a ∧ H W0 (fun _ => False) w [] [ABox b102 66 #[.int .i64 0, .int .i64 0, .int .i64 0, .int .i64 0], ASl 9 encS p107 c108 x105, ABox b203 66 #[.int .i64 s191, .int .i64 y207.1, .int .i64 y207.2.1, .int .i64 y207.2.2]]) ?_ ?_
          · refine T.seq fun Kk208 k208 => ?_
            refine T.region ?_
            obtain ⟨_, e209, F⟩ := Option.bind_eq_some_iff.1 F
            obtain ⟨x210, e211, F⟩ := Option.bind_eq_some_iff.1 F
            refine R.mv rfl rfl (R.slL rfl ss105 rfl rfl (h.rL 1 rfl) (by decide) (must_le e209) (R.lenSl rfl u105 rfl (R.re (congrArg (Value.int .i64) (Option.some.inj e211)) (R.mv rfl rfl (R.nil (k208 _ _ ?_))))))
            refine T.block ?_
            refine T.loop (fun (s235 : Int × Int × Int × Int) a w => Agr 65 [(0, vS a0), (2, .pointer (some ⟨b102, 0, none⟩)), (4, .slice p107 x105.length c108), (5, .int .i64 s191), (6, .pointer (some ⟨b203, 0, none⟩)), (27, .slice (cutP p107 c108 ((1 : Int).toNat) 1) ((x105.drop (1 : Int).toNat).take (x105.length - (1 : Int).toNat)).length (c108 - (1 : Int).toNat)), (28, .int .i64 x210), (29, .int .i64 s235.1)] a ∧ H W0 (fun _ => False) w [] [ABox b102 66 #[.int .i64 0, .int .i64 0, .int .i64 0, .int .i64 0], ASl 9 encS p107 c108 x105, ABox b203 66 #[.int .i64 s191, .int .i64 s235.2.1, .int .i64 s235.2.2.1, .int .i64 s235.2.2.2]]) F (fun a ha => ⟨ha.sub ⟨rfl, rfl, rfl, rfl, rfl, rfl, rfl, rfl, trivial⟩, h⟩) ?_
            clear h F
            intro s235 F a w
            rintro ⟨ha, h⟩
            refine T.use ?_ ha
            obtain ⟨x237, F, c1, c2⟩ := Loop.run_step F
            have E236 := F
            refine T.seq fun Kk238 k238 => ?_
            refine T.region ?_
            refine R.ib rfl rfl rfl rfl (R.nil (k238 _ _ ?_))
            refine T.seq fun Kk239 k239 => ?_
            refine T.cond rfl (fun c240 => ?_) (fun c240 => ?_)
            · replace F := (ifT c240).symm.trans F
              refine T.skip (k239 _ _ ?_)
              refine T.seq fun Kk241 k241 => ?_
              refine T.block ?_
              refine T.seq fun Kk242 k242 => ?_
              refine T.region ?_
              obtain ⟨x243, e244, F⟩ := Option.bind_eq_some_iff.1 F
              refine R.mv rfl rfl (R.ixS rfl ss105 rfl rfl (RdS.view (h.rL 1 rfl) ((1 : Int).toNat) (x105.length - (1 : Int).toNat) (by have := must_le e209; have := (h.rL 1 rfl).all.2.2.2; omega)) e244 (R.ld rfl sh9 rfl (RdS.cell (RdS.view (h.rL 1 rfl) ((1 : Int).toNat) (x105.length - (1 : Int).toNat) (by have := must_le e209; have := (h.rL 1 rfl).all.2.2.2; omega)) e244 0 rfl) (R.as rfl rfl (R.as rfl rfl (R.nil (k242 _ _ ?_))))))
              refine T.seq fun Kk245 k245 => ?_
              refine T.region ?_
              obtain ⟨x246, e247, F⟩ := Option.bind_eq_some_iff.1 F
              refine R.mv rfl rfl (R.callC (fl := []) (cl := []) rfl cf66 rfl rfl (lib_Atoi.ok e247 (hg.fr0 h.fr0)) (?_))
              rintro _ w ⟨v248, he249, rfl, g250⟩
              replace h := h.same g250
              refine R.mv rfl rfl (R.ext rfl rfl rfl (R.ext rfl rfl rfl (R.as rfl rfl (R.as rfl rfl (R.nil (k245 _ _ ?_))))))
              refine T.seq fun Kk251 k251 => ?_
              refine T.seq fun Kk252 k252 => ?_
              refine T.region ?_
              refine R.mv rfl rfl (R.enq rfl ui99 he249 rfl (R.nil (k252 _ _ ?_)))
              refine T.cond rfl (fun c253 => ?_) (fun c253 => ?_)
              · replace F := (ifT c253).symm.trans F
                refine T.seq fun Kk254 k254 => ?_
                refine T.region ?_
                refine R.bld rfl rfl bd7 (R.stB (ds := [.int .i64 0, .int .i64 0, .int .i64 0, .int .i64 0]) 0 h rfl sz66 rfl rfl rfl rfl rfl (fun w (h : H W0 (fun _ => False) w [] [ABox b102 66 #[.int .i64 0, .int .i64 0, .int .i64 0, .int .i64 0], ASl 9 encS p107 c108 x105, ABox b203 66 #[.int .i64 s191, .int .i64 s235.2.1, .int .i64 s235.2.2.1, .int .i64 s235.2.2.2]]) => R.as rfl rfl (R.nil (k254 _ _ ?_))))
                obtain rfl := Option.some.inj F
                replace F := congrArg some (c2 _ rfl)
                obtain rfl := Option.some.inj F
                replace F := elimR E205
                obtain rfl := Option.some.inj F
                replace F := elimR E199
                obtain rfl := Option.some.inj F
                replace F := congrArg some (c2 _ rfl)
                obtain rfl := Option.some.inj F
                replace F := elimR E111
                obtain rfl := Option.some.inj F
                refine T.ret (retG (vs := [.agg #[.int .i64 0, .int .i64 0, .int .i64 0, .int .i64 0], .int .i64 72]) [.cell 2 66, .tmp 3] rfl ⟨⟨_, rfl, h.loadBox 0 rfl sh66⟩, rfl, trivial⟩ ⟨rfl, h.fr0⟩)
              · replace F := (ifF c253).symm.trans F
                refine T.skip (k251 _ _ ?_)
                refine T.region ?_
                refine R.fldB rfl fo66_1 rfl (R.fldB rfl fo66_2 rfl (R.fldB rfl fo66_3 rfl (R.bld rfl rfl (bd8 _ _ _) (R.mv rfl rfl (?_)))))
                refine bsplit (s235.1 == 0) (fun c255 => ?_) (fun c255 => ?_)
                · replace F := (ifT c255).symm.trans F
                  refine R.idxE (jj := 0) 0 rfl u121 sh120 isz120 rfl rfl rfl c255 rfl rfl (R.mv rfl rfl (R.nck rfl rfl (R.stB (ds := [.int .i64 x246.1]) 2 h rfl sz3 rfl rfl rfl rfl rfl (fun w (h : H W0 (fun _ => False) w [] [ABox b102 66 #[.int .i64 0, .int .i64 0, .int .i64 0, .int .i64 0], ASl 9 encS p107 c108 x105, ABox b203 66 #[.int .i64 s191, .int .i64 x246.1, .int .i64 s235.2.2.1, .int .i64 s235.2.2.2]]) => R.nil (k241 _ _ ?_)))))
                  refine T.region ?_
                  obtain rfl := Option.some.inj F
                  refine R.ib rfl rfl rfl rfl (R.mv rfl rfl (R.nil (fun a ha => ⟨_, E236, ha.sub ⟨rfl, rfl, rfl, rfl, rfl, rfl, rfl, rfl, trivial⟩, h⟩)))
                · replace F := (ifF c255).symm.trans F
                  refine bsplit (s235.1 == 1) (fun c256 => ?_) (fun c256 => ?_)
                  · replace F := (ifT c256).symm.trans F
                    refine R.idxE (jj := 1) 1 rfl u121 sh120 isz120 rfl rfl rfl c256 rfl rfl (R.mv rfl rfl (R.nck rfl rfl (R.stB (ds := [.int .i64 x246.1]) 2 h rfl sz3 rfl rfl rfl rfl rfl (fun w (h : H W0 (fun _ => False) w [] [ABox b102 66 #[.int .i64 0, .int .i64 0, .int .i64 0, .int .i64 0], ASl 9 encS p107 c108 x105, ABox b203 66 #[.int .i64 s191, .int .i64 s235.2.1, .int .i64 x246.1, .int .i64 s235.2.2.2]]) => R.nil (k241 _ _ ?_)))))
                    refine T.region ?_
                    obtain rfl := Option.some.inj F
                    refine R.ib rfl rfl rfl rfl (R.mv rfl rfl (R.nil (fun a ha => ⟨_, E236, ha.sub ⟨rfl, rfl, rfl, rfl, rfl, rfl, rfl, rfl, trivial⟩, h⟩)))
                  · replace F := (ifF c256).symm.trans F
                    refine bsplit (s235.1 == 2) (fun c257 => ?_) (fun c257 => ?_)
                    · replace F := (ifT c257).symm.trans F
                      refine R.idxE (jj := 2) 2 rfl u121 sh120 isz120 rfl rfl rfl c257 rfl rfl (R.mv rfl rfl (R.nck rfl rfl (R.stB (ds := [.int .i64 x246.1]) 2 h rfl sz3 rfl rfl rfl rfl rfl (fun w (h : H W0 (fun _ => False) w [] [ABox b102 66 #[.int .i64 0, .int .i64 0, .int .i64 0, .int .i64 0], ASl 9 encS p107 c108 x105, ABox b203 66 #[.int .i64 s191, .int .i64 s235.2.1, .int .i64 s235.2.2.1, .int .i64 x246.1]]) => R.nil (k241 _ _ ?_)))))
                      refine T.region ?_
                      obtain rfl := Option.some.inj F
                      refine R.ib rfl rfl rfl rfl (R.mv rfl rfl (R.nil (fun a ha => ⟨_, E236, ha.sub ⟨rfl, rfl, rfl, rfl, rfl, rfl, rfl, rfl, trivial⟩, h⟩)))
                    · replace F := (ifF c257).symm.trans F
                      cases F
            · replace F := (ifF c240).symm.trans F
              obtain rfl := Option.some.inj F
              replace F := congrArg some (c2 _ rfl)
              obtain rfl := Option.some.inj F
              refine T.exit (fun a ha => ⟨_, rfl, ha.sub ⟨rfl, rfl, rfl, rfl, rfl, trivial⟩, h⟩)
          · clear F
            rintro a w ⟨y207, rfl, ha, h⟩
            refine T.use ?_ ha
            have F := elimL E205
            refine T.seq fun Kk258 k258 => ?_
            refine T.region ?_
            obtain ⟨x259, e260, F⟩ := Option.bind_eq_some_iff.1 F
            refine R.ldN (cs := [.int .i64 s191, .int .i64 y207.1, .int .i64 y207.2.1, .int .i64 y207.2.2]) rfl sh66 rfl rfl (h.boxN 2 rfl rfl) (R.callC (fl := []) (cl := []) rfl cf38 rfl rfl (verb_Print.ok (a0 := GOrder.mk s191 y207.1 y207.2.1 y207.2.2) e260 (hg.fr0 h.fr0)) (?_))
            rintro _ w ⟨rfl, g261⟩
            replace h := h.same g261
            refine R.mv rfl rfl (R.ext rfl rfl rfl (R.ext rfl rfl rfl (R.as rfl rfl (R.as rfl rfl (R.nil (k258 _ _ ?_))))))
            obtain ⟨y263, F, E262⟩ := Option.bind_eq_some_iff.1 F
            refine T.cut (fun a w => Agr 65 [(0, vS a0), (2, .pointer (some ⟨b102, 0, none⟩)), (4, .slice p107 x105.length c108), (5, .int .i64 s191), (6, .pointer (some ⟨b203, 0, none⟩)), (62, .bool y263)] a ∧ H W0 (fun _ => False) w [] [ABox b102 66 #[.int .i64 0, .int .i64 0, .int .i64 0, .int .i64 0], ASl 9 encS p107 c108 x105, ABox b203 66 #[.int .i64 s191, .int .i64 y207.1, .int .i64 y207.2.1, .int .i64 y207.2.2]]) ?_ ?_
            · refine T.region ?_
              refine R.mv rfl rfl (R.ib rfl rfl rfl rfl (R.mv rfl rfl (?_)))
              refine bsplit (x259.2 == 0) (fun c264 => ?_) (fun c264 => ?_)
              · replace F := (ifT c264).symm.trans F
                obtain rfl := Option.some.inj F
                refine R.iff rfl rfl c264 (R.mv rfl rfl (R.iff rfl rfl c264 (R.mv rfl rfl (R.iff rfl rfl c264 (R.sb rfl rfl rfl rfl (R.pT rfl rfl c264 rfl (R.nil (fun a ha => ⟨ha.sub ⟨rfl, rfl, rfl, rfl, rfl, rfl, trivial⟩, h⟩))))))))
              · replace F := (ifF c264).symm.trans F
                obtain rfl := Option.some.inj F
                refine R.not_ rfl rfl rfl c264 (R.not_ rfl rfl rfl c264 (R.not_ rfl rfl rfl c264 (R.pF rfl rfl c264 rfl (R.nil (fun a ha => ⟨ha.sub ⟨rfl, rfl, rfl, rfl, rfl, rfl, trivial⟩, h⟩)))))
            · clear F
              rintro a w ⟨ha, h⟩
              refine T.use ?_ ha
              have F := E262
              refine T.cond rfl (fun c265 => ?_) (fun c265 => ?_)
              · replace F := (ifT c265).symm.trans F
                refine T.seq fun Kk266 k266 => ?_
                refine T.region ?_
                refine R.ldN (cs := [.int .i64 s191, .int .i64 y207.1, .int .i64 y207.2.1, .int .i64 y207.2.2]) rfl sh66 rfl rfl (h.boxN 2 rfl rfl) (R.stB (ds := [.int .i64 s191, .int .i64 y207.1, .int .i64 y207.2.1, .int .i64 y207.2.2]) 0 h rfl sz66 rfl rfl rfl rfl rfl (fun w (h : H W0 (fun _ => False) w [] [ABox b102 66 #[.int .i64 s191, .int .i64 y207.1, .int .i64 y207.2.1, .int .i64 y207.2.2], ASl 9 encS p107 c108 x105, ABox b203 66 #[.int .i64 s191, .int .i64 y207.1, .int .i64 y207.2.1, .int .i64 y207.2.2]]) => R.as rfl rfl (R.nil (k266 _ _ ?_))))
                obtain rfl := Option.some.inj F
                replace F := elimR E199
                obtain rfl := Option.some.inj F
                replace F := congrArg some (c2 _ rfl)
                obtain rfl := Option.some.inj F
                replace F := elimR E111
                obtain rfl := Option.some.inj F
                refine T.ret (retG (vs := [.agg #[.int .i64 s191, .int .i64 y207.1, .int .i64 y207.2.1, .int .i64 y207.2.2], .int .i64 0]) [.cell 2 66, .tmp 3] rfl ⟨⟨_, rfl, h.loadBox 0 rfl sh66⟩, rfl, trivial⟩ ⟨rfl, h.fr0⟩)
              · replace F := (ifF c265).symm.trans F
                obtain rfl := Option.some.inj F
                refine T.skip (fun a ha => ⟨_, rfl, ha.sub ⟨rfl, rfl, rfl, rfl, trivial⟩, (h.sel [0, 1] rfl (by decide))⟩)
        · clear F
          rintro a w ⟨y201, rfl, ha, h⟩
          refine T.use ?_ ha
          have F := elimL E199
          refine T.region ?_
          obtain rfl := Option.some.inj F
          refine R.mv rfl rfl (R.ib rfl rfl rfl rfl (R.as rfl rfl (R.nil (fun a ha => ⟨_, E192, ha.sub ⟨rfl, rfl, rfl, rfl, trivial⟩, h⟩))))
      · replace F := (ifF c198).symm.trans F
        obtain rfl := Option.some.inj F
        replace F := congrArg some (c2 _ rfl)
        obtain rfl := Option.some.inj F
        refine T.exit (fun a ha => ⟨_, rfl, ha.sub ⟨rfl, trivial⟩, (h.sel [0] rfl (by decide))⟩)
  · clear F
    rintro a w ⟨y113, rfl, ha, h⟩
    refine T.use ?_ ha
    have F := elimL E111
    refine T.seq fun Kk267 k267 => ?_
    refine T.region ?_
    refine R.bld rfl rfl bd7 (R.stB (ds := [.int .i64 0, .int .i64 0, .int .i64 0, .int .i64 0]) 0 h rfl sz66 rfl rfl rfl rfl rfl (fun w (h : H W0 (fun _ => False) w [] [ABox b102 66 #[.int .i64 0, .int .i64 0, .int .i64 0, .int .i64 0]]) => R.as rfl rfl (R.nil (k267 _ _ ?_))))
    obtain rfl := Option.some.inj F
    refine T.ret (retG (vs := [.agg #[.int .i64 0, .int .i64 0, .int .i64 0, .int .i64 0], .int .i64 72]) [.cell 2 66, .tmp 3] rfl ⟨⟨_, rfl, h.loadBox 0 rfl sh66⟩, rfl, trivial⟩ ⟨rfl, h.fr0⟩)
attribute [irreducible] verb_Parse

/-! echelon/verb.Count: function 47 -/
noncomputable def verb_Count : Option (Int) :=
  some 7
theorem verb_Count.ok {r : Int} {W0 : World} (F : verb_Count = some r) (hg : Gl W0) :
    Calls Tryd.prog 47 [].toArray W0 fun e w' => ∃ v, e = .returned v ∧ (v = .int .i64 r ∧ Fr0 W0 w') := by
  unfold verb_Count at F
  refine calls_body 1 Tryd.func47 rfl rfl rfl ?_
  have h := H.nil W0
  refine T.seq fun Kk101 k101 => ?_
  refine T.region ?_
  refine R.as rfl rfl (R.nil (k101 _ _ ?_))
  refine T.seq fun Kk102 k102 => ?_
  refine T.region ?_
  refine R.as rfl rfl (R.nil (k102 _ _ ?_))
  obtain rfl := Option.some.inj F
  refine T.ret (retG (vs := [.int .i64 7]) [.tmp 0] rfl ⟨rfl, trivial⟩ ⟨rfl, h.fr0⟩)
attribute [irreducible] verb_Count

/-! echelon/verb.Name: function 45 -/
noncomputable def verb_Name (a0 : Int) : Option (Str) :=
  (verb_specOf a0).bind fun x103 => some x103.1.f_name
theorem verb_Name.ok {a0 : Int} {r : Str} {W0 : World} (F : verb_Name a0 = some r) (hg : Gl W0) :
    Calls Tryd.prog 45 [(.int .i64 a0 : Value)].toArray W0 fun e w' => ∃ v, e = .returned v ∧ (v = vS r ∧ Fr0 W0 w') := by
  unfold verb_Name at F
  refine calls_body 12 Tryd.func45 rfl rfl rfl ?_
  have h := H.nil W0
  refine T.seq fun Kk101 k101 => ?_
  refine T.region ?_
  refine R.as rfl rfl (R.nil (k101 _ _ ?_))
  refine T.seq fun Kk102 k102 => ?_
  refine T.region ?_
  obtain ⟨x103, e104, F⟩ := Option.bind_eq_some_iff.1 F
  refine R.mv rfl rfl (R.callC (fl := []) (cl := []) rfl cf62 rfl rfl (verb_specOf.ok e104 (hg.fr0 h.fr0)) (?_))
  rintro _ w ⟨p105, c106, rfl, g107⟩
  replace h := h.join g107
  refine R.mv rfl rfl (R.ext rfl rfl rfl (R.ext rfl rfl rfl (R.alloc rfl h zr116 (fun b109 w (h : H W0 (fun _ => False) w [] [ASl 77 encGOperand p105 c106 x103.1.f_operands, ABox b109 116 #[vS ([]), .slice none 0 0]]) => R.stB (ds := [vS x103.1.f_name, .slice p105 x103.1.f_operands.length c106]) 1 h rfl sz116 rfl rfl rfl rfl rfl (fun w (h : H W0 (fun _ => False) w [] [ASl 77 encGOperand p105 c106 x103.1.f_operands, ABox b109 116 #[vS x103.1.f_name, .slice p105 x103.1.f_operands.length c106]]) => R.as rfl rfl (R.nil (k102 _ _ ?_)))))))
  refine T.seq fun Kk111 k111 => ?_
  refine T.region ?_
  refine R.fldB rfl fo116_0 rfl (R.ld rfl sh9 rfl (h.box 1 0 rfl rfl) (R.as rfl rfl (R.nil (k111 _ _ ?_))))
  obtain rfl := Option.some.inj F
  refine T.ret (retG (vs := [vS x103.1.f_name]) [.tmp 2] rfl ⟨rfl, trivial⟩ ⟨rfl, h.fr0⟩)
attribute [irreducible] verb_Name

/-! echelon/echelonlaw07.awake: function 35 -/
noncomputable def echelonlaw07_awake : Option (Bool) :=
  (verb_Parse ([102, 105, 114, 101, 32, 50])).bind fun x103 => (verb_Print (GOrder.mk 1 (-8) 8 0)).bind fun x109 => (verb_Check (GOrder.mk 1 9 0 0)).bind fun x113 => ((verb_Count).bind fun x118 => if x118 == 7 then (verb_Name 1).bind fun x122 => if x122 == ([115, 116, 101, 101, 114]) then (some ((x103.1.Verb == 4) && ((x103.1.A == 2) && ((x103.1.B == 0) && ((x103.1.C == 0) && true))))).bind fun (x126 : Bool) => if x126 then if x103.2 == 0 then (some (x109.1 == ([115, 116, 101, 101, 114, 32, 45, 56, 32, 56]))).bind fun (x130 : Bool) => if x130 then if x109.2 == 0 then some (x113 == 71) else some false else some false else some false else some false else some false else some false).bind fun (y117 : Bool) => some y117
theorem echelonlaw07_awake.ok {r : Bool} {W0 : World} (F : echelonlaw07_awake = some r) (hg : Gl W0) :
    Calls Tryd.prog 35 [].toArray W0 fun e w' => ∃ v, e = .returned v ∧ (v = .bool r ∧ Fr0 W0 w') := by
  unfold echelonlaw07_awake at F
  refine calls_body 44 Tryd.func35 rfl rfl rfl ?_
  have h := H.nil W0
  refine T.seq fun Kk101 k101 => ?_
  refine T.region ?_
  refine R.as rfl rfl (R.nil (k101 _ _ ?_))
  refine T.seq fun Kk102 k102 => ?_
  refine T.region ?_
  obtain ⟨x103, e104, F⟩ := Option.bind_eq_some_iff.1 F
  refine R.callC (fl := []) (cl := []) rfl cf40 rfl rfl (verb_Parse.ok e104 (hg.fr0 h.fr0)) (?_)
  rintro _ w ⟨rfl, g105⟩
  replace h := h.same g105
  refine R.mv rfl rfl (R.ext rfl rfl rfl (R.ext rfl rfl rfl (R.alloc rfl h zr66 (fun b106 w (h : H W0 (fun _ => False) w [] [ABox b106 66 #[.int .i64 0, .int .i64 0, .int .i64 0, .int .i64 0]]) => R.stB (ds := [.int .i64 x103.1.Verb, .int .i64 x103.1.A, .int .i64 x103.1.B, .int .i64 x103.1.C]) 0 h rfl sz66 rfl rfl rfl rfl rfl (fun w (h : H W0 (fun _ => False) w [] [ABox b106 66 (encGOrder.enc x103.1).toArray]) => R.as rfl rfl (R.nil (k102 _ _ ?_)))))))
  refine T.seq fun Kk108 k108 => ?_
  refine T.region ?_
  obtain ⟨x109, e110, F⟩ := Option.bind_eq_some_iff.1 F
  refine R.bld rfl rfl (bd9 _ _ _) (R.callC (fl := []) (cl := []) rfl cf38 rfl rfl (verb_Print.ok (a0 := GOrder.mk 1 (-8) 8 0) e110 (hg.fr0 h.fr0)) (?_))
  rintro _ w ⟨rfl, g111⟩
  replace h := h.same g111
  refine R.mv rfl rfl (R.ext rfl rfl rfl (R.ext rfl rfl rfl (R.as rfl rfl (R.as rfl rfl (R.nil (k108 _ _ ?_))))))
  refine T.seq fun Kk112 k112 => ?_
  refine T.region ?_
  obtain ⟨x113, e114, F⟩ := Option.bind_eq_some_iff.1 F
  refine R.bld rfl rfl (bd10 _ _) (R.callC (fl := []) (cl := []) rfl cf36 rfl rfl (verb_Check.ok (a0 := GOrder.mk 1 9 0 0) e114 (hg.fr0 h.fr0)) (?_))
  rintro _ w ⟨rfl, g115⟩
  replace h := h.same g115
  refine R.as rfl rfl (R.nil (k112 _ _ ?_))
  obtain ⟨y117, F, E116⟩ := Option.bind_eq_some_iff.1 F
  refine T.cut (fun a w => Agr 44 [(0, .bool y117)] a ∧ H W0 (fun _ => False) w [] []) ?_ ?_
  · refine T.region ?_
    obtain ⟨x118, e119, F⟩ := Option.bind_eq_some_iff.1 F
    refine R.callC (fl := []) (cl := []) rfl cf47 rfl rfl (verb_Count.ok e119 (hg.fr0 h.fr0)) (?_)
    rintro _ w ⟨rfl, g120⟩
    replace h := h.same g120
    refine R.ib rfl rfl rfl rfl (R.mv rfl rfl (?_))
    refine bsplit (x118 == 7) (fun c121 => ?_) (fun c121 => ?_)
    · replace F := (ifT c121).symm.trans F
      obtain ⟨x122, e123, F⟩ := Option.bind_eq_some_iff.1 F
      refine R.iff rfl rfl c121 (R.callC (fl := []) (cl := []) rfl cf45 rfl rfl (verb_Name.ok e123 (hg.fr0 h.fr0)) (?_))
      rintro _ w ⟨rfl, g124⟩
      replace h := h.same g124
      refine R.iff rfl rfl c121 (R.sb rfl rfl rfl rfl (R.pT rfl rfl c121 rfl (R.mv rfl rfl (?_))))
      refine bsplit (x122 == ([115, 116, 101, 101, 114])) (fun c125 => ?_) (fun c125 => ?_)
      · replace F := (ifT c125).symm.trans F
        obtain ⟨x126, e127, F⟩ := Option.bind_eq_some_iff.1 F
        refine R.iff rfl rfl c125 (R.ldN (cs := [.int .i64 x103.1.Verb, .int .i64 x103.1.A, .int .i64 x103.1.B, .int .i64 x103.1.C]) rfl sh66 rfl rfl (h.boxN 0 rfl rfl) (R.iff rfl rfl c125 (R.bld rfl rfl (bd10 _ _) (R.iff rfl rfl c125 (R.eqS rfl eg66 rfl rfl (eq66 _ _ _ _ _ _ _ _ ) (R.re (congrArg Value.bool (Option.some.inj e127)) (R.pT rfl rfl c125 rfl (R.mv rfl rfl (?_)))))))))
        refine bsplit x126 (fun c128 => ?_) (fun c128 => ?_)
        · replace F := (ifT c128).symm.trans F
          refine R.iff rfl rfl c128 (R.mv rfl rfl (R.iff rfl rfl c128 (R.ib rfl rfl rfl rfl (R.pT rfl rfl c128 rfl (R.mv rfl rfl (?_))))))
          refine bsplit (x103.2 == 0) (fun c129 => ?_) (fun c129 => ?_)
          · replace F := (ifT c129).symm.trans F
            obtain ⟨x130, e131, F⟩ := Option.bind_eq_some_iff.1 F
            refine R.iff rfl rfl c129 (R.mv rfl rfl (R.iff rfl rfl c129 (R.sb rfl rfl rfl rfl (R.re (congrArg Value.bool (Option.some.inj e131)) (R.pT rfl rfl c129 rfl (R.mv rfl rfl (?_)))))))
            refine bsplit x130 (fun c132 => ?_) (fun c132 => ?_)
            · replace F := (ifT c132).symm.trans F
              refine R.iff rfl rfl c132 (R.mv rfl rfl (R.iff rfl rfl c132 (R.ib rfl rfl rfl rfl (R.pT rfl rfl c132 rfl (R.mv rfl rfl (?_))))))
              refine bsplit (x109.2 == 0) (fun c133 => ?_) (fun c133 => ?_)
              · replace F := (ifT c133).symm.trans F
                obtain rfl := Option.some.inj F
                refine R.iff rfl rfl c133 (R.mv rfl rfl (R.iff rfl rfl c133 (R.ib rfl rfl rfl rfl (R.pT rfl rfl c133 rfl (R.as rfl rfl (R.nil (fun a ha => ⟨ha.sub ⟨rfl, trivial⟩, (h.sel [] rfl (by decide))⟩)))))))
              · replace F := (ifF c133).symm.trans F
                obtain rfl := Option.some.inj F
                refine R.not_ rfl rfl rfl c133 (R.not_ rfl rfl rfl c133 (R.pF rfl rfl c133 rfl (R.as rfl rfl (R.nil (fun a ha => ⟨ha.sub ⟨rfl, trivial⟩, (h.sel [] rfl (by decide))⟩)))))
            · replace F := (ifF c132).symm.trans F
              obtain rfl := Option.some.inj F
              refine R.not_ rfl rfl rfl c132 (R.not_ rfl rfl rfl c132 (R.pF rfl rfl c132 rfl (R.mv rfl rfl (R.not_ rfl rfl rfl rfl (R.not_ rfl rfl rfl rfl (R.pF rfl rfl rfl rfl (R.as rfl rfl (R.nil (fun a ha => ⟨ha.sub ⟨rfl, trivial⟩, (h.sel [] rfl (by decide))⟩)))))))))
          · replace F := (ifF c129).symm.trans F
            obtain rfl := Option.some.inj F
            refine R.not_ rfl rfl rfl c129 (R.not_ rfl rfl rfl c129 (R.pF rfl rfl c129 rfl (R.mv rfl rfl (R.not_ rfl rfl rfl rfl (R.not_ rfl rfl rfl rfl (R.pF rfl rfl rfl rfl (R.mv rfl rfl (R.not_ rfl rfl rfl rfl (R.not_ rfl rfl rfl rfl (R.pF rfl rfl rfl rfl (R.as rfl rfl (R.nil (fun a ha => ⟨ha.sub ⟨rfl, trivial⟩, (h.sel [] rfl (by decide))⟩)))))))))))))
        · replace F := (ifF c128).symm.trans F
          obtain rfl := Option.some.inj F
          refine R.not_ rfl rfl rfl c128 (R.not_ rfl rfl rfl c128 (R.pF rfl rfl c128 rfl (R.mv rfl rfl (R.not_ rfl rfl rfl rfl (R.not_ rfl rfl rfl rfl (R.pF rfl rfl rfl rfl (R.mv rfl rfl (R.not_ rfl rfl rfl rfl (R.not_ rfl rfl rfl rfl (R.pF rfl rfl rfl rfl (R.mv rfl rfl (R.not_ rfl rfl rfl rfl (R.not_ rfl rfl rfl rfl (R.pF rfl rfl rfl rfl (R.as rfl rfl (R.nil (fun a ha => ⟨ha.sub ⟨rfl, trivial⟩, (h.sel [] rfl (by decide))⟩)))))))))))))))))
      · replace F := (ifF c125).symm.trans F
        obtain rfl := Option.some.inj F
        refine R.not_ rfl rfl rfl c125 (R.not_ rfl rfl rfl c125 (R.not_ rfl rfl rfl c125 (R.pF rfl rfl c125 rfl (R.mv rfl rfl (R.not_ rfl rfl rfl rfl (R.not_ rfl rfl rfl rfl (R.pF rfl rfl rfl rfl (R.mv rfl rfl (R.not_ rfl rfl rfl rfl (R.not_ rfl rfl rfl rfl (R.pF rfl rfl rfl rfl (R.mv rfl rfl (R.not_ rfl rfl rfl rfl (R.not_ rfl rfl rfl rfl (R.pF rfl rfl rfl rfl (R.mv rfl rfl (R.not_ rfl rfl rfl rfl (R.not_ rfl rfl rfl rfl (R.pF rfl rfl rfl rfl (R.as rfl rfl (R.nil (fun a ha => ⟨ha.sub ⟨rfl, trivial⟩, (h.sel [] rfl (by decide))⟩))))))))))))))))))))))
    · replace F := (ifF c121).symm.trans F
      obtain rfl := Option.some.inj F
      refine R.not_ rfl rfl rfl c121 (R.not_ rfl rfl rfl c121 (R.pF rfl rfl c121 rfl (R.mv rfl rfl (R.not_ rfl rfl rfl rfl (R.not_ rfl rfl rfl rfl (R.not_ rfl rfl rfl rfl (R.pF rfl rfl rfl rfl (R.mv rfl rfl (R.not_ rfl rfl rfl rfl (R.not_ rfl rfl rfl rfl (R.pF rfl rfl rfl rfl (R.mv rfl rfl (R.not_ rfl rfl rfl rfl (R.not_ rfl rfl rfl rfl (R.pF rfl rfl rfl rfl (R.mv rfl rfl (R.not_ rfl rfl rfl rfl (R.not_ rfl rfl rfl rfl (R.pF rfl rfl rfl rfl (R.mv rfl rfl (R.not_ rfl rfl rfl rfl (R.not_ rfl rfl rfl rfl (R.pF rfl rfl rfl rfl (R.as rfl rfl (R.nil (fun a ha => ⟨ha.sub ⟨rfl, trivial⟩, (h.sel [] rfl (by decide))⟩))))))))))))))))))))))))))
  · clear F
    rintro a w ⟨ha, h⟩
    refine T.use ?_ ha
    have F := E116
    obtain rfl := Option.some.inj F
    refine T.ret (retG (vs := [.bool y117]) [.tmp 0] rfl ⟨rfl, trivial⟩ ⟨rfl, h.fr0⟩)
attribute [irreducible] echelonlaw07_awake

/-! echelon/echelonref07.Is: function 63 -/
noncomputable def echelonref07_Is (a0 : Int) : Option (Bool) :=
  (if decide (a0 ≥ 1) then some (decide (a0 ≤ 7)) else some false).bind fun (y103 : Bool) => some y103
theorem echelonref07_Is.ok {a0 : Int} {r : Bool} {W0 : World} (F : echelonref07_Is a0 = some r) (hg : Gl W0) :
    Calls Tryd.prog 63 [(.int .i64 a0 : Value)].toArray W0 fun e w' => ∃ v, e = .returned v ∧ (v = .bool r ∧ Fr0 W0 w') := by
  unfold echelonref07_Is at F
  refine calls_body 9 Tryd.func63 rfl rfl rfl ?_
  have h := H.nil W0
  refine T.seq fun Kk101 k101 => ?_
  refine T.region ?_
  refine R.as rfl rfl (R.nil (k101 _ _ ?_))
  obtain ⟨y103, F, E102⟩ := Option.bind_eq_some_iff.1 F
  refine T.cut (fun a w => Agr 9 [(2, .bool y103)] a ∧ H W0 (fun _ => False) w [] []) ?_ ?_
  · refine T.region ?_
    refine R.mv rfl rfl (R.ib rfl rfl rfl rfl (R.mv rfl rfl (?_)))
    refine bsplit (decide (a0 ≥ 1)) (fun c104 => ?_) (fun c104 => ?_)
    · replace F := (ifT c104).symm.trans F
      obtain rfl := Option.some.inj F
      refine R.iff rfl rfl c104 (R.mv rfl rfl (R.iff rfl rfl c104 (R.ib rfl rfl rfl rfl (R.pT rfl rfl c104 rfl (R.as rfl rfl (R.nil (fun a ha => ⟨ha.sub ⟨rfl, trivial⟩, h⟩)))))))
    · replace F := (ifF c104).symm.trans F
      obtain rfl := Option.some.inj F
      refine R.not_ rfl rfl rfl c104 (R.not_ rfl rfl rfl c104 (R.pF rfl rfl c104 rfl (R.as rfl rfl (R.nil (fun a ha => ⟨ha.sub ⟨rfl, trivial⟩, h⟩)))))
  · clear F
    rintro a w ⟨ha, h⟩
    refine T.use ?_ ha
    have F := E102
    obtain rfl := Option.some.inj F
    refine T.ret (retG (vs := [.bool y103]) [.tmp 2] rfl ⟨rfl, trivial⟩ ⟨rfl, h.fr0⟩)
attribute [irreducible] echelonref07_Is

/-! echelon/echelonref07.Operands: function 43 -/
noncomputable def echelonref07_Operands (a0 : Int) : Option (List GOperand) :=
  (echelonref07_Is a0).bind fun x103 => (if !x103 then some true else (getI tab2 (W (a0 - 1))).bind fun (x110 : Str) => some (x110 == ([]))).bind fun (y108 : Bool) => if y108 then some ([] : List GOperand) else (getI tab2 (W (a0 - 1))).bind fun (x125 : Str) => (getI tab0 (W (a0 - 1))).bind fun (x127 : Int) => (getI tab1 (W (a0 - 1))).bind fun (x129 : Int) => (if a0 == 1 then (must (decide ((([GOperand.mk x125 x127 x129]).length + ([GOperand.mk ([121]) (-8) 8]).length) * 32 ≤ 140737488355328))).bind fun _ => some (([GOperand.mk x125 x127 x129]) ++ ([GOperand.mk ([121]) (-8) 8])) else some ([GOperand.mk x125 x127 x129])).bind fun (y135 : List GOperand) => some y135
theorem echelonref07_Operands.ok {a0 : Int} {r : List GOperand} {W0 : World} (F : echelonref07_Operands a0 = some r) (hg : Gl W0) :
    Calls Tryd.prog 43 [(.int .i64 a0 : Value)].toArray W0 fun e w' => ∃ v, e = .returned v ∧ ∃ q0 d0, (v = .slice q0 r.length d0 ∧ H W0 (fun _ => False) w' [] [ASl 77 encGOperand q0 d0 r]) := by
  unfold echelonref07_Operands at F
  refine calls_body 37 Tryd.func43 rfl rfl rfl ?_
  have h := H.nil W0
  refine T.seq fun Kk101 k101 => ?_
  refine T.region ?_
  refine R.as rfl rfl (R.nil (k101 _ _ ?_))
  refine T.seq fun Kk102 k102 => ?_
  refine T.region ?_
  obtain ⟨x103, e104, F⟩ := Option.bind_eq_some_iff.1 F
  refine R.mv rfl rfl (R.callC (fl := []) (cl := []) rfl cf63 rfl rfl (echelonref07_Is.ok e104 (hg.fr0 h.fr0)) (?_))
  rintro _ w ⟨rfl, g105⟩
  replace h := h.same g105
  refine R.as rfl rfl (R.nil (k102 _ _ ?_))
  refine T.seq fun Kk106 k106 => ?_
  obtain ⟨y108, F, E107⟩ := Option.bind_eq_some_iff.1 F
  refine T.cut (fun a w => Agr 37 [(0, .int .i64 a0), (15, .bool y108)] a ∧ H W0 (fun _ => False) w [] []) ?_ ?_
  · refine T.region ?_
    refine R.mv rfl rfl (R.not rfl rfl (R.mv rfl rfl (?_)))
    refine bsplit (!x103) (fun c109 => ?_) (fun c109 => ?_)
    · replace F := (ifT c109).symm.trans F
      obtain rfl := Option.some.inj F
      refine R.not_ rfl rfl rfl c109 (R.not_ rfl rfl rfl c109 (R.not_ rfl rfl rfl c109 (R.not_ rfl rfl rfl c109 (R.not_ rfl rfl rfl c109 (R.pT rfl rfl c109 rfl (R.nil (fun a ha => ⟨ha.sub ⟨rfl, rfl, trivial⟩, h⟩)))))))
    · replace F := (ifF c109).symm.trans F
      obtain ⟨x110, e111, F⟩ := Option.bind_eq_some_iff.1 F
      obtain rfl := Option.some.inj F
      refine R.iff rfl rfl c109 (R.mv rfl rfl (R.iff rfl rfl c109 (R.ib rfl rfl rfl rfl (R.iff rfl rfl c109 (R.iaG (xs := tab2) rfl ar123 rfl rfl rfl e111 (R.iff rfl rfl c109 (R.ld rfl sh9 rfl (GT.cell ((hg.fr0 h.fr0).t2) e111 0 rfl) (R.iff rfl rfl c109 (R.sb rfl rfl rfl rfl (R.pF rfl rfl c109 rfl (R.nil (fun a ha => ⟨ha.sub ⟨rfl, rfl, trivial⟩, h⟩))))))))))))
  · clear F
    rintro a w ⟨ha, h⟩
    refine T.use ?_ ha
    have F := E107
    refine T.cond rfl (fun c112 => ?_) (fun c112 => ?_)
    · replace F := (ifT c112).symm.trans F
      refine T.seq fun Kk113 k113 => ?_
      refine T.region ?_
      refine R.as rfl rfl (R.nil (k113 _ _ ?_))
      obtain rfl := Option.some.inj F
      replace h := h.nilSl 77 encGOperand
      refine T.ret (retG (vs := [.slice none ([] : List GOperand).length 0]) [.tmp 2] rfl ⟨rfl, trivial⟩ ⟨_, _, rfl, h.out⟩)
    · replace F := (ifF c112).symm.trans F
      refine T.skip (k106 _ _ ?_)
      refine T.seq fun Kk115 k115 => ?_
      obtain ⟨x125, e126, F⟩ := Option.bind_eq_some_iff.1 F
      obtain ⟨x127, e128, F⟩ := Option.bind_eq_some_iff.1 F
      obtain ⟨x129, e130, F⟩ := Option.bind_eq_some_iff.1 F
      refine T.regionI (fun dn a w => ∃ p131 c132, Agr 37 [(0, .int .i64 a0), (15, .bool y108)] a ∧ Kn dn [(0, 16, .int .i64 a0), (1, 17, .int .i64 (W (a0 - 1))), (2, 18, .pointer (some ((⟨2, 0, none⟩ : Addr).add ((W (a0 - 1)).toNat * 1)))), (3, 19, vS x125), (4, 20, .int .i64 a0), (5, 21, .int .i64 (W (a0 - 1))), (6, 22, .pointer (some ((⟨0, 0, none⟩ : Addr).add ((W (a0 - 1)).toNat * 1)))), (7, 23, .int .i64 x127), (8, 24, .int .i64 a0), (9, 25, .int .i64 (W (a0 - 1))), (10, 26, .pointer (some ((⟨1, 0, none⟩ : Addr).add ((W (a0 - 1)).toNat * 1)))), (11, 27, .int .i64 x129), (12, 28, .agg #[vS x125, .int .i64 x127, .int .i64 x129]), (13, 29, .slice p131 ([GOperand.mk x125 x127 x129]).length c132), (14, 4, .slice p131 ([GOperand.mk x125 x127 x129]).length c132)] a ∧ H W0 (fun _ => False) w [] [(bif (dn 13) then ASl 77 encGOperand p131 c132 ([GOperand.mk x125 x127 x129]) else AEmp)]) mix (by kernel_rfl) ?_ ⟨?_, ?_, ?_, ?_, ?_, ?_, ?_, ?_, ?_, ?_, ?_, ?_, ?_, ?_, ?_, trivial⟩ ?_
      · intro a ha
        exact ⟨none, 0, ha.sub ⟨rfl, rfl, trivial⟩, Kn.start _, (h.same (Fr.drewN _ 1)).emp⟩
      · intro dn hn hcl haf a w
        rintro ⟨p131, c132, hA, hK, h⟩
        refine R.step (d := 16) (Φ := fun v w => v = .int .i64 a0 ∧ H W0 (fun _ => False) w [] [(bif (dn 13) then ASl 77 encGOperand p131 c132 ([GOperand.mk x125 x127 x129]) else AEmp)]) ?_ hA rfl rfl ?_
        · exact R.mv rfl rfl (R.nil (fun a ha => ⟨_, ha.slots _ _ rfl, ⟨rfl, h⟩, ha.defers, ha.size⟩))
        · rintro az v w ht hdf ⟨rfl, h⟩
          exact ⟨p131, c132, hA.putS rfl ht hdf, Kn.put hK hA 0 rfl rfl rfl ht, h⟩
      · intro dn hn hcl haf a w
        rintro ⟨p131, c132, hA, hK, h⟩
        have d0 : dn 0 = true := (afterB_at haf 0 rfl rfl)
        refine R.step (d := 17) (Φ := fun v w => v = .int .i64 (W (a0 - 1)) ∧ H W0 (fun _ => False) w [] [(bif (dn 13) then ASl 77 encGOperand p131 c132 ([GOperand.mk x125 x127 x129]) else AEmp)]) ?_ (hA.add (hK.get 0 rfl d0)) rfl rfl ?_
        · exact R.ib rfl rfl rfl rfl (R.nil (fun a ha => ⟨_, ha.slots _ _ rfl, ⟨rfl, h⟩, ha.defers, ha.size⟩))
        · rintro az v w ht hdf ⟨rfl, h⟩
          exact ⟨p131, c132, hA.putS rfl ht hdf, Kn.put hK hA 1 rfl rfl rfl ht, h⟩
      · intro dn hn hcl haf a w
        rintro ⟨p131, c132, hA, hK, h⟩
        have d1 : dn 1 = true := (afterB_at haf 0 rfl rfl)
        refine R.step (d := 18) (Φ := fun v w => v = .pointer (some ((⟨2, 0, none⟩ : Addr).add ((W (a0 - 1)).toNat * 1))) ∧ H W0 (fun _ => False) w [] [(bif (dn 13) then ASl 77 encGOperand p131 c132 ([GOperand.mk x125 x127 x129]) else AEmp)]) ?_ (hA.add (hK.get 1 rfl d1)) rfl rfl ?_
        · exact R.iaG (xs := tab2) rfl ar123 rfl rfl rfl e126 (R.nil (fun a ha => ⟨_, ha.slots _ _ rfl, ⟨rfl, h⟩, ha.defers, ha.size⟩))
        · rintro az v w ht hdf ⟨rfl, h⟩
          exact ⟨p131, c132, hA.putS rfl ht hdf, Kn.put hK hA 2 rfl rfl rfl ht, h⟩
      · intro dn hn hcl haf a w
        rintro ⟨p131, c132, hA, hK, h⟩
        have d2 : dn 2 = true := (afterB_at haf 0 rfl rfl)
        refine R.step (d := 19) (Φ := fun v w => v = vS x125 ∧ H W0 (fun _ => False) w [] [(bif (dn 13) then ASl 77 encGOperand p131 c132 ([GOperand.mk x125 x127 x129]) else AEmp)]) ?_ (hA.add (hK.get 2 rfl d2)) rfl rfl ?_
        · exact R.ld rfl sh9 rfl (GT.cell ((hg.fr0 h.fr0).t2) e126 0 rfl) (R.nil (fun a ha => ⟨_, ha.slots _ _ rfl, ⟨rfl, h⟩, ha.defers, ha.size⟩))
        · rintro az v w ht hdf ⟨rfl, h⟩
          exact ⟨p131, c132, hA.putS rfl ht hdf, Kn.put hK hA 3 rfl rfl rfl ht, h⟩
      · intro dn hn hcl haf a w
        rintro ⟨p131, c132, hA, hK, h⟩
        refine R.step (d := 20) (Φ := fun v w => v = .int .i64 a0 ∧ H W0 (fun _ => False) w [] [(bif (dn 13) then ASl 77 encGOperand p131 c132 ([GOperand.mk x125 x127 x129]) else AEmp)]) ?_ hA rfl rfl ?_
        · exact R.mv rfl rfl (R.nil (fun a ha => ⟨_, ha.slots _ _ rfl, ⟨rfl, h⟩, ha.defers, ha.size⟩))
        · rintro az v w ht hdf ⟨rfl, h⟩
          exact ⟨p131, c132, hA.putS rfl ht hdf, Kn.put hK hA 4 rfl rfl rfl ht, h⟩
      · intro dn hn hcl haf a w
        rintro ⟨p131, c132, hA, hK, h⟩
        have d4 : dn 4 = true := (afterB_at haf 0 rfl rfl)
        refine R.step (d := 21) (Φ := fun v w => v = .int .i64 (W (a0 - 1)) ∧ H W0 (fun _ => False) w [] [(bif (dn 13) then ASl 77 encGOperand p131 c132 ([GOperand.mk x125 x127 x129]) else AEmp)]) ?_ (hA.add (hK.get 4 rfl d4)) rfl rfl ?_
        · exact R.ib rfl rfl rfl rfl (R.nil (fun a ha => ⟨_, ha.slots _ _ rfl, ⟨rfl, h⟩, ha.defers, ha.size⟩))
        · rintro az v w ht hdf ⟨rfl, h⟩
          exact ⟨p131, c132, hA.putS rfl ht hdf, Kn.put hK hA 5 rfl rfl rfl ht, h⟩
      · intro dn hn hcl haf a w
        rintro ⟨p131, c132, hA, hK, h⟩
        have d5 : dn 5 = true := (afterB_at haf 0 rfl rfl)
        refine R.step (d := 22) (Φ := fun v w => v = .pointer (some ((⟨0, 0, none⟩ : Addr).add ((W (a0 - 1)).toNat * 1))) ∧ H W0 (fun _ => False) w [] [(bif (dn 13) then ASl 77 encGOperand p131 c132 ([GOperand.mk x125 x127 x129]) else AEmp)]) ?_ (hA.add (hK.get 5 rfl d5)) rfl rfl ?_
        · exact R.iaG (xs := tab0) rfl ar122 rfl rfl rfl e128 (R.nil (fun a ha => ⟨_, ha.slots _ _ rfl, ⟨rfl, h⟩, ha.defers, ha.size⟩))
        · rintro az v w ht hdf ⟨rfl, h⟩
          exact ⟨p131, c132, hA.putS rfl ht hdf, Kn.put hK hA 6 rfl rfl rfl ht, h⟩
      · intro dn hn hcl haf a w
        rintro ⟨p131, c132, hA, hK, h⟩
        have d6 : dn 6 = true := (afterB_at haf 0 rfl rfl)
        refine R.step (d := 23) (Φ := fun v w => v = .int .i64 x127 ∧ H W0 (fun _ => False) w [] [(bif (dn 13) then ASl 77 encGOperand p131 c132 ([GOperand.mk x125 x127 x129]) else AEmp)]) ?_ (hA.add (hK.get 6 rfl d6)) rfl rfl ?_
        · exact R.ld rfl sh3 rfl (GT.cell ((hg.fr0 h.fr0).t0) e128 0 rfl) (R.nil (fun a ha => ⟨_, ha.slots _ _ rfl, ⟨rfl, h⟩, ha.defers, ha.size⟩))
        · rintro az v w ht hdf ⟨rfl, h⟩
          exact ⟨p131, c132, hA.putS rfl ht hdf, Kn.put hK hA 7 rfl rfl rfl ht, h⟩
      · intro dn hn hcl haf a w
        rintro ⟨p131, c132, hA, hK, h⟩
        refine R.step (d := 24) (Φ := fun v w => v = .int .i64 a0 ∧ H W0 (fun _ => False) w [] [(bif (dn 13) then ASl 77 encGOperand p131 c132 ([GOperand.mk x125 x127 x129]) else AEmp)]) ?_ hA rfl rfl ?_
        · exact R.mv rfl rfl (R.nil (fun a ha => ⟨_, ha.slots _ _ rfl, ⟨rfl, h⟩, ha.defers, ha.size⟩))
        · rintro az v w ht hdf ⟨rfl, h⟩
          exact ⟨p131, c132, hA.putS rfl ht hdf, Kn.put hK hA 8 rfl rfl rfl ht, h⟩
      · intro dn hn hcl haf a w
        rintro ⟨p131, c132, hA, hK, h⟩
        have d8 : dn 8 = true := (afterB_at haf 0 rfl rfl)
        refine R.step (d := 25) (Φ := fun v w => v = .int .i64 (W (a0 - 1)) ∧ H W0 (fun _ => False) w [] [(bif (dn 13) then ASl 77 encGOperand p131 c132 ([GOperand.mk x125 x127 x129]) else AEmp)]) ?_ (hA.add (hK.get 8 rfl d8)) rfl rfl ?_
        · exact R.ib rfl rfl rfl rfl (R.nil (fun a ha => ⟨_, ha.slots _ _ rfl, ⟨rfl, h⟩, ha.defers, ha.size⟩))
        · rintro az v w ht hdf ⟨rfl, h⟩
          exact ⟨p131, c132, hA.putS rfl ht hdf, Kn.put hK hA 9 rfl rfl rfl ht, h⟩
      · intro dn hn hcl haf a w
        rintro ⟨p131, c132, hA, hK, h⟩
        have d9 : dn 9 = true := (afterB_at haf 0 rfl rfl)
        refine R.step (d := 26) (Φ := fun v w => v = .pointer (some ((⟨1, 0, none⟩ : Addr).add ((W (a0 - 1)).toNat * 1))) ∧ H W0 (fun _ => False) w [] [(bif (dn 13) then ASl 77 encGOperand p131 c132 ([GOperand.mk x125 x127 x129]) else AEmp)]) ?_ (hA.add (hK.get 9 rfl d9)) rfl rfl ?_
        · exact R.iaG (xs := tab1) rfl ar122 rfl rfl rfl e130 (R.nil (fun a ha => ⟨_, ha.slots _ _ rfl, ⟨rfl, h⟩, ha.defers, ha.size⟩))
        · rintro az v w ht hdf ⟨rfl, h⟩
          exact ⟨p131, c132, hA.putS rfl ht hdf, Kn.put hK hA 10 rfl rfl rfl ht, h⟩
      · intro dn hn hcl haf a w
        rintro ⟨p131, c132, hA, hK, h⟩
        have d10 : dn 10 = true := (afterB_at haf 0 rfl rfl)
        refine R.step (d := 27) (Φ := fun v w => v = .int .i64 x129 ∧ H W0 (fun _ => False) w [] [(bif (dn 13) then ASl 77 encGOperand p131 c132 ([GOperand.mk x125 x127 x129]) else AEmp)]) ?_ (hA.add (hK.get 10 rfl d10)) rfl rfl ?_
        · exact R.ld rfl sh3 rfl (GT.cell ((hg.fr0 h.fr0).t1) e130 0 rfl) (R.nil (fun a ha => ⟨_, ha.slots _ _ rfl, ⟨rfl, h⟩, ha.defers, ha.size⟩))
        · rintro az v w ht hdf ⟨rfl, h⟩
          exact ⟨p131, c132, hA.putS rfl ht hdf, Kn.put hK hA 11 rfl rfl rfl ht, h⟩
      · intro dn hn hcl haf a w
        rintro ⟨p131, c132, hA, hK, h⟩
        have d3 : dn 3 = true := (afterB_at haf 0 rfl rfl)
        have d7 : dn 7 = true := (afterB_at haf 1 rfl rfl)
        have d11 : dn 11 = true := (afterB_at haf 2 rfl rfl)
        refine R.step (d := 28) (Φ := fun v w => v = .agg #[vS x125, .int .i64 x127, .int .i64 x129] ∧ H W0 (fun _ => False) w [] [(bif (dn 13) then ASl 77 encGOperand p131 c132 ([GOperand.mk x125 x127 x129]) else AEmp)]) ?_ (((hA.add (hK.get 3 rfl d3)).add (hK.get 7 rfl d7)).add (hK.get 11 rfl d11)) rfl rfl ?_
        · exact R.bld rfl rfl (bd0 _ _ _) (R.nil (fun a ha => ⟨_, ha.slots _ _ rfl, ⟨rfl, h⟩, ha.defers, ha.size⟩))
        · rintro az v w ht hdf ⟨rfl, h⟩
          exact ⟨p131, c132, hA.putS rfl ht hdf, Kn.put hK hA 12 rfl rfl rfl ht, h⟩
      · intro dn hn hcl haf a w
        rintro ⟨p131, c132, hA, hK, h⟩
        have d12 : dn 12 = true := (afterB_at haf 0 rfl rfl)
        have f14 : dn 14 = false := (dnF (fun hm => (afterB_at (hcl 14 _ rfl hm) 0 rfl rfl)) hn)
        refine R.step (d := 29) (Φ := fun v w => ∃ p131 c132, v = .slice p131 ([GOperand.mk x125 x127 x129]).length c132 ∧ H W0 (fun _ => False) w [] [(bif true then ASl 77 encGOperand p131 c132 ([GOperand.mk x125 x127 x129]) else AEmp)]) ?_ (hA.add (hK.get 12 rfl d12)) rfl rfl ?_
        · exact R.litK (e := encGOperand) (xs := [GOperand.mk x125 x127 x129]) (vs := [.agg #[vS x125, .int .i64 x127, .int .i64 x129]]) rfl h u73 in77 rfl rfl rfl rfl rfl rfl (fun p131 c132 w h => R.nil (fun a ha => ⟨_, ha.slots _ _ rfl, ⟨p131, c132, rfl, ((h.sel [1] rfl (by decide)).wT 0 rfl (b := true) rfl)⟩, ha.defers, ha.size⟩))
        · rintro az v w ht hdf ⟨p131, c132, rfl, h⟩
          exact ⟨p131, c132, hA.putS rfl ht hdf, Kn.put (Kn.sw (K' := [(0, 16, .int .i64 a0), (1, 17, .int .i64 (W (a0 - 1))), (2, 18, .pointer (some ((⟨2, 0, none⟩ : Addr).add ((W (a0 - 1)).toNat * 1)))), (3, 19, vS x125), (4, 20, .int .i64 a0), (5, 21, .int .i64 (W (a0 - 1))), (6, 22, .pointer (some ((⟨0, 0, none⟩ : Addr).add ((W (a0 - 1)).toNat * 1)))), (7, 23, .int .i64 x127), (8, 24, .int .i64 a0), (9, 25, .int .i64 (W (a0 - 1))), (10, 26, .pointer (some ((⟨1, 0, none⟩ : Addr).add ((W (a0 - 1)).toNat * 1)))), (11, 27, .int .i64 x129), (12, 28, .agg #[vS x125, .int .i64 x127, .int .i64 x129]), (13, 29, .slice p131 ([GOperand.mk x125 x127 x129]).length c132), (14, 4, .slice p131 ([GOperand.mk x125 x127 x129]).length c132)]) hK ⟨⟨rfl, rfl, .inl rfl⟩, ⟨rfl, rfl, .inl rfl⟩, ⟨rfl, rfl, .inl rfl⟩, ⟨rfl, rfl, .inl rfl⟩, ⟨rfl, rfl, .inl rfl⟩, ⟨rfl, rfl, .inl rfl⟩, ⟨rfl, rfl, .inl rfl⟩, ⟨rfl, rfl, .inl rfl⟩, ⟨rfl, rfl, .inl rfl⟩, ⟨rfl, rfl, .inl rfl⟩, ⟨rfl, rfl, .inl rfl⟩, ⟨rfl, rfl, .inl rfl⟩, ⟨rfl, rfl, .inl rfl⟩, ⟨rfl, rfl, .inr hn⟩, ⟨rfl, rfl, .inr f14⟩, trivial⟩) hA 13 rfl rfl rfl ht, h⟩
      · intro dn hn hcl haf a w
        rintro ⟨p131, c132, hA, hK, h⟩
        have d13 : dn 13 = true := (afterB_at haf 0 rfl rfl)
        replace h := h.cT 0 rfl d13
        refine R.step (d := 4) (Φ := fun v w => v = .slice p131 ([GOperand.mk x125 x127 x129]).length c132 ∧ H W0 (fun _ => False) w [] [(bif (dn 13) then ASl 77 encGOperand p131 c132 ([GOperand.mk x125 x127 x129]) else AEmp)]) ?_ (hA.add (hK.get 13 rfl d13)) rfl rfl ?_
        · exact R.as rfl rfl (R.nil (fun a ha => ⟨_, ha.slots _ _ rfl, ⟨rfl, (h.wT 0 rfl d13)⟩, ha.defers, ha.size⟩))
        · rintro az v w ht hdf ⟨rfl, h⟩
          exact ⟨p131, c132, hA.putS rfl ht hdf, Kn.put hK hA 14 rfl rfl rfl ht, h⟩
      · rintro a w ⟨p131, c132, hA, hK, h⟩
        replace h : H W0 (fun _ => False) w [] [ASl 77 encGOperand p131 c132 ([GOperand.mk x125 x127 x129])] := h
        refine Go1.use (k115 _ _ ?_) (hA.add (hK.get 14 rfl rfl))
        obtain ⟨y135, F, E134⟩ := Option.bind_eq_some_iff.1 F
        refine T.cut (fun a w => ∃ p144 c145, Agr 37 [(4, .slice p144 y135.length c145)] a ∧ H W0 (fun _ => False) w [] [ASl 77 encGOperand p144 c145 y135]) ?_ ?_
        · refine T.seq fun Kk136 k136 => ?_
          refine T.region ?_
          refine R.mv rfl rfl (R.ib rfl rfl rfl rfl (R.nil (k136 _ _ ?_)))
          refine T.cond rfl (fun c137 => ?_) (fun c137 => ?_)
          · replace F := (ifT c137).symm.trans F
            refine T.region ?_
            obtain ⟨_, e141, F⟩ := Option.bind_eq_some_iff.1 F
            obtain rfl := Option.some.inj F
            refine R.mv rfl rfl (R.bld rfl rfl (bd0 _ _ _) (R.litK (e := encGOperand) (xs := [GOperand.mk ([121]) (-8) 8]) (vs := [.agg #[vS ([121]), .int .i64 (-8), .int .i64 8]]) rfl h u73 in77 rfl rfl rfl rfl rfl rfl (fun p138 c139 w h => R.appG 0 rfl h rfl u73 ia77 rfl rfl rfl rfl (h.rL 1 rfl) ⟨must_leN e141, by have := must_leN e141; omega⟩ (fun p142 c143 w h => R.as rfl rfl (R.nil (fun a ha => ⟨_, _, ha.sub ⟨rfl, trivial⟩, (h.sel [0] rfl (by decide))⟩))))))
          · replace F := (ifF c137).symm.trans F
            obtain rfl := Option.some.inj F
            refine T.skip (fun a ha => ⟨_, _, ha.sub ⟨rfl, trivial⟩, h⟩)
        · clear F
          rintro a w ⟨p144, c145, ha, h⟩
          refine T.use ?_ ha
          have F := E134
          refine T.seq fun Kk146 k146 => ?_
          refine T.region ?_
          refine R.mv rfl rfl (R.as rfl rfl (R.nil (k146 _ _ ?_)))
          obtain rfl := Option.some.inj F
          refine T.ret (retG (vs := [.slice p144 y135.length c145]) [.tmp 2] rfl ⟨rfl, trivial⟩ ⟨_, _, rfl, h.out⟩)
attribute [irreducible] echelonref07_Operands

/-! echelon/echelonref07.Check: function 37 -/
noncomputable def echelonref07_Check (a0 : GOrder) : Option (Int) :=
  (echelonref07_Is a0.Verb).bind fun x105 => if !x105 then some 70 else (echelonref07_Operands a0.Verb).bind fun x113 => (Loop.run (fun (s166 : Int) => if decide (s166 < 3) then (if decide (s166 ≥ (x113.length : Int)) then (must (([a0.A, a0.B, a0.C] : List Int).length == 3)).bind fun _ => (getI ([a0.A, a0.B, a0.C] : List Int) s166).bind fun (x176 : Int) => if x176 != 0 then some true else if decide (s166 < (x113.length : Int)) then (must (([a0.A, a0.B, a0.C] : List Int).length == 3)).bind fun _ => (getI ([a0.A, a0.B, a0.C] : List Int) s166).bind fun (x181 : Int) => (getI x113 s166).bind fun (x184 : GOperand) => if decide (x181 < x184.Least) then some true else (must (([a0.A, a0.B, a0.C] : List Int).length == 3)).bind fun _ => (getI ([a0.A, a0.B, a0.C] : List Int) s166).bind fun (x187 : Int) => (getI x113 s166).bind fun (x190 : GOperand) => some (decide (x187 > x190.Most)) else some false else if decide (s166 < (x113.length : Int)) then (must (([a0.A, a0.B, a0.C] : List Int).length == 3)).bind fun _ => (getI ([a0.A, a0.B, a0.C] : List Int) s166).bind fun (x193 : Int) => (getI x113 s166).bind fun (x196 : GOperand) => if decide (x193 < x196.Least) then some true else (must (([a0.A, a0.B, a0.C] : List Int).length == 3)).bind fun _ => (getI ([a0.A, a0.B, a0.C] : List Int) s166).bind fun (x199 : Int) => (getI x113 s166).bind fun (x202 : GOperand) => some (decide (x199 > x202.Most)) else some false).bind fun (y174 : Bool) => if y174 then some (.inr (.inr 71)) else some (.inl (W (s166 + 1))) else some (.inr ((.inl ())))) 0 : Option ((Unit) ⊕ _)).bind fun y123 => Sum.elim (fun (y124 : Unit) => some 0) some y123
theorem echelonref07_Check.ok {a0 : GOrder} {r : Int} {W0 : World} (F : echelonref07_Check a0 = some r) (hg : Gl W0) :
    Calls Tryd.prog 37 [(vGOrder a0 : Value)].toArray W0 fun e w' => ∃ v, e = .returned v ∧ (v = .int .i64 r ∧ Fr0 W0 w') := by
  unfold echelonref07_Check at F
  refine calls_body 64 Tryd.func37 rfl rfl rfl ?_
  have h := H.nil W0
  refine T.seq fun Kk101 k101 => ?_
  refine T.region ?_
  refine R.box rfl h rfl (fun b102 w (h : H W0 (fun _ => False) w [] [ABox b102 66 (encGOrder.enc a0).toArray]) => R.as rfl rfl (R.nil (k101 _ _ ?_)))
  refine T.seq fun Kk104 k104 => ?_
  refine T.region ?_
  obtain ⟨x105, e106, F⟩ := Option.bind_eq_some_iff.1 F
  refine R.fldB rfl fo66_0 rfl (R.ld rfl sh3 rfl (h.box 0 0 rfl rfl) (R.callC (fl := []) (cl := []) rfl cf63 rfl rfl (echelonref07_Is.ok e106 (hg.fr0 h.fr0)) (?_)))
  rintro _ w ⟨rfl, g107⟩
  replace h := h.same g107
  refine R.as rfl rfl (R.nil (k104 _ _ ?_))
  refine T.seq fun Kk108 k108 => ?_
  refine T.seq fun Kk109 k109 => ?_
  refine T.region ?_
  refine R.mv rfl rfl (R.not rfl rfl (R.nil (k109 _ _ ?_)))
  refine T.cond rfl (fun c110 => ?_) (fun c110 => ?_)
  · replace F := (ifT c110).symm.trans F
    refine T.seq fun Kk111 k111 => ?_
    refine T.region ?_
    refine R.as rfl rfl (R.nil (k111 _ _ ?_))
    obtain rfl := Option.some.inj F
    refine T.ret (retG (vs := [.int .i64 70]) [.tmp 2] rfl ⟨rfl, trivial⟩ ⟨rfl, h.fr0⟩)
  · replace F := (ifF c110).symm.trans F
    refine T.skip (k108 _ _ ?_)
    refine T.seq fun Kk112 k112 => ?_
    refine T.region ?_
    obtain ⟨x113, e114, F⟩ := Option.bind_eq_some_iff.1 F
    refine R.fldB rfl fo66_0 rfl (R.ld rfl sh3 rfl (h.box 0 0 rfl rfl) (R.callC (fl := []) (cl := []) rfl cf43 rfl rfl (echelonref07_Operands.ok e114 (hg.fr0 h.fr0)) (?_)))
    rintro _ w ⟨p115, c116, rfl, g117⟩
    replace h := h.join g117
    refine R.as rfl rfl (R.nil (k112 _ _ ?_))
    refine T.seq fun Kk119 k119 => ?_
    refine T.region ?_
    refine R.fldB rfl fo66_1 rfl (R.ld rfl sh3 rfl (h.box 0 1 rfl rfl) (R.fldB rfl fo66_2 rfl (R.ld rfl sh3 rfl (h.box 0 2 rfl rfl) (R.fldB rfl fo66_3 rfl (R.ld rfl sh3 rfl (h.box 0 3 rfl rfl) (R.bld rfl rfl (bd5 _ _ _) (R.allocA rfl h al81 (fun b120 w h => R.stAA (ys := [a0.A, a0.B, a0.C]) 2 h rfl sz81 rfl rfl rfl (fun w (h : H W0 (fun _ => False) w [] [ABox b102 66 (encGOrder.enc a0).toArray, ASl 77 encGOperand p115 c116 x113, AArr b120 81 (encI .i64) ([a0.A, a0.B, a0.C] : List Int)]) => R.nil (k119 _ _ ?_))))))))))
    obtain ⟨y123, F, E122⟩ := Option.bind_eq_some_iff.1 F
    refine T.cut (fun a w => ∃ y124, y123 = .inl y124 ∧ Agr 64 [] a ∧ H W0 (fun _ => False) w [] []) ?_ ?_
    · refine T.seq fun Kk125 k125 => ?_
      refine T.region ?_
      refine R.as rfl rfl (R.nil (k125 _ _ ?_))
      refine T.block ?_
      refine T.loop (fun (s166 : Int) a w => Agr 64 [(4, .slice p115 x113.length c116), (5, .pointer (some ⟨b120, 0, none⟩)), (6, .int .i64 s166)] a ∧ H W0 (fun _ => False) w [] [ASl 77 encGOperand p115 c116 x113, AArr b120 81 (encI .i64) ([a0.A, a0.B, a0.C] : List Int)]) F (fun a ha => ⟨ha.sub ⟨rfl, rfl, rfl, trivial⟩, (h.sel [1, 2] rfl (by decide))⟩) ?_
      clear h F
      intro s166 F a w
      rintro ⟨ha, h⟩
      refine T.use ?_ ha
      obtain ⟨x168, F, c1, c2⟩ := Loop.run_step F
      have E167 := F
      refine T.seq fun Kk169 k169 => ?_
      refine T.seq fun Kk170 k170 => ?_
      refine T.region ?_
      refine R.mv rfl rfl (R.ib rfl rfl rfl rfl (R.nil (k170 _ _ ?_)))
      refine T.cond rfl (fun c171 => ?_) (fun c171 => ?_)
      · replace F := (ifT c171).symm.trans F
        refine T.skip (k169 _ _ ?_)
        refine T.seq fun Kk172 k172 => ?_
        refine T.block ?_
        obtain ⟨y174, F, E173⟩ := Option.bind_eq_some_iff.1 F
        refine T.cut (fun a w => Agr 64 [(4, .slice p115 x113.length c116), (5, .pointer (some ⟨b120, 0, none⟩)), (6, .int .i64 s166), (63, .bool y174)] a ∧ H W0 (fun _ => False) w [] [ASl 77 encGOperand p115 c116 x113, AArr b120 81 (encI .i64) ([a0.A, a0.B, a0.C] : List Int)]) ?_ ?_
        · refine T.regionD (C := fun w => H W0 (fun _ => False) w [] [ASl 77 encGOperand p115 c116 x113, AArr b120 81 (encI .i64) ([a0.A, a0.B, a0.C] : List Int)]) mix (by kernel_rfl) (h.same (Fr.drewN _ 1)) ?_
          refine RD.val rfl rfl (fun w (h : H W0 (fun _ => False) w [] [ASl 77 encGOperand p115 c116 x113, AArr b120 81 (encI .i64) ([a0.A, a0.B, a0.C] : List Int)]) _ kk => R.mv rfl rfl (R.nil kk)) (RD.val rfl rfl (fun w (h : H W0 (fun _ => False) w [] [ASl 77 encGOperand p115 c116 x113, AArr b120 81 (encI .i64) ([a0.A, a0.B, a0.C] : List Int)]) _ kk => R.mv rfl rfl (R.nil kk)) (RD.lenSl rfl u73 rfl (RD.val rfl rfl (fun w (h : H W0 (fun _ => False) w [] [ASl 77 encGOperand p115 c116 x113, AArr b120 81 (encI .i64) ([a0.A, a0.B, a0.C] : List Int)]) _ kk => R.ib rfl rfl rfl rfl (R.nil kk)) (RD.val rfl rfl (fun w (h : H W0 (fun _ => False) w [] [ASl 77 encGOperand p115 c116 x113, AArr b120 81 (encI .i64) ([a0.A, a0.B, a0.C] : List Int)]) _ kk => R.mv rfl rfl (R.nil kk)) (?_)))))
          refine bsplit (decide (s166 ≥ (x113.length : Int))) (fun c175 => ?_) (fun c175 => ?_)
          · replace F := (ifT c175).symm.trans F
            obtain ⟨_, e177, F⟩ := Option.bind_eq_some_iff.1 F
            obtain ⟨x176, e178, F⟩ := Option.bind_eq_some_iff.1 F
            refine RD.iff rfl rfl c175 (RD.val rfl rfl (fun w (h : H W0 (fun _ => False) w [] [ASl 77 encGOperand p115 c116 x113, AArr b120 81 (encI .i64) ([a0.A, a0.B, a0.C] : List Int)]) _ kk => R.mv rfl rfl (R.nil kk)) (RD.iff rfl rfl c175 (RD.val rfl rfl (fun w (h : H W0 (fun _ => False) w [] [ASl 77 encGOperand p115 c116 x113, AArr b120 81 (encI .i64) ([a0.A, a0.B, a0.C] : List Int)]) _ kk => R.ia rfl ar81 rfl rfl (must_eq e177) e178 (R.nil kk)) (RD.iff rfl rfl c175 (RD.val rfl rfl (fun w (h : H W0 (fun _ => False) w [] [ASl 77 encGOperand p115 c116 x113, AArr b120 81 (encI .i64) ([a0.A, a0.B, a0.C] : List Int)]) _ kk => R.ld rfl sh3 rfl (h.arrG 1 rfl e178) (R.nil kk)) (RD.iff rfl rfl c175 (RD.val rfl rfl (fun w (h : H W0 (fun _ => False) w [] [ASl 77 encGOperand p115 c116 x113, AArr b120 81 (encI .i64) ([a0.A, a0.B, a0.C] : List Int)]) _ kk => R.ib rfl rfl rfl rfl (R.nil kk)) (RD.val rfl rfl (fun w (h : H W0 (fun _ => False) w [] [ASl 77 encGOperand p115 c116 x113, AArr b120 81 (encI .i64) ([a0.A, a0.B, a0.C] : List Int)]) _ kk => R.pT rfl rfl c175 rfl (R.nil kk)) (RD.val rfl rfl (fun w (h : H W0 (fun _ => False) w [] [ASl 77 encGOperand p115 c116 x113, AArr b120 81 (encI .i64) ([a0.A, a0.B, a0.C] : List Int)]) _ kk => R.mv rfl rfl (R.nil kk)) (?_))))))))))
            refine bsplit (x176 != 0) (fun c179 => ?_) (fun c179 => ?_)
            · replace F := (ifT c179).symm.trans F
              obtain rfl := Option.some.inj F
              refine RD.not_ rfl rfl rfl c179 (RD.not_ rfl rfl rfl c179 (RD.not_ rfl rfl rfl c179 (RD.not_ rfl rfl rfl c179 (RD.not_ rfl rfl rfl c179 (RD.offU rfl rfl rfl (RD.offU rfl rfl rfl (RD.offU rfl rfl rfl (RD.offU rfl rfl rfl (RD.offU rfl rfl rfl (RD.offU rfl rfl rfl (RD.offU rfl rfl rfl (RD.offU rfl rfl rfl (RD.offU rfl rfl rfl (RD.offU rfl rfl rfl (RD.offU rfl rfl rfl (RD.offU rfl rfl rfl (RD.offU rfl rfl rfl (RD.offU rfl rfl rfl (RD.offU rfl rfl rfl (RD.offU rfl rfl rfl (RD.offU rfl rfl rfl (RD.offU rfl rfl rfl (RD.offU rfl rfl rfl (RD.offU rfl rfl rfl (RD.not_ rfl rfl rfl c179 (RD.val rfl rfl (fun w (h : H W0 (fun _ => False) w [] [ASl 77 encGOperand p115 c116 x113, AArr b120 81 (encI .i64) ([a0.A, a0.B, a0.C] : List Int)]) _ kk => R.pT rfl rfl c179 rfl (R.nil kk)) (RD.nil (fun w (h : H W0 (fun _ => False) w [] [ASl 77 encGOperand p115 c116 x113, AArr b120 81 (encI .i64) ([a0.A, a0.B, a0.C] : List Int)]) => fun a ha => ⟨ha.sub ⟨rfl, rfl, rfl, rfl, trivial⟩, h⟩))))))))))))))))))))))))))))
            · replace F := (ifF c179).symm.trans F
              refine RD.iff rfl rfl c179 (RD.val rfl rfl (fun w (h : H W0 (fun _ => False) w [] [ASl 77 encGOperand p115 c116 x113, AArr b120 81 (encI .i64) ([a0.A, a0.B, a0.C] : List Int)]) _ kk => R.mv rfl rfl (R.nil kk)) (RD.iff rfl rfl c179 (RD.val rfl rfl (fun w (h : H W0 (fun _ => False) w [] [ASl 77 encGOperand p115 c116 x113, AArr b120 81 (encI .i64) ([a0.A, a0.B, a0.C] : List Int)]) _ kk => R.mv rfl rfl (R.nil kk)) (RD.iff rfl rfl c179 (RD.lenSl rfl u73 rfl (RD.iff rfl rfl c179 (RD.val rfl rfl (fun w (h : H W0 (fun _ => False) w [] [ASl 77 encGOperand p115 c116 x113, AArr b120 81 (encI .i64) ([a0.A, a0.B, a0.C] : List Int)]) _ kk => R.ib rfl rfl rfl rfl (R.nil kk)) (RD.iff rfl rfl c179 (RD.val rfl rfl (fun w (h : H W0 (fun _ => False) w [] [ASl 77 encGOperand p115 c116 x113, AArr b120 81 (encI .i64) ([a0.A, a0.B, a0.C] : List Int)]) _ kk => R.mv rfl rfl (R.nil kk)) (?_))))))))))
              refine bsplit (decide (s166 < (x113.length : Int))) (fun c180 => ?_) (fun c180 => ?_)
              · replace F := (ifT c180).symm.trans F
                obtain ⟨_, e182, F⟩ := Option.bind_eq_some_iff.1 F
                obtain ⟨x181, e183, F⟩ := Option.bind_eq_some_iff.1 F
                obtain ⟨x184, e185, F⟩ := Option.bind_eq_some_iff.1 F
                refine RD.iff rfl rfl c180 (RD.val rfl rfl (fun w (h : H W0 (fun _ => False) w [] [ASl 77 encGOperand p115 c116 x113, AArr b120 81 (encI .i64) ([a0.A, a0.B, a0.C] : List Int)]) _ kk => R.mv rfl rfl (R.nil kk)) (RD.iff rfl rfl c180 (RD.val rfl rfl (fun w (h : H W0 (fun _ => False) w [] [ASl 77 encGOperand p115 c116 x113, AArr b120 81 (encI .i64) ([a0.A, a0.B, a0.C] : List Int)]) _ kk => R.ia rfl ar81 rfl rfl (must_eq e182) e183 (R.nil kk)) (RD.iff rfl rfl c180 (RD.val rfl rfl (fun w (h : H W0 (fun _ => False) w [] [ASl 77 encGOperand p115 c116 x113, AArr b120 81 (encI .i64) ([a0.A, a0.B, a0.C] : List Int)]) _ kk => R.ld rfl sh3 rfl (h.arrG 1 rfl e183) (R.nil kk)) (RD.iff rfl rfl c180 (RD.val rfl rfl (fun w (h : H W0 (fun _ => False) w [] [ASl 77 encGOperand p115 c116 x113, AArr b120 81 (encI .i64) ([a0.A, a0.B, a0.C] : List Int)]) _ kk => R.mv rfl rfl (R.nil kk)) (RD.iff rfl rfl c180 (RD.val rfl rfl (fun w (h : H W0 (fun _ => False) w [] [ASl 77 encGOperand p115 c116 x113, AArr b120 81 (encI .i64) ([a0.A, a0.B, a0.C] : List Int)]) _ kk => R.mv rfl rfl (R.nil kk)) (RD.iff rfl rfl c180 (RD.val rfl rfl (fun w (h : H W0 (fun _ => False) w [] [ASl 77 encGOperand p115 c116 x113, AArr b120 81 (encI .i64) ([a0.A, a0.B, a0.C] : List Int)]) _ kk => R.ixS rfl ss73 rfl rfl (h.rL 0 rfl) e185 (R.nil kk)) (RD.iff rfl rfl c180 (RD.val rfl rfl (fun w (h : H W0 (fun _ => False) w [] [ASl 77 encGOperand p115 c116 x113, AArr b120 81 (encI .i64) ([a0.A, a0.B, a0.C] : List Int)]) _ kk => R.fldE rfl fo77_1 rfl (R.nil kk)) (RD.iff rfl rfl c180 (RD.val rfl rfl (fun w (h : H W0 (fun _ => False) w [] [ASl 77 encGOperand p115 c116 x113, AArr b120 81 (encI .i64) ([a0.A, a0.B, a0.C] : List Int)]) _ kk => R.ld rfl sh3 rfl (RdS.cell (h.rL 0 rfl) e185 1 rfl) (R.nil kk)) (RD.iff rfl rfl c180 (RD.val rfl rfl (fun w (h : H W0 (fun _ => False) w [] [ASl 77 encGOperand p115 c116 x113, AArr b120 81 (encI .i64) ([a0.A, a0.B, a0.C] : List Int)]) _ kk => R.ib rfl rfl rfl rfl (R.nil kk)) (RD.iff rfl rfl c180 (RD.val rfl rfl (fun w (h : H W0 (fun _ => False) w [] [ASl 77 encGOperand p115 c116 x113, AArr b120 81 (encI .i64) ([a0.A, a0.B, a0.C] : List Int)]) _ kk => R.mv rfl rfl (R.nil kk)) (?_))))))))))))))))))))
                refine bsplit (decide (x181 < x184.Least)) (fun c186 => ?_) (fun c186 => ?_)
                · replace F := (ifT c186).symm.trans F
                  obtain rfl := Option.some.inj F
                  refine RD.not_ rfl rfl rfl c186 (RD.not_ rfl rfl rfl c186 (RD.not_ rfl rfl rfl c186 (RD.not_ rfl rfl rfl c186 (RD.not_ rfl rfl rfl c186 (RD.not_ rfl rfl rfl c186 (RD.not_ rfl rfl rfl c186 (RD.not_ rfl rfl rfl c186 (RD.not_ rfl rfl rfl c186 (RD.iff rfl rfl c180 (RD.val rfl rfl (fun w (h : H W0 (fun _ => False) w [] [ASl 77 encGOperand p115 c116 x113, AArr b120 81 (encI .i64) ([a0.A, a0.B, a0.C] : List Int)]) _ kk => R.pT rfl rfl c186 rfl (R.nil kk)) (RD.iff rfl rfl c179 (RD.val rfl rfl (fun w (h : H W0 (fun _ => False) w [] [ASl 77 encGOperand p115 c116 x113, AArr b120 81 (encI .i64) ([a0.A, a0.B, a0.C] : List Int)]) _ kk => R.pT rfl rfl c180 rfl (R.nil kk)) (RD.val rfl rfl (fun w (h : H W0 (fun _ => False) w [] [ASl 77 encGOperand p115 c116 x113, AArr b120 81 (encI .i64) ([a0.A, a0.B, a0.C] : List Int)]) _ kk => R.pF rfl rfl c179 rfl (R.nil kk)) (RD.nil (fun w (h : H W0 (fun _ => False) w [] [ASl 77 encGOperand p115 c116 x113, AArr b120 81 (encI .i64) ([a0.A, a0.B, a0.C] : List Int)]) => fun a ha => ⟨ha.sub ⟨rfl, rfl, rfl, rfl, trivial⟩, h⟩)))))))))))))))
                · replace F := (ifF c186).symm.trans F
                  obtain ⟨_, e188, F⟩ := Option.bind_eq_some_iff.1 F
                  obtain ⟨x187, e189, F⟩ := Option.bind_eq_some_iff.1 F
                  obtain ⟨x190, e191, F⟩ := Option.bind_eq_some_iff.1 F
                  obtain rfl := Option.some.inj F
                  refine RD.iff rfl rfl c186 (RD.val rfl rfl (fun w (h : H W0 (fun _ => False) w [] [ASl 77 encGOperand p115 c116 x113, AArr b120 81 (encI .i64) ([a0.A, a0.B, a0.C] : List Int)]) _ kk => R.mv rfl rfl (R.nil kk)) (RD.iff rfl rfl c186 (RD.val rfl rfl (fun w (h : H W0 (fun _ => False) w [] [ASl 77 encGOperand p115 c116 x113, AArr b120 81 (encI .i64) ([a0.A, a0.B, a0.C] : List Int)]) _ kk => R.ia rfl ar81 rfl rfl (must_eq e188) e189 (R.nil kk)) (RD.iff rfl rfl c186 (RD.val rfl rfl (fun w (h : H W0 (fun _ => False) w [] [ASl 77 encGOperand p115 c116 x113, AArr b120 81 (encI .i64) ([a0.A, a0.B, a0.C] : List Int)]) _ kk => R.ld rfl sh3 rfl (h.arrG 1 rfl e189) (R.nil kk)) (RD.iff rfl rfl c186 (RD.val rfl rfl (fun w (h : H W0 (fun _ => False) w [] [ASl 77 encGOperand p115 c116 x113, AArr b120 81 (encI .i64) ([a0.A, a0.B, a0.C] : List Int)]) _ kk => R.mv rfl rfl (R.nil kk)) (RD.iff rfl rfl c186 (RD.val rfl rfl (fun w (h : H W0 (fun _ => False) w [] [ASl 77 encGOperand p115 c116 x113, AArr b120 81 (encI .i64) ([a0.A, a0.B, a0.C] : List Int)]) _ kk => R.mv rfl rfl (R.nil kk)) (RD.iff rfl rfl c186 (RD.val rfl rfl (fun w (h : H W0 (fun _ => False) w [] [ASl 77 encGOperand p115 c116 x113, AArr b120 81 (encI .i64) ([a0.A, a0.B, a0.C] : List Int)]) _ kk => R.ixS rfl ss73 rfl rfl (h.rL 0 rfl) e191 (R.nil kk)) (RD.iff rfl rfl c186 (RD.val rfl rfl (fun w (h : H W0 (fun _ => False) w [] [ASl 77 encGOperand p115 c116 x113, AArr b120 81 (encI .i64) ([a0.A, a0.B, a0.C] : List Int)]) _ kk => R.fldE rfl fo77_2 rfl (R.nil kk)) (RD.iff rfl rfl c186 (RD.val rfl rfl (fun w (h : H W0 (fun _ => False) w [] [ASl 77 encGOperand p115 c116 x113, AArr b120 81 (encI .i64) ([a0.A, a0.B, a0.C] : List Int)]) _ kk => R.ld rfl sh3 rfl (RdS.cell (h.rL 0 rfl) e191 2 rfl) (R.nil kk)) (RD.iff rfl rfl c186 (RD.val rfl rfl (fun w (h : H W0 (fun _ => False) w [] [ASl 77 encGOperand p115 c116 x113, AArr b120 81 (encI .i64) ([a0.A, a0.B, a0.C] : List Int)]) _ kk => R.ib rfl rfl rfl rfl (R.nil kk)) (RD.iff rfl rfl c180 (RD.val rfl rfl (fun w (h : H W0 (fun _ => False) w [] [ASl 77 encGOperand p115 c116 x113, AArr b120 81 (encI .i64) ([a0.A, a0.B, a0.C] : List Int)]) _ kk => R.pF rfl rfl c186 rfl (R.nil kk)) (RD.iff rfl rfl c179 (RD.val rfl rfl (fun w (h : H W0 (fun _ => False) w [] [ASl 77 encGOperand p115 c116 x113, AArr b120 81 (encI .i64) ([a0.A, a0.B, a0.C] : List Int)]) _ kk => R.pT rfl rfl c180 rfl (R.nil kk)) (RD.val rfl rfl (fun w (h : H W0 (fun _ => False) w [] [ASl 77 encGOperand p115 c116 x113, AArr b120 81 (encI .i64) ([a0.A, a0.B, a0.C] : List Int)]) _ kk => R.pF rfl rfl c179 rfl (R.nil kk)) (RD.nil (fun w (h : H W0 (fun _ => False) w [] [ASl 77 encGOperand p115 c116 x113, AArr b120 81 (encI .i64) ([a0.A, a0.B, a0.C] : List Int)]) => fun a ha => ⟨ha.sub ⟨rfl, rfl, rfl, rfl, trivial⟩, h⟩))))))))))))))))))))))))
              · replace F := (ifF c180).symm.trans F
                obtain rfl := Option.some.inj F
                refine RD.not_ rfl rfl rfl c180 (RD.not_ rfl rfl rfl c180 (RD.not_ rfl rfl rfl c180 (RD.not_ rfl rfl rfl c180 (RD.not_ rfl rfl rfl c180 (RD.not_ rfl rfl rfl c180 (RD.not_ rfl rfl rfl c180 (RD.not_ rfl rfl rfl c180 (RD.not_ rfl rfl rfl c180 (RD.not_ rfl rfl rfl c180 (RD.offU rfl rfl rfl (RD.offU rfl rfl rfl (RD.offU rfl rfl rfl (RD.offU rfl rfl rfl (RD.offU rfl rfl rfl (RD.offU rfl rfl rfl (RD.offU rfl rfl rfl (RD.offU rfl rfl rfl (RD.offU rfl rfl rfl (RD.not_ rfl rfl rfl c180 (RD.iff rfl rfl c179 (RD.val rfl rfl (fun w (h : H W0 (fun _ => False) w [] [ASl 77 encGOperand p115 c116 x113, AArr b120 81 (encI .i64) ([a0.A, a0.B, a0.C] : List Int)]) _ kk => R.pF rfl rfl c180 rfl (R.nil kk)) (RD.val rfl rfl (fun w (h : H W0 (fun _ => False) w [] [ASl 77 encGOperand p115 c116 x113, AArr b120 81 (encI .i64) ([a0.A, a0.B, a0.C] : List Int)]) _ kk => R.pF rfl rfl c179 rfl (R.nil kk)) (RD.nil (fun w (h : H W0 (fun _ => False) w [] [ASl 77 encGOperand p115 c116 x113, AArr b120 81 (encI .i64) ([a0.A, a0.B, a0.C] : List Int)]) => fun a ha => ⟨ha.sub ⟨rfl, rfl, rfl, rfl, trivial⟩, h⟩))))))))))))))))))))))))
          · replace F := (ifF c175).symm.trans F
            refine RD.not_ rfl rfl rfl c175 (RD.not_ rfl rfl rfl c175 (RD.not_ rfl rfl rfl c175 (RD.not_ rfl rfl rfl c175 (RD.val rfl rfl (fun w (h : H W0 (fun _ => False) w [] [ASl 77 encGOperand p115 c116 x113, AArr b120 81 (encI .i64) ([a0.A, a0.B, a0.C] : List Int)]) _ kk => R.pF rfl rfl c175 rfl (R.nil kk)) (RD.val rfl rfl (fun w (h : H W0 (fun _ => False) w [] [ASl 77 encGOperand p115 c116 x113, AArr b120 81 (encI .i64) ([a0.A, a0.B, a0.C] : List Int)]) _ kk => R.mv rfl rfl (R.nil kk)) (RD.iff rfl rfl rfl (RD.val rfl rfl (fun w (h : H W0 (fun _ => False) w [] [ASl 77 encGOperand p115 c116 x113, AArr b120 81 (encI .i64) ([a0.A, a0.B, a0.C] : List Int)]) _ kk => R.mv rfl rfl (R.nil kk)) (RD.iff rfl rfl rfl (RD.val rfl rfl (fun w (h : H W0 (fun _ => False) w [] [ASl 77 encGOperand p115 c116 x113, AArr b120 81 (encI .i64) ([a0.A, a0.B, a0.C] : List Int)]) _ kk => R.mv rfl rfl (R.nil kk)) (RD.iff rfl rfl rfl (RD.lenSl rfl u73 rfl (RD.iff rfl rfl rfl (RD.val rfl rfl (fun w (h : H W0 (fun _ => False) w [] [ASl 77 encGOperand p115 c116 x113, AArr b120 81 (encI .i64) ([a0.A, a0.B, a0.C] : List Int)]) _ kk => R.ib rfl rfl rfl rfl (R.nil kk)) (RD.iff rfl rfl rfl (RD.val rfl rfl (fun w (h : H W0 (fun _ => False) w [] [ASl 77 encGOperand p115 c116 x113, AArr b120 81 (encI .i64) ([a0.A, a0.B, a0.C] : List Int)]) _ kk => R.mv rfl rfl (R.nil kk)) (?_))))))))))))))))
            refine bsplit (decide (s166 < (x113.length : Int))) (fun c192 => ?_) (fun c192 => ?_)
            · replace F := (ifT c192).symm.trans F
              obtain ⟨_, e194, F⟩ := Option.bind_eq_some_iff.1 F
              obtain ⟨x193, e195, F⟩ := Option.bind_eq_some_iff.1 F
              obtain ⟨x196, e197, F⟩ := Option.bind_eq_some_iff.1 F
              refine RD.iff rfl rfl c192 (RD.val rfl rfl (fun w (h : H W0 (fun _ => False) w [] [ASl 77 encGOperand p115 c116 x113, AArr b120 81 (encI .i64) ([a0.A, a0.B, a0.C] : List Int)]) _ kk => R.mv rfl rfl (R.nil kk)) (RD.iff rfl rfl c192 (RD.val rfl rfl (fun w (h : H W0 (fun _ => False) w [] [ASl 77 encGOperand p115 c116 x113, AArr b120 81 (encI .i64) ([a0.A, a0.B, a0.C] : List Int)]) _ kk => R.ia rfl ar81 rfl rfl (must_eq e194) e195 (R.nil kk)) (RD.iff rfl rfl c192 (RD.val rfl rfl (fun w (h : H W0 (fun _ => False) w [] [ASl 77 encGOperand p115 c116 x113, AArr b120 81 (encI .i64) ([a0.A, a0.B, a0.C] : List Int)]) _ kk => R.ld rfl sh3 rfl (h.arrG 1 rfl e195) (R.nil kk)) (RD.iff rfl rfl c192 (RD.val rfl rfl (fun w (h : H W0 (fun _ => False) w [] [ASl 77 encGOperand p115 c116 x113, AArr b120 81 (encI .i64) ([a0.A, a0.B, a0.C] : List Int)]) _ kk => R.mv rfl rfl (R.nil kk)) (RD.iff rfl rfl c192 (RD.val rfl rfl (fun w (h : H W0 (fun _ => False) w [] [ASl 77 encGOperand p115 c116 x113, AArr b120 81 (encI .i64) ([a0.A, a0.B, a0.C] : List Int)]) _ kk => R.mv rfl rfl (R.nil kk)) (RD.iff rfl rfl c192 (RD.val rfl rfl (fun w (h : H W0 (fun _ => False) w [] [ASl 77 encGOperand p115 c116 x113, AArr b120 81 (encI .i64) ([a0.A, a0.B, a0.C] : List Int)]) _ kk => R.ixS rfl ss73 rfl rfl (h.rL 0 rfl) e197 (R.nil kk)) (RD.iff rfl rfl c192 (RD.val rfl rfl (fun w (h : H W0 (fun _ => False) w [] [ASl 77 encGOperand p115 c116 x113, AArr b120 81 (encI .i64) ([a0.A, a0.B, a0.C] : List Int)]) _ kk => R.fldE rfl fo77_1 rfl (R.nil kk)) (RD.iff rfl rfl c192 (RD.val rfl rfl (fun w (h : H W0 (fun _ => False) w [] [ASl 77 encGOperand p115 c116 x113, AArr b120 81 (encI .i64) ([a0.A, a0.B, a0.C] : List Int)]) _ kk => R.ld rfl sh3 rfl (RdS.cell (h.rL 0 rfl) e197 1 rfl) (R.nil kk)) (RD.iff rfl rfl c192 (RD.val rfl rfl (fun w (h : H W0 (fun _ => False) w [] [ASl 77 encGOperand p115 c116 x113, AArr b120 81 (encI .i64) ([a0.A, a0.B, a0.C] : List Int)]) _ kk => R.ib rfl rfl rfl rfl (R.nil kk)) (RD.iff rfl rfl c192 (RD.val rfl rfl (fun w (h : H W0 (fun _ => False) w [] [ASl 77 encGOperand p115 c116 x113, AArr b120 81 (encI .i64) ([a0.A, a0.B, a0.C] : List Int)]) _ kk => R.mv rfl rfl (R.nil kk)) (?_))))))))))))))))))))
              refine bsplit (decide (x193 < x196.Least)) (fun c198 => ?_) (fun c198 => ?_)
              · replace F := (ifT c198).symm.trans F
                obtain rfl := Option.some.inj F
                refine RD.not_ rfl rfl rfl c198 (RD.not_ rfl rfl rfl c198 (RD.not_ rfl rfl rfl c198 (RD.not_ rfl rfl rfl c198 (RD.not_ rfl rfl rfl c198 (RD.not_ rfl rfl rfl c198 (RD.not_ rfl rfl rfl c198 (RD.not_ rfl rfl rfl c198 (RD.not_ rfl rfl rfl c198 (RD.iff rfl rfl c192 (RD.val rfl rfl (fun w (h : H W0 (fun _ => False) w [] [ASl 77 encGOperand p115 c116 x113, AArr b120 81 (encI .i64) ([a0.A, a0.B, a0.C] : List Int)]) _ kk => R.pT rfl rfl c198 rfl (R.nil kk)) (RD.iff rfl rfl rfl (RD.val rfl rfl (fun w (h : H W0 (fun _ => False) w [] [ASl 77 encGOperand p115 c116 x113, AArr b120 81 (encI .i64) ([a0.A, a0.B, a0.C] : List Int)]) _ kk => R.pT rfl rfl c192 rfl (R.nil kk)) (RD.val rfl rfl (fun w (h : H W0 (fun _ => False) w [] [ASl 77 encGOperand p115 c116 x113, AArr b120 81 (encI .i64) ([a0.A, a0.B, a0.C] : List Int)]) _ kk => R.pF rfl rfl rfl rfl (R.nil kk)) (RD.nil (fun w (h : H W0 (fun _ => False) w [] [ASl 77 encGOperand p115 c116 x113, AArr b120 81 (encI .i64) ([a0.A, a0.B, a0.C] : List Int)]) => fun a ha => ⟨ha.sub ⟨rfl, rfl, rfl, rfl, trivial⟩, h⟩)))))))))))))))
              · replace F := (ifF c198).symm.trans F
                obtain ⟨_, e200, F⟩ := Option.bind_eq_some_iff.1 F
                obtain ⟨x199, e201, F⟩ := Option.bind_eq_some_iff.1 F
                obtain ⟨x202, e203, F⟩ := Option.bind_eq_some_iff.1 F
                obtain rfl := Option.some.inj F
                refine RD.iff rfl rfl c198 (RD.val rfl rfl (fun w (h : H W0 (fun _ => False) w [] [ASl 77 encGOperand p115 c116 x113, AArr b120 81 (encI .i64) ([a0.A, a0.B, a0.C] : List Int)]) _ kk => R.mv rfl rfl (R.nil kk)) (RD.iff rfl rfl c198 (RD.val rfl rfl (fun w (h : H W0 (fun _ => False) w [] [ASl 77 encGOperand p115 c116 x113, AArr b120 81 (encI .i64) ([a0.A, a0.B, a0.C] : List Int)]) _ kk => R.ia rfl ar81 rfl rfl (must_eq e200) e201 (R.nil kk)) (RD.iff rfl rfl c198 (RD.val rfl rfl (fun w (h : H W0 (fun _ => False) w [] [ASl 77 encGOperand p115 c116 x113, AArr b120 81 (encI .i64) ([a0.A, a0.B, a0.C] : List Int)]) _ kk => R.ld rfl sh3 rfl (h.arrG 1 rfl e201) (R.nil kk)) (RD.iff rfl rfl c198 (RD.val rfl rfl (fun w (h : H W0 (fun _ => False) w [] [ASl 77 encGOperand p115 c116 x113, AArr b120 81 (encI .i64) ([a0.A, a0.B, a0.C] : List Int)]) _ kk => R.mv rfl rfl (R.nil kk)) (RD.iff rfl rfl c198 (RD.val rfl rfl (fun w (h : H W0 (fun _ => False) w [] [ASl 77 encGOperand p115 c116 x113, AArr b120 81 (encI .i64) ([a0.A, a0.B, a0.C] : List Int)]) _ kk => R.mv rfl rfl (R.nil kk)) (RD.iff rfl rfl c198 (RD.val rfl rfl (fun w (h : H W0 (fun _ => False) w [] [ASl 77 encGOperand p115 c116 x113, AArr b120 81 (encI .i64) ([a0.A, a0.B, a0.C] : List Int)]) _ kk => R.ixS rfl ss73 rfl rfl (h.rL 0 rfl) e203 (R.nil kk)) (RD.iff rfl rfl c198 (RD.val rfl rfl (fun w (h : H W0 (fun _ => False) w [] [ASl 77 encGOperand p115 c116 x113, AArr b120 81 (encI .i64) ([a0.A, a0.B, a0.C] : List Int)]) _ kk => R.fldE rfl fo77_2 rfl (R.nil kk)) (RD.iff rfl rfl c198 (RD.val rfl rfl (fun w (h : H W0 (fun _ => False) w [] [ASl 77 encGOperand p115 c116 x113, AArr b120 81 (encI .i64) ([a0.A, a0.B, a0.C] : List Int)]) _ kk => R.ld rfl sh3 rfl (RdS.cell (h.rL 0 rfl) e203 2 rfl) (R.nil kk)) (RD.iff rfl rfl c198 (RD.val rfl rfl (fun w (h : H W0 (fun _ => False) w [] [ASl 77 encGOperand p115 c116 x113, AArr b120 81 (encI .i64) ([a0.A, a0.B, a0.C] : List Int)]) _ kk => R.ib rfl rfl rfl rfl (R.nil kk)) (RD.iff rfl rfl c192 (RD.val rfl rfl (fun w (h : H W0 (fun _ => False) w [] [ASl 77 encGOperand p115 c116 x113, AArr b120 81 (encI .i64) ([a0.A, a0.B, a0.C] : List Int)]) _ kk => R.pF rfl rfl c198 rfl (R.nil kk)) (RD.iff rfl rfl rfl (RD.val rfl rfl (fun w (h : H W0 (fun _ => False) w [] [ASl 77 encGOperand p115 c116 x113, AArr b120 81 (encI .i64) ([a0.A, a0.B, a0.C] : List Int)]) _ kk => R.pT rfl rfl c192 rfl (R.nil kk)) (RD.val rfl rfl (fun w (h : H W0 (fun _ => False) w [] [ASl 77 encGOperand p115 c116 x113, AArr b120 81 (encI .i64) ([a0.A, a0.B, a0.C] : List Int)]) _ kk => R.pF rfl rfl rfl rfl (R.nil kk)) (RD.nil (fun w (h : H W0 (fun _ => False) w [] [ASl 77 encGOperand p115 c116 x113, AArr b120 81 (encI .i64) ([a0.A, a0.B, a0.C] : List Int)]) => fun a ha => ⟨ha.sub ⟨rfl, rfl, rfl, rfl, trivial⟩, h⟩))))))))))))))))))))))))
            · replace F := (ifF c192).symm.trans F
              obtain rfl := Option.some.inj F
              refine RD.not_ rfl rfl rfl c192 (RD.not_ rfl rfl rfl c192 (RD.not_ rfl rfl rfl c192 (RD.not_ rfl rfl rfl c192 (RD.not_ rfl rfl rfl c192 (RD.not_ rfl rfl rfl c192 (RD.not_ rfl rfl rfl c192 (RD.not_ rfl rfl rfl c192 (RD.not_ rfl rfl rfl c192 (RD.not_ rfl rfl rfl c192 (RD.offU rfl rfl rfl (RD.offU rfl rfl rfl (RD.offU rfl rfl rfl (RD.offU rfl rfl rfl (RD.offU rfl rfl rfl (RD.offU rfl rfl rfl (RD.offU rfl rfl rfl (RD.offU rfl rfl rfl (RD.offU rfl rfl rfl (RD.not_ rfl rfl rfl c192 (RD.iff rfl rfl rfl (RD.val rfl rfl (fun w (h : H W0 (fun _ => False) w [] [ASl 77 encGOperand p115 c116 x113, AArr b120 81 (encI .i64) ([a0.A, a0.B, a0.C] : List Int)]) _ kk => R.pF rfl rfl c192 rfl (R.nil kk)) (RD.val rfl rfl (fun w (h : H W0 (fun _ => False) w [] [ASl 77 encGOperand p115 c116 x113, AArr b120 81 (encI .i64) ([a0.A, a0.B, a0.C] : List Int)]) _ kk => R.pF rfl rfl rfl rfl (R.nil kk)) (RD.nil (fun w (h : H W0 (fun _ => False) w [] [ASl 77 encGOperand p115 c116 x113, AArr b120 81 (encI .i64) ([a0.A, a0.B, a0.C] : List Int)]) => fun a ha => ⟨ha.sub ⟨rfl, rfl, rfl, rfl, trivial⟩, h⟩))))))))))))))))))))))))
        · clear F
          rintro a w ⟨ha, h⟩
          refine T.use ?_ ha
          have F := E173
          refine T.cond rfl (fun c204 => ?_) (fun c204 => ?_)
          · replace F := (ifT c204).symm.trans F
            refine T.seq fun Kk205 k205 => ?_
            refine T.region ?_
            refine R.as rfl rfl (R.nil (k205 _ _ ?_))
            obtain rfl := Option.some.inj F
            replace F := congrArg some (c2 _ rfl)
            obtain rfl := Option.some.inj F
            replace F := elimR E122
            obtain rfl := Option.some.inj F
            refine T.ret (retG (vs := [.int .i64 71]) [.tmp 2] rfl ⟨rfl, trivial⟩ ⟨rfl, h.fr0⟩)
          · replace F := (ifF c204).symm.trans F
            refine T.skip (k172 _ _ ?_)
            refine T.region ?_
            obtain rfl := Option.some.inj F
            refine R.mv rfl rfl (R.ib rfl rfl rfl rfl (R.as rfl rfl (R.nil (fun a ha => ⟨_, E167, ha.sub ⟨rfl, rfl, rfl, trivial⟩, h⟩))))
      · replace F := (ifF c171).symm.trans F
        obtain rfl := Option.some.inj F
        replace F := congrArg some (c2 _ rfl)
        obtain rfl := Option.some.inj F
        refine T.exit (fun a ha => ⟨_, rfl, ha.sub trivial, (h.sel [] rfl (by decide))⟩)
    · clear F
      rintro a w ⟨y124, rfl, ha, h⟩
      refine T.use ?_ ha
      have F := elimL E122
      refine T.seq fun Kk206 k206 => ?_
      refine T.region ?_
      refine R.as rfl rfl (R.nil (k206 _ _ ?_))
      obtain rfl := Option.some.inj F
      refine T.ret (retG (vs := [.int .i64 0]) [.tmp 2] rfl ⟨rfl, trivial⟩ ⟨rfl, h.fr0⟩)
attribute [irreducible] echelonref07_Check

/-! echelon/echelonlaw07.VerbChecks: function 11 -/
noncomputable def echelonlaw07_VerbChecks (a0 : GOrder) : Option (Bool) :=
  (echelonlaw07_awake).bind fun x105 => (if x105 then (verb_Check a0).bind fun x111 => (echelonref07_Check a0).bind fun x113 => some (x111 == x113) else some false).bind fun (y109 : Bool) => some y109
theorem echelonlaw07_VerbChecks.ok {a0 : GOrder} {r : Bool} {W0 : World} (F : echelonlaw07_VerbChecks a0 = some r) (hg : Gl W0) :
    Calls Tryd.prog 11 [(vGOrder a0 : Value)].toArray W0 fun e w' => ∃ v, e = .returned v ∧ (v = .bool r ∧ Fr0 W0 w') := by
  unfold echelonlaw07_VerbChecks at F
  refine calls_body 13 Tryd.func11 rfl rfl rfl ?_
  have h := H.nil W0
  refine T.seq fun Kk101 k101 => ?_
  refine T.region ?_
  refine R.box rfl h rfl (fun b102 w (h : H W0 (fun _ => False) w [] [ABox b102 66 (encGOrder.enc a0).toArray]) => R.as rfl rfl (R.nil (k101 _ _ ?_)))
  refine T.seq fun Kk104 k104 => ?_
  refine T.region ?_
  obtain ⟨x105, e106, F⟩ := Option.bind_eq_some_iff.1 F
  refine R.callC (fl := []) (cl := []) rfl cf35 rfl rfl (echelonlaw07_awake.ok e106 (hg.fr0 h.fr0)) (?_)
  rintro _ w ⟨rfl, g107⟩
  replace h := h.same g107
  refine R.as rfl rfl (R.nil (k104 _ _ ?_))
  obtain ⟨y109, F, E108⟩ := Option.bind_eq_some_iff.1 F
  refine T.cut (fun a w => Agr 13 [(2, .bool y109)] a ∧ H W0 (fun _ => False) w [] []) ?_ ?_
  · refine T.regionD (C := fun w => H W0 (fun _ => False) w [] [ABox b102 66 (encGOrder.enc a0).toArray]) mix (by kernel_rfl) (h.same (Fr.drewN _ 1)) ?_
    refine RD.val rfl rfl (fun w (h : H W0 (fun _ => False) w [] [ABox b102 66 (encGOrder.enc a0).toArray]) _ kk => R.mv rfl rfl (R.nil kk)) (RD.val rfl rfl (fun w (h : H W0 (fun _ => False) w [] [ABox b102 66 (encGOrder.enc a0).toArray]) _ kk => R.mv rfl rfl (R.nil kk)) (?_))
    refine bsplit x105 (fun c110 => ?_) (fun c110 => ?_)
    · replace F := (ifT c110).symm.trans F
      obtain ⟨x111, e112, F⟩ := Option.bind_eq_some_iff.1 F
      obtain ⟨x113, e114, F⟩ := Option.bind_eq_some_iff.1 F
      obtain rfl := Option.some.inj F
      refine RD.iff rfl rfl c110 (RD.val rfl rfl (fun w (h : H W0 (fun _ => False) w [] [ABox b102 66 (encGOrder.enc a0).toArray]) _ kk => R.ldN (cs := [.int .i64 a0.Verb, .int .i64 a0.A, .int .i64 a0.B, .int .i64 a0.C]) rfl sh66 rfl rfl (h.boxN 0 rfl rfl) (R.nil kk)) (RD.iff rfl rfl c110 (RD.callF rfl cf36 rfl (fun w (h : H W0 (fun _ => False) w [] [ABox b102 66 (encGOrder.enc a0).toArray]) => (verb_Check.ok e112 (hg.fr0 h.fr0)).mono (fun _ _ ⟨_, h1, h2, h3⟩ => ⟨by rw [h1, h2], h.same h3⟩)) (RD.iff rfl rfl c110 (RD.val rfl rfl (fun w (h : H W0 (fun _ => False) w [] [ABox b102 66 (encGOrder.enc a0).toArray]) _ kk => R.ldN (cs := [.int .i64 a0.Verb, .int .i64 a0.A, .int .i64 a0.B, .int .i64 a0.C]) rfl sh66 rfl rfl (h.boxN 0 rfl rfl) (R.nil kk)) (RD.iff rfl rfl c110 (RD.callF rfl cf37 rfl (fun w (h : H W0 (fun _ => False) w [] [ABox b102 66 (encGOrder.enc a0).toArray]) => (echelonref07_Check.ok e114 (hg.fr0 h.fr0)).mono (fun _ _ ⟨_, h1, h2, h3⟩ => ⟨by rw [h1, h2], h.same h3⟩)) (RD.iff rfl rfl c110 (RD.val rfl rfl (fun w (h : H W0 (fun _ => False) w [] [ABox b102 66 (encGOrder.enc a0).toArray]) _ kk => R.ib rfl rfl rfl rfl (R.nil kk)) (RD.val rfl rfl (fun w (h : H W0 (fun _ => False) w [] [ABox b102 66 (encGOrder.enc a0).toArray]) _ kk => R.pT rfl rfl c110 rfl (R.nil kk)) (RD.val rfl rfl (fun w (h : H W0 (fun _ => False) w [] [ABox b102 66 (encGOrder.enc a0).toArray]) _ kk => R.as rfl rfl (R.nil kk)) (RD.nil (fun w (h : H W0 (fun _ => False) w [] [ABox b102 66 (encGOrder.enc a0).toArray]) => fun a ha => ⟨ha.sub ⟨rfl, trivial⟩, (h.sel [] rfl (by decide))⟩)))))))))))))
    · replace F := (ifF c110).symm.trans F
      obtain rfl := Option.some.inj F
      refine RD.not_ rfl rfl rfl c110 (RD.not_ rfl rfl rfl c110 (RD.not_ rfl rfl rfl c110 (RD.not_ rfl rfl rfl c110 (RD.not_ rfl rfl rfl c110 (RD.val rfl rfl (fun w (h : H W0 (fun _ => False) w [] [ABox b102 66 (encGOrder.enc a0).toArray]) _ kk => R.pF rfl rfl c110 rfl (R.nil kk)) (RD.val rfl rfl (fun w (h : H W0 (fun _ => False) w [] [ABox b102 66 (encGOrder.enc a0).toArray]) _ kk => R.as rfl rfl (R.nil kk)) (RD.nil (fun w (h : H W0 (fun _ => False) w [] [ABox b102 66 (encGOrder.enc a0).toArray]) => fun a ha => ⟨ha.sub ⟨rfl, trivial⟩, (h.sel [] rfl (by decide))⟩))))))))
  · clear F
    rintro a w ⟨ha, h⟩
    refine T.use ?_ ha
    have F := E108
    obtain rfl := Option.some.inj F
    refine T.ret (retG (vs := [.bool y109]) [.tmp 2] rfl ⟨rfl, trivial⟩ ⟨rfl, h.fr0⟩)
attribute [irreducible] echelonlaw07_VerbChecks

end Go.Proofs.YtflmncjhonmmhaaDoor.Vc
