/- Walks of functions, written by my program g2.py out of Lean's print. -/
import Derived.Test.YtflmncjhonmmhaaDoorProg
import Derived.Test.YtflmncjhonmmhaaDoorVnG2
namespace Go.Proofs.YtflmncjhonmmhaaDoor.Vn
open Go
set_option linter.unusedVariables false
set_option linter.unusedSimpArgs false
set_option maxRecDepth 4000
set_option maxHeartbeats 4000000
/-! echelon/view.Print: function 22 -/
noncomputable def view_Print (a0 : GCounters) : Option (Str) :=
  ((some (([[116, 105, 99, 107, 115], [115, 116, 97, 108, 108, 115], [115, 116, 101, 112, 115], [99, 111, 112, 105, 101, 115], [108, 97, 116, 101], [115, 101, 110, 116], [103, 111, 116], [114, 101, 102, 117, 115, 101, 100], [97, 99, 99, 101, 112, 116, 101, 100]]).length : Int)).bind fun (x116 : Int) => Loop.run (fun (s148 : Int × List Str) => if decide (s148.1 < x116) then (getI ([[116, 105, 99, 107, 115], [115, 116, 97, 108, 108, 115], [115, 116, 101, 112, 115], [99, 111, 112, 105, 101, 115], [108, 97, 116, 101], [115, 101, 110, 116], [103, 111, 116], [114, 101, 102, 117, 115, 101, 100], [97, 99, 99, 101, 112, 116, 101, 100]]) s148.1).bind fun (x156 : Str) => (cat x156 ([32])).bind fun (x158 : Str) => (getI ([a0.Ticks, a0.Stalls, a0.Steps, a0.Copies, a0.Late, a0.Sent, a0.Got, a0.Refused, a0.Accepted]) s148.1).bind fun (x160 : Int) => (lib_Itoa x160).bind fun x162 => (cat x158 x162).bind fun (x165 : Str) => (must (decide ((s148.2.length + ([x165]).length) * 16 ≤ 140737488355328))).bind fun _ => some (.inl (W (s148.1 + 1), s148.2 ++ ([x165]))) else some (.inr (s148.2))) (0, ([] : List Str))).bind fun (y114 : List Str) => (lib_Join y114 ([32])).bind fun x182 => some x182
theorem view_Print.ok {a0 : GCounters} {r : Str} {W0 : World} (F : view_Print a0 = some r) (hg : Gl W0) :
    Calls Tryd.prog 22 [(vGCounters a0 : Value)].toArray W0 fun e w' => ∃ v, e = .returned v ∧ (v = vS r ∧ Fr0 W0 w') := by
  unfold view_Print at F
  refine calls_body 49 Tryd.func22 rfl rfl rfl ?_
  have h := H.nil W0
  refine T.seq fun Kk101 k101 => ?_
  refine T.region ?_
  refine R.box rfl h rfl (fun b102 w (h : H W0 (fun _ => False) w [] [ABox b102 44 (encGCounters.enc a0).toArray]) => R.as rfl rfl (R.nil (k101 _ _ ?_)))
  refine T.seq fun Kk104 k104 => ?_
  refine T.region ?_
  refine R.litK (e := encS) (xs := [[116, 105, 99, 107, 115], [115, 116, 97, 108, 108, 115], [115, 116, 101, 112, 115], [99, 111, 112, 105, 101, 115], [108, 97, 116, 101], [115, 101, 110, 116], [103, 111, 116], [114, 101, 102, 117, 115, 101, 100], [97, 99, 99, 101, 112, 116, 101, 100]]) (vs := [vS ([116, 105, 99, 107, 115]), vS ([115, 116, 97, 108, 108, 115]), vS ([115, 116, 101, 112, 115]), vS ([99, 111, 112, 105, 101, 115]), vS ([108, 97, 116, 101]), vS ([115, 101, 110, 116]), vS ([103, 111, 116]), vS ([114, 101, 102, 117, 115, 101, 100]), vS ([97, 99, 99, 101, 112, 116, 101, 100])]) rfl h u105 in9 rfl rfl rfl rfl rfl rfl (fun p105 c106 w h => R.as rfl rfl (R.nil (k104 _ _ ?_)))
  refine T.seq fun Kk108 k108 => ?_
  refine T.region ?_
  refine R.fldB rfl fo44_0 rfl (R.ld rfl sh3 rfl (h.box 0 0 rfl rfl) (R.fldB rfl fo44_1 rfl (R.ld rfl sh3 rfl (h.box 0 1 rfl rfl) (R.fldB rfl fo44_2 rfl (R.ld rfl sh3 rfl (h.box 0 2 rfl rfl) (R.fldB rfl fo44_3 rfl (R.ld rfl sh3 rfl (h.box 0 3 rfl rfl) (R.fldB rfl fo44_4 rfl (R.ld rfl sh3 rfl (h.box 0 4 rfl rfl) (R.fldB rfl fo44_5 rfl (R.ld rfl sh3 rfl (h.box 0 5 rfl rfl) (R.fldB rfl fo44_6 rfl (R.ld rfl sh3 rfl (h.box 0 6 rfl rfl) (R.fldB rfl fo44_7 rfl (R.ld rfl sh3 rfl (h.box 0 7 rfl rfl) (R.fldB rfl fo44_8 rfl (R.ld rfl sh3 rfl (h.box 0 8 rfl rfl) (R.litK (e := (encI .i64)) (xs := [a0.Ticks, a0.Stalls, a0.Steps, a0.Copies, a0.Late, a0.Sent, a0.Got, a0.Refused, a0.Accepted]) (vs := [.int .i64 a0.Ticks, .int .i64 a0.Stalls, .int .i64 a0.Steps, .int .i64 a0.Copies, .int .i64 a0.Late, .int .i64 a0.Sent, .int .i64 a0.Got, .int .i64 a0.Refused, .int .i64 a0.Accepted]) rfl h u61 in3 rfl rfl rfl rfl rfl rfl (fun p109 c110 w h => R.as rfl rfl (R.nil (k108 _ _ ?_)))))))))))))))))))))
  refine T.seq fun Kk112 k112 => ?_
  refine T.region ?_
  refine R.as rfl rfl (R.nil (k112 _ _ ?_))
  obtain ⟨y114, F, E113⟩ := Option.bind_eq_some_iff.1 F
  refine T.cut (fun a w => ∃ p179 c180, Agr 49 [(5, .slice p179 y114.length c180)] a ∧ H W0 (fun _ => False) w [] [ASl 9 encS p179 c180 y114]) ?_ ?_
  · refine T.seq fun Kk115 k115 => ?_
    refine T.region ?_
    obtain ⟨x116, e117, F⟩ := Option.bind_eq_some_iff.1 F
    refine R.mv rfl rfl (R.lenSl rfl u105 rfl (R.re (congrArg (Value.int .i64) (Option.some.inj e117)) (R.mv rfl rfl (R.nil (k115 _ _ ?_)))))
    refine T.block ?_
    replace h := h.nilSl 9 encS
    refine T.loop (fun (s148 : Int × List Str) a w => ∃ p146 c147, Agr 49 [(4, .slice p109 ([a0.Ticks, a0.Stalls, a0.Steps, a0.Copies, a0.Late, a0.Sent, a0.Got, a0.Refused, a0.Accepted]).length c110), (5, .slice p146 s148.2.length c147), (28, .slice p105 ([[116, 105, 99, 107, 115], [115, 116, 97, 108, 108, 115], [115, 116, 101, 112, 115], [99, 111, 112, 105, 101, 115], [108, 97, 116, 101], [115, 101, 110, 116], [103, 111, 116], [114, 101, 102, 117, 115, 101, 100], [97, 99, 99, 101, 112, 116, 101, 100]]).length c106), (29, .int .i64 x116), (30, .int .i64 s148.1)] a ∧ H W0 (fun _ => False) w [] [ASl 9 encS p105 c106 ([[116, 105, 99, 107, 115], [115, 116, 97, 108, 108, 115], [115, 116, 101, 112, 115], [99, 111, 112, 105, 101, 115], [108, 97, 116, 101], [115, 101, 110, 116], [103, 111, 116], [114, 101, 102, 117, 115, 101, 100], [97, 99, 99, 101, 112, 116, 101, 100]]), ASl 3 (encI .i64) p109 c110 ([a0.Ticks, a0.Stalls, a0.Steps, a0.Copies, a0.Late, a0.Sent, a0.Got, a0.Refused, a0.Accepted]), ASl 9 encS p146 c147 s148.2]) F (fun a ha => ⟨_, _, ha.sub ⟨rfl, rfl, rfl, rfl, rfl, trivial⟩, (h.sel [1, 2, 3] rfl (by decide))⟩) ?_
    clear h F
    intro s148 F a w
    rintro ⟨p146, c147, ha, h⟩
    refine T.use ?_ ha
    obtain ⟨x150, F, c1, c2⟩ := Loop.run_step F
    have E149 := F
    refine T.seq fun Kk151 k151 => ?_
    refine T.region ?_
    refine R.ib rfl rfl rfl rfl (R.nil (k151 _ _ ?_))
    refine T.seq fun Kk152 k152 => ?_
    refine T.cond rfl (fun c153 => ?_) (fun c153 => ?_)
    · replace F := (ifT c153).symm.trans F
      refine T.skip (k152 _ _ ?_)
      refine T.seq fun Kk154 k154 => ?_
      refine T.block ?_
      refine T.seq fun Kk155 k155 => ?_
      refine T.region ?_
      obtain ⟨x156, e157, F⟩ := Option.bind_eq_some_iff.1 F
      refine R.mv rfl rfl (R.ixS rfl ss105 rfl rfl (h.rL 0 rfl) e157 (R.ld rfl sh9 rfl (RdS.cell (h.rL 0 rfl) e157 0 rfl) (R.as rfl rfl (R.as rfl rfl (R.nil (k155 _ _ ?_))))))
      refine T.region ?_
      obtain ⟨x158, e159, F⟩ := Option.bind_eq_some_iff.1 F
      obtain ⟨x160, e161, F⟩ := Option.bind_eq_some_iff.1 F
      obtain ⟨x162, e163, F⟩ := Option.bind_eq_some_iff.1 F
      refine R.mv rfl rfl (R.mv rfl rfl (R.sadd rfl rfl rfl e159 (R.mv rfl rfl (R.mv rfl rfl (R.ixS rfl ss61 rfl rfl (h.rL 1 rfl) e161 (R.ld rfl sh3 rfl (RdS.cell (h.rL 1 rfl) e161 0 rfl) (R.callC (fl := []) (cl := []) rfl cf52 rfl rfl (lib_Itoa.ok e163 (hg.fr0 h.fr0)) (?_))))))))
      rintro _ w ⟨rfl, g164⟩
      replace h := h.same g164
      obtain ⟨x165, e166, F⟩ := Option.bind_eq_some_iff.1 F
      obtain ⟨_, e170, F⟩ := Option.bind_eq_some_iff.1 F
      refine R.sadd rfl rfl rfl e166 (R.litK (e := encS) (xs := [x165]) (vs := [vS x165]) rfl h u105 in9 rfl rfl rfl rfl rfl rfl (fun p167 c168 w h => R.appG 2 rfl h rfl u105 ia9 rfl rfl rfl rfl (h.rL 3 rfl) ⟨must_leN e170, by have := must_leN e170; omega⟩ (fun p171 c172 w h => R.as rfl rfl (R.nil (k154 _ _ ?_)))))
      refine T.region ?_
      obtain rfl := Option.some.inj F
      refine R.ib rfl rfl rfl rfl (R.mv rfl rfl (R.nil (fun a ha => ⟨_, E149, _, _, ha.sub ⟨rfl, rfl, rfl, rfl, rfl, trivial⟩, (h.sel [0, 1, 2] rfl (by decide))⟩)))
    · replace F := (ifF c153).symm.trans F
      obtain rfl := Option.some.inj F
      replace F := congrArg some (c2 _ rfl)
      obtain rfl := Option.some.inj F
      refine T.exit (fun a ha => ⟨_, _, ha.sub ⟨rfl, trivial⟩, (h.sel [2] rfl (by decide))⟩)
  · clear F
    rintro a w ⟨p179, c180, ha, h⟩
    refine T.use ?_ ha
    have F := E113
    refine T.seq fun Kk181 k181 => ?_
    refine T.region ?_
    obtain ⟨x182, e183, F⟩ := Option.bind_eq_some_iff.1 F
    refine R.mv rfl rfl (R.callC (fl := []) (cl := []) rfl cf53 rfl rfl (lib_Join.ok e183 (h.l 0 rfl) (hg.fr0 h.fr0)) (?_))
    rintro _ w ⟨rfl, g184⟩
    replace h := h.same g184
    refine R.as rfl rfl (R.nil (k181 _ _ ?_))
    obtain rfl := Option.some.inj F
    refine T.ret (retG (vs := [vS x182]) [.tmp 2] rfl ⟨rfl, trivial⟩ ⟨rfl, h.fr0⟩)
attribute [irreducible] view_Print

/-! echelon/view.Correct: function 17 -/
noncomputable def view_Correct (a0 : GWorld) (a1 : GWorld) : Option (List GCorrection × Int) :=
  ((some ((a1.Movers.length : Int) != (a0.Movers.length : Int))).bind fun (x118 : Bool) => if x118 then some true else (some ((a0.Scores.length : Int) != (a0.Movers.length : Int))).bind fun (x121 : Bool) => if x121 then some true else (some ((a1.Scores.length : Int) != (a0.Movers.length : Int))).bind fun (x124 : Bool) => some x124).bind fun (y117 : Bool) => if y117 then some (([] : List GCorrection), 230) else (Loop.run (fun (s192 : Int × List GCorrection) => (some (decide (s192.1 < (a0.Movers.length : Int)))).bind fun (x196 : Bool) => if x196 then ((getI a0.Movers s192.1).bind fun (x210 : GMover) => (getI a1.Movers s192.1).bind fun (x212 : GMover) => (getI a1.Scores s192.1).bind fun (x225 : GScore) => (getI a0.Scores s192.1).bind fun (x227 : GScore) => ((some (!((x210.At.X == x212.At.X) && ((x210.At.Y == x212.At.Y) && true)))).bind fun (x233 : Bool) => if x233 then some true else if (W (x212.Health - x210.Health)) != 0 then some true else some ((W (x225.Points - x227.Points)) != 0)).bind fun (y232 : Bool) => if y232 then (must (decide ((s192.2.length + ([GCorrection.mk s192.1 x210.At x212.At (W (x212.Health - x210.Health)) (W (x225.Points - x227.Points))]).length) * 56 ≤ 140737488355328))).bind fun _ => some (s192.2 ++ ([GCorrection.mk s192.1 x210.At x212.At (W (x212.Health - x210.Health)) (W (x225.Points - x227.Points))])) else some s192.2).bind fun (y201 : List GCorrection) => some (.inl (W (s192.1 + 1), y201)) else some (.inr (s192.2))) (0, ([] : List GCorrection))).bind fun (y131 : List GCorrection) => some (y131, 0)
theorem view_Correct.ok {a0 : GWorld} {a1 : GWorld} {p0_0 : Option Addr} {c0_0 : Nat} {p0_1 : Option Addr} {c0_1 : Nat} {p0_2 : Option Addr} {c0_2 : Nat} {p0_3 : Option Addr} {c0_3 : Nat} {p1_0 : Option Addr} {c1_0 : Nat} {p1_1 : Option Addr} {c1_1 : Nat} {p1_2 : Option Addr} {c1_2 : Nat} {p1_3 : Option Addr} {c1_3 : Nat} {r : List GCorrection × Int} {W0 : World} (F : view_Correct a0 a1 = some r) (hD0_0 : RdS W0 encGMover p0_0 c0_0 a0.Movers) (hD0_1 : RdS W0 encGScore p0_1 c0_1 a0.Scores) (hD0_2 : RdS W0 encGShot p0_2 c0_2 a0.Shots) (hD0_3 : RdS W0 encGPickup p0_3 c0_3 a0.Pickups) (hD1_0 : RdS W0 encGMover p1_0 c1_0 a1.Movers) (hD1_1 : RdS W0 encGScore p1_1 c1_1 a1.Scores) (hD1_2 : RdS W0 encGShot p1_2 c1_2 a1.Shots) (hD1_3 : RdS W0 encGPickup p1_3 c1_3 a1.Pickups) (hg : Gl W0) :
    Calls Tryd.prog 17 [(.agg #[.int .i64 a0.Frame, .slice p0_0 a0.Movers.length c0_0, .slice p0_1 a0.Scores.length c0_1, .slice p0_2 a0.Shots.length c0_2, .slice p0_3 a0.Pickups.length c0_3, .int .i64 a0.NextNo] : Value), (.agg #[.int .i64 a1.Frame, .slice p1_0 a1.Movers.length c1_0, .slice p1_1 a1.Scores.length c1_1, .slice p1_2 a1.Shots.length c1_2, .slice p1_3 a1.Pickups.length c1_3, .int .i64 a1.NextNo] : Value)].toArray W0 fun e w' => ∃ v, e = .returned v ∧ ∃ q0 d0, (v = .tuple #[.slice q0 r.1.length d0, .int .i64 r.2] ∧ H W0 (fun _ => False) w' [] [ASl 37 encGCorrection q0 d0 r.1]) := by
  unfold view_Correct at F
  refine calls_body 93 Tryd.func17 rfl rfl rfl ?_
  have h : H W0 (fun _ => False) W0 [DS encGMover p0_0 c0_0 a0.Movers, DS encGScore p0_1 c0_1 a0.Scores, DS encGShot p0_2 c0_2 a0.Shots, DS encGPickup p0_3 c0_3 a0.Pickups, DS encGMover p1_0 c1_0 a1.Movers, DS encGScore p1_1 c1_1 a1.Scores, DS encGShot p1_2 c1_2 a1.Shots, DS encGPickup p1_3 c1_3 a1.Pickups] [] := H.ofRs (List.forall_mem_cons.2 ⟨hD0_0.use, List.forall_mem_cons.2 ⟨hD0_1.use, List.forall_mem_cons.2 ⟨hD0_2.use, List.forall_mem_cons.2 ⟨hD0_3.use, List.forall_mem_cons.2 ⟨hD1_0.use, List.forall_mem_cons.2 ⟨hD1_1.use, List.forall_mem_cons.2 ⟨hD1_2.use, List.forall_mem_cons.2 ⟨hD1_3.use, fun _ h => by cases h⟩⟩⟩⟩⟩⟩⟩⟩)
  refine T.seq fun Kk109 k109 => ?_
  refine T.region ?_
  refine R.box rfl h rfl (fun b110 w (h : H W0 (fun _ => False) w [DS encGMover p0_0 c0_0 a0.Movers, DS encGScore p0_1 c0_1 a0.Scores, DS encGShot p0_2 c0_2 a0.Shots, DS encGPickup p0_3 c0_3 a0.Pickups, DS encGMover p1_0 c1_0 a1.Movers, DS encGScore p1_1 c1_1 a1.Scores, DS encGShot p1_2 c1_2 a1.Shots, DS encGPickup p1_3 c1_3 a1.Pickups] [ABox b110 27 #[.int .i64 a0.Frame, .slice p0_0 a0.Movers.length c0_0, .slice p0_1 a0.Scores.length c0_1, .slice p0_2 a0.Shots.length c0_2, .slice p0_3 a0.Pickups.length c0_3, .int .i64 a0.NextNo]]) => R.box rfl h rfl (fun b112 w (h : H W0 (fun _ => False) w [DS encGMover p0_0 c0_0 a0.Movers, DS encGScore p0_1 c0_1 a0.Scores, DS encGShot p0_2 c0_2 a0.Shots, DS encGPickup p0_3 c0_3 a0.Pickups, DS encGMover p1_0 c1_0 a1.Movers, DS encGScore p1_1 c1_1 a1.Scores, DS encGShot p1_2 c1_2 a1.Shots, DS encGPickup p1_3 c1_3 a1.Pickups] [ABox b110 27 #[.int .i64 a0.Frame, .slice p0_0 a0.Movers.length c0_0, .slice p0_1 a0.Scores.length c0_1, .slice p0_2 a0.Shots.length c0_2, .slice p0_3 a0.Pickups.length c0_3, .int .i64 a0.NextNo], ABox b112 27 #[.int .i64 a1.Frame, .slice p1_0 a1.Movers.length c1_0, .slice p1_1 a1.Scores.length c1_1, .slice p1_2 a1.Shots.length c1_2, .slice p1_3 a1.Pickups.length c1_3, .int .i64 a1.NextNo]]) => R.as rfl rfl (R.as rfl rfl (R.nil (k109 _ _ ?_)))))
  refine T.seq fun Kk114 k114 => ?_
  refine T.region ?_
  refine R.fldB rfl fo27_1 rfl (R.ld rfl sh22 rfl (h.box 0 1 rfl rfl) (R.lenSl rfl u22 rfl (R.as rfl rfl (R.nil (k114 _ _ ?_)))))
  refine T.seq fun Kk115 k115 => ?_
  obtain ⟨y117, F, E116⟩ := Option.bind_eq_some_iff.1 F
  refine T.cut (fun a w => Agr 93 [(2, .pointer (some ⟨b110, 0, none⟩)), (3, .pointer (some ⟨b112, 0, none⟩)), (6, .int .i64 (a0.Movers.length : Int)), (33, .bool y117)] a ∧ H W0 (fun _ => False) w [DS encGMover p0_0 c0_0 a0.Movers, DS encGScore p0_1 c0_1 a0.Scores, DS encGShot p0_2 c0_2 a0.Shots, DS encGPickup p0_3 c0_3 a0.Pickups, DS encGMover p1_0 c1_0 a1.Movers, DS encGScore p1_1 c1_1 a1.Scores, DS encGShot p1_2 c1_2 a1.Shots, DS encGPickup p1_3 c1_3 a1.Pickups] [ABox b110 27 #[.int .i64 a0.Frame, .slice p0_0 a0.Movers.length c0_0, .slice p0_1 a0.Scores.length c0_1, .slice p0_2 a0.Shots.length c0_2, .slice p0_3 a0.Pickups.length c0_3, .int .i64 a0.NextNo], ABox b112 27 #[.int .i64 a1.Frame, .slice p1_0 a1.Movers.length c1_0, .slice p1_1 a1.Scores.length c1_1, .slice p1_2 a1.Shots.length c1_2, .slice p1_3 a1.Pickups.length c1_3, .int .i64 a1.NextNo]]) ?_ ?_
  · refine T.region ?_
    obtain ⟨x118, e119, F⟩ := Option.bind_eq_some_iff.1 F
    refine R.fldB rfl fo27_1 rfl (R.ld rfl sh22 rfl (h.box 1 1 rfl rfl) (R.lenSl rfl u22 rfl (R.mv rfl rfl (R.ib rfl rfl rfl rfl (R.re (congrArg Value.bool (Option.some.inj e119)) (R.mv rfl rfl (?_)))))))
    refine bsplit x118 (fun c120 => ?_) (fun c120 => ?_)
    · replace F := (ifT c120).symm.trans F
      obtain rfl := Option.some.inj F
      refine R.not_ rfl rfl rfl c120 (R.not_ rfl rfl rfl c120 (R.not_ rfl rfl rfl c120 (R.not_ rfl rfl rfl c120 (R.not_ rfl rfl rfl c120 (R.pT rfl rfl c120 rfl (R.mv rfl rfl (R.not_ rfl rfl rfl rfl (R.not_ rfl rfl rfl rfl (R.not_ rfl rfl rfl rfl (R.not_ rfl rfl rfl rfl (R.not_ rfl rfl rfl rfl (R.pT rfl rfl rfl rfl (R.nil (fun a ha => ⟨ha.sub ⟨rfl, rfl, rfl, rfl, trivial⟩, h⟩))))))))))))))
    · replace F := (ifF c120).symm.trans F
      obtain ⟨x121, e122, F⟩ := Option.bind_eq_some_iff.1 F
      refine R.iff rfl rfl c120 (R.fldB rfl fo27_2 rfl (R.iff rfl rfl c120 (R.ld rfl sh23 rfl (h.box 0 2 rfl rfl) (R.iff rfl rfl c120 (R.lenSl rfl u23 rfl (R.iff rfl rfl c120 (R.mv rfl rfl (R.iff rfl rfl c120 (R.ib rfl rfl rfl rfl (R.re (congrArg Value.bool (Option.some.inj e122)) (R.pF rfl rfl c120 rfl (R.mv rfl rfl (?_)))))))))))))
      refine bsplit x121 (fun c123 => ?_) (fun c123 => ?_)
      · replace F := (ifT c123).symm.trans F
        obtain rfl := Option.some.inj F
        refine R.not_ rfl rfl rfl c123 (R.not_ rfl rfl rfl c123 (R.not_ rfl rfl rfl c123 (R.not_ rfl rfl rfl c123 (R.not_ rfl rfl rfl c123 (R.pT rfl rfl c123 rfl (R.nil (fun a ha => ⟨ha.sub ⟨rfl, rfl, rfl, rfl, trivial⟩, h⟩)))))))
      · replace F := (ifF c123).symm.trans F
        obtain ⟨x124, e125, F⟩ := Option.bind_eq_some_iff.1 F
        obtain rfl := Option.some.inj F
        refine R.iff rfl rfl c123 (R.fldB rfl fo27_2 rfl (R.iff rfl rfl c123 (R.ld rfl sh23 rfl (h.box 1 2 rfl rfl) (R.iff rfl rfl c123 (R.lenSl rfl u23 rfl (R.iff rfl rfl c123 (R.mv rfl rfl (R.iff rfl rfl c123 (R.ib rfl rfl rfl rfl (R.re (congrArg Value.bool (Option.some.inj e125)) (R.pF rfl rfl c123 rfl (R.nil (fun a ha => ⟨ha.sub ⟨rfl, rfl, rfl, rfl, trivial⟩, h⟩)))))))))))))
  · clear F
    rintro a w ⟨ha, h⟩
    refine T.use ?_ ha
    have F := E116
    refine T.cond rfl (fun c126 => ?_) (fun c126 => ?_)
    · replace F := (ifT c126).symm.trans F
      refine T.seq fun Kk127 k127 => ?_
      refine T.region ?_
      refine R.as rfl rfl (R.as rfl rfl (R.nil (k127 _ _ ?_)))
      obtain rfl := Option.some.inj F
      replace h := h.nilSl 37 encGCorrection
      refine T.ret (retG (vs := [.slice none ([] : List GCorrection).length 0, .int .i64 230]) [.tmp 4, .tmp 5] rfl ⟨rfl, rfl, trivial⟩ ⟨_, _, rfl, ((h.sel [2] rfl (by decide))).out⟩)
    · replace F := (ifF c126).symm.trans F
      refine T.skip (k115 _ _ ?_)
      refine T.seq fun Kk129 k129 => ?_
      refine T.region ?_
      refine R.as rfl rfl (R.nil (k129 _ _ ?_))
      obtain ⟨y131, F, E130⟩ := Option.bind_eq_some_iff.1 F
      refine T.cut (fun a w => ∃ p252 c253, Agr 93 [(7, .slice p252 y131.length c253)] a ∧ H W0 (fun _ => False) w [DS encGMover p0_0 c0_0 a0.Movers, DS encGScore p0_1 c0_1 a0.Scores, DS encGShot p0_2 c0_2 a0.Shots, DS encGPickup p0_3 c0_3 a0.Pickups, DS encGMover p1_0 c1_0 a1.Movers, DS encGScore p1_1 c1_1 a1.Scores, DS encGShot p1_2 c1_2 a1.Shots, DS encGPickup p1_3 c1_3 a1.Pickups] [ASl 37 encGCorrection p252 c253 y131]) ?_ ?_
      · refine T.seq fun Kk132 k132 => ?_
        refine T.region ?_
        refine R.mv rfl rfl (R.mv rfl rfl (R.nil (k132 _ _ ?_)))
        refine T.block ?_
        replace h := h.nilSl 37 encGCorrection
        refine T.loop (fun (s192 : Int × List GCorrection) a w => ∃ p190 c191, Agr 93 [(2, .pointer (some ⟨b110, 0, none⟩)), (3, .pointer (some ⟨b112, 0, none⟩)), (7, .slice p190 s192.2.length c191), (34, .int .i64 (a0.Movers.length : Int)), (35, .int .i64 s192.1)] a ∧ H W0 (fun _ => False) w [DS encGMover p0_0 c0_0 a0.Movers, DS encGScore p0_1 c0_1 a0.Scores, DS encGShot p0_2 c0_2 a0.Shots, DS encGPickup p0_3 c0_3 a0.Pickups, DS encGMover p1_0 c1_0 a1.Movers, DS encGScore p1_1 c1_1 a1.Scores, DS encGShot p1_2 c1_2 a1.Shots, DS encGPickup p1_3 c1_3 a1.Pickups] [ABox b110 27 #[.int .i64 a0.Frame, .slice p0_0 a0.Movers.length c0_0, .slice p0_1 a0.Scores.length c0_1, .slice p0_2 a0.Shots.length c0_2, .slice p0_3 a0.Pickups.length c0_3, .int .i64 a0.NextNo], ABox b112 27 #[.int .i64 a1.Frame, .slice p1_0 a1.Movers.length c1_0, .slice p1_1 a1.Scores.length c1_1, .slice p1_2 a1.Shots.length c1_2, .slice p1_3 a1.Pickups.length c1_3, .int .i64 a1.NextNo], ASl 37 encGCorrection p190 c191 s192.2]) F (fun a ha => ⟨_, _, ha.sub ⟨rfl, rfl, rfl, rfl, rfl, trivial⟩, h⟩) ?_
        clear h F
        intro s192 F a w
        rintro ⟨p190, c191, ha, h⟩
        refine T.use ?_ ha
        obtain ⟨x194, F, c1, c2⟩ := Loop.run_step F
        have E193 := F
        refine T.seq fun Kk195 k195 => ?_
        refine T.region ?_
        obtain ⟨x196, e197, F⟩ := Option.bind_eq_some_iff.1 F
        refine R.ib rfl rfl rfl rfl (R.re (congrArg Value.bool (Option.some.inj e197)) (R.nil (k195 _ _ ?_)))
        refine T.seq fun Kk198 k198 => ?_
        refine T.cond rfl (fun c199 => ?_) (fun c199 => ?_)
        · replace F := (ifT c199).symm.trans F
          refine T.skip (k198 _ _ ?_)
          obtain ⟨y201, F, E200⟩ := Option.bind_eq_some_iff.1 F
          refine T.cut (fun a w => ∃ p244 c245, Agr 93 [(2, .pointer (some ⟨b110, 0, none⟩)), (3, .pointer (some ⟨b112, 0, none⟩)), (7, .slice p244 y201.length c245), (34, .int .i64 (a0.Movers.length : Int)), (35, .int .i64 s192.1)] a ∧ H W0 (fun _ => False) w [DS encGMover p0_0 c0_0 a0.Movers, DS encGScore p0_1 c0_1 a0.Scores, DS encGShot p0_2 c0_2 a0.Shots, DS encGPickup p0_3 c0_3 a0.Pickups, DS encGMover p1_0 c1_0 a1.Movers, DS encGScore p1_1 c1_1 a1.Scores, DS encGShot p1_2 c1_2 a1.Shots, DS encGPickup p1_3 c1_3 a1.Pickups] [ABox b110 27 #[.int .i64 a0.Frame, .slice p0_0 a0.Movers.length c0_0, .slice p0_1 a0.Scores.length c0_1, .slice p0_2 a0.Shots.length c0_2, .slice p0_3 a0.Pickups.length c0_3, .int .i64 a0.NextNo], ABox b112 27 #[.int .i64 a1.Frame, .slice p1_0 a1.Movers.length c1_0, .slice p1_1 a1.Scores.length c1_1, .slice p1_2 a1.Shots.length c1_2, .slice p1_3 a1.Pickups.length c1_3, .int .i64 a1.NextNo], ASl 37 encGCorrection p244 c245 y201]) ?_ ?_
          · refine T.block ?_
            refine T.seq fun Kk202 k202 => ?_
            refine T.region ?_
            refine R.mv rfl rfl (R.as rfl rfl (R.nil (k202 _ _ ?_)))
            refine T.seq fun Kk203 k203 => ?_
            obtain ⟨x210, e211, F⟩ := Option.bind_eq_some_iff.1 F
            obtain ⟨x212, e213, F⟩ := Option.bind_eq_some_iff.1 F
            refine T.regionI (fun dn a w => ∃ b214 b216, Agr 93 [(2, .pointer (some ⟨b110, 0, none⟩)), (3, .pointer (some ⟨b112, 0, none⟩)), (7, .slice p190 s192.2.length c191), (8, .int .i64 s192.1), (34, .int .i64 (a0.Movers.length : Int)), (35, .int .i64 s192.1), (36, .bool x196), (37, .int .i64 s192.1)] a ∧ Kn dn [(0, 38, .pointer (some ⟨b110, 1, none⟩)), (1, 39, .slice p0_0 a0.Movers.length c0_0), (2, 40, .int .i64 s192.1), (3, 41, .pointer (some ((adr p0_0).add (s192.1.toNat * 13)))), (4, 42, vGMover x210), (5, 43, .pointer (some ⟨b112, 1, none⟩)), (6, 44, .slice p1_0 a1.Movers.length c1_0), (7, 45, .int .i64 s192.1), (8, 46, .pointer (some ((adr p1_0).add (s192.1.toNat * 13)))), (9, 47, vGMover x212), (10, 9, .pointer (some ⟨b214, 0, none⟩)), (11, 10, .pointer (some ⟨b216, 0, none⟩))] a ∧ H W0 (fun _ => False) w [DS encGMover p0_0 c0_0 a0.Movers, DS encGScore p0_1 c0_1 a0.Scores, DS encGShot p0_2 c0_2 a0.Shots, DS encGPickup p0_3 c0_3 a0.Pickups, DS encGMover p1_0 c1_0 a1.Movers, DS encGScore p1_1 c1_1 a1.Scores, DS encGShot p1_2 c1_2 a1.Shots, DS encGPickup p1_3 c1_3 a1.Pickups] [ABox b110 27 #[.int .i64 a0.Frame, .slice p0_0 a0.Movers.length c0_0, .slice p0_1 a0.Scores.length c0_1, .slice p0_2 a0.Shots.length c0_2, .slice p0_3 a0.Pickups.length c0_3, .int .i64 a0.NextNo], ABox b112 27 #[.int .i64 a1.Frame, .slice p1_0 a1.Movers.length c1_0, .slice p1_1 a1.Scores.length c1_1, .slice p1_2 a1.Shots.length c1_2, .slice p1_3 a1.Pickups.length c1_3, .int .i64 a1.NextNo], ASl 37 encGCorrection p190 c191 s192.2, (bif (dn 12) then ABox b214 85 (encGMover.enc x210).toArray else (bif (dn 10) then ABox b214 85 #[.int .i64 0, .int .i64 0, .int .i64 0, .int .i64 0, .int .i64 0, .int .i64 0, .int .i64 0, .int .i64 0, .int .i64 0, .bool false, .int .i64 0, .int .i64 0, .int .i64 0] else AEmp)), (bif (dn 13) then ABox b216 85 (encGMover.enc x212).toArray else (bif (dn 11) then ABox b216 85 #[.int .i64 0, .int .i64 0, .int .i64 0, .int .i64 0, .int .i64 0, .int .i64 0, .int .i64 0, .int .i64 0, .int .i64 0, .bool false, .int .i64 0, .int .i64 0, .int .i64 0] else AEmp))]) mix (by kernel_rfl) ?_ ⟨?_, ?_, ?_, ?_, ?_, ?_, ?_, ?_, ?_, ?_, ?_, ?_, ?_, ?_, trivial⟩ ?_
            · intro a ha
              exact ⟨0, 0, ha.sub ⟨rfl, rfl, rfl, rfl, rfl, rfl, rfl, rfl, trivial⟩, Kn.start _, (h.same (Fr.drewN w 1)).emp.emp⟩
            · intro dn hn hcl haf a w
              rintro ⟨b214, b216, hA, hK, h⟩
              refine R.step (d := 38) (Φ := fun v w => v = .pointer (some ⟨b110, 1, none⟩) ∧ H W0 (fun _ => False) w [DS encGMover p0_0 c0_0 a0.Movers, DS encGScore p0_1 c0_1 a0.Scores, DS encGShot p0_2 c0_2 a0.Shots, DS encGPickup p0_3 c0_3 a0.Pickups, DS encGMover p1_0 c1_0 a1.Movers, DS encGScore p1_1 c1_1 a1.Scores, DS encGShot p1_2 c1_2 a1.Shots, DS encGPickup p1_3 c1_3 a1.Pickups] [ABox b110 27 #[.int .i64 a0.Frame, .slice p0_0 a0.Movers.length c0_0, .slice p0_1 a0.Scores.length c0_1, .slice p0_2 a0.Shots.length c0_2, .slice p0_3 a0.Pickups.length c0_3, .int .i64 a0.NextNo], ABox b112 27 #[.int .i64 a1.Frame, .slice p1_0 a1.Movers.length c1_0, .slice p1_1 a1.Scores.length c1_1, .slice p1_2 a1.Shots.length c1_2, .slice p1_3 a1.Pickups.length c1_3, .int .i64 a1.NextNo], ASl 37 encGCorrection p190 c191 s192.2, (bif (dn 12) then ABox b214 85 (encGMover.enc x210).toArray else (bif (dn 10) then ABox b214 85 #[.int .i64 0, .int .i64 0, .int .i64 0, .int .i64 0, .int .i64 0, .int .i64 0, .int .i64 0, .int .i64 0, .int .i64 0, .bool false, .int .i64 0, .int .i64 0, .int .i64 0] else AEmp)), (bif (dn 13) then ABox b216 85 (encGMover.enc x212).toArray else (bif (dn 11) then ABox b216 85 #[.int .i64 0, .int .i64 0, .int .i64 0, .int .i64 0, .int .i64 0, .int .i64 0, .int .i64 0, .int .i64 0, .int .i64 0, .bool false, .int .i64 0, .int .i64 0, .int .i64 0] else AEmp))]) ?_ hA rfl rfl ?_
              · exact R.fldB rfl fo27_1 rfl (R.nil (fun a ha => ⟨_, ha.slots _ _ rfl, ⟨rfl, h⟩, ha.defers, ha.size⟩))
              · rintro a2 v w ht hdf ⟨rfl, h⟩
                exact ⟨b214, b216, hA.putS rfl ht hdf, Kn.put hK hA 0 rfl rfl rfl ht, h⟩
            · intro dn hn hcl haf a w
              rintro ⟨b214, b216, hA, hK, h⟩
              have d0 : dn 0 = true := (afterB_at haf 0 rfl rfl)
              refine R.step (d := 39) (Φ := fun v w => v = .slice p0_0 a0.Movers.length c0_0 ∧ H W0 (fun _ => False) w [DS encGMover p0_0 c0_0 a0.Movers, DS encGScore p0_1 c0_1 a0.Scores, DS encGShot p0_2 c0_2 a0.Shots, DS encGPickup p0_3 c0_3 a0.Pickups, DS encGMover p1_0 c1_0 a1.Movers, DS encGScore p1_1 c1_1 a1.Scores, DS encGShot p1_2 c1_2 a1.Shots, DS encGPickup p1_3 c1_3 a1.Pickups] [ABox b110 27 #[.int .i64 a0.Frame, .slice p0_0 a0.Movers.length c0_0, .slice p0_1 a0.Scores.length c0_1, .slice p0_2 a0.Shots.length c0_2, .slice p0_3 a0.Pickups.length c0_3, .int .i64 a0.NextNo], ABox b112 27 #[.int .i64 a1.Frame, .slice p1_0 a1.Movers.length c1_0, .slice p1_1 a1.Scores.length c1_1, .slice p1_2 a1.Shots.length c1_2, .slice p1_3 a1.Pickups.length c1_3, .int .i64 a1.NextNo], ASl 37 encGCorrection p190 c191 s192.2, (bif (dn 12) then ABox b214 85 (encGMover.enc x210).toArray else (bif (dn 10) then ABox b214 85 #[.int .i64 0, .int .i64 0, .int .i64 0, .int .i64 0, .int .i64 0, .int .i64 0, .int .i64 0, .int .i64 0, .int .i64 0, .bool false, .int .i64 0, .int .i64 0, .int .i64 0] else AEmp)), (bif (dn 13) then ABox b216 85 (encGMover.enc x212).toArray else (bif (dn 11) then ABox b216 85 #[.int .i64 0, .int .i64 0, .int .i64 0, .int .i64 0, .int .i64 0, .int .i64 0, .int .i64 0, .int .i64 0, .int .i64 0, .bool false, .int .i64 0, .int .i64 0, .int .i64 0] else AEmp))]) ?_ (hA.add (hK.get 0 rfl d0)) rfl rfl ?_
              · exact R.ld rfl sh22 rfl (h.box 0 1 rfl rfl) (R.nil (fun a ha => ⟨_, ha.slots _ _ rfl, ⟨rfl, h⟩, ha.defers, ha.size⟩))
              · rintro a2 v w ht hdf ⟨rfl, h⟩
                exact ⟨b214, b216, hA.putS rfl ht hdf, Kn.put hK hA 1 rfl rfl rfl ht, h⟩
            · intro dn hn hcl haf a w
              rintro ⟨b214, b216, hA, hK, h⟩
              refine R.step (d := 40) (Φ := fun v w => v = .int .i64 s192.1 ∧ H W0 (fun _ => False) w [DS encGMover p0_0 c0_0 a0.Movers, DS encGScore p0_1 c0_1 a0.Scores, DS encGShot p0_2 c0_2 a0.Shots, DS encGPickup p0_3 c0_3 a0.Pickups, DS encGMover p1_0 c1_0 a1.Movers, DS encGScore p1_1 c1_1 a1.Scores, DS encGShot p1_2 c1_2 a1.Shots, DS encGPickup p1_3 c1_3 a1.Pickups] [ABox b110 27 #[.int .i64 a0.Frame, .slice p0_0 a0.Movers.length c0_0, .slice p0_1 a0.Scores.length c0_1, .slice p0_2 a0.Shots.length c0_2, .slice p0_3 a0.Pickups.length c0_3, .int .i64 a0.NextNo], ABox b112 27 #[.int .i64 a1.Frame, .slice p1_0 a1.Movers.length c1_0, .slice p1_1 a1.Scores.length c1_1, .slice p1_2 a1.Shots.length c1_2, .slice p1_3 a1.Pickups.length c1_3, .int .i64 a1.NextNo], ASl 37 encGCorrection p190 c191 s192.2, (bif (dn 12) then ABox b214 85 (encGMover.enc x210).toArray else (bif (dn 10) then ABox b214 85 #[.int .i64 0, .int .i64 0, .int .i64 0, .int .i64 0, .int .i64 0, .int .i64 0, .int .i64 0, .int .i64 0, .int .i64 0, .bool false, .int .i64 0, .int .i64 0, .int .i64 0] else AEmp)), (bif (dn 13) then ABox b216 85 (encGMover.enc x212).toArray else (bif (dn 11) then ABox b216 85 #[.int .i64 0, .int .i64 0, .int .i64 0, .int .i64 0, .int .i64 0, .int .i64 0, .int .i64 0, .int .i64 0, .int .i64 0, .bool false, .int .i64 0, .int .i64 0, .int .i64 0] else AEmp))]) ?_ hA rfl rfl ?_
              · exact R.mv rfl rfl (R.nil (fun a ha => ⟨_, ha.slots _ _ rfl, ⟨rfl, h⟩, ha.defers, ha.size⟩))
              · rintro a2 v w ht hdf ⟨rfl, h⟩
                exact ⟨b214, b216, hA.putS rfl ht hdf, Kn.put hK hA 2 rfl rfl rfl ht, h⟩
            · intro dn hn hcl haf a w
              rintro ⟨b214, b216, hA, hK, h⟩
              have d1 : dn 1 = true := (afterB_at haf 0 rfl rfl)
              have d2 : dn 2 = true := (afterB_at haf 1 rfl rfl)
              refine R.step (d := 41) (Φ := fun v w => v = .pointer (some ((adr p0_0).add (s192.1.toNat * 13))) ∧ H W0 (fun _ => False) w [DS encGMover p0_0 c0_0 a0.Movers, DS encGScore p0_1 c0_1 a0.Scores, DS encGShot p0_2 c0_2 a0.Shots, DS encGPickup p0_3 c0_3 a0.Pickups, DS encGMover p1_0 c1_0 a1.Movers, DS encGScore p1_1 c1_1 a1.Scores, DS encGShot p1_2 c1_2 a1.Shots, DS encGPickup p1_3 c1_3 a1.Pickups] [ABox b110 27 #[.int .i64 a0.Frame, .slice p0_0 a0.Movers.length c0_0, .slice p0_1 a0.Scores.length c0_1, .slice p0_2 a0.Shots.length c0_2, .slice p0_3 a0.Pickups.length c0_3, .int .i64 a0.NextNo], ABox b112 27 #[.int .i64 a1.Frame, .slice p1_0 a1.Movers.length c1_0, .slice p1_1 a1.Scores.length c1_1, .slice p1_2 a1.Shots.length c1_2, .slice p1_3 a1.Pickups.length c1_3, .int .i64 a1.NextNo], ASl 37 encGCorrection p190 c191 s192.2, (bif (dn 12) then ABox b214 85 (encGMover.enc x210).toArray else (bif (dn 10) then ABox b214 85 #[.int .i64 0, .int .i64 0, .int .i64 0, .int .i64 0, .int .i64 0, .int .i64 0, .int .i64 0, .int .i64 0, .int .i64 0, .bool false, .int .i64 0, .int .i64 0, .int .i64 0] else AEmp)), (bif (dn 13) then ABox b216 85 (encGMover.enc x212).toArray else (bif (dn 11) then ABox b216 85 #[.int .i64 0, .int .i64 0, .int .i64 0, .int .i64 0, .int .i64 0, .int .i64 0, .int .i64 0, .int .i64 0, .int .i64 0, .bool false, .int .i64 0, .int .i64 0, .int .i64 0] else AEmp))]) ?_ ((hA.add (hK.get 1 rfl d1)).add (hK.get 2 rfl d2)) rfl rfl ?_
              · exact R.ixS rfl ss22 rfl rfl (h.rS 0 rfl) e211 (R.nil (fun a ha => ⟨_, ha.slots _ _ rfl, ⟨rfl, h⟩, ha.defers, ha.size⟩))
              · rintro a2 v w ht hdf ⟨rfl, h⟩
                exact ⟨b214, b216, hA.putS rfl ht hdf, Kn.put hK hA 3 rfl rfl rfl ht, h⟩
            · intro dn hn hcl haf a w
              rintro ⟨b214, b216, hA, hK, h⟩
              have d3 : dn 3 = true := (afterB_at haf 0 rfl rfl)
              refine R.step (d := 42) (Φ := fun v w => v = vGMover x210 ∧ H W0 (fun _ => False) w [DS encGMover p0_0 c0_0 a0.Movers, DS encGScore p0_1 c0_1 a0.Scores, DS encGShot p0_2 c0_2 a0.Shots, DS encGPickup p0_3 c0_3 a0.Pickups, DS encGMover p1_0 c1_0 a1.Movers, DS encGScore p1_1 c1_1 a1.Scores, DS encGShot p1_2 c1_2 a1.Shots, DS encGPickup p1_3 c1_3 a1.Pickups] [ABox b110 27 #[.int .i64 a0.Frame, .slice p0_0 a0.Movers.length c0_0, .slice p0_1 a0.Scores.length c0_1, .slice p0_2 a0.Shots.length c0_2, .slice p0_3 a0.Pickups.length c0_3, .int .i64 a0.NextNo], ABox b112 27 #[.int .i64 a1.Frame, .slice p1_0 a1.Movers.length c1_0, .slice p1_1 a1.Scores.length c1_1, .slice p1_2 a1.Shots.length c1_2, .slice p1_3 a1.Pickups.length c1_3, .int .i64 a1.NextNo], ASl 37 encGCorrection p190 c191 s192.2, (bif (dn 12) then ABox b214 85 (encGMover.enc x210).toArray else (bif (dn 10) then ABox b214 85 #[.int .i64 0, .int .i64 0, .int .i64 0, .int .i64 0, .int .i64 0, .int .i64 0, .int .i64 0, .int .i64 0, .int .i64 0, .bool false, .int .i64 0, .int .i64 0, .int .i64 0] else AEmp)), (bif (dn 13) then ABox b216 85 (encGMover.enc x212).toArray else (bif (dn 11) then ABox b216 85 #[.int .i64 0, .int .i64 0, .int .i64 0, .int .i64 0, .int .i64 0, .int .i64 0, .int .i64 0, .int .i64 0, .int .i64 0, .bool false, .int .i64 0, .int .i64 0, .int .i64 0] else AEmp))]) ?_ (hA.add (hK.get 3 rfl d3)) rfl rfl ?_
              · exact R.ldN (cs := [.int .i64 x210.At.X, .int .i64 x210.At.Y, .int .i64 x210.Speed.X, .int .i64 x210.Speed.Y, .int .i64 x210.Push.X, .int .i64 x210.Push.Y, .int .i64 x210.Facing, .int .i64 x210.Health, .int .i64 x210.Energy, .bool x210.Shield, .int .i64 x210.Cool, .int .i64 x210.Out, .int .i64 x210.Said]) rfl sh85 rfl rfl (RdS.cells (h.rS 0 rfl) e211 0 rfl) (R.nil (fun a ha => ⟨_, ha.slots _ _ rfl, ⟨rfl, h⟩, ha.defers, ha.size⟩))
              · rintro a2 v w ht hdf ⟨rfl, h⟩
                exact ⟨b214, b216, hA.putS rfl ht hdf, Kn.put hK hA 4 rfl rfl rfl ht, h⟩
            · intro dn hn hcl haf a w
              rintro ⟨b214, b216, hA, hK, h⟩
              refine R.step (d := 43) (Φ := fun v w => v = .pointer (some ⟨b112, 1, none⟩) ∧ H W0 (fun _ => False) w [DS encGMover p0_0 c0_0 a0.Movers, DS encGScore p0_1 c0_1 a0.Scores, DS encGShot p0_2 c0_2 a0.Shots, DS encGPickup p0_3 c0_3 a0.Pickups, DS encGMover p1_0 c1_0 a1.Movers, DS encGScore p1_1 c1_1 a1.Scores, DS encGShot p1_2 c1_2 a1.Shots, DS encGPickup p1_3 c1_3 a1.Pickups] [ABox b110 27 #[.int .i64 a0.Frame, .slice p0_0 a0.Movers.length c0_0, .slice p0_1 a0.Scores.length c0_1, .slice p0_2 a0.Shots.length c0_2, .slice p0_3 a0.Pickups.length c0_3, .int .i64 a0.NextNo], ABox b112 27 #[.int .i64 a1.Frame, .slice p1_0 a1.Movers.length c1_0, .slice p1_1 a1.Scores.length c1_1, .slice p1_2 a1.Shots.length c1_2, .slice p1_3 a1.Pickups.length c1_3, .int .i64 a1.NextNo], ASl 37 encGCorrection p190 c191 s192.2, (bif (dn 12) then ABox b214 85 (encGMover.enc x210).toArray else (bif (dn 10) then ABox b214 85 #[.int .i64 0, .int .i64 0, .int .i64 0, .int .i64 0, .int .i64 0, .int .i64 0, .int .i64 0, .int .i64 0, .int .i64 0, .bool false, .int .i64 0, .int .i64 0, .int .i64 0] else AEmp)), (bif (dn 13) then ABox b216 85 (encGMover.enc x212).toArray else (bif (dn 11) then ABox b216 85 #[.int .i64 0, .int .i64 0, .int .i64 0, .int .i64 0, .int .i64 0, .int .i64 0, .int .i64 0, .int .i64 0, .int .i64 0, .bool false, .int .i64 0, .int .i64 0, .int .i64 0] else AEmp))]) ?_ hA rfl rfl ?_
              · exact R.fldB rfl fo27_1 rfl (R.nil (fun a ha => ⟨_, ha.slots _ _ rfl, ⟨rfl, h⟩, ha.defers, ha.size⟩))
              · rintro a2 v w ht hdf ⟨rfl, h⟩
                exact ⟨b214, b216, hA.putS rfl ht hdf, Kn.put hK hA 5 rfl rfl rfl ht, h⟩
            · intro dn hn hcl haf a w
              rintro ⟨b214, b216, hA, hK, h⟩
              have d5 : dn 5 = true := (afterB_at haf 0 rfl rfl)
              refine R.step (d := 44) (Φ := fun v w => v = .slice p1_0 a1.Movers.length c1_0 ∧ H W0 (fun _ => False) w [DS encGMover p0_0 c0_0 a0.Movers, DS encGScore p0_1 c0_1 a0.Scores, DS encGShot p0_2 c0_2 a0.Shots, DS encGPickup p0_3 c0_3 a0.Pickups, DS encGMover p1_0 c1_0 a1.Movers, DS encGScore p1_1 c1_1 a1.Scores, DS encGShot p1_2 c1_2 a1.Shots, DS encGPickup p1_3 c1_3 a1.Pickups] [ABox b110 27 #[.int .i64 a0.Frame, .slice p0_0 a0.Movers.length c0_0, .slice p0_1 a0.Scores.length c0_1, .slice p0_2 a0.Shots.length c0_2, .slice p0_3 a0.Pickups.length c0_3, .int .i64 a0.NextNo], ABox b112 27 #[.int .i64 a1.Frame, .slice p1_0 a1.Movers.length c1_0, .slice p1_1 a1.Scores.length c1_1, .slice p1_2 a1.Shots.length c1_2, .slice p1_3 a1.Pickups.length c1_3, .int .i64 a1.NextNo], ASl 37 encGCorrection p190 c191 s192.2, (bif (dn 12) then ABox b214 85 (encGMover.enc x210).toArray else (bif (dn 10) then ABox b214 85 #[.int .i64 0, .int .i64 0, .int .i64 0, .int .i64 0, .int .i64 0, .int .i64 0, .int .i64 0, .int .i64 0, .int .i64 0, .bool false, .int .i64 0, .int .i64 0, .int .i64 0] else AEmp)), (bif (dn 13) then ABox b216 85 (encGMover.enc x212).toArray else (bif (dn 11) then ABox b216 85 #[.int .i64 0, .int .i64 0, .int .i64 0, .int .i64 0, .int .i64 0, .int .i64 0, .int .i64 0, .int .i64 0, .int .i64 0, .bool false, .int .i64 0, .int .i64 0, .int .i64 0] else AEmp))]) ?_ (hA.add (hK.get 5 rfl d5)) rfl rfl ?_
              · exact R.ld rfl sh22 rfl (h.box 1 1 rfl rfl) (R.nil (fun a ha => ⟨_, ha.slots _ _ rfl, ⟨rfl, h⟩, ha.defers, ha.size⟩))
              · rintro a2 v w ht hdf ⟨rfl, h⟩
                exact ⟨b214, b216, hA.putS rfl ht hdf, Kn.put hK hA 6 rfl rfl rfl ht, h⟩
            · intro dn hn hcl haf a w
              rintro ⟨b214, b216, hA, hK, h⟩
              refine R.step (d := 45) (Φ := fun v w => v = .int .i64 s192.1 ∧ H W0 (fun _ => False) w [DS encGMover p0_0 c0_0 a0.Movers, DS encGScore p0_1 c0_1 a0.Scores, DS encGShot p0_2 c0_2 a0.Shots, DS encGPickup p0_3 c0_3 a0.Pickups, DS encGMover p1_0 c1_0 a1.Movers, DS encGScore p1_1 c1_1 a1.Scores, DS encGShot p1_2 c1_2 a1.Shots, DS encGPickup p1_3 c1_3 a1.Pickups] [ABox b110 27 #[.int .i64 a0.Frame, .slice p0_0 a0.Movers.length c0_0, .slice p0_1 a0.Scores.length c0_1, .slice p0_2 a0.Shots.length c0_2, .slice p0_3 a0.Pickups.length c0_3, .int .i64 a0.NextNo], ABox b112 27 #[.int .i64 a1.Frame, .slice p1_0 a1.Movers.length c1_0, .slice p1_1 a1.Scores.length c1_1, .slice p1_2 a1.Shots.length c1_2, .slice p1_3 a1.Pickups.length c1_3, .int .i64 a1.NextNo], ASl 37 encGCorrection p190 c191 s192.2, (bif (dn 12) then ABox b214 85 (encGMover.enc x210).toArray else (bif (dn 10) then ABox b214 85 #[.int .i64 0, .int .i64 0, .int .i64 0, .int .i64 0, .int .i64 0, .int .i64 0, .int .i64 0, .int .i64 0, .int .i64 0, .bool false, .int .i64 0, .int .i64 0, .int .i64 0] else AEmp)), (bif (dn 13) then ABox b216 85 (encGMover.enc x212).toArray else (bif (dn 11) then ABox b216 85 #[.int .i64 0, .int .i64 0, .int .i64 0, .int .i64 0, .int .i64 0, .int .i64 0, .int .i64 0, .int .i64 0, .int .i64 0, .bool false, .int .i64 0, .int .i64 0, .int .i64 0] else AEmp))]) ?_ hA rfl rfl ?_
              · exact R.mv rfl rfl (R.nil (fun a ha => ⟨_, ha.slots _ _ rfl, ⟨rfl, h⟩, ha.defers, ha.size⟩))
              · rintro a2 v w ht hdf ⟨rfl, h⟩
                exact ⟨b214, b216, hA.putS rfl ht hdf, Kn.put hK hA 7 rfl rfl rfl ht, h⟩
            · intro dn hn hcl haf a w
              rintro ⟨b214, b216, hA, hK, h⟩
              have d6 : dn 6 = true := (afterB_at haf 0 rfl rfl)
              have d7 : dn 7 = true := (afterB_at haf 1 rfl rfl)
              refine R.step (d := 46) (Φ := fun v w => v = .pointer (some ((adr p1_0).add (s192.1.toNat * 13))) ∧ H W0 (fun _ => False) w [DS encGMover p0_0 c0_0 a0.Movers, DS encGScore p0_1 c0_1 a0.Scores, DS encGShot p0_2 c0_2 a0.Shots, DS encGPickup p0_3 c0_3 a0.Pickups, DS encGMover p1_0 c1_0 a1.Movers, DS encGScore p1_1 c1_1 a1.Scores, DS encGShot p1_2 c1_2 a1.Shots, DS encGPickup p1_3 c1_3 a1.Pickups] [ABox b110 27 #[.int .i64 a0.Frame, .slice p0_0 a0.Movers.length c0_0, .slice p0_1 a0.Scores.length c0_1, .slice p0_2 a0.Shots.length c0_2, .slice p0_3 a0.Pickups.length c0_3, .int .i64 a0.NextNo], ABox b112 27 #[.int .i64 a1.Frame, .slice p1_0 a1.Movers.length c1_0, .slice p1_1 a1.Scores.length c1_1, .slice p1_2 a1.Shots.length c1_2, .slice p1_3 a1.Pickups.length c1_3, .int .i64 a1.NextNo], ASl 37 encGCorrection p190 c191 s192.2, (bif (dn 12) then ABox b214 85 (encGMover.enc x210).toArray else (bif (dn 10) then ABox b214 85 #[.int .i64 0, .int .i64 0, .int .i64 0, .int .i64 0, .int .i64 0, .int .i64 0, .int .i64 0, .int .i64 0, .int .i64 0, .bool false, .int .i64 0, .int .i64 0, .int .i64 0] else AEmp)), (bif (dn 13) then ABox b216 85 (encGMover.enc x212).toArray else (bif (dn 11) then ABox b216 85 #[.int .i64 0, .int .i64 0, .int .i64 0, .int .i64 0, .int .i64 0, .int .i64 0, .int .i64 0, .int .i64 0, .int .i64 0, .bool false, .int .i64 0, .int .i64 0, .int .i64 0] else AEmp))]) ?_ ((hA.add (hK.get 6 rfl d6)).add (hK.get 7 rfl d7)) rfl rfl ?_
              · exact R.ixS rfl ss22 rfl rfl (h.rS 4 rfl) e213 (R.nil (fun a ha => ⟨_, ha.slots _ _ rfl, ⟨rfl, h⟩, ha.defers, ha.size⟩))
              · rintro a2 v w ht hdf ⟨rfl, h⟩
                exact ⟨b214, b216, hA.putS rfl ht hdf, Kn.put hK hA 8 rfl rfl rfl ht, h⟩
            · intro dn hn hcl haf a w
              rintro ⟨b214, b216, hA, hK, h⟩
              have d8 : dn 8 = true := (afterB_at haf 0 rfl rfl)
              refine R.step (d := 47) (Φ := fun v w => v = vGMover x212 ∧ H W0 (fun _ => False) w [DS encGMover p0_0 c0_0 a0.Movers, DS encGScore p0_1 c0_1 a0.Scores, DS encGShot p0_2 c0_2 a0.Shots, DS encGPickup p0_3 c0_3 a0.Pickups, DS encGMover p1_0 c1_0 a1.Movers, DS encGScore p1_1 c1_1 a1.Scores, DS encGShot p1_2 c1_2 a1.Shots, DS encGPickup p1_3 c1_3 a1.Pickups] [ABox b110 27 #[.int .i64 a0.Frame, .slice p0_0 a0.Movers.length c0_0, .slice p0_1 a0.Scores.length c0_1, .slice p0_2 a0.Shots.length c0_2, .slice p0_3 a0.Pickups.length c0_3, .int .i64 a0.NextNo], ABox b112 27 #[.int .i64 a1.Frame, .slice p1_0 a1.Movers.length c1_0, .slice p1_1 a1.Scores.length c1_1, .slice p1_2 a1.Shots.length c1_2, .slice p1_3 a1.Pickups.length c1_3, .int .i64 a1.NextNo], ASl 37 encGCorrection p190 c191 s192.2, (bif (dn 12) then ABox b214 85 (encGMover.enc x210).toArray else (bif (dn 10) then ABox b214 85 #[.int .i64 0, .int .i64 0, .int .i64 0, .int .i64 0, .int .i64 0, .int .i64 0, .int .i64 0, .int .i64 0, .int .i64 0, .bool false, .int .i64 0, .int .i64 0, .int .i64 0] else AEmp)), (bif (dn 13) then ABox b216 85 (encGMover.enc x212).toArray else (bif (dn 11) then ABox b216 85 #[.int .i64 0, .int .i64 0, .int .i64 0, .int .i64 0, .int .i64 0, .int .i64 0, .int .i64 0, .int .i64 0, .int .i64 0, .bool false, .int .i64 0, .int .i64 0, .int .i64 0] else AEmp))]) ?_ (hA.add (hK.get 8 rfl d8)) rfl rfl ?_
              · exact R.ldN (cs := [.int .i64 x212.At.X, .int .i64 x212.At.Y, .int .i64 x212.Speed.X, .int .i64 x212.Speed.Y, .int .i64 x212.Push.X, .int .i64 x212.Push.Y, .int .i64 x212.Facing, .int .i64 x212.Health, .int .i64 x212.Energy, .bool x212.Shield, .int .i64 x212.Cool, .int .i64 x212.Out, .int .i64 x212.Said]) rfl sh85 rfl rfl (RdS.cells (h.rS 4 rfl) e213 0 rfl) (R.nil (fun a ha => ⟨_, ha.slots _ _ rfl, ⟨rfl, h⟩, ha.defers, ha.size⟩))
              · rintro a2 v w ht hdf ⟨rfl, h⟩
                exact ⟨b214, b216, hA.putS rfl ht hdf, Kn.put hK hA 9 rfl rfl rfl ht, h⟩
            · intro dn hn hcl haf a w
              rintro ⟨b214, b216, hA, hK, h⟩
              have f12 : dn 12 = false := (dnF (fun hm => (afterB_at (hcl 12 _ rfl hm) 0 rfl rfl)) hn)
              refine R.step (d := 9) (Φ := fun v w => ∃ b214, v = .pointer (some ⟨b214, 0, none⟩) ∧ H W0 (fun _ => False) w [DS encGMover p0_0 c0_0 a0.Movers, DS encGScore p0_1 c0_1 a0.Scores, DS encGShot p0_2 c0_2 a0.Shots, DS encGPickup p0_3 c0_3 a0.Pickups, DS encGMover p1_0 c1_0 a1.Movers, DS encGScore p1_1 c1_1 a1.Scores, DS encGShot p1_2 c1_2 a1.Shots, DS encGPickup p1_3 c1_3 a1.Pickups] [ABox b110 27 #[.int .i64 a0.Frame, .slice p0_0 a0.Movers.length c0_0, .slice p0_1 a0.Scores.length c0_1, .slice p0_2 a0.Shots.length c0_2, .slice p0_3 a0.Pickups.length c0_3, .int .i64 a0.NextNo], ABox b112 27 #[.int .i64 a1.Frame, .slice p1_0 a1.Movers.length c1_0, .slice p1_1 a1.Scores.length c1_1, .slice p1_2 a1.Shots.length c1_2, .slice p1_3 a1.Pickups.length c1_3, .int .i64 a1.NextNo], ASl 37 encGCorrection p190 c191 s192.2, (bif (dn 12) then ABox b214 85 (encGMover.enc x210).toArray else (bif true then ABox b214 85 #[.int .i64 0, .int .i64 0, .int .i64 0, .int .i64 0, .int .i64 0, .int .i64 0, .int .i64 0, .int .i64 0, .int .i64 0, .bool false, .int .i64 0, .int .i64 0, .int .i64 0] else AEmp)), (bif (dn 13) then ABox b216 85 (encGMover.enc x212).toArray else (bif (dn 11) then ABox b216 85 #[.int .i64 0, .int .i64 0, .int .i64 0, .int .i64 0, .int .i64 0, .int .i64 0, .int .i64 0, .int .i64 0, .int .i64 0, .bool false, .int .i64 0, .int .i64 0, .int .i64 0] else AEmp))]) ?_ hA rfl rfl ?_
              · exact R.alloc rfl h zr85 (fun b214 w h => R.nil (fun a ha => ⟨_, ha.slots _ _ rfl, ⟨b214, rfl, (((h.sel [0, 1, 2, 5, 4] rfl (by decide)).wT 3 rfl (b := true) rfl).wF 3 rfl f12)⟩, ha.defers, ha.size⟩))
              · rintro a2 v w ht hdf ⟨b214, rfl, h⟩
                exact ⟨b214, b216, hA.putS rfl ht hdf, Kn.put (Kn.sw (K' := [(0, 38, .pointer (some ⟨b110, 1, none⟩)), (1, 39, .slice p0_0 a0.Movers.length c0_0), (2, 40, .int .i64 s192.1), (3, 41, .pointer (some ((adr p0_0).add (s192.1.toNat * 13)))), (4, 42, vGMover x210), (5, 43, .pointer (some ⟨b112, 1, none⟩)), (6, 44, .slice p1_0 a1.Movers.length c1_0), (7, 45, .int .i64 s192.1), (8, 46, .pointer (some ((adr p1_0).add (s192.1.toNat * 13)))), (9, 47, vGMover x212), (10, 9, .pointer (some ⟨b214, 0, none⟩)), (11, 10, .pointer (some ⟨b216, 0, none⟩))]) hK ⟨⟨rfl, rfl, .inl rfl⟩, ⟨rfl, rfl, .inl rfl⟩, ⟨rfl, rfl, .inl rfl⟩, ⟨rfl, rfl, .inl rfl⟩, ⟨rfl, rfl, .inl rfl⟩, ⟨rfl, rfl, .inl rfl⟩, ⟨rfl, rfl, .inl rfl⟩, ⟨rfl, rfl, .inl rfl⟩, ⟨rfl, rfl, .inl rfl⟩, ⟨rfl, rfl, .inl rfl⟩, ⟨rfl, rfl, .inr hn⟩, ⟨rfl, rfl, .inl rfl⟩, trivial⟩) hA 10 rfl rfl rfl ht, h⟩
            · intro dn hn hcl haf a w
              rintro ⟨b214, b216, hA, hK, h⟩
              have f13 : dn 13 = false := (dnF (fun hm => (afterB_at (hcl 13 _ rfl hm) 0 rfl rfl)) hn)
              refine R.step (d := 10) (Φ := fun v w => ∃ b216, v = .pointer (some ⟨b216, 0, none⟩) ∧ H W0 (fun _ => False) w [DS encGMover p0_0 c0_0 a0.Movers, DS encGScore p0_1 c0_1 a0.Scores, DS encGShot p0_2 c0_2 a0.Shots, DS encGPickup p0_3 c0_3 a0.Pickups, DS encGMover p1_0 c1_0 a1.Movers, DS encGScore p1_1 c1_1 a1.Scores, DS encGShot p1_2 c1_2 a1.Shots, DS encGPickup p1_3 c1_3 a1.Pickups] [ABox b110 27 #[.int .i64 a0.Frame, .slice p0_0 a0.Movers.length c0_0, .slice p0_1 a0.Scores.length c0_1, .slice p0_2 a0.Shots.length c0_2, .slice p0_3 a0.Pickups.length c0_3, .int .i64 a0.NextNo], ABox b112 27 #[.int .i64 a1.Frame, .slice p1_0 a1.Movers.length c1_0, .slice p1_1 a1.Scores.length c1_1, .slice p1_2 a1.Shots.length c1_2, .slice p1_3 a1.Pickups.length c1_3, .int .i64 a1.NextNo], ASl 37 encGCorrection p190 c191 s192.2, (bif (dn 12) then ABox b214 85 (encGMover.enc x210).toArray else (bif (dn 10) then ABox b214 85 #[.int .i64 0, .int .i64 0, .int .i64 0, .int .i64 0, .int .i64 0, .int .i64 0, .int .i64 0, .int .i64 0, .int .i64 0, .bool false, .int .i64 0, .int .i64 0, .int .i64 0] else AEmp)), (bif (dn 13) then ABox b216 85 (encGMover.enc x212).toArray else (bif true then ABox b216 85 #[.int .i64 0, .int .i64 0, .int .i64 0, .int .i64 0, .int .i64 0, .int .i64 0, .int .i64 0, .int .i64 0, .int .i64 0, .bool false, .int .i64 0, .int .i64 0, .int .i64 0] else AEmp))]) ?_ hA rfl rfl ?_
              · exact R.alloc rfl h zr85 (fun b216 w h => R.nil (fun a ha => ⟨_, ha.slots _ _ rfl, ⟨b216, rfl, (((h.sel [0, 1, 2, 3, 5] rfl (by decide)).wT 4 rfl (b := true) rfl).wF 4 rfl f13)⟩, ha.defers, ha.size⟩))
              · rintro a2 v w ht hdf ⟨b216, rfl, h⟩
                exact ⟨b214, b216, hA.putS rfl ht hdf, Kn.put (Kn.sw (K' := [(0, 38, .pointer (some ⟨b110, 1, none⟩)), (1, 39, .slice p0_0 a0.Movers.length c0_0), (2, 40, .int .i64 s192.1), (3, 41, .pointer (some ((adr p0_0).add (s192.1.toNat * 13)))), (4, 42, vGMover x210), (5, 43, .pointer (some ⟨b112, 1, none⟩)), (6, 44, .slice p1_0 a1.Movers.length c1_0), (7, 45, .int .i64 s192.1), (8, 46, .pointer (some ((adr p1_0).add (s192.1.toNat * 13)))), (9, 47, vGMover x212), (10, 9, .pointer (some ⟨b214, 0, none⟩)), (11, 10, .pointer (some ⟨b216, 0, none⟩))]) hK ⟨⟨rfl, rfl, .inl rfl⟩, ⟨rfl, rfl, .inl rfl⟩, ⟨rfl, rfl, .inl rfl⟩, ⟨rfl, rfl, .inl rfl⟩, ⟨rfl, rfl, .inl rfl⟩, ⟨rfl, rfl, .inl rfl⟩, ⟨rfl, rfl, .inl rfl⟩, ⟨rfl, rfl, .inl rfl⟩, ⟨rfl, rfl, .inl rfl⟩, ⟨rfl, rfl, .inl rfl⟩, ⟨rfl, rfl, .inl rfl⟩, ⟨rfl, rfl, .inr hn⟩, trivial⟩) hA 11 rfl rfl rfl ht, h⟩
            · intro dn hn hcl haf a w
              rintro ⟨b214, b216, hA, hK, h⟩
              have d4 : dn 4 = true := (afterB_at haf 1 rfl rfl)
              have d10 : dn 10 = true := (afterB_at haf 0 rfl rfl)
              replace h := h.cF 3 rfl hn
              replace h := h.cT 3 rfl d10
              refine R.stepU (Φ := fun w => H W0 (fun _ => False) w [DS encGMover p0_0 c0_0 a0.Movers, DS encGScore p0_1 c0_1 a0.Scores, DS encGShot p0_2 c0_2 a0.Shots, DS encGPickup p0_3 c0_3 a0.Pickups, DS encGMover p1_0 c1_0 a1.Movers, DS encGScore p1_1 c1_1 a1.Scores, DS encGShot p1_2 c1_2 a1.Shots, DS encGPickup p1_3 c1_3 a1.Pickups] [ABox b110 27 #[.int .i64 a0.Frame, .slice p0_0 a0.Movers.length c0_0, .slice p0_1 a0.Scores.length c0_1, .slice p0_2 a0.Shots.length c0_2, .slice p0_3 a0.Pickups.length c0_3, .int .i64 a0.NextNo], ABox b112 27 #[.int .i64 a1.Frame, .slice p1_0 a1.Movers.length c1_0, .slice p1_1 a1.Scores.length c1_1, .slice p1_2 a1.Shots.length c1_2, .slice p1_3 a1.Pickups.length c1_3, .int .i64 a1.NextNo], ASl 37 encGCorrection p190 c191 s192.2, (bif true then ABox b214 85 (encGMover.enc x210).toArray else (bif (dn 10) then ABox b214 85 #[.int .i64 0, .int .i64 0, .int .i64 0, .int .i64 0, .int .i64 0, .int .i64 0, .int .i64 0, .int .i64 0, .int .i64 0, .bool false, .int .i64 0, .int .i64 0, .int .i64 0] else AEmp)), (bif (dn 13) then ABox b216 85 (encGMover.enc x212).toArray else (bif (dn 11) then ABox b216 85 #[.int .i64 0, .int .i64 0, .int .i64 0, .int .i64 0, .int .i64 0, .int .i64 0, .int .i64 0, .int .i64 0, .int .i64 0, .bool false, .int .i64 0, .int .i64 0, .int .i64 0] else AEmp))]) ?_ ((hA.add (hK.get 4 rfl d4)).add (hK.get 10 rfl d10)) rfl ?_
              · exact R.stB (ds := [.int .i64 x210.At.X, .int .i64 x210.At.Y, .int .i64 x210.Speed.X, .int .i64 x210.Speed.Y, .int .i64 x210.Push.X, .int .i64 x210.Push.Y, .int .i64 x210.Facing, .int .i64 x210.Health, .int .i64 x210.Energy, .bool x210.Shield, .int .i64 x210.Cool, .int .i64 x210.Out, .int .i64 x210.Said]) 3 h rfl sz85 rfl rfl rfl rfl rfl (fun w h => R.nil (fun a ha => ⟨(h.wT 3 rfl (b := true) rfl), ha.defers⟩))
              · rintro a2 w ht hdf h
                exact ⟨b214, b216, hA.same ht hdf, Kn.none hK rfl ht, h⟩
            · intro dn hn hcl haf a w
              rintro ⟨b214, b216, hA, hK, h⟩
              have d9 : dn 9 = true := (afterB_at haf 1 rfl rfl)
              have d11 : dn 11 = true := (afterB_at haf 0 rfl rfl)
              replace h := h.cF 4 rfl hn
              replace h := h.cT 4 rfl d11
              refine R.stepU (Φ := fun w => H W0 (fun _ => False) w [DS encGMover p0_0 c0_0 a0.Movers, DS encGScore p0_1 c0_1 a0.Scores, DS encGShot p0_2 c0_2 a0.Shots, DS encGPickup p0_3 c0_3 a0.Pickups, DS encGMover p1_0 c1_0 a1.Movers, DS encGScore p1_1 c1_1 a1.Scores, DS encGShot p1_2 c1_2 a1.Shots, DS encGPickup p1_3 c1_3 a1.Pickups] [ABox b110 27 #[.int .i64 a0.Frame, .slice p0_0 a0.Movers.length c0_0, .slice p0_1 a0.Scores.length c0_1, .slice p0_2 a0.Shots.length c0_2, .slice p0_3 a0.Pickups.length c0_3, .int .i64 a0.NextNo], ABox b112 27 #[.int .i64 a1.Frame, .slice p1_0 a1.Movers.length c1_0, .slice p1_1 a1.Scores.length c1_1, .slice p1_2 a1.Shots.length c1_2, .slice p1_3 a1.Pickups.length c1_3, .int .i64 a1.NextNo], ASl 37 encGCorrection p190 c191 s192.2, (bif (dn 12) then ABox b214 85 (encGMover.enc x210).toArray else (bif (dn 10) then ABox b214 85 #[.int .i64 0, .int .i64 0, .int .i64 0, .int .i64 0, .int .i64 0, .int .i64 0, .int .i64 0, .int .i64 0, .int .i64 0, .bool false, .int .i64 0, .int .i64 0, .int .i64 0] else AEmp)), (bif true then ABox b216 85 (encGMover.enc x212).toArray else (bif (dn 11) then ABox b216 85 #[.int .i64 0, .int .i64 0, .int .i64 0, .int .i64 0, .int .i64 0, .int .i64 0, .int .i64 0, .int .i64 0, .int .i64 0, .bool false, .int .i64 0, .int .i64 0, .int .i64 0] else AEmp))]) ?_ ((hA.add (hK.get 9 rfl d9)).add (hK.get 11 rfl d11)) rfl ?_
              · exact R.stB (ds := [.int .i64 x212.At.X, .int .i64 x212.At.Y, .int .i64 x212.Speed.X, .int .i64 x212.Speed.Y, .int .i64 x212.Push.X, .int .i64 x212.Push.Y, .int .i64 x212.Facing, .int .i64 x212.Health, .int .i64 x212.Energy, .bool x212.Shield, .int .i64 x212.Cool, .int .i64 x212.Out, .int .i64 x212.Said]) 4 h rfl sz85 rfl rfl rfl rfl rfl (fun w h => R.nil (fun a ha => ⟨(h.wT 4 rfl (b := true) rfl), ha.defers⟩))
              · rintro a2 w ht hdf h
                exact ⟨b214, b216, hA.same ht hdf, Kn.none hK rfl ht, h⟩
            · rintro a w ⟨b214, b216, hA, hK, h⟩
              replace h : H W0 (fun _ => False) w [DS encGMover p0_0 c0_0 a0.Movers, DS encGScore p0_1 c0_1 a0.Scores, DS encGShot p0_2 c0_2 a0.Shots, DS encGPickup p0_3 c0_3 a0.Pickups, DS encGMover p1_0 c1_0 a1.Movers, DS encGScore p1_1 c1_1 a1.Scores, DS encGShot p1_2 c1_2 a1.Shots, DS encGPickup p1_3 c1_3 a1.Pickups] [ABox b110 27 #[.int .i64 a0.Frame, .slice p0_0 a0.Movers.length c0_0, .slice p0_1 a0.Scores.length c0_1, .slice p0_2 a0.Shots.length c0_2, .slice p0_3 a0.Pickups.length c0_3, .int .i64 a0.NextNo], ABox b112 27 #[.int .i64 a1.Frame, .slice p1_0 a1.Movers.length c1_0, .slice p1_1 a1.Scores.length c1_1, .slice p1_2 a1.Shots.length c1_2, .slice p1_3 a1.Pickups.length c1_3, .int .i64 a1.NextNo], ASl 37 encGCorrection p190 c191 s192.2, ABox b214 85 (encGMover.enc x210).toArray, ABox b216 85 (encGMover.enc x212).toArray] := h
              refine Go1.use (k203 _ _ ?_) ((hA.add (hK.get 10 rfl rfl)).add (hK.get 11 rfl rfl))
              refine T.seq fun Kk218 k218 => ?_
              obtain ⟨x225, e226, F⟩ := Option.bind_eq_some_iff.1 F
              obtain ⟨x227, e228, F⟩ := Option.bind_eq_some_iff.1 F
              refine T.regionI (fun dn a w => ∃ b229, Agr 93 [(2, .pointer (some ⟨b110, 0, none⟩)), (3, .pointer (some ⟨b112, 0, none⟩)), (7, .slice p190 s192.2.length c191), (8, .int .i64 s192.1), (9, .pointer (some ⟨b214, 0, none⟩)), (10, .pointer (some ⟨b216, 0, none⟩)), (34, .int .i64 (a0.Movers.length : Int)), (35, .int .i64 s192.1), (36, .bool x196), (37, .int .i64 s192.1)] a ∧ Kn dn [(0, 48, .int .i64 s192.1), (1, 49, .pointer (some ⟨b214, 0, none⟩)), (2, 50, vGPoint x210.At), (3, 51, .pointer (some ⟨b216, 0, none⟩)), (4, 52, vGPoint x212.At), (5, 53, .pointer (some ⟨b216, 7, none⟩)), (6, 54, .int .i64 x212.Health), (7, 55, .pointer (some ⟨b214, 7, none⟩)), (8, 56, .int .i64 x210.Health), (9, 57, .int .i64 (W (x212.Health - x210.Health))), (10, 58, .pointer (some ⟨b112, 2, none⟩)), (11, 59, .slice p1_1 a1.Scores.length c1_1), (12, 60, .int .i64 s192.1), (13, 61, .pointer (some ((adr p1_1).add (s192.1.toNat * 4)))), (14, 62, .pointer (some ((adr p1_1).add (s192.1.toNat * 4)))), (15, 63, .int .i64 x225.Points), (16, 64, .pointer (some ⟨b110, 2, none⟩)), (17, 65, .slice p0_1 a0.Scores.length c0_1), (18, 66, .int .i64 s192.1), (19, 67, .pointer (some ((adr p0_1).add (s192.1.toNat * 4)))), (20, 68, .pointer (some ((adr p0_1).add (s192.1.toNat * 4)))), (21, 69, .int .i64 x227.Points), (22, 70, .int .i64 (W (x225.Points - x227.Points))), (23, 71, .agg #[.int .i64 s192.1, .int .i64 x210.At.X, .int .i64 x210.At.Y, .int .i64 x212.At.X, .int .i64 x212.At.Y, .int .i64 (W (x212.Health - x210.Health)), .int .i64 (W (x225.Points - x227.Points))]), (24, 11, .pointer (some ⟨b229, 0, none⟩))] a ∧ H W0 (fun _ => False) w [DS encGMover p0_0 c0_0 a0.Movers, DS encGScore p0_1 c0_1 a0.Scores, DS encGShot p0_2 c0_2 a0.Shots, DS encGPickup p0_3 c0_3 a0.Pickups, DS encGMover p1_0 c1_0 a1.Movers, DS encGScore p1_1 c1_1 a1.Scores, DS encGShot p1_2 c1_2 a1.Shots, DS encGPickup p1_3 c1_3 a1.Pickups] [ABox b110 27 #[.int .i64 a0.Frame, .slice p0_0 a0.Movers.length c0_0, .slice p0_1 a0.Scores.length c0_1, .slice p0_2 a0.Shots.length c0_2, .slice p0_3 a0.Pickups.length c0_3, .int .i64 a0.NextNo], ABox b112 27 #[.int .i64 a1.Frame, .slice p1_0 a1.Movers.length c1_0, .slice p1_1 a1.Scores.length c1_1, .slice p1_2 a1.Shots.length c1_2, .slice p1_3 a1.Pickups.length c1_3, .int .i64 a1.NextNo], ASl 37 encGCorrection p190 c191 s192.2, ABox b214 85 (encGMover.enc x210).toArray, ABox b216 85 (encGMover.enc x212).toArray, (bif (dn 25) then ABox b229 37 #[.int .i64 s192.1, .int .i64 x210.At.X, .int .i64 x210.At.Y, .int .i64 x212.At.X, .int .i64 x212.At.Y, .int .i64 (W (x212.Health - x210.Health)), .int .i64 (W (x225.Points - x227.Points))] else (bif (dn 24) then ABox b229 37 #[.int .i64 0, .int .i64 0, .int .i64 0, .int .i64 0, .int .i64 0, .int .i64 0, .int .i64 0] else AEmp))]) mix (by kernel_rfl) ?_ ⟨?_, ?_, ?_, ?_, ?_, ?_, ?_, ?_, ?_, ?_, ?_, ?_, ?_, ?_, ?_, ?_, ?_, ?_, ?_, ?_, ?_, ?_, ?_, ?_, ?_, ?_, trivial⟩ ?_
              · intro a ha
                exact ⟨0, ha.sub ⟨rfl, rfl, rfl, rfl, rfl, rfl, rfl, rfl, rfl, rfl, trivial⟩, Kn.start _, (h.same (Fr.drewN w 1)).emp⟩
              · intro dn hn hcl haf a w
                rintro ⟨b229, hA, hK, h⟩
                refine R.step (d := 48) (Φ := fun v w => v = .int .i64 s192.1 ∧ H W0 (fun _ => False) w [DS encGMover p0_0 c0_0 a0.Movers, DS encGScore p0_1 c0_1 a0.Scores, DS encGShot p0_2 c0_2 a0.Shots, DS encGPickup p0_3 c0_3 a0.Pickups, DS encGMover p1_0 c1_0 a1.Movers, DS encGScore p1_1 c1_1 a1.Scores, DS encGShot p1_2 c1_2 a1.Shots, DS encGPickup p1_3 c1_3 a1.Pickups] [ABox b110 27 #[.int .i64 a0.Frame, .slice p0_0 a0.Movers.length c0_0, .slice p0_1 a0.Scores.length c0_1, .slice p0_2 a0.Shots.length c0_2, .slice p0_3 a0.Pickups.length c0_3, .int .i64 a0.NextNo], ABox b112 27 #[.int .i64 a1.Frame, .slice p1_0 a1.Movers.length c1_0, .slice p1_1 a1.Scores.length c1_1, .slice p1_2 a1.Shots.length c1_2, .slice p1_3 a1.Pickups.length c1_3, .int .i64 a1.NextNo], ASl 37 encGCorrection p190 c191 s192.2, ABox b214 85 (encGMover.enc x210).toArray, ABox b216 85 (encGMover.enc x212).toArray, (bif (dn 25) then ABox b229 37 #[.int .i64 s192.1, .int .i64 x210.At.X, .int .i64 x210.At.Y, .int .i64 x212.At.X, .int .i64 x212.At.Y, .int .i64 (W (x212.Health - x210.Health)), .int .i64 (W (x225.Points - x227.Points))] else (bif (dn 24) then ABox b229 37 #[.int .i64 0, .int .i64 0, .int .i64 0, .int .i64 0, .int .i64 0, .int .i64 0, .int .i64 0] else AEmp))]) ?_ hA rfl rfl ?_
                · exact R.mv rfl rfl (R.nil (fun a ha => ⟨_, ha.slots _ _ rfl, ⟨rfl, h⟩, ha.defers, ha.size⟩))
                · rintro a2 v w ht hdf ⟨rfl, h⟩
                  exact ⟨b229, hA.putS rfl ht hdf, Kn.put hK hA 0 rfl rfl rfl ht, h⟩
              · intro dn hn hcl haf a w
                rintro ⟨b229, hA, hK, h⟩
                refine R.step (d := 49) (Φ := fun v w => v = .pointer (some ⟨b214, 0, none⟩) ∧ H W0 (fun _ => False) w [DS encGMover p0_0 c0_0 a0.Movers, DS encGScore p0_1 c0_1 a0.Scores, DS encGShot p0_2 c0_2 a0.Shots, DS encGPickup p0_3 c0_3 a0.Pickups, DS encGMover p1_0 c1_0 a1.Movers, DS encGScore p1_1 c1_1 a1.Scores, DS encGShot p1_2 c1_2 a1.Shots, DS encGPickup p1_3 c1_3 a1.Pickups] [ABox b110 27 #[.int .i64 a0.Frame, .slice p0_0 a0.Movers.length c0_0, .slice p0_1 a0.Scores.length c0_1, .slice p0_2 a0.Shots.length c0_2, .slice p0_3 a0.Pickups.length c0_3, .int .i64 a0.NextNo], ABox b112 27 #[.int .i64 a1.Frame, .slice p1_0 a1.Movers.length c1_0, .slice p1_1 a1.Scores.length c1_1, .slice p1_2 a1.Shots.length c1_2, .slice p1_3 a1.Pickups.length c1_3, .int .i64 a1.NextNo], ASl 37 encGCorrection p190 c191 s192.2, ABox b214 85 (encGMover.enc x210).toArray, ABox b216 85 (encGMover.enc x212).toArray, (bif (dn 25) then ABox b229 37 #[.int .i64 s192.1, .int .i64 x210.At.X, .int .i64 x210.At.Y, .int .i64 x212.At.X, .int .i64 x212.At.Y, .int .i64 (W (x212.Health - x210.Health)), .int .i64 (W (x225.Points - x227.Points))] else (bif (dn 24) then ABox b229 37 #[.int .i64 0, .int .i64 0, .int .i64 0, .int .i64 0, .int .i64 0, .int .i64 0, .int .i64 0] else AEmp))]) ?_ hA rfl rfl ?_
                · exact R.fldB rfl fo85_0 rfl (R.nil (fun a ha => ⟨_, ha.slots _ _ rfl, ⟨rfl, h⟩, ha.defers, ha.size⟩))
                · rintro a2 v w ht hdf ⟨rfl, h⟩
                  exact ⟨b229, hA.putS rfl ht hdf, Kn.put hK hA 1 rfl rfl rfl ht, h⟩
              · intro dn hn hcl haf a w
                rintro ⟨b229, hA, hK, h⟩
                have d1 : dn 1 = true := (afterB_at haf 0 rfl rfl)
                refine R.step (d := 50) (Φ := fun v w => v = vGPoint x210.At ∧ H W0 (fun _ => False) w [DS encGMover p0_0 c0_0 a0.Movers, DS encGScore p0_1 c0_1 a0.Scores, DS encGShot p0_2 c0_2 a0.Shots, DS encGPickup p0_3 c0_3 a0.Pickups, DS encGMover p1_0 c1_0 a1.Movers, DS encGScore p1_1 c1_1 a1.Scores, DS encGShot p1_2 c1_2 a1.Shots, DS encGPickup p1_3 c1_3 a1.Pickups] [ABox b110 27 #[.int .i64 a0.Frame, .slice p0_0 a0.Movers.length c0_0, .slice p0_1 a0.Scores.length c0_1, .slice p0_2 a0.Shots.length c0_2, .slice p0_3 a0.Pickups.length c0_3, .int .i64 a0.NextNo], ABox b112 27 #[.int .i64 a1.Frame, .slice p1_0 a1.Movers.length c1_0, .slice p1_1 a1.Scores.length c1_1, .slice p1_2 a1.Shots.length c1_2, .slice p1_3 a1.Pickups.length c1_3, .int .i64 a1.NextNo], ASl 37 encGCorrection p190 c191 s192.2, ABox b214 85 (encGMover.enc x210).toArray, ABox b216 85 (encGMover.enc x212).toArray, (bif (dn 25) then ABox b229 37 #[.int .i64 s192.1, .int .i64 x210.At.X, .int .i64 x210.At.Y, .int .i64 x212.At.X, .int .i64 x212.At.Y, .int .i64 (W (x212.Health - x210.Health)), .int .i64 (W (x225.Points - x227.Points))] else (bif (dn 24) then ABox b229 37 #[.int .i64 0, .int .i64 0, .int .i64 0, .int .i64 0, .int .i64 0, .int .i64 0, .int .i64 0] else AEmp))]) ?_ (hA.add (hK.get 1 rfl d1)) rfl rfl ?_
                · exact R.ldN (cs := [.int .i64 x210.At.X, .int .i64 x210.At.Y]) rfl sh35 rfl rfl (h.boxN 3 rfl rfl) (R.nil (fun a ha => ⟨_, ha.slots _ _ rfl, ⟨rfl, h⟩, ha.defers, ha.size⟩))
                · rintro a2 v w ht hdf ⟨rfl, h⟩
                  exact ⟨b229, hA.putS rfl ht hdf, Kn.put hK hA 2 rfl rfl rfl ht, h⟩
              · intro dn hn hcl haf a w
                rintro ⟨b229, hA, hK, h⟩
                refine R.step (d := 51) (Φ := fun v w => v = .pointer (some ⟨b216, 0, none⟩) ∧ H W0 (fun _ => False) w [DS encGMover p0_0 c0_0 a0.Movers, DS encGScore p0_1 c0_1 a0.Scores, DS encGShot p0_2 c0_2 a0.Shots, DS encGPickup p0_3 c0_3 a0.Pickups, DS encGMover p1_0 c1_0 a1.Movers, DS encGScore p1_1 c1_1 a1.Scores, DS encGShot p1_2 c1_2 a1.Shots, DS encGPickup p1_3 c1_3 a1.Pickups] [ABox b110 27 #[.int .i64 a0.Frame, .slice p0_0 a0.Movers.length c0_0, .slice p0_1 a0.Scores.length c0_1, .slice p0_2 a0.Shots.length c0_2, .slice p0_3 a0.Pickups.length c0_3, .int .i64 a0.NextNo], ABox b112 27 #[.int .i64 a1.Frame, .slice p1_0 a1.Movers.length c1_0, .slice p1_1 a1.Scores.length c1_1, .slice p1_2 a1.Shots.length c1_2, .slice p1_3 a1.Pickups.length c1_3, .int .i64 a1.NextNo], ASl 37 encGCorrection p190 c191 s192.2, ABox b214 85 (encGMover.enc x210).toArray, ABox b216 85 (encGMover.enc x212).toArray, (bif (dn 25) then ABox b229 37 #[.int .i64 s192.1, .int .i64 x210.At.X, .int .i64 x210.At.Y, .int .i64 x212.At.X, .int .i64 x212.At.Y, .int .i64 (W (x212.Health - x210.Health)), .int .i64 (W (x225.Points - x227.Points))] else (bif (dn 24) then ABox b229 37 #[.int .i64 0, .int .i64 0, .int .i64 0, .int .i64 0, .int .i64 0, .int .i64 0, .int .i64 0] else AEmp))]) ?_ hA rfl rfl ?_
                · exact R.fldB rfl fo85_0 rfl (R.nil (fun a ha => ⟨_, ha.slots _ _ rfl, ⟨rfl, h⟩, ha.defers, ha.size⟩))
                · rintro a2 v w ht hdf ⟨rfl, h⟩
                  exact ⟨b229, hA.putS rfl ht hdf, Kn.put hK hA 3 rfl rfl rfl ht, h⟩
              · intro dn hn hcl haf a w
                rintro ⟨b229, hA, hK, h⟩
                have d3 : dn 3 = true := (afterB_at haf 0 rfl rfl)
                refine R.step (d := 52) (Φ := fun v w => v = vGPoint x212.At ∧ H W0 (fun _ => False) w [DS encGMover p0_0 c0_0 a0.Movers, DS encGScore p0_1 c0_1 a0.Scores, DS encGShot p0_2 c0_2 a0.Shots, DS encGPickup p0_3 c0_3 a0.Pickups, DS encGMover p1_0 c1_0 a1.Movers, DS encGScore p1_1 c1_1 a1.Scores, DS encGShot p1_2 c1_2 a1.Shots, DS encGPickup p1_3 c1_3 a1.Pickups] [ABox b110 27 #[.int .i64 a0.Frame, .slice p0_0 a0.Movers.length c0_0, .slice p0_1 a0.Scores.length c0_1, .slice p0_2 a0.Shots.length c0_2, .slice p0_3 a0.Pickups.length c0_3, .int .i64 a0.NextNo], ABox b112 27 #[.int .i64 a1.Frame, .slice p1_0 a1.Movers.length c1_0, .slice p1_1 a1.Scores.length c1_1, .slice p1_2 a1.Shots.length c1_2, .slice p1_3 a1.Pickups.length c1_3, .int .i64 a1.NextNo], ASl 37 encGCorrection p190 c191 s192.2, ABox b214 85 (encGMover.enc x210).toArray, ABox b216 85 (encGMover.enc x212).toArray, (bif (dn 25) then ABox b229 37 #[.int .i64 s192.1, .int .i64 x210.At.X, .int .i64 x210.At.Y, .int .i64 x212.At.X, .int .i64 x212.At.Y, .int .i64 (W (x212.Health - x210.Health)), .int .i64 (W (x225.Points - x227.Points))] else (bif (dn 24) then ABox b229 37 #[.int .i64 0, .int .i64 0, .int .i64 0, .int .i64 0, .int .i64 0, .int .i64 0, .int .i64 0] else AEmp))]) ?_ (hA.add (hK.get 3 rfl d3)) rfl rfl ?_
                · exact R.ldN (cs := [.int .i64 x212.At.X, .int .i64 x212.At.Y]) rfl sh35 rfl rfl (h.boxN 4 rfl rfl) (R.nil (fun a ha => ⟨_, ha.slots _ _ rfl, ⟨rfl, h⟩, ha.defers, ha.size⟩))
                · rintro a2 v w ht hdf ⟨rfl, h⟩
                  exact ⟨b229, hA.putS rfl ht hdf, Kn.put hK hA 4 rfl rfl rfl ht, h⟩
              · intro dn hn hcl haf a w
                rintro ⟨b229, hA, hK, h⟩
                refine R.step (d := 53) (Φ := fun v w => v = .pointer (some ⟨b216, 7, none⟩) ∧ H W0 (fun _ => False) w [DS encGMover p0_0 c0_0 a0.Movers, DS encGScore p0_1 c0_1 a0.Scores, DS encGShot p0_2 c0_2 a0.Shots, DS encGPickup p0_3 c0_3 a0.Pickups, DS encGMover p1_0 c1_0 a1.Movers, DS encGScore p1_1 c1_1 a1.Scores, DS encGShot p1_2 c1_2 a1.Shots, DS encGPickup p1_3 c1_3 a1.Pickups] [ABox b110 27 #[.int .i64 a0.Frame, .slice p0_0 a0.Movers.length c0_0, .slice p0_1 a0.Scores.length c0_1, .slice p0_2 a0.Shots.length c0_2, .slice p0_3 a0.Pickups.length c0_3, .int .i64 a0.NextNo], ABox b112 27 #[.int .i64 a1.Frame, .slice p1_0 a1.Movers.length c1_0, .slice p1_1 a1.Scores.length c1_1, .slice p1_2 a1.Shots.length c1_2, .slice p1_3 a1.Pickups.length c1_3, .int .i64 a1.NextNo], ASl 37 encGCorrection p190 c191 s192.2, ABox b214 85 (encGMover.enc x210).toArray, ABox b216 85 (encGMover.enc x212).toArray, (bif (dn 25) then ABox b229 37 #[.int .i64 s192.1, .int .i64 x210.At.X, .int .i64 x210.At.Y, .int .i64 x212.At.X, .int .i64 x212.At.Y, .int .i64 (W (x212.Health - x210.Health)), .int .i64 (W (x225.Points - x227.Points))] else (bif (dn 24) then ABox b229 37 #[.int .i64 0, .int .i64 0, .int .i64 0, .int .i64 0, .int .i64 0, .int .i64 0, .int .i64 0] else AEmp))]) ?_ hA rfl rfl ?_
                · exact R.fldB rfl fo85_4 rfl (R.nil (fun a ha => ⟨_, ha.slots _ _ rfl, ⟨rfl, h⟩, ha.defers, ha.size⟩))
                · rintro a2 v w ht hdf ⟨rfl, h⟩
                  exact ⟨b229, hA.putS rfl ht hdf, Kn.put hK hA 5 rfl rfl rfl ht, h⟩
              · intro dn hn hcl haf a w
                rintro ⟨b229, hA, hK, h⟩
                have d5 : dn 5 = true := (afterB_at haf 0 rfl rfl)
                refine R.step (d := 54) (Φ := fun v w => v = .int .i64 x212.Health ∧ H W0 (fun _ => False) w [DS encGMover p0_0 c0_0 a0.Movers, DS encGScore p0_1 c0_1 a0.Scores, DS encGShot p0_2 c0_2 a0.Shots, DS encGPickup p0_3 c0_3 a0.Pickups, DS encGMover p1_0 c1_0 a1.Movers, DS encGScore p1_1 c1_1 a1.Scores, DS encGShot p1_2 c1_2 a1.Shots, DS encGPickup p1_3 c1_3 a1.Pickups] [ABox b110 27 #[.int .i64 a0.Frame, .slice p0_0 a0.Movers.length c0_0, .slice p0_1 a0.Scores.length c0_1, .slice p0_2 a0.Shots.length c0_2, .slice p0_3 a0.Pickups.length c0_3, .int .i64 a0.NextNo], ABox b112 27 #[.int .i64 a1.Frame, .slice p1_0 a1.Movers.length c1_0, .slice p1_1 a1.Scores.length c1_1, .slice p1_2 a1.Shots.length c1_2, .slice p1_3 a1.Pickups.length c1_3, .int .i64 a1.NextNo], ASl 37 encGCorrection p190 c191 s192.2, ABox b214 85 (encGMover.enc x210).toArray, ABox b216 85 (encGMover.enc x212).toArray, (bif (dn 25) then ABox b229 37 #[.int .i64 s192.1, .int .i64 x210.At.X, .int .i64 x210.At.Y, .int .i64 x212.At.X, .int .i64 x212.At.Y, .int .i64 (W (x212.Health - x210.Health)), .int .i64 (W (x225.Points - x227.Points))] else (bif (dn 24) then ABox b229 37 #[.int .i64 0, .int .i64 0, .int .i64 0, .int .i64 0, .int .i64 0, .int .i64 0, .int .i64 0] else AEmp))]) ?_ (hA.add (hK.get 5 rfl d5)) rfl rfl ?_
                · exact R.ld rfl sh3 rfl (h.box 4 7 rfl rfl) (R.nil (fun a ha => ⟨_, ha.slots _ _ rfl, ⟨rfl, h⟩, ha.defers, ha.size⟩))
                · rintro a2 v w ht hdf ⟨rfl, h⟩
                  exact ⟨b229, hA.putS rfl ht hdf, Kn.put hK hA 6 rfl rfl rfl ht, h⟩
              · intro dn hn hcl haf a w
                rintro ⟨b229, hA, hK, h⟩
                refine R.step (d := 55) (Φ := fun v w => v = .pointer (some ⟨b214, 7, none⟩) ∧ H W0 (fun _ => False) w [DS encGMover p0_0 c0_0 a0.Movers, DS encGScore p0_1 c0_1 a0.Scores, DS encGShot p0_2 c0_2 a0.Shots, DS encGPickup p0_3 c0_3 a0.Pickups, DS encGMover p1_0 c1_0 a1.Movers, DS encGScore p1_1 c1_1 a1.Scores, DS encGShot p1_2 c1_2 a1.Shots, DS encGPickup p1_3 c1_3 a1.Pickups] [ABox b110 27 #[.int .i64 a0.Frame, .slice p0_0 a0.Movers.length c0_0, .slice p0_1 a0.Scores.length c0_1, .slice p0_2 a0.Shots.length c0_2, .slice p0_3 a0.Pickups.length c0_3, .int .i64 a0.NextNo], ABox b112 27 #[.int .i64 a1.Frame, .slice p1_0 a1.Movers.length c1_0, .slice p1_1 a1.Scores.length c1_1, .slice p1_2 a1.Shots.length c1_2, .slice p1_3 a1.Pickups.length c1_3, .int .i64 a1.NextNo], ASl 37 encGCorrection p190 c191 s192.2, ABox b214 85 (encGMover.enc x210).toArray, ABox b216 85 (encGMover.enc x212).toArray, (bif (dn 25) then ABox b229 37 #[.int .i64 s192.1, .int .i64 x210.At.X, .int .i64 x210.At.Y, .int .i64 x212.At.X, .int .i64 x212.At.Y, .int .i64 (W (x212.Health - x210.Health)), .int .i64 (W (x225.Points - x227.Points))] else (bif (dn 24) then ABox b229 37 #[.int .i64 0, .int .i64 0, .int .i64 0, .int .i64 0, .int .i64 0, .int .i64 0, .int .i64 0] else AEmp))]) ?_ hA rfl rfl ?_
                · exact R.fldB rfl fo85_4 rfl (R.nil (fun a ha => ⟨_, ha.slots _ _ rfl, ⟨rfl, h⟩, ha.defers, ha.size⟩))
                · rintro a2 v w ht hdf ⟨rfl, h⟩
                  exact ⟨b229, hA.putS rfl ht hdf, Kn.put hK hA 7 rfl rfl rfl ht, h⟩
              · intro dn hn hcl haf a w
                rintro ⟨b229, hA, hK, h⟩
                have d7 : dn 7 = true := (afterB_at haf 0 rfl rfl)
                refine R.step (d := 56) (Φ := fun v w => v = .int .i64 x210.Health ∧ H W0 (fun _ => False) w [DS encGMover p0_0 c0_0 a0.Movers, DS encGScore p0_1 c0_1 a0.Scores, DS encGShot p0_2 c0_2 a0.Shots, DS encGPickup p0_3 c0_3 a0.Pickups, DS encGMover p1_0 c1_0 a1.Movers, DS encGScore p1_1 c1_1 a1.Scores, DS encGShot p1_2 c1_2 a1.Shots, DS encGPickup p1_3 c1_3 a1.Pickups] [ABox b110 27 #[.int .i64 a0.Frame, .slice p0_0 a0.Movers.length c0_0, .slice p0_1 a0.Scores.length c0_1, .slice p0_2 a0.Shots.length c0_2, .slice p0_3 a0.Pickups.length c0_3, .int .i64 a0.NextNo], ABox b112 27 #[.int .i64 a1.Frame, .slice p1_0 a1.Movers.length c1_0, .slice p1_1 a1.Scores.length c1_1, .slice p1_2 a1.Shots.length c1_2, .slice p1_3 a1.Pickups.length c1_3, .int .i64 a1.NextNo], ASl 37 encGCorrection p190 c191 s192.2, ABox b214 85 (encGMover.enc x210).toArray, ABox b216 85 (encGMover.enc x212).toArray, (bif (dn 25) then ABox b229 37 #[.int .i64 s192.1, .int .i64 x210.At.X, .int .i64 x210.At.Y, .int .i64 x212.At.X, .int .i64 x212.At.Y, .int .i64 (W (x212.Health - x210.Health)), .int .i64 (W (x225.Points - x227.Points))] else (bif (dn 24) then ABox b229 37 #[.int .i64 0, .int .i64 0, .int .i64 0, .int .i64 0, .int .i64 0, .int .i64 0, .int .i64 0] else AEmp))]) ?_ (hA.add (hK.get 7 rfl d7)) rfl rfl ?_
                · exact R.ld rfl sh3 rfl (h.box 3 7 rfl rfl) (R.nil (fun a ha => ⟨_, ha.slots _ _ rfl, ⟨rfl, h⟩, ha.defers, ha.size⟩))
                · rintro a2 v w ht hdf ⟨rfl, h⟩
                  exact ⟨b229, hA.putS rfl ht hdf, Kn.put hK hA 8 rfl rfl rfl ht, h⟩
              · intro dn hn hcl haf a w
                rintro ⟨b229, hA, hK, h⟩
                have d6 : dn 6 = true := (afterB_at haf 0 rfl rfl)
                have d8 : dn 8 = true := (afterB_at haf 1 rfl rfl)
                refine R.step (d := 57) (Φ := fun v w => v = .int .i64 (W (x212.Health - x210.Health)) ∧ H W0 (fun _ => False) w [DS encGMover p0_0 c0_0 a0.Movers, DS encGScore p0_1 c0_1 a0.Scores, DS encGShot p0_2 c0_2 a0.Shots, DS encGPickup p0_3 c0_3 a0.Pickups, DS encGMover p1_0 c1_0 a1.Movers, DS encGScore p1_1 c1_1 a1.Scores, DS encGShot p1_2 c1_2 a1.Shots, DS encGPickup p1_3 c1_3 a1.Pickups] [ABox b110 27 #[.int .i64 a0.Frame, .slice p0_0 a0.Movers.length c0_0, .slice p0_1 a0.Scores.length c0_1, .slice p0_2 a0.Shots.length c0_2, .slice p0_3 a0.Pickups.length c0_3, .int .i64 a0.NextNo], ABox b112 27 #[.int .i64 a1.Frame, .slice p1_0 a1.Movers.length c1_0, .slice p1_1 a1.Scores.length c1_1, .slice p1_2 a1.Shots.length c1_2, .slice p1_3 a1.Pickups.length c1_3, .int .i64 a1.NextNo], ASl 37 encGCorrection p190 c191 s192.2, ABox b214 85 (encGMover.enc x210).toArray, ABox b216 85 (encGMover.enc x212).toArray, (bif (dn 25) then ABox b229 37 #[.int .i64 s192.1, .int .i64 x210.At.X, .int .i64 x210.At.Y, .int .i64 x212.At.X, .int .i64 x212.At.Y, .int .i64 (W (x212.Health - x210.Health)), .int .i64 (W (x225.Points - x227.Points))] else (bif (dn 24) then ABox b229 37 #[.int .i64 0, .int .i64 0, .int .i64 0, .int .i64 0, .int .i64 0, .int .i64 0, .int .i64 0] else AEmp))]) ?_ ((hA.add (hK.get 6 rfl d6)).add (hK.get 8 rfl d8)) rfl rfl ?_
                · exact R.ib rfl rfl rfl rfl (R.nil (fun a ha => ⟨_, ha.slots _ _ rfl, ⟨rfl, h⟩, ha.defers, ha.size⟩))
                · rintro a2 v w ht hdf ⟨rfl, h⟩
                  exact ⟨b229, hA.putS rfl ht hdf, Kn.put hK hA 9 rfl rfl rfl ht, h⟩
              · intro dn hn hcl haf a w
                rintro ⟨b229, hA, hK, h⟩
                refine R.step (d := 58) (Φ := fun v w => v = .pointer (some ⟨b112, 2, none⟩) ∧ H W0 (fun _ => False) w [DS encGMover p0_0 c0_0 a0.Movers, DS encGScore p0_1 c0_1 a0.Scores, DS encGShot p0_2 c0_2 a0.Shots, DS encGPickup p0_3 c0_3 a0.Pickups, DS encGMover p1_0 c1_0 a1.Movers, DS encGScore p1_1 c1_1 a1.Scores, DS encGShot p1_2 c1_2 a1.Shots, DS encGPickup p1_3 c1_3 a1.Pickups] [ABox b110 27 #[.int .i64 a0.Frame, .slice p0_0 a0.Movers.length c0_0, .slice p0_1 a0.Scores.length c0_1, .slice p0_2 a0.Shots.length c0_2, .slice p0_3 a0.Pickups.length c0_3, .int .i64 a0.NextNo], ABox b112 27 #[.int .i64 a1.Frame, .slice p1_0 a1.Movers.length c1_0, .slice p1_1 a1.Scores.length c1_1, .slice p1_2 a1.Shots.length c1_2, .slice p1_3 a1.Pickups.length c1_3, .int .i64 a1.NextNo], ASl 37 encGCorrection p190 c191 s192.2, ABox b214 85 (encGMover.enc x210).toArray, ABox b216 85 (encGMover.enc x212).toArray, (bif (dn 25) then ABox b229 37 #[.int .i64 s192.1, .int .i64 x210.At.X, .int .i64 x210.At.Y, .int .i64 x212.At.X, .int .i64 x212.At.Y, .int .i64 (W (x212.Health - x210.Health)), .int .i64 (W (x225.Points - x227.Points))] else (bif (dn 24) then ABox b229 37 #[.int .i64 0, .int .i64 0, .int .i64 0, .int .i64 0, .int .i64 0, .int .i64 0, .int .i64 0] else AEmp))]) ?_ hA rfl rfl ?_
                · exact R.fldB rfl fo27_2 rfl (R.nil (fun a ha => ⟨_, ha.slots _ _ rfl, ⟨rfl, h⟩, ha.defers, ha.size⟩))
                · rintro a2 v w ht hdf ⟨rfl, h⟩
                  exact ⟨b229, hA.putS rfl ht hdf, Kn.put hK hA 10 rfl rfl rfl ht, h⟩
              · intro dn hn hcl haf a w
                rintro ⟨b229, hA, hK, h⟩
                have d10 : dn 10 = true := (afterB_at haf 0 rfl rfl)
                refine R.step (d := 59) (Φ := fun v w => v = .slice p1_1 a1.Scores.length c1_1 ∧ H W0 (fun _ => False) w [DS encGMover p0_0 c0_0 a0.Movers, DS encGScore p0_1 c0_1 a0.Scores, DS encGShot p0_2 c0_2 a0.Shots, DS encGPickup p0_3 c0_3 a0.Pickups, DS encGMover p1_0 c1_0 a1.Movers, DS encGScore p1_1 c1_1 a1.Scores, DS encGShot p1_2 c1_2 a1.Shots, DS encGPickup p1_3 c1_3 a1.Pickups] [ABox b110 27 #[.int .i64 a0.Frame, .slice p0_0 a0.Movers.length c0_0, .slice p0_1 a0.Scores.length c0_1, .slice p0_2 a0.Shots.length c0_2, .slice p0_3 a0.Pickups.length c0_3, .int .i64 a0.NextNo], ABox b112 27 #[.int .i64 a1.Frame, .slice p1_0 a1.Movers.length c1_0, .slice p1_1 a1.Scores.length c1_1, .slice p1_2 a1.Shots.length c1_2, .slice p1_3 a1.Pickups.length c1_3, .int .i64 a1.NextNo], ASl 37 encGCorrection p190 c191 s192.2, ABox b214 85 (encGMover.enc x210).toArray, ABox b216 85 (encGMover.enc x212).toArray, (bif (dn 25) then ABox b229 37 #[.int .i64 s192.1, .int .i64 x210.At.X, .int .i64 x210.At.Y, .int .i64 x212.At.X, .int .i64 x212.At.Y, .int .i64 (W (x212.Health - x210.Health)), .int .i64 (W (x225.Points - x227.Points))] else (bif (dn 24) then ABox b229 37 #[.int .i64 0, .int .i64 0, .int .i64 0, .int .i64 0, .int .i64 0, .int .i64 0, .int .i64 0] else AEmp))]) ?_ (hA.add (hK.get 10 rfl d10)) rfl rfl ?_
                · exact R.ld rfl sh23 rfl (h.box 1 2 rfl rfl) (R.nil (fun a ha => ⟨_, ha.slots _ _ rfl, ⟨rfl, h⟩, ha.defers, ha.size⟩))
                · rintro a2 v w ht hdf ⟨rfl, h⟩
                  exact ⟨b229, hA.putS rfl ht hdf, Kn.put hK hA 11 rfl rfl rfl ht, h⟩
              · intro dn hn hcl haf a w
                rintro ⟨b229, hA, hK, h⟩
                refine R.step (d := 60) (Φ := fun v w => v = .int .i64 s192.1 ∧ H W0 (fun _ => False) w [DS encGMover p0_0 c0_0 a0.Movers, DS encGScore p0_1 c0_1 a0.Scores, DS encGShot p0_2 c0_2 a0.Shots, DS encGPickup p0_3 c0_3 a0.Pickups, DS encGMover p1_0 c1_0 a1.Movers, DS encGScore p1_1 c1_1 a1.Scores, DS encGShot p1_2 c1_2 a1.Shots, DS encGPickup p1_3 c1_3 a1.Pickups] [ABox b110 27 #[.int .i64 a0.Frame, .slice p0_0 a0.Movers.length c0_0, .slice p0_1 a0.Scores.length c0_1, .slice p0_2 a0.Shots.length c0_2, .slice p0_3 a0.Pickups.length c0_3, .int .i64 a0.NextNo], ABox b112 27 #[.int .i64 a1.Frame, .slice p1_0 a1.Movers.length c1_0, .slice p1_1 a1.Scores.length c1_1, .slice p1_2 a1.Shots.length c1_2, .slice p1_3 a1.Pickups.length c1_3, .int .i64 a1.NextNo], ASl 37 encGCorrection p190 c191 s192.2, ABox b214 85 (encGMover.enc x210).toArray, ABox b216 85 (encGMover.enc x212).toArray, (bif (dn 25) then ABox b229 37 #[.int .i64 s192.1, .int .i64 x210.At.X, .int .i64 x210.At.Y, .int .i64 x212.At.X, .int .i64 x212.At.Y, .int .i64 (W (x212.Health - x210.Health)), .int .i64 (W (x225.Points - x227.Points))] else (bif (dn 24) then ABox b229 37 #[.int .i64 0, .int .i64 0, .int .i64 0, .int .i64 0, .int .i64 0, .int .i64 0, .int .i64 0] else AEmp))]) ?_ hA rfl rfl ?_
                · exact R.mv rfl rfl (R.nil (fun a ha => ⟨_, ha.slots _ _ rfl, ⟨rfl, h⟩, ha.defers, ha.size⟩))
                · rintro a2 v w ht hdf ⟨rfl, h⟩
                  exact ⟨b229, hA.putS rfl ht hdf, Kn.put hK hA 12 rfl rfl rfl ht, h⟩
              · intro dn hn hcl haf a w
                rintro ⟨b229, hA, hK, h⟩
                have d11 : dn 11 = true := (afterB_at haf 0 rfl rfl)
                have d12 : dn 12 = true := (afterB_at haf 1 rfl rfl)
                refine R.step (d := 61) (Φ := fun v w => v = .pointer (some ((adr p1_1).add (s192.1.toNat * 4))) ∧ H W0 (fun _ => False) w [DS encGMover p0_0 c0_0 a0.Movers, DS encGScore p0_1 c0_1 a0.Scores, DS encGShot p0_2 c0_2 a0.Shots, DS encGPickup p0_3 c0_3 a0.Pickups, DS encGMover p1_0 c1_0 a1.Movers, DS encGScore p1_1 c1_1 a1.Scores, DS encGShot p1_2 c1_2 a1.Shots, DS encGPickup p1_3 c1_3 a1.Pickups] [ABox b110 27 #[.int .i64 a0.Frame, .slice p0_0 a0.Movers.length c0_0, .slice p0_1 a0.Scores.length c0_1, .slice p0_2 a0.Shots.length c0_2, .slice p0_3 a0.Pickups.length c0_3, .int .i64 a0.NextNo], ABox b112 27 #[.int .i64 a1.Frame, .slice p1_0 a1.Movers.length c1_0, .slice p1_1 a1.Scores.length c1_1, .slice p1_2 a1.Shots.length c1_2, .slice p1_3 a1.Pickups.length c1_3, .int .i64 a1.NextNo], ASl 37 encGCorrection p190 c191 s192.2, ABox b214 85 (encGMover.enc x210).toArray, ABox b216 85 (encGMover.enc x212).toArray, (bif (dn 25) then ABox b229 37 #[.int .i64 s192.1, .int .i64 x210.At.X, .int .i64 x210.At.Y, .int .i64 x212.At.X, .int .i64 x212.At.Y, .int .i64 (W (x212.Health - x210.Health)), .int .i64 (W (x225.Points - x227.Points))] else (bif (dn 24) then ABox b229 37 #[.int .i64 0, .int .i64 0, .int .i64 0, .int .i64 0, .int .i64 0, .int .i64 0, .int .i64 0] else AEmp))]) ?_ ((hA.add (hK.get 11 rfl d11)).add (hK.get 12 rfl d12)) rfl rfl ?_
                · exact R.ixS rfl ss23 rfl rfl (h.rS 5 rfl) e226 (R.nil (fun a ha => ⟨_, ha.slots _ _ rfl, ⟨rfl, h⟩, ha.defers, ha.size⟩))
                · rintro a2 v w ht hdf ⟨rfl, h⟩
                  exact ⟨b229, hA.putS rfl ht hdf, Kn.put hK hA 13 rfl rfl rfl ht, h⟩
              · intro dn hn hcl haf a w
                rintro ⟨b229, hA, hK, h⟩
                have d13 : dn 13 = true := (afterB_at haf 0 rfl rfl)
                refine R.step (d := 62) (Φ := fun v w => v = .pointer (some ((adr p1_1).add (s192.1.toNat * 4))) ∧ H W0 (fun _ => False) w [DS encGMover p0_0 c0_0 a0.Movers, DS encGScore p0_1 c0_1 a0.Scores, DS encGShot p0_2 c0_2 a0.Shots, DS encGPickup p0_3 c0_3 a0.Pickups, DS encGMover p1_0 c1_0 a1.Movers, DS encGScore p1_1 c1_1 a1.Scores, DS encGShot p1_2 c1_2 a1.Shots, DS encGPickup p1_3 c1_3 a1.Pickups] [ABox b110 27 #[.int .i64 a0.Frame, .slice p0_0 a0.Movers.length c0_0, .slice p0_1 a0.Scores.length c0_1, .slice p0_2 a0.Shots.length c0_2, .slice p0_3 a0.Pickups.length c0_3, .int .i64 a0.NextNo], ABox b112 27 #[.int .i64 a1.Frame, .slice p1_0 a1.Movers.length c1_0, .slice p1_1 a1.Scores.length c1_1, .slice p1_2 a1.Shots.length c1_2, .slice p1_3 a1.Pickups.length c1_3, .int .i64 a1.NextNo], ASl 37 encGCorrection p190 c191 s192.2, ABox b214 85 (encGMover.enc x210).toArray, ABox b216 85 (encGMover.enc x212).toArray, (bif (dn 25) then ABox b229 37 #[.int .i64 s192.1, .int .i64 x210.At.X, .int .i64 x210.At.Y, .int .i64 x212.At.X, .int .i64 x212.At.Y, .int .i64 (W (x212.Health - x210.Health)), .int .i64 (W (x225.Points - x227.Points))] else (bif (dn 24) then ABox b229 37 #[.int .i64 0, .int .i64 0, .int .i64 0, .int .i64 0, .int .i64 0, .int .i64 0, .int .i64 0] else AEmp))]) ?_ (hA.add (hK.get 13 rfl d13)) rfl rfl ?_
                · exact R.fldE rfl fo87_0 rfl (R.nil (fun a ha => ⟨_, ha.slots _ _ rfl, ⟨rfl, h⟩, ha.defers, ha.size⟩))
                · rintro a2 v w ht hdf ⟨rfl, h⟩
                  exact ⟨b229, hA.putS rfl ht hdf, Kn.put hK hA 14 rfl rfl rfl ht, h⟩
              · intro dn hn hcl haf a w
                rintro ⟨b229, hA, hK, h⟩
                have d14 : dn 14 = true := (afterB_at haf 0 rfl rfl)
                refine R.step (d := 63) (Φ := fun v w => v = .int .i64 x225.Points ∧ H W0 (fun _ => False) w [DS encGMover p0_0 c0_0 a0.Movers, DS encGScore p0_1 c0_1 a0.Scores, DS encGShot p0_2 c0_2 a0.Shots, DS encGPickup p0_3 c0_3 a0.Pickups, DS encGMover p1_0 c1_0 a1.Movers, DS encGScore p1_1 c1_1 a1.Scores, DS encGShot p1_2 c1_2 a1.Shots, DS encGPickup p1_3 c1_3 a1.Pickups] [ABox b110 27 #[.int .i64 a0.Frame, .slice p0_0 a0.Movers.length c0_0, .slice p0_1 a0.Scores.length c0_1, .slice p0_2 a0.Shots.length c0_2, .slice p0_3 a0.Pickups.length c0_3, .int .i64 a0.NextNo], ABox b112 27 #[.int .i64 a1.Frame, .slice p1_0 a1.Movers.length c1_0, .slice p1_1 a1.Scores.length c1_1, .slice p1_2 a1.Shots.length c1_2, .slice p1_3 a1.Pickups.length c1_3, .int .i64 a1.NextNo], ASl 37 encGCorrection p190 c191 s192.2, ABox b214 85 (encGMover.enc x210).toArray, ABox b216 85 (encGMover.enc x212).toArray, (bif (dn 25) then ABox b229 37 #[.int .i64 s192.1, .int .i64 x210.At.X, .int .i64 x210.At.Y, .int .i64 x212.At.X, .int .i64 x212.At.Y, .int .i64 (W (x212.Health - x210.Health)), .int .i64 (W (x225.Points - x227.Points))] else (bif (dn 24) then ABox b229 37 #[.int .i64 0, .int .i64 0, .int .i64 0, .int .i64 0, .int .i64 0, .int .i64 0, .int .i64 0] else AEmp))]) ?_ (hA.add (hK.get 14 rfl d14)) rfl rfl ?_
                · exact R.ld rfl sh3 rfl (RdS.cell (h.rS 5 rfl) e226 0 rfl) (R.nil (fun a ha => ⟨_, ha.slots _ _ rfl, ⟨rfl, h⟩, ha.defers, ha.size⟩))
                · rintro a2 v w ht hdf ⟨rfl, h⟩
                  exact ⟨b229, hA.putS rfl ht hdf, Kn.put hK hA 15 rfl rfl rfl ht, h⟩
              · intro dn hn hcl haf a w
                rintro ⟨b229, hA, hK, h⟩
                refine R.step (d := 64) (Φ := fun v w => v = .pointer (some ⟨b110, 2, none⟩) ∧ H W0 (fun _ => False) w [DS encGMover p0_0 c0_0 a0.Movers, DS encGScore p0_1 c0_1 a0.Scores, DS encGShot p0_2 c0_2 a0.Shots, DS encGPickup p0_3 c0_3 a0.Pickups, DS encGMover p1_0 c1_0 a1.Movers, DS encGScore p1_1 c1_1 a1.Scores, DS encGShot p1_2 c1_2 a1.Shots, DS encGPickup p1_3 c1_3 a1.Pickups] [ABox b110 27 #[.int .i64 a0.Frame, .slice p0_0 a0.Movers.length c0_0, .slice p0_1 a0.Scores.length c0_1, .slice p0_2 a0.Shots.length c0_2, .slice p0_3 a0.Pickups.length c0_3, .int .i64 a0.NextNo], ABox b112 27 #[.int .i64 a1.Frame, .slice p1_0 a1.Movers.length c1_0, .slice p1_1 a1.Scores.length c1_1, .slice p1_2 a1.Shots.length c1_2, .slice p1_3 a1.Pickups.length c1_3, .int .i64 a1.NextNo], ASl 37 encGCorrection p190 c191 s192.2, ABox b214 85 (encGMover.enc x210).toArray, ABox b216 85 (encGMover.enc x212).toArray, (bif (dn 25) then ABox b229 37 #[.int .i64 s192.1, .int .i64 x210.At.X, .int .i64 x210.At.Y, .int .i64 x212.At.X, .int .i64 x212.At.Y, .int .i64 (W (x212.Health - x210.Health)), .int .i64 (W (x225.Points - x227.Points))] else (bif (dn 24) then ABox b229 37 #[.int .i64 0, .int .i64 0, .int .i64 0, .int .i64 0, .int .i64 0, .int .i64 0, .int .i64 0] else AEmp))]) ?_ hA rfl rfl ?_
                · exact R.fldB rfl fo27_2 rfl (R.nil (fun a ha => ⟨_, ha.slots _ _ rfl, ⟨rfl, h⟩, ha.defers, ha.size⟩))
                · rintro a2 v w ht hdf ⟨rfl, h⟩
                  exact ⟨b229, hA.putS rfl ht hdf, Kn.put hK hA 16 rfl rfl rfl ht, h⟩
              · intro dn hn hcl haf a w
                rintro ⟨b229, hA, hK, h⟩
                have d16 : dn 16 = true := (afterB_at haf 0 rfl rfl)
                refine R.step (d := 65) (Φ := fun v w => v = .slice p0_1 a0.Scores.length c0_1 ∧ H W0 (fun _ => False) w [DS encGMover p0_0 c0_0 a0.Movers, DS encGScore p0_1 c0_1 a0.Scores, DS encGShot p0_2 c0_2 a0.Shots, DS encGPickup p0_3 c0_3 a0.Pickups, DS encGMover p1_0 c1_0 a1.Movers, DS encGScore p1_1 c1_1 a1.Scores, DS encGShot p1_2 c1_2 a1.Shots, DS encGPickup p1_3 c1_3 a1.Pickups] [ABox b110 27 #[.int .i64 a0.Frame, .slice p0_0 a0.Movers.length c0_0, .slice p0_1 a0.Scores.length c0_1, .slice p0_2 a0.Shots.length c0_2, .slice p0_3 a0.Pickups.length c0_3, .int .i64 a0.NextNo], ABox b112 27 #[.int .i64 a1.Frame, .slice p1_0 a1.Movers.length c1_0, .slice p1_1 a1.Scores.length c1_1, .slice p1_2 a1.Shots.length c1_2, .slice p1_3 a1.Pickups.length c1_3, .int .i64 a1.NextNo], ASl 37 encGCorrection p190 c191 s192.2, ABox b214 85 (encGMover.enc x210).toArray, ABox b216 85 (encGMover.enc x212).toArray, (bif (dn 25) then ABox b229 37 #[.int .i64 s192.1, .int .i64 x210.At.X, .int .i64 x210.At.Y, .int .i64 x212.At.X, .int .i64 x212.At.Y, .int .i64 (W (x212.Health - x210.Health)), .int .i64 (W (x225.Points - x227.Points))] else (bif (dn 24) then ABox b229 37 #[.int .i64 0, .int .i64 0, .int .i64 0, .int .i64 0, .int .i64 0, .int .i64 0, .int .i64 0] else AEmp))]) ?_ (hA.add (hK.get 16 rfl d16)) rfl rfl ?_
                · exact R.ld rfl sh23 rfl (h.box 0 2 rfl rfl) (R.nil (fun a ha => ⟨_, ha.slots _ _ rfl, ⟨rfl, h⟩, ha.defers, ha.size⟩))
                · rintro a2 v w ht hdf ⟨rfl, h⟩
                  exact ⟨b229, hA.putS rfl ht hdf, Kn.put hK hA 17 rfl rfl rfl ht, h⟩
              · intro dn hn hcl haf a w
                rintro ⟨b229, hA, hK, h⟩
                refine R.step (d := 66) (Φ := fun v w => v = .int .i64 s192.1 ∧ H W0 (fun _ => False) w [DS encGMover p0_0 c0_0 a0.Movers, DS encGScore p0_1 c0_1 a0.Scores, DS encGShot p0_2 c0_2 a0.Shots, DS encGPickup p0_3 c0_3 a0.Pickups, DS encGMover p1_0 c1_0 a1.Movers, DS encGScore p1_1 c1_1 a1.Scores, DS encGShot p1_2 c1_2 a1.Shots, DS encGPickup p1_3 c1_3 a1.Pickups] [ABox b110 27 #[.int .i64 a0.Frame, .slice p0_0 a0.Movers.length c0_0, .slice p0_1 a0.Scores.length c0_1, .slice p0_2 a0.Shots.length c0_2, .slice p0_3 a0.Pickups.length c0_3, .int .i64 a0.NextNo], ABox b112 27 #[.int .i64 a1.Frame, .slice p1_0 a1.Movers.length c1_0, .slice p1_1 a1.Scores.length c1_1, .slice p1_2 a1.Shots.length c1_2, .slice p1_3 a1.Pickups.length c1_3, .int .i64 a1.NextNo], ASl 37 encGCorrection p190 c191 s192.2, ABox b214 85 (encGMover.enc x210).toArray, ABox b216 85 (encGMover.enc x212).toArray, (bif (dn 25) then ABox b229 37 #[.int .i64 s192.1, .int .i64 x210.At.X, .int .i64 x210.At.Y, .int .i64 x212.At.X, .int .i64 x212.At.Y, .int .i64 (W (x212.Health - x210.Health)), .int .i64 (W (x225.Points - x227.Points))] else (bif (dn 24) then ABox b229 37 #[.int .i64 0, .int .i64 0, .int .i64 0, .int .i64 0, .int .i64 0, .int .i64 0, .int .i64 0] else AEmp))]) ?_ hA rfl rfl ?_
                · exact R.mv rfl rfl (R.nil (fun a ha => ⟨_, ha.slots _ _ rfl, ⟨rfl, h⟩, ha.defers, ha.size⟩))
                · rintro a2 v w ht hdf ⟨rfl, h⟩
                  exact ⟨b229, hA.putS rfl ht hdf, Kn.put hK hA 18 rfl rfl rfl ht, h⟩
              · intro dn hn hcl haf a w
                rintro ⟨b229, hA, hK, h⟩
                have d17 : dn 17 = true := (afterB_at haf 0 rfl rfl)
                have d18 : dn 18 = true := (afterB_at haf 1 rfl rfl)
                refine R.step (d := 67) (Φ := fun v w => v = .pointer (some ((adr p0_1).add (s192.1.toNat * 4))) ∧ H W0 (fun _ => False) w [DS encGMover p0_0 c0_0 a0.Movers, DS encGScore p0_1 c0_1 a0.Scores, DS encGShot p0_2 c0_2 a0.Shots, DS encGPickup p0_3 c0_3 a0.Pickups, DS encGMover p1_0 c1_0 a1.Movers, DS encGScore p1_1 c1_1 a1.Scores, DS encGShot p1_2 c1_2 a1.Shots, DS encGPickup p1_3 c1_3 a1.Pickups] [ABox b110 27 #[.int .i64 a0.Frame, .slice p0_0 a0.Movers.length c0_0, .slice p0_1 a0.Scores.length c0_1, .slice p0_2 a0.Shots.length c0_2, .slice p0_3 a0.Pickups.length c0_3, .int .i64 a0.NextNo], ABox b112 27 #[.int .i64 a1.Frame, .slice p1_0 a1.Movers.length c1_0, .slice p1_1 a1.Scores.length c1_1, .slice p1_2 a1.Shots.length c1_2, .slice p1_3 a1.Pickups.length c1_3, .int .i64 a1.NextNo], ASl 37 encGCorrection p190 c191 s192.2, ABox b214 85 (encGMover.enc x210).toArray, ABox b216 85 (encGMover.enc x212).toArray, (bif (dn 25) then ABox b229 37 #[.int .i64 s192.1, .int .i64 x210.At.X, .int .i64 x210.At.Y, .int .i64 x212.At.X, .int .i64 x212.At.Y, .int .i64 (W (x212.Health - x210.Health)), .int .i64 (W (x225.Points - x227.Points))] else (bif (dn 24) then ABox b229 37 #[.int .i64 0, .int .i64 0, .int .i64 0, .int .i64 0, .int .i64 0, .int .i64 0, .int .i64 0] else AEmp))]) ?_ ((hA.add (hK.get 17 rfl d17)).add (hK.get 18 rfl d18)) rfl rfl ?_
                · exact R.ixS rfl ss23 rfl rfl (h.rS 1 rfl) e228 (R.nil (fun a ha => ⟨_, ha.slots _ _ rfl, ⟨rfl, h⟩, ha.defers, ha.size⟩))
                · rintro a2 v w ht hdf ⟨rfl, h⟩
                  exact ⟨b229, hA.putS rfl ht hdf, Kn.put hK hA 19 rfl rfl rfl ht, h⟩
              · intro dn hn hcl haf a w
                rintro ⟨b229, hA, hK, h⟩
                have d19 : dn 19 = true := (afterB_at haf 0 rfl rfl)
                refine R.step (d := 68) (Φ := fun v w => v = .pointer (some ((adr p0_1).add (s192.1.toNat * 4))) ∧ H W0 (fun _ => False) w [DS encGMover p0_0 c0_0 a0.Movers, DS encGScore p0_1 c0_1 a0.Scores, DS encGShot p0_2 c0_2 a0.Shots, DS encGPickup p0_3 c0_3 a0.Pickups, DS encGMover p1_0 c1_0 a1.Movers, DS encGScore p1_1 c1_1 a1.Scores, DS encGShot p1_2 c1_2 a1.Shots, DS encGPickup p1_3 c1_3 a1.Pickups] [ABox b110 27 #[.int .i64 a0.Frame, .slice p0_0 a0.Movers.length c0_0, .slice p0_1 a0.Scores.length c0_1, .slice p0_2 a0.Shots.length c0_2, .slice p0_3 a0.Pickups.length c0_3, .int .i64 a0.NextNo], ABox b112 27 #[.int .i64 a1.Frame, .slice p1_0 a1.Movers.length c1_0, .slice p1_1 a1.Scores.length c1_1, .slice p1_2 a1.Shots.length c1_2, .slice p1_3 a1.Pickups.length c1_3, .int .i64 a1.NextNo], ASl 37 encGCorrection p190 c191 s192.2, ABox b214 85 (encGMover.enc x210).toArray, ABox b216 85 (encGMover.enc x212).toArray, (bif (dn 25) then ABox b229 37 #[.int .i64 s192.1, .int .i64 x210.At.X, .int .i64 x210.At.Y, .int .i64 x212.At.X, .int .i64 x212.At.Y, .int .i64 (W (x212.Health - x210.Health)), .int .i64 (W (x225.Points - x227.Points))] else (bif (dn 24) then ABox b229 37 #[.int .i64 0, .int .i64 0, .int .i64 0, .int .i64 0, .int .i64 0, .int .i64 0, .int .i64 0] else AEmp))]) ?_ (hA.add (hK.get 19 rfl d19)) rfl rfl ?_
                · exact R.fldE rfl fo87_0 rfl (R.nil (fun a ha => ⟨_, ha.slots _ _ rfl, ⟨rfl, h⟩, ha.defers, ha.size⟩))
                · rintro a2 v w ht hdf ⟨rfl, h⟩
                  exact ⟨b229, hA.putS rfl ht hdf, Kn.put hK hA 20 rfl rfl rfl ht, h⟩
              · intro dn hn hcl haf a w
                rintro ⟨b229, hA, hK, h⟩
                have d20 : dn 20 = true := (afterB_at haf 0 rfl rfl)
                refine R.step (d := 69) (Φ := fun v w => v = .int .i64 x227.Points ∧ H W0 (fun _ => False) w [DS encGMover p0_0 c0_0 a0.Movers, DS encGScore p0_1 c0_1 a0.Scores, DS encGShot p0_2 c0_2 a0.Shots, DS encGPickup p0_3 c0_3 a0.Pickups, DS encGMover p1_0 c1_0 a1.Movers, DS encGScore p1_1 c1_1 a1.Scores, DS encGShot p1_2 c1_2 a1.Shots, DS encGPickup p1_3 c1_3 a1.Pickups] [ABox b110 27 #[.int .i64 a0.Frame, .slice p0_0 a0.Movers.length c0_0, .slice p0_1 a0.Scores.length c0_1, .slice p0_2 a0.Shots.length c0_2, .slice p0_3 a0.Pickups.length c0_3, .int .i64 a0.NextNo], ABox b112 27 #[.int .i64 a1.Frame, .slice p1_0 a1.Movers.length c1_0, .slice p1_1 a1.Scores.length c1_1, .slice p1_2 a1.Shots.length c1_2, .slice p1_3 a1.Pickups.length c1_3, .int .i64 a1.NextNo], ASl 37 encGCorrection p190 c191 s192.2, ABox b214 85 (encGMover.enc x210).toArray, ABox b216 85 (encGMover.enc x212).toArray, (bif (dn 25) then ABox b229 37 #[.int .i64 s192.1, .int .i64 x210.At.X, .int .i64 x210.At.Y, .int .i64 x212.At.X, .int .i64 x212.At.Y, .int .i64 (W (x212.Health - x210.Health)), .int .i64 (W (x225.Points - x227.Points))] else (bif (dn 24) then ABox b229 37 #[.int .i64 0, .int .i64 0, .int .i64 0, .int .i64 0, .int .i64 0, .int .i64 0, .int .i64 0] else AEmp))]) ?_ (hA.add (hK.get 20 rfl d20)) rfl rfl ?_
                · exact R.ld rfl sh3 rfl (RdS.cell (h.rS 1 rfl) e228 0 rfl) (R.nil (fun a ha => ⟨_, ha.slots _ _ rfl, ⟨rfl, h⟩, ha.defers, ha.size⟩))
                · rintro a2 v w ht hdf ⟨rfl, h⟩
                  exact ⟨b229, hA.putS rfl ht hdf, Kn.put hK hA 21 rfl rfl rfl ht, h⟩
              · intro dn hn hcl haf a w
                rintro ⟨b229, hA, hK, h⟩
                have d15 : dn 15 = true := (afterB_at haf 0 rfl rfl)
                have d21 : dn 21 = true := (afterB_at haf 1 rfl rfl)
                refine R.step (d := 70) (Φ := fun v w => v = .int .i64 (W (x225.Points - x227.Points)) ∧ H W0 (fun _ => False) w [DS encGMover p0_0 c0_0 a0.Movers, DS encGScore p0_1 c0_1 a0.Scores, DS encGShot p0_2 c0_2 a0.Shots, DS encGPickup p0_3 c0_3 a0.Pickups, DS encGMover p1_0 c1_0 a1.Movers, DS encGScore p1_1 c1_1 a1.Scores, DS encGShot p1_2 c1_2 a1.Shots, DS encGPickup p1_3 c1_3 a1.Pickups] [ABox b110 27 #[.int .i64 a0.Frame, .slice p0_0 a0.Movers.length c0_0, .slice p0_1 a0.Scores.length c0_1, .slice p0_2 a0.Shots.length c0_2, .slice p0_3 a0.Pickups.length c0_3, .int .i64 a0.NextNo], ABox b112 27 #[.int .i64 a1.Frame, .slice p1_0 a1.Movers.length c1_0, .slice p1_1 a1.Scores.length c1_1, .slice p1_2 a1.Shots.length c1_2, .slice p1_3 a1.Pickups.length c1_3, .int .i64 a1.NextNo], ASl 37 encGCorrection p190 c191 s192.2, ABox b214 85 (encGMover.enc x210).toArray, ABox b216 85 (encGMover.enc x212).toArray, (bif (dn 25) then ABox b229 37 #[.int .i64 s192.1, .int .i64 x210.At.X, .int .i64 x210.At.Y, .int .i64 x212.At.X, .int .i64 x212.At.Y, .int .i64 (W (x212.Health - x210.Health)), .int .i64 (W (x225.Points - x227.Points))] else (bif (dn 24) then ABox b229 37 #[.int .i64 0, .int .i64 0, .int .i64 0, .int .i64 0, .int .i64 0, .int .i64 0, .int .i64 0] else AEmp))]) ?_ ((hA.add (hK.get 15 rfl d15)).add (hK.get 21 rfl d21)) rfl rfl ?_
                · exact R.ib rfl rfl rfl rfl (R.nil (fun a ha => ⟨_, ha.slots _ _ rfl, ⟨rfl, h⟩, ha.defers, ha.size⟩))
                · rintro a2 v w ht hdf ⟨rfl, h⟩
                  exact ⟨b229, hA.putS rfl ht hdf, Kn.put hK hA 22 rfl rfl rfl ht, h⟩
              · intro dn hn hcl haf a w
                rintro ⟨b229, hA, hK, h⟩
                have d0 : dn 0 = true := (afterB_at haf 0 rfl rfl)
                have d2 : dn 2 = true := (afterB_at haf 1 rfl rfl)
                have d4 : dn 4 = true := (afterB_at haf 2 rfl rfl)
                have d9 : dn 9 = true := (afterB_at haf 3 rfl rfl)
                have d22 : dn 22 = true := (afterB_at haf 4 rfl rfl)
                refine R.step (d := 71) (Φ := fun v w => v = .agg #[.int .i64 s192.1, .int .i64 x210.At.X, .int .i64 x210.At.Y, .int .i64 x212.At.X, .int .i64 x212.At.Y, .int .i64 (W (x212.Health - x210.Health)), .int .i64 (W (x225.Points - x227.Points))] ∧ H W0 (fun _ => False) w [DS encGMover p0_0 c0_0 a0.Movers, DS encGScore p0_1 c0_1 a0.Scores, DS encGShot p0_2 c0_2 a0.Shots, DS encGPickup p0_3 c0_3 a0.Pickups, DS encGMover p1_0 c1_0 a1.Movers, DS encGScore p1_1 c1_1 a1.Scores, DS encGShot p1_2 c1_2 a1.Shots, DS encGPickup p1_3 c1_3 a1.Pickups] [ABox b110 27 #[.int .i64 a0.Frame, .slice p0_0 a0.Movers.length c0_0, .slice p0_1 a0.Scores.length c0_1, .slice p0_2 a0.Shots.length c0_2, .slice p0_3 a0.Pickups.length c0_3, .int .i64 a0.NextNo], ABox b112 27 #[.int .i64 a1.Frame, .slice p1_0 a1.Movers.length c1_0, .slice p1_1 a1.Scores.length c1_1, .slice p1_2 a1.Shots.length c1_2, .slice p1_3 a1.Pickups.length c1_3, .int .i64 a1.NextNo], ASl 37 encGCorrection p190 c191 s192.2, ABox b214 85 (encGMover.enc x210).toArray, ABox b216 85 (encGMover.enc x212).toArray, (bif (dn 25) then ABox b229 37 #[.int .i64 s192.1, .int .i64 x210.At.X, .int .i64 x210.At.Y, .int .i64 x212.At.X, .int .i64 x212.At.Y, .int .i64 (W (x212.Health - x210.Health)), .int .i64 (W (x225.Points - x227.Points))] else (bif (dn 24) then ABox b229 37 #[.int .i64 0, .int .i64 0, .int .i64 0, .int .i64 0, .int .i64 0, .int .i64 0, .int .i64 0] else AEmp))]) ?_ (((((hA.add (hK.get 0 rfl d0)).add (hK.get 2 rfl d2)).add (hK.get 4 rfl d4)).add (hK.get 9 rfl d9)).add (hK.get 22 rfl d22)) rfl rfl ?_
                · exact R.bld rfl rfl (bd1 _ _ _ _ _ _ _) (R.nil (fun a ha => ⟨_, ha.slots _ _ rfl, ⟨rfl, h⟩, ha.defers, ha.size⟩))
                · rintro a2 v w ht hdf ⟨rfl, h⟩
                  exact ⟨b229, hA.putS rfl ht hdf, Kn.put hK hA 23 rfl rfl rfl ht, h⟩
              · intro dn hn hcl haf a w
                rintro ⟨b229, hA, hK, h⟩
                have f25 : dn 25 = false := (dnF (fun hm => (afterB_at (hcl 25 _ rfl hm) 0 rfl rfl)) hn)
                refine R.step (d := 11) (Φ := fun v w => ∃ b229, v = .pointer (some ⟨b229, 0, none⟩) ∧ H W0 (fun _ => False) w [DS encGMover p0_0 c0_0 a0.Movers, DS encGScore p0_1 c0_1 a0.Scores, DS encGShot p0_2 c0_2 a0.Shots, DS encGPickup p0_3 c0_3 a0.Pickups, DS encGMover p1_0 c1_0 a1.Movers, DS encGScore p1_1 c1_1 a1.Scores, DS encGShot p1_2 c1_2 a1.Shots, DS encGPickup p1_3 c1_3 a1.Pickups] [ABox b110 27 #[.int .i64 a0.Frame, .slice p0_0 a0.Movers.length c0_0, .slice p0_1 a0.Scores.length c0_1, .slice p0_2 a0.Shots.length c0_2, .slice p0_3 a0.Pickups.length c0_3, .int .i64 a0.NextNo], ABox b112 27 #[.int .i64 a1.Frame, .slice p1_0 a1.Movers.length c1_0, .slice p1_1 a1.Scores.length c1_1, .slice p1_2 a1.Shots.length c1_2, .slice p1_3 a1.Pickups.length c1_3, .int .i64 a1.NextNo], ASl 37 encGCorrection p190 c191 s192.2, ABox b214 85 (encGMover.enc x210).toArray, ABox b216 85 (encGMover.enc x212).toArray, (bif (dn 25) then ABox b229 37 #[.int .i64 s192.1, .int .i64 x210.At.X, .int .i64 x210.At.Y, .int .i64 x212.At.X, .int .i64 x212.At.Y, .int .i64 (W (x212.Health - x210.Health)), .int .i64 (W (x225.Points - x227.Points))] else (bif true then ABox b229 37 #[.int .i64 0, .int .i64 0, .int .i64 0, .int .i64 0, .int .i64 0, .int .i64 0, .int .i64 0] else AEmp))]) ?_ hA rfl rfl ?_
                · exact R.alloc rfl h zr37 (fun b229 w h => R.nil (fun a ha => ⟨_, ha.slots _ _ rfl, ⟨b229, rfl, (((h.sel [0, 1, 2, 3, 4, 6] rfl (by decide)).wT 5 rfl (b := true) rfl).wF 5 rfl f25)⟩, ha.defers, ha.size⟩))
                · rintro a2 v w ht hdf ⟨b229, rfl, h⟩
                  exact ⟨b229, hA.putS rfl ht hdf, Kn.put (Kn.sw (K' := [(0, 48, .int .i64 s192.1), (1, 49, .pointer (some ⟨b214, 0, none⟩)), (2, 50, vGPoint x210.At), (3, 51, .pointer (some ⟨b216, 0, none⟩)), (4, 52, vGPoint x212.At), (5, 53, .pointer (some ⟨b216, 7, none⟩)), (6, 54, .int .i64 x212.Health), (7, 55, .pointer (some ⟨b214, 7, none⟩)), (8, 56, .int .i64 x210.Health), (9, 57, .int .i64 (W (x212.Health - x210.Health))), (10, 58, .pointer (some ⟨b112, 2, none⟩)), (11, 59, .slice p1_1 a1.Scores.length c1_1), (12, 60, .int .i64 s192.1), (13, 61, .pointer (some ((adr p1_1).add (s192.1.toNat * 4)))), (14, 62, .pointer (some ((adr p1_1).add (s192.1.toNat * 4)))), (15, 63, .int .i64 x225.Points), (16, 64, .pointer (some ⟨b110, 2, none⟩)), (17, 65, .slice p0_1 a0.Scores.length c0_1), (18, 66, .int .i64 s192.1), (19, 67, .pointer (some ((adr p0_1).add (s192.1.toNat * 4)))), (20, 68, .pointer (some ((adr p0_1).add (s192.1.toNat * 4)))), (21, 69, .int .i64 x227.Points), (22, 70, .int .i64 (W (x225.Points - x227.Points))), (23, 71, .agg #[.int .i64 s192.1, .int .i64 x210.At.X, .int .i64 x210.At.Y, .int .i64 x212.At.X, .int .i64 x212.At.Y, .int .i64 (W (x212.Health - x210.Health)), .int .i64 (W (x225.Points - x227.Points))]), (24, 11, .pointer (some ⟨b229, 0, none⟩))]) hK ⟨⟨rfl, rfl, .inl rfl⟩, ⟨rfl, rfl, .inl rfl⟩, ⟨rfl, rfl, .inl rfl⟩, ⟨rfl, rfl, .inl rfl⟩, ⟨rfl, rfl, .inl rfl⟩, ⟨rfl, rfl, .inl rfl⟩, ⟨rfl, rfl, .inl rfl⟩, ⟨rfl, rfl, .inl rfl⟩, ⟨rfl, rfl, .inl rfl⟩, ⟨rfl, rfl, .inl rfl⟩, ⟨rfl, rfl, .inl rfl⟩, ⟨rfl, rfl, .inl rfl⟩, ⟨rfl, rfl, .inl rfl⟩, ⟨rfl, rfl, .inl rfl⟩, ⟨rfl, rfl, .inl rfl⟩, ⟨rfl, rfl, .inl rfl⟩, ⟨rfl, rfl, .inl rfl⟩, ⟨rfl, rfl, .inl rfl⟩, ⟨rfl, rfl, .inl rfl⟩, ⟨rfl, rfl, .inl rfl⟩, ⟨rfl, rfl, .inl rfl⟩, ⟨rfl, rfl, .inl rfl⟩, ⟨rfl, rfl, .inl rfl⟩, ⟨rfl, rfl, .inl rfl⟩, ⟨rfl, rfl, .inr hn⟩, trivial⟩) hA 24 rfl rfl rfl ht, h⟩
              · intro dn hn hcl haf a w
                rintro ⟨b229, hA, hK, h⟩
                have d23 : dn 23 = true := (afterB_at haf 1 rfl rfl)
                have d24 : dn 24 = true := (afterB_at haf 0 rfl rfl)
                replace h := h.cF 5 rfl hn
                replace h := h.cT 5 rfl d24
                refine R.stepU (Φ := fun w => H W0 (fun _ => False) w [DS encGMover p0_0 c0_0 a0.Movers, DS encGScore p0_1 c0_1 a0.Scores, DS encGShot p0_2 c0_2 a0.Shots, DS encGPickup p0_3 c0_3 a0.Pickups, DS encGMover p1_0 c1_0 a1.Movers, DS encGScore p1_1 c1_1 a1.Scores, DS encGShot p1_2 c1_2 a1.Shots, DS encGPickup p1_3 c1_3 a1.Pickups] [ABox b110 27 #[.int .i64 a0.Frame, .slice p0_0 a0.Movers.length c0_0, .slice p0_1 a0.Scores.length c0_1, .slice p0_2 a0.Shots.length c0_2, .slice p0_3 a0.Pickups.length c0_3, .int .i64 a0.NextNo], ABox b112 27 #[.int .i64 a1.Frame, .slice p1_0 a1.Movers.length c1_0, .slice p1_1 a1.Scores.length c1_1, .slice p1_2 a1.Shots.length c1_2, .slice p1_3 a1.Pickups.length c1_3, .int .i64 a1.NextNo], ASl 37 encGCorrection p190 c191 s192.2, ABox b214 85 (encGMover.enc x210).toArray, ABox b216 85 (encGMover.enc x212).toArray, (bif true then ABox b229 37 #[.int .i64 s192.1, .int .i64 x210.At.X, .int .i64 x210.At.Y, .int .i64 x212.At.X, .int .i64 x212.At.Y, .int .i64 (W (x212.Health - x210.Health)), .int .i64 (W (x225.Points - x227.Points))] else (bif (dn 24) then ABox b229 37 #[.int .i64 0, .int .i64 0, .int .i64 0, .int .i64 0, .int .i64 0, .int .i64 0, .int .i64 0] else AEmp))]) ?_ ((hA.add (hK.get 23 rfl d23)).add (hK.get 24 rfl d24)) rfl ?_
                · exact R.stB (ds := [.int .i64 s192.1, .int .i64 x210.At.X, .int .i64 x210.At.Y, .int .i64 x212.At.X, .int .i64 x212.At.Y, .int .i64 (W (x212.Health - x210.Health)), .int .i64 (W (x225.Points - x227.Points))]) 5 h rfl sz37 rfl rfl rfl rfl rfl (fun w h => R.nil (fun a ha => ⟨(h.wT 5 rfl (b := true) rfl), ha.defers⟩))
                · rintro a2 w ht hdf h
                  exact ⟨b229, hA.same ht hdf, Kn.none hK rfl ht, h⟩
              · rintro a w ⟨b229, hA, hK, h⟩
                replace h : H W0 (fun _ => False) w [DS encGMover p0_0 c0_0 a0.Movers, DS encGScore p0_1 c0_1 a0.Scores, DS encGShot p0_2 c0_2 a0.Shots, DS encGPickup p0_3 c0_3 a0.Pickups, DS encGMover p1_0 c1_0 a1.Movers, DS encGScore p1_1 c1_1 a1.Scores, DS encGShot p1_2 c1_2 a1.Shots, DS encGPickup p1_3 c1_3 a1.Pickups] [ABox b110 27 #[.int .i64 a0.Frame, .slice p0_0 a0.Movers.length c0_0, .slice p0_1 a0.Scores.length c0_1, .slice p0_2 a0.Shots.length c0_2, .slice p0_3 a0.Pickups.length c0_3, .int .i64 a0.NextNo], ABox b112 27 #[.int .i64 a1.Frame, .slice p1_0 a1.Movers.length c1_0, .slice p1_1 a1.Scores.length c1_1, .slice p1_2 a1.Shots.length c1_2, .slice p1_3 a1.Pickups.length c1_3, .int .i64 a1.NextNo], ASl 37 encGCorrection p190 c191 s192.2, ABox b214 85 (encGMover.enc x210).toArray, ABox b216 85 (encGMover.enc x212).toArray, ABox b229 37 #[.int .i64 s192.1, .int .i64 x210.At.X, .int .i64 x210.At.Y, .int .i64 x212.At.X, .int .i64 x212.At.Y, .int .i64 (W (x212.Health - x210.Health)), .int .i64 (W (x225.Points - x227.Points))]] := h
                refine Go1.use (k218 _ _ ?_) (hA.add (hK.get 24 rfl rfl))
                obtain ⟨y232, F, E231⟩ := Option.bind_eq_some_iff.1 F
                refine T.cut (fun a w => Agr 93 [(2, .pointer (some ⟨b110, 0, none⟩)), (3, .pointer (some ⟨b112, 0, none⟩)), (7, .slice p190 s192.2.length c191), (11, .pointer (some ⟨b229, 0, none⟩)), (34, .int .i64 (a0.Movers.length : Int)), (35, .int .i64 s192.1), (86, .bool y232)] a ∧ H W0 (fun _ => False) w [DS encGMover p0_0 c0_0 a0.Movers, DS encGScore p0_1 c0_1 a0.Scores, DS encGShot p0_2 c0_2 a0.Shots, DS encGPickup p0_3 c0_3 a0.Pickups, DS encGMover p1_0 c1_0 a1.Movers, DS encGScore p1_1 c1_1 a1.Scores, DS encGShot p1_2 c1_2 a1.Shots, DS encGPickup p1_3 c1_3 a1.Pickups] [ABox b110 27 #[.int .i64 a0.Frame, .slice p0_0 a0.Movers.length c0_0, .slice p0_1 a0.Scores.length c0_1, .slice p0_2 a0.Shots.length c0_2, .slice p0_3 a0.Pickups.length c0_3, .int .i64 a0.NextNo], ABox b112 27 #[.int .i64 a1.Frame, .slice p1_0 a1.Movers.length c1_0, .slice p1_1 a1.Scores.length c1_1, .slice p1_2 a1.Shots.length c1_2, .slice p1_3 a1.Pickups.length c1_3, .int .i64 a1.NextNo], ASl 37 encGCorrection p190 c191 s192.2, ABox b229 37 #[.int .i64 s192.1, .int .i64 x210.At.X, .int .i64 x210.At.Y, .int .i64 x212.At.X, .int .i64 x212.At.Y, .int .i64 (W (x212.Health - x210.Health)), .int .i64 (W (x225.Points - x227.Points))]]) ?_ ?_
                · refine T.region ?_
                  obtain ⟨x233, e234, F⟩ := Option.bind_eq_some_iff.1 F
                  refine R.fldB rfl fo85_0 rfl (R.ldN (cs := [.int .i64 x210.At.X, .int .i64 x210.At.Y]) rfl sh35 rfl rfl (h.boxN 3 rfl rfl) (R.fldB rfl fo85_0 rfl (R.ldN (cs := [.int .i64 x212.At.X, .int .i64 x212.At.Y]) rfl sh35 rfl rfl (h.boxN 4 rfl rfl) (R.neS rfl eg35 rfl rfl (eq35 _ _ _ _ ) (R.re (congrArg Value.bool (Option.some.inj e234)) (R.mv rfl rfl (?_)))))))
                  refine bsplit x233 (fun c235 => ?_) (fun c235 => ?_)
                  · replace F := (ifT c235).symm.trans F
                    obtain rfl := Option.some.inj F
                    refine R.not_ rfl rfl rfl c235 (R.not_ rfl rfl rfl c235 (R.not_ rfl rfl rfl c235 (R.pT rfl rfl c235 rfl (R.mv rfl rfl (R.not_ rfl rfl rfl rfl (R.not_ rfl rfl rfl rfl (R.not_ rfl rfl rfl rfl (R.pT rfl rfl rfl rfl (R.nil (fun a ha => ⟨ha.sub ⟨rfl, rfl, rfl, rfl, rfl, rfl, rfl, trivial⟩, (h.sel [0, 1, 2, 5] rfl (by decide))⟩))))))))))
                  · replace F := (ifF c235).symm.trans F
                    refine R.iff rfl rfl c235 (R.fldB rfl fo37_3 rfl (R.iff rfl rfl c235 (R.ld rfl sh3 rfl (h.box 5 5 rfl rfl) (R.iff rfl rfl c235 (R.ib rfl rfl rfl rfl (R.pF rfl rfl c235 rfl (R.mv rfl rfl (?_))))))))
                    refine bsplit ((W (x212.Health - x210.Health)) != 0) (fun c236 => ?_) (fun c236 => ?_)
                    · replace F := (ifT c236).symm.trans F
                      obtain rfl := Option.some.inj F
                      refine R.not_ rfl rfl rfl c236 (R.not_ rfl rfl rfl c236 (R.not_ rfl rfl rfl c236 (R.pT rfl rfl c236 rfl (R.nil (fun a ha => ⟨ha.sub ⟨rfl, rfl, rfl, rfl, rfl, rfl, rfl, trivial⟩, (h.sel [0, 1, 2, 5] rfl (by decide))⟩)))))
                    · replace F := (ifF c236).symm.trans F
                      obtain rfl := Option.some.inj F
                      refine R.iff rfl rfl c236 (R.fldB rfl fo37_4 rfl (R.iff rfl rfl c236 (R.ld rfl sh3 rfl (h.box 5 6 rfl rfl) (R.iff rfl rfl c236 (R.ib rfl rfl rfl rfl (R.pF rfl rfl c236 rfl (R.nil (fun a ha => ⟨ha.sub ⟨rfl, rfl, rfl, rfl, rfl, rfl, rfl, trivial⟩, (h.sel [0, 1, 2, 5] rfl (by decide))⟩))))))))
                · clear F
                  rintro a w ⟨ha, h⟩
                  refine T.use ?_ ha
                  have F := E231
                  refine T.cond rfl (fun c237 => ?_) (fun c237 => ?_)
                  · replace F := (ifT c237).symm.trans F
                    refine T.region ?_
                    obtain ⟨_, e241, F⟩ := Option.bind_eq_some_iff.1 F
                    obtain rfl := Option.some.inj F
                    refine R.mv rfl rfl (R.ldN (cs := [.int .i64 s192.1, .int .i64 x210.At.X, .int .i64 x210.At.Y, .int .i64 x212.At.X, .int .i64 x212.At.Y, .int .i64 (W (x212.Health - x210.Health)), .int .i64 (W (x225.Points - x227.Points))]) rfl sh37 rfl rfl (h.boxN 3 rfl rfl) (R.litK (e := encGCorrection) (xs := [GCorrection.mk s192.1 x210.At x212.At (W (x212.Health - x210.Health)) (W (x225.Points - x227.Points))]) (vs := [.agg #[.int .i64 s192.1, .int .i64 x210.At.X, .int .i64 x210.At.Y, .int .i64 x212.At.X, .int .i64 x212.At.Y, .int .i64 (W (x212.Health - x210.Health)), .int .i64 (W (x225.Points - x227.Points))]]) rfl h u29 in37 rfl rfl rfl rfl rfl rfl (fun p238 c239 w h => R.appG 2 rfl h rfl u29 ia37 rfl rfl rfl rfl (h.rL 4 rfl) ⟨must_leN e241, by have := must_leN e241; omega⟩ (fun p242 c243 w h => R.as rfl rfl (R.nil (fun a ha => ⟨_, _, ha.sub ⟨rfl, rfl, rfl, rfl, rfl, trivial⟩, (h.sel [0, 1, 2] rfl (by decide))⟩))))))
                  · replace F := (ifF c237).symm.trans F
                    obtain rfl := Option.some.inj F
                    refine T.skip (fun a ha => ⟨_, _, ha.sub ⟨rfl, rfl, rfl, rfl, rfl, trivial⟩, (h.sel [0, 1, 2] rfl (by decide))⟩)
          · clear F
            rintro a w ⟨p244, c245, ha, h⟩
            refine T.use ?_ ha
            have F := E200
            refine T.region ?_
            obtain rfl := Option.some.inj F
            refine R.ib rfl rfl rfl rfl (R.mv rfl rfl (R.nil (fun a ha => ⟨_, E193, _, _, ha.sub ⟨rfl, rfl, rfl, rfl, rfl, trivial⟩, h⟩)))
        · replace F := (ifF c199).symm.trans F
          obtain rfl := Option.some.inj F
          replace F := congrArg some (c2 _ rfl)
          obtain rfl := Option.some.inj F
          refine T.exit (fun a ha => ⟨_, _, ha.sub ⟨rfl, trivial⟩, (h.sel [2] rfl (by decide))⟩)
      · clear F
        rintro a w ⟨p252, c253, ha, h⟩
        refine T.use ?_ ha
        have F := E130
        refine T.seq fun Kk254 k254 => ?_
        refine T.region ?_
        refine R.mv rfl rfl (R.as rfl rfl (R.as rfl rfl (R.nil (k254 _ _ ?_))))
        obtain rfl := Option.some.inj F
        refine T.ret (retG (vs := [.slice p252 y131.length c253, .int .i64 0]) [.tmp 4, .tmp 5] rfl ⟨rfl, rfl, trivial⟩ ⟨_, _, rfl, h.out⟩)
attribute [irreducible] view_Correct

/-! echelon/echelonlaw23.awake: function 16 -/
noncomputable def echelonlaw23_awake : Option (Bool) :=
  (view_Notes ([GNote.mk 1 0 7, GNote.mk 5 2 3, GNote.mk 6 3 2])).bind fun x106 => (view_Notes ([GNote.mk 9 0 0])).bind fun x113 => (view_Print (GCounters.mk 0 0 0 0 0 0 0 0 0)).bind fun x117 => (view_Correct (GWorld.mk 0 ([GMover.mk (GPoint.mk 0 0) (GPoint.mk 0 0) (GPoint.mk 0 0) 0 0 0 false 0 0 0, GMover.mk (GPoint.mk 4 9) (GPoint.mk 0 0) (GPoint.mk 0 0) 0 0 0 false 0 0 0]) (List.replicate (2 : Int).toNat (GScore.mk 0 0 0 0 : GScore)) ([] : List GShot) ([] : List GPickup) 0) (GWorld.mk 0 ([GMover.mk (GPoint.mk 0 0) (GPoint.mk 0 0) (GPoint.mk 0 0) 0 0 0 false 0 0 0, GMover.mk (GPoint.mk 4 4) (GPoint.mk 0 0) (GPoint.mk 0 0) 0 0 0 false 0 0 0]) ([GScore.mk 0 0 0 0, GScore.mk 10 0 0 0]) ([] : List GShot) ([] : List GPickup) 0)).bind fun x135 => ((some (x106.1 == ([65, 32, 102, 105, 114, 101, 100, 32, 55, 10, 67, 32, 116, 111, 111, 107, 32, 112, 114, 105, 122, 101, 10, 115, 112, 111, 116, 32, 51, 32, 99, 104, 97, 114, 103, 101, 10]))).bind fun (x143 : Bool) => if x143 then if x106.2 == 0 then if x113.1 == ([]) then some (x113.2 == 230) else some false else some false else some false).bind fun (y142 : Bool) => (if (x135.1.length : Int) == 1 then if x135.2 == 0 then (getI x135.1 0).bind fun (x152 : GCorrection) => (some ((x152.Peer == 1) && (((x152.Before.X == 4) && ((x152.Before.Y == 9) && true)) && (((x152.After.X == 4) && ((x152.After.Y == 4) && true)) && ((x152.Health == 0) && ((x152.Points == 10) && true)))))).bind fun (x154 : Bool) => some x154 else some false else some false).bind fun (y149 : Bool) => (if y142 then if y149 then (some (x117 == ([116, 105, 99, 107, 115, 32, 48, 32, 115, 116, 97, 108, 108, 115, 32, 48, 32, 115, 116, 101, 112, 115, 32, 48, 32, 99, 111, 112, 105, 101, 115, 32, 48, 32, 108, 97, 116, 101, 32, 48, 32, 115, 101, 110, 116, 32, 48, 32, 103, 111, 116, 32, 48, 32, 114, 101, 102, 117, 115, 101, 100, 32, 48, 32, 97, 99, 99, 101, 112, 116, 101, 100, 32, 48]))).bind fun (x160 : Bool) => some x160 else some false else some false).bind fun (y157 : Bool) => some y157
theorem echelonlaw23_awake.ok {r : Bool} {W0 : World} (F : echelonlaw23_awake = some r) (hg : Gl W0) :
    Calls Tryd.prog 16 [].toArray W0 fun e w' => ∃ v, e = .returned v ∧ (v = .bool r ∧ Fr0 W0 w') := by
  unfold echelonlaw23_awake at F
  refine calls_body 86 Tryd.func16 rfl rfl rfl ?_
  have h := H.nil W0
  refine T.seq fun Kk101 k101 => ?_
  refine T.region ?_
  refine R.as rfl rfl (R.nil (k101 _ _ ?_))
  refine T.seq fun Kk102 k102 => ?_
  refine T.region ?_
  obtain ⟨x106, e107, F⟩ := Option.bind_eq_some_iff.1 F
  refine R.bld rfl rfl (bd2 _ _ _) (R.bld rfl rfl (bd2 _ _ _) (R.bld rfl rfl (bd2 _ _ _) (R.litK (e := encGNote) (xs := [GNote.mk 1 0 7, GNote.mk 5 2 3, GNote.mk 6 3 2]) (vs := [.agg #[.int .i64 1, .int .i64 0, .int .i64 7], .agg #[.int .i64 5, .int .i64 2, .int .i64 3], .agg #[.int .i64 6, .int .i64 3, .int .i64 2]]) rfl h u39 in83 rfl rfl rfl rfl rfl rfl (fun p103 c104 w h => R.callC (fl := []) (cl := []) rfl cf20 rfl rfl (view_Notes.ok e107 (h.rL 0 rfl) (hg.fr0 h.fr0)) (?_)))))
  rintro _ w ⟨rfl, g108⟩
  replace h := h.same g108
  refine R.mv rfl rfl (R.ext rfl rfl rfl (R.ext rfl rfl rfl (R.as rfl rfl (R.as rfl rfl (R.nil (k102 _ _ ?_))))))
  refine T.seq fun Kk109 k109 => ?_
  refine T.region ?_
  obtain ⟨x113, e114, F⟩ := Option.bind_eq_some_iff.1 F
  refine R.bld rfl rfl (bd3 _) (R.litK (e := encGNote) (xs := [GNote.mk 9 0 0]) (vs := [.agg #[.int .i64 9, .int .i64 0, .int .i64 0]]) rfl h u39 in83 rfl rfl rfl rfl rfl rfl (fun p110 c111 w h => R.callC (fl := []) (cl := []) rfl cf20 rfl rfl (view_Notes.ok e114 (h.rL 1 rfl) (hg.fr0 h.fr0)) (?_)))
  rintro _ w ⟨rfl, g115⟩
  replace h := h.same g115
  refine R.mv rfl rfl (R.ext rfl rfl rfl (R.ext rfl rfl rfl (R.as rfl rfl (R.as rfl rfl (R.nil (k109 _ _ ?_))))))
  refine T.seq fun Kk116 k116 => ?_
  refine T.region ?_
  obtain ⟨x117, e118, F⟩ := Option.bind_eq_some_iff.1 F
  refine R.bld rfl rfl bd4 (R.callC (fl := []) (cl := []) rfl cf22 rfl rfl (view_Print.ok (a0 := GCounters.mk 0 0 0 0 0 0 0 0 0) e118 (hg.fr0 h.fr0)) (?_))
  rintro _ w ⟨rfl, g119⟩
  replace h := h.same g119
  refine R.as rfl rfl (R.nil (k116 _ _ ?_))
  refine T.seq fun Kk120 k120 => ?_
  refine T.region ?_
  refine R.bld rfl rfl bd5 (R.bld rfl rfl (bd6 _ _) (R.bld rfl rfl (bd7 _ _) (R.litK (e := encGMover) (xs := [GMover.mk (GPoint.mk 0 0) (GPoint.mk 0 0) (GPoint.mk 0 0) 0 0 0 false 0 0 0, GMover.mk (GPoint.mk 4 9) (GPoint.mk 0 0) (GPoint.mk 0 0) 0 0 0 false 0 0 0]) (vs := [.agg #[.int .i64 0, .int .i64 0, .int .i64 0, .int .i64 0, .int .i64 0, .int .i64 0, .int .i64 0, .int .i64 0, .int .i64 0, .bool false, .int .i64 0, .int .i64 0, .int .i64 0], .agg #[.int .i64 4, .int .i64 9, .int .i64 0, .int .i64 0, .int .i64 0, .int .i64 0, .int .i64 0, .int .i64 0, .int .i64 0, .bool false, .int .i64 0, .int .i64 0, .int .i64 0]]) rfl h u22 in85 rfl rfl rfl rfl rfl rfl (fun p121 c122 w h => R.as rfl rfl (R.nil (k120 _ _ ?_))))))
  refine T.seq fun Kk124 k124 => ?_
  refine T.region ?_
  refine R.bld rfl rfl bd5 (R.bld rfl rfl (bd6 _ _) (R.bld rfl rfl (bd7 _ _) (R.litK (e := encGMover) (xs := [GMover.mk (GPoint.mk 0 0) (GPoint.mk 0 0) (GPoint.mk 0 0) 0 0 0 false 0 0 0, GMover.mk (GPoint.mk 4 4) (GPoint.mk 0 0) (GPoint.mk 0 0) 0 0 0 false 0 0 0]) (vs := [.agg #[.int .i64 0, .int .i64 0, .int .i64 0, .int .i64 0, .int .i64 0, .int .i64 0, .int .i64 0, .int .i64 0, .int .i64 0, .bool false, .int .i64 0, .int .i64 0, .int .i64 0], .agg #[.int .i64 4, .int .i64 4, .int .i64 0, .int .i64 0, .int .i64 0, .int .i64 0, .int .i64 0, .int .i64 0, .int .i64 0, .bool false, .int .i64 0, .int .i64 0, .int .i64 0]]) rfl h u22 in85 rfl rfl rfl rfl rfl rfl (fun p125 c126 w h => R.as rfl rfl (R.nil (k124 _ _ ?_))))))
  refine T.seq fun Kk128 k128 => ?_
  refine T.region ?_
  obtain ⟨x135, e136, F⟩ := Option.bind_eq_some_iff.1 F
  refine R.mv rfl rfl (R.mkS (e := encGScore) (z0 := GScore.mk 0 0 0 0) rfl h u23 ia87 rfl rfl rfl (by decide) (by decide) (by decide) (fun p129 c130 w h => R.bld rfl rfl (bd8 _ _ _ _ _ _) (R.mv rfl rfl (R.bld rfl rfl bd9 (R.bld rfl rfl (bd10 _) (R.litK (e := encGScore) (xs := [GScore.mk 0 0 0 0, GScore.mk 10 0 0 0]) (vs := [.agg #[.int .i64 0, .int .i64 0, .int .i64 0, .int .i64 0], .agg #[.int .i64 10, .int .i64 0, .int .i64 0, .int .i64 0]]) rfl h u23 in87 rfl rfl rfl rfl rfl rfl (fun p132 c133 w h => R.bld rfl rfl (bd8 _ _ _ _ _ _) (R.callC (fl := []) (cl := []) rfl cf17 rfl rfl (view_Correct.ok (a0 := GWorld.mk 0 ([GMover.mk (GPoint.mk 0 0) (GPoint.mk 0 0) (GPoint.mk 0 0) 0 0 0 false 0 0 0, GMover.mk (GPoint.mk 4 9) (GPoint.mk 0 0) (GPoint.mk 0 0) 0 0 0 false 0 0 0]) (List.replicate (2 : Int).toNat (GScore.mk 0 0 0 0 : GScore)) ([] : List GShot) ([] : List GPickup) 0) (a1 := GWorld.mk 0 ([GMover.mk (GPoint.mk 0 0) (GPoint.mk 0 0) (GPoint.mk 0 0) 0 0 0 false 0 0 0, GMover.mk (GPoint.mk 4 4) (GPoint.mk 0 0) (GPoint.mk 0 0) 0 0 0 false 0 0 0]) ([GScore.mk 0 0 0 0, GScore.mk 10 0 0 0]) ([] : List GShot) ([] : List GPickup) 0) e136 (h.rL 2 rfl) (h.rL 4 rfl) RdS.nil RdS.nil (h.rL 3 rfl) (h.rL 5 rfl) RdS.nil RdS.nil (hg.fr0 h.fr0)) (?_)))))))))
  rintro _ w ⟨p137, c138, rfl, g139⟩
  replace h := h.join g139
  refine R.mv rfl rfl (R.ext rfl rfl rfl (R.ext rfl rfl rfl (R.as rfl rfl (R.as rfl rfl (R.nil (k128 _ _ ?_))))))
  obtain ⟨y142, F, E141⟩ := Option.bind_eq_some_iff.1 F
  refine T.cut (fun a w => Agr 86 [(5, vS x117), (8, .slice p137 x135.1.length c138), (9, .int .i64 x135.2), (10, .bool y142)] a ∧ H W0 (fun _ => False) w [] [ASl 37 encGCorrection p137 c138 x135.1]) ?_ ?_
  · refine T.region ?_
    obtain ⟨x143, e144, F⟩ := Option.bind_eq_some_iff.1 F
    refine R.mv rfl rfl (R.sb rfl rfl rfl rfl (R.re (congrArg Value.bool (Option.some.inj e144)) (R.mv rfl rfl (?_))))
    refine bsplit x143 (fun c145 => ?_) (fun c145 => ?_)
    · replace F := (ifT c145).symm.trans F
      refine R.iff rfl rfl c145 (R.mv rfl rfl (R.iff rfl rfl c145 (R.ib rfl rfl rfl rfl (R.pT rfl rfl c145 rfl (R.mv rfl rfl (?_))))))
      refine bsplit (x106.2 == 0) (fun c146 => ?_) (fun c146 => ?_)
      · replace F := (ifT c146).symm.trans F
        refine R.iff rfl rfl c146 (R.mv rfl rfl (R.iff rfl rfl c146 (R.sb rfl rfl rfl rfl (R.pT rfl rfl c146 rfl (R.mv rfl rfl (?_))))))
        refine bsplit (x113.1 == ([])) (fun c147 => ?_) (fun c147 => ?_)
        · replace F := (ifT c147).symm.trans F
          obtain rfl := Option.some.inj F
          refine R.iff rfl rfl c147 (R.mv rfl rfl (R.iff rfl rfl c147 (R.ib rfl rfl rfl rfl (R.pT rfl rfl c147 rfl (R.as rfl rfl (R.nil (fun a ha => ⟨ha.sub ⟨rfl, rfl, rfl, rfl, trivial⟩, (h.sel [6] rfl (by decide))⟩)))))))
        · replace F := (ifF c147).symm.trans F
          obtain rfl := Option.some.inj F
          refine R.not_ rfl rfl rfl c147 (R.not_ rfl rfl rfl c147 (R.pF rfl rfl c147 rfl (R.as rfl rfl (R.nil (fun a ha => ⟨ha.sub ⟨rfl, rfl, rfl, rfl, trivial⟩, (h.sel [6] rfl (by decide))⟩)))))
      · replace F := (ifF c146).symm.trans F
        obtain rfl := Option.some.inj F
        refine R.not_ rfl rfl rfl c146 (R.not_ rfl rfl rfl c146 (R.pF rfl rfl c146 rfl (R.mv rfl rfl (R.not_ rfl rfl rfl rfl (R.not_ rfl rfl rfl rfl (R.pF rfl rfl rfl rfl (R.as rfl rfl (R.nil (fun a ha => ⟨ha.sub ⟨rfl, rfl, rfl, rfl, trivial⟩, (h.sel [6] rfl (by decide))⟩)))))))))
    · replace F := (ifF c145).symm.trans F
      obtain rfl := Option.some.inj F
      refine R.not_ rfl rfl rfl c145 (R.not_ rfl rfl rfl c145 (R.pF rfl rfl c145 rfl (R.mv rfl rfl (R.not_ rfl rfl rfl rfl (R.not_ rfl rfl rfl rfl (R.pF rfl rfl rfl rfl (R.mv rfl rfl (R.not_ rfl rfl rfl rfl (R.not_ rfl rfl rfl rfl (R.pF rfl rfl rfl rfl (R.as rfl rfl (R.nil (fun a ha => ⟨ha.sub ⟨rfl, rfl, rfl, rfl, trivial⟩, (h.sel [6] rfl (by decide))⟩)))))))))))))
  · clear F
    rintro a w ⟨ha, h⟩
    refine T.use ?_ ha
    have F := E141
    obtain ⟨y149, F, E148⟩ := Option.bind_eq_some_iff.1 F
    refine T.cut (fun a w => Agr 86 [(5, vS x117), (10, .bool y142), (11, .bool y149)] a ∧ H W0 (fun _ => False) w [] []) ?_ ?_
    · refine T.region ?_
      refine R.mv rfl rfl (R.lenSl rfl u29 rfl (R.ib rfl rfl rfl rfl (R.mv rfl rfl (?_))))
      refine bsplit ((x135.1.length : Int) == 1) (fun c150 => ?_) (fun c150 => ?_)
      · replace F := (ifT c150).symm.trans F
        refine R.iff rfl rfl c150 (R.mv rfl rfl (R.iff rfl rfl c150 (R.ib rfl rfl rfl rfl (R.pT rfl rfl c150 rfl (R.mv rfl rfl (?_))))))
        refine bsplit (x135.2 == 0) (fun c151 => ?_) (fun c151 => ?_)
        · replace F := (ifT c151).symm.trans F
          obtain ⟨x152, e153, F⟩ := Option.bind_eq_some_iff.1 F
          obtain ⟨x154, e155, F⟩ := Option.bind_eq_some_iff.1 F
          obtain rfl := Option.some.inj F
          refine R.iff rfl rfl c151 (R.mv rfl rfl (R.iff rfl rfl c151 (R.ixS rfl ss29 rfl rfl (h.rL 0 rfl) e153 (R.iff rfl rfl c151 (R.ldN (cs := [.int .i64 x152.Peer, .int .i64 x152.Before.X, .int .i64 x152.Before.Y, .int .i64 x152.After.X, .int .i64 x152.After.Y, .int .i64 x152.Health, .int .i64 x152.Points]) rfl sh37 rfl rfl (RdS.cells (h.rL 0 rfl) e153 0 rfl) (R.iff rfl rfl c151 (R.bld rfl rfl (bd6 _ _) (R.iff rfl rfl c151 (R.bld rfl rfl (bd6 _ _) (R.iff rfl rfl c151 (R.bld rfl rfl (bd11 _ _ _ _ _ _) (R.iff rfl rfl c151 (R.eqS rfl eg37 rfl rfl (eq37 _ _ _ _ _ _ _ _ _ _ _ _ _ _ ) (R.re (congrArg Value.bool (Option.some.inj e155)) (R.pT rfl rfl c151 rfl (R.as rfl rfl (R.nil (fun a ha => ⟨ha.sub ⟨rfl, rfl, rfl, trivial⟩, (h.sel [] rfl (by decide))⟩))))))))))))))))))
        · replace F := (ifF c151).symm.trans F
          obtain rfl := Option.some.inj F
          refine R.not_ rfl rfl rfl c151 (R.not_ rfl rfl rfl c151 (R.not_ rfl rfl rfl c151 (R.not_ rfl rfl rfl c151 (R.not_ rfl rfl rfl c151 (R.not_ rfl rfl rfl c151 (R.not_ rfl rfl rfl c151 (R.pF rfl rfl c151 rfl (R.as rfl rfl (R.nil (fun a ha => ⟨ha.sub ⟨rfl, rfl, rfl, trivial⟩, (h.sel [] rfl (by decide))⟩))))))))))
      · replace F := (ifF c150).symm.trans F
        obtain rfl := Option.some.inj F
        refine R.not_ rfl rfl rfl c150 (R.not_ rfl rfl rfl c150 (R.pF rfl rfl c150 rfl (R.mv rfl rfl (R.not_ rfl rfl rfl rfl (R.not_ rfl rfl rfl rfl (R.not_ rfl rfl rfl rfl (R.not_ rfl rfl rfl rfl (R.not_ rfl rfl rfl rfl (R.not_ rfl rfl rfl rfl (R.not_ rfl rfl rfl rfl (R.pF rfl rfl rfl rfl (R.as rfl rfl (R.nil (fun a ha => ⟨ha.sub ⟨rfl, rfl, rfl, trivial⟩, (h.sel [] rfl (by decide))⟩))))))))))))))
    · clear F
      rintro a w ⟨ha, h⟩
      refine T.use ?_ ha
      have F := E148
      obtain ⟨y157, F, E156⟩ := Option.bind_eq_some_iff.1 F
      refine T.cut (fun a w => Agr 86 [(0, .bool y157)] a ∧ H W0 (fun _ => False) w [] []) ?_ ?_
      · refine T.region ?_
        refine R.mv rfl rfl (R.mv rfl rfl (?_))
        refine bsplit y142 (fun c158 => ?_) (fun c158 => ?_)
        · replace F := (ifT c158).symm.trans F
          refine R.iff rfl rfl c158 (R.mv rfl rfl (R.pT rfl rfl c158 rfl (R.mv rfl rfl (?_))))
          refine bsplit y149 (fun c159 => ?_) (fun c159 => ?_)
          · replace F := (ifT c159).symm.trans F
            obtain ⟨x160, e161, F⟩ := Option.bind_eq_some_iff.1 F
            obtain rfl := Option.some.inj F
            refine R.iff rfl rfl c159 (R.mv rfl rfl (R.iff rfl rfl c159 (R.sb rfl rfl rfl rfl (R.re (congrArg Value.bool (Option.some.inj e161)) (R.pT rfl rfl c159 rfl (R.as rfl rfl (R.nil (fun a ha => ⟨ha.sub ⟨rfl, trivial⟩, h⟩))))))))
          · replace F := (ifF c159).symm.trans F
            obtain rfl := Option.some.inj F
            refine R.not_ rfl rfl rfl c159 (R.not_ rfl rfl rfl c159 (R.pF rfl rfl c159 rfl (R.as rfl rfl (R.nil (fun a ha => ⟨ha.sub ⟨rfl, trivial⟩, h⟩)))))
        · replace F := (ifF c158).symm.trans F
          obtain rfl := Option.some.inj F
          refine R.not_ rfl rfl rfl c158 (R.pF rfl rfl c158 rfl (R.mv rfl rfl (R.not_ rfl rfl rfl rfl (R.not_ rfl rfl rfl rfl (R.pF rfl rfl rfl rfl (R.as rfl rfl (R.nil (fun a ha => ⟨ha.sub ⟨rfl, trivial⟩, h⟩))))))))
      · clear F
        rintro a w ⟨ha, h⟩
        refine T.use ?_ ha
        have F := E156
        obtain rfl := Option.some.inj F
        refine T.ret (retG (vs := [.bool y157]) [.tmp 0] rfl ⟨rfl, trivial⟩ ⟨rfl, h.fr0⟩)
attribute [irreducible] echelonlaw23_awake

/-! echelon/echelonref23.seat: function 82 -/
noncomputable def echelonref23_seat (a0 : Int) : Option (Bool) :=
  (if decide (a0 ≥ 0) then some (decide (a0 ≤ 5)) else some false).bind fun (y103 : Bool) => some y103
theorem echelonref23_seat.ok {a0 : Int} {r : Bool} {W0 : World} (F : echelonref23_seat a0 = some r) (hg : Gl W0) :
    Calls Tryd.prog 82 [(.int .i64 a0 : Value)].toArray W0 fun e w' => ∃ v, e = .returned v ∧ (v = .bool r ∧ Fr0 W0 w') := by
  unfold echelonref23_seat at F
  refine calls_body 9 Tryd.func82 rfl rfl rfl ?_
  have h := H.nil W0
  refine T.seq fun Kk101 k101 => ?_
  refine T.region ?_
  refine R.as rfl rfl (R.nil (k101 _ _ ?_))
  obtain ⟨y103, F, E102⟩ := Option.bind_eq_some_iff.1 F
  refine T.cut (fun a w => Agr 9 [(2, .bool y103)] a ∧ H W0 (fun _ => False) w [] []) ?_ ?_
  · refine T.region ?_
    refine R.mv rfl rfl (R.ib rfl rfl rfl rfl (R.mv rfl rfl (?_)))
    refine bsplit (decide (a0 ≥ 0)) (fun c104 => ?_) (fun c104 => ?_)
    · replace F := (ifT c104).symm.trans F
      obtain rfl := Option.some.inj F
      refine R.iff rfl rfl c104 (R.mv rfl rfl (R.iff rfl rfl c104 (R.ib rfl rfl rfl rfl (R.pT rfl rfl c104 rfl (R.as rfl rfl (R.nil (fun a ha => ⟨ha.sub ⟨rfl, trivial⟩, h⟩)))))))
    · replace F := (ifF c104).symm.trans F
      obtain rfl := Option.some.inj F
      refine R.not_ rfl rfl rfl c104 (R.not_ rfl rfl rfl c104 (R.pF rfl rfl c104 rfl (R.as rfl rfl (R.nil (fun a ha => ⟨ha.sub ⟨rfl, trivial⟩, h⟩)))))
  · clear F
    rintro a w ⟨ha, h⟩
    refine T.use ?_ ha
    have F := E102
    obtain rfl := Option.some.inj F
    refine T.ret (retG (vs := [.bool y103]) [.tmp 2] rfl ⟨rfl, trivial⟩ ⟨rfl, h.fr0⟩)
attribute [irreducible] echelonref23_seat

/-! echelon/echelonref23.letter: function 61 -/
noncomputable def echelonref23_letter (a0 : Int) : Option (Str) :=
  (sub ([65, 66, 67, 68, 69, 70]) a0 (W (a0 + 1))).bind fun (x103 : Str) => some x103
theorem echelonref23_letter.ok {a0 : Int} {r : Str} {W0 : World} (F : echelonref23_letter a0 = some r) (hg : Gl W0) :
    Calls Tryd.prog 61 [(.int .i64 a0 : Value)].toArray W0 fun e w' => ∃ v, e = .returned v ∧ (v = vS r ∧ Fr0 W0 w') := by
  unfold echelonref23_letter at F
  refine calls_body 7 Tryd.func61 rfl rfl rfl ?_
  have h := H.nil W0
  refine T.seq fun Kk101 k101 => ?_
  refine T.region ?_
  refine R.as rfl rfl (R.nil (k101 _ _ ?_))
  refine T.seq fun Kk102 k102 => ?_
  refine T.region ?_
  obtain ⟨x103, e104, F⟩ := Option.bind_eq_some_iff.1 F
  refine R.mv rfl rfl (R.mv rfl rfl (R.ib rfl rfl rfl rfl (R.ssub rfl u9 rfl rfl rfl e104 (R.as rfl rfl (R.nil (k102 _ _ ?_))))))
  obtain rfl := Option.some.inj F
  refine T.ret (retG (vs := [vS x103]) [.tmp 2] rfl ⟨rfl, trivial⟩ ⟨rfl, h.fr0⟩)
attribute [irreducible] echelonref23_letter

/-! echelon/echelonref23.kind: function 83 -/
noncomputable def echelonref23_kind (a0 : Int) : Option (Bool) :=
  (if decide (a0 ≥ 1) then some (decide (a0 ≤ 3)) else some false).bind fun (y103 : Bool) => some y103
theorem echelonref23_kind.ok {a0 : Int} {r : Bool} {W0 : World} (F : echelonref23_kind a0 = some r) (hg : Gl W0) :
    Calls Tryd.prog 83 [(.int .i64 a0 : Value)].toArray W0 fun e w' => ∃ v, e = .returned v ∧ (v = .bool r ∧ Fr0 W0 w') := by
  unfold echelonref23_kind at F
  refine calls_body 9 Tryd.func83 rfl rfl rfl ?_
  have h := H.nil W0
  refine T.seq fun Kk101 k101 => ?_
  refine T.region ?_
  refine R.as rfl rfl (R.nil (k101 _ _ ?_))
  obtain ⟨y103, F, E102⟩ := Option.bind_eq_some_iff.1 F
  refine T.cut (fun a w => Agr 9 [(2, .bool y103)] a ∧ H W0 (fun _ => False) w [] []) ?_ ?_
  · refine T.region ?_
    refine R.mv rfl rfl (R.ib rfl rfl rfl rfl (R.mv rfl rfl (?_)))
    refine bsplit (decide (a0 ≥ 1)) (fun c104 => ?_) (fun c104 => ?_)
    · replace F := (ifT c104).symm.trans F
      obtain rfl := Option.some.inj F
      refine R.iff rfl rfl c104 (R.mv rfl rfl (R.iff rfl rfl c104 (R.ib rfl rfl rfl rfl (R.pT rfl rfl c104 rfl (R.as rfl rfl (R.nil (fun a ha => ⟨ha.sub ⟨rfl, trivial⟩, h⟩)))))))
    · replace F := (ifF c104).symm.trans F
      obtain rfl := Option.some.inj F
      refine R.not_ rfl rfl rfl c104 (R.not_ rfl rfl rfl c104 (R.pF rfl rfl c104 rfl (R.as rfl rfl (R.nil (fun a ha => ⟨ha.sub ⟨rfl, trivial⟩, h⟩)))))
  · clear F
    rintro a w ⟨ha, h⟩
    refine T.use ?_ ha
    have F := E102
    obtain rfl := Option.some.inj F
    refine T.ret (retG (vs := [.bool y103]) [.tmp 2] rfl ⟨rfl, trivial⟩ ⟨rfl, h.fr0⟩)
attribute [irreducible] echelonref23_kind

/-! echelon/echelonref23.thing: function 84 -/
noncomputable def echelonref23_thing (a0 : Int) : Option (Str) :=
  if a0 == 1 then some ([104, 101, 97, 108]) else if a0 == 2 then some ([99, 104, 97, 114, 103, 101]) else some ([112, 114, 105, 122, 101])
theorem echelonref23_thing.ok {a0 : Int} {r : Str} {W0 : World} (F : echelonref23_thing a0 = some r) (hg : Gl W0) :
    Calls Tryd.prog 84 [(.int .i64 a0 : Value)].toArray W0 fun e w' => ∃ v, e = .returned v ∧ (v = vS r ∧ Fr0 W0 w') := by
  unfold echelonref23_thing at F
  refine calls_body 8 Tryd.func84 rfl rfl rfl ?_
  have h := H.nil W0
  refine T.seq fun Kk101 k101 => ?_
  refine T.region ?_
  refine R.as rfl rfl (R.nil (k101 _ _ ?_))
  refine T.seq fun Kk102 k102 => ?_
  refine T.seq fun Kk103 k103 => ?_
  refine T.region ?_
  refine R.mv rfl rfl (R.nil (k103 _ _ ?_))
  refine T.block ?_
  refine T.seq fun Kk104 k104 => ?_
  refine T.region ?_
  refine R.ib rfl rfl rfl rfl (R.as rfl rfl (R.nil (k104 _ _ ?_)))
  refine T.cond rfl (fun c105 => ?_) (fun c105 => ?_)
  · replace F := (ifT c105).symm.trans F
    refine T.seq fun Kk106 k106 => ?_
    refine T.region ?_
    refine R.as rfl rfl (R.nil (k106 _ _ ?_))
    obtain rfl := Option.some.inj F
    refine T.ret (retG (vs := [vS ([104, 101, 97, 108])]) [.tmp 2] rfl ⟨rfl, trivial⟩ ⟨rfl, h.fr0⟩)
  · replace F := (ifF c105).symm.trans F
    refine T.seq fun Kk107 k107 => ?_
    refine T.region ?_
    refine R.ib rfl rfl rfl rfl (R.as rfl rfl (R.nil (k107 _ _ ?_)))
    refine T.cond rfl (fun c108 => ?_) (fun c108 => ?_)
    · replace F := (ifT c108).symm.trans F
      refine T.seq fun Kk109 k109 => ?_
      refine T.region ?_
      refine R.as rfl rfl (R.nil (k109 _ _ ?_))
      obtain rfl := Option.some.inj F
      refine T.ret (retG (vs := [vS ([99, 104, 97, 114, 103, 101])]) [.tmp 2] rfl ⟨rfl, trivial⟩ ⟨rfl, h.fr0⟩)
    · replace F := (ifF c108).symm.trans F
      refine T.skip (k102 _ _ ?_)
      refine T.seq fun Kk110 k110 => ?_
      refine T.region ?_
      refine R.as rfl rfl (R.nil (k110 _ _ ?_))
      obtain rfl := Option.some.inj F
      refine T.ret (retG (vs := [vS ([112, 114, 105, 122, 101])]) [.tmp 2] rfl ⟨rfl, trivial⟩ ⟨rfl, h.fr0⟩)
attribute [irreducible] echelonref23_thing

/-! echelon/echelonref23.line: function 51 -/
noncomputable def echelonref23_line (a0 : GNote) : Option (Str × Bool) :=
  (echelonref23_seat a0.A).bind fun x105 => (if x105 then (echelonref23_seat a0.B).bind fun x111 => some x111 else some false).bind fun (y109 : Bool) => (if a0.Kind == 1 then some x105 else some false).bind fun (y116 : Bool) => if y116 then (echelonref23_letter a0.A).bind fun x120 => (cat x120 ([32, 102, 105, 114, 101, 100, 32])).bind fun (x122 : Str) => (lib_Itoa a0.B).bind fun x124 => (cat x122 x124).bind fun (x126 : Str) => some (x126, true) else (if a0.Kind == 2 then some y109 else some false).bind fun (y129 : Bool) => if y129 then (echelonref23_letter a0.A).bind fun x133 => (cat x133 ([32, 104, 105, 116, 32, 98, 121, 32])).bind fun (x135 : Str) => (echelonref23_letter a0.B).bind fun x137 => (cat x135 x137).bind fun (x139 : Str) => some (x139, true) else (if a0.Kind == 3 then some y109 else some false).bind fun (y142 : Bool) => if y142 then (echelonref23_letter a0.A).bind fun x146 => (cat x146 ([32, 111, 117, 116, 32, 98, 121, 32])).bind fun (x148 : Str) => (echelonref23_letter a0.B).bind fun x150 => (cat x148 x150).bind fun (x152 : Str) => some (x152, true) else (if a0.Kind == 4 then some x105 else some false).bind fun (y155 : Bool) => if y155 then (echelonref23_letter a0.A).bind fun x159 => (cat x159 ([32, 98, 97, 99, 107])).bind fun (x162 : Str) => some (x162, true) else (if a0.Kind == 5 then if x105 then (echelonref23_kind a0.B).bind fun x168 => some x168 else some false else some false).bind fun (y165 : Bool) => if y165 then (echelonref23_letter a0.A).bind fun x173 => (cat x173 ([32, 116, 111, 111, 107, 32])).bind fun (x175 : Str) => (echelonref23_thing a0.B).bind fun x177 => (cat x175 x177).bind fun (x179 : Str) => some (x179, true) else (if a0.Kind == 6 then (echelonref23_kind a0.B).bind fun x184 => some x184 else some false).bind fun (y182 : Bool) => if y182 then (lib_Itoa a0.A).bind fun x189 => (cat ([115, 112, 111, 116, 32]) x189).bind fun (x191 : Str) => (cat x191 ([32])).bind fun (x193 : Str) => (echelonref23_thing a0.B).bind fun x195 => (cat x193 x195).bind fun (x197 : Str) => some (x197, true) else (if a0.Kind == 7 then some y109 else some false).bind fun (y200 : Bool) => if y200 then (echelonref23_letter a0.A).bind fun x204 => (cat x204 ([32, 98, 111, 117, 110, 99, 101, 115, 32])).bind fun (x206 : Str) => (echelonref23_letter a0.B).bind fun x208 => (cat x206 x208).bind fun (x210 : Str) => some (x210, true) else (if a0.Kind == 8 then some x105 else some false).bind fun (y213 : Bool) => if y213 then (echelonref23_letter a0.A).bind fun x217 => (cat x217 ([32, 115, 97, 121, 115, 32])).bind fun (x219 : Str) => (lib_Itoa a0.B).bind fun x221 => (cat x219 x221).bind fun (x223 : Str) => some (x223, true) else some ([], false)
theorem echelonref23_line.ok {a0 : GNote} {r : Str × Bool} {W0 : World} (F : echelonref23_line a0 = some r) (hg : Gl W0) :
    Calls Tryd.prog 51 [(vGNote a0 : Value)].toArray W0 fun e w' => ∃ v, e = .returned v ∧ (v = .tuple #[vS r.1, .bool r.2] ∧ Fr0 W0 w') := by
  unfold echelonref23_line at F
  refine calls_body 139 Tryd.func51 rfl rfl rfl ?_
  have h := H.nil W0
  refine T.seq fun Kk101 k101 => ?_
  refine T.region ?_
  refine R.box rfl h rfl (fun b102 w (h : H W0 (fun _ => False) w [] [ABox b102 83 (encGNote.enc a0).toArray]) => R.as rfl rfl (R.as rfl rfl (R.nil (k101 _ _ ?_))))
  refine T.seq fun Kk104 k104 => ?_
  refine T.region ?_
  obtain ⟨x105, e106, F⟩ := Option.bind_eq_some_iff.1 F
  refine R.fldB rfl fo83_1 rfl (R.ld rfl sh3 rfl (h.box 0 1 rfl rfl) (R.callC (fl := []) (cl := []) rfl cf82 rfl rfl (echelonref23_seat.ok e106 (hg.fr0 h.fr0)) (?_)))
  rintro _ w ⟨rfl, g107⟩
  replace h := h.same g107
  refine R.as rfl rfl (R.nil (k104 _ _ ?_))
  obtain ⟨y109, F, E108⟩ := Option.bind_eq_some_iff.1 F
  refine T.cut (fun a w => Agr 139 [(1, .pointer (some ⟨b102, 0, none⟩)), (4, .bool x105), (5, .bool y109)] a ∧ H W0 (fun _ => False) w [] [ABox b102 83 (encGNote.enc a0).toArray]) ?_ ?_
  · refine T.region ?_
    refine R.mv rfl rfl (R.mv rfl rfl (?_))
    refine bsplit x105 (fun c110 => ?_) (fun c110 => ?_)
    · replace F := (ifT c110).symm.trans F
      obtain ⟨x111, e112, F⟩ := Option.bind_eq_some_iff.1 F
      refine R.iff rfl rfl c110 (R.fldB rfl fo83_2 rfl (R.iff rfl rfl c110 (R.ld rfl sh3 rfl (h.box 0 2 rfl rfl) (R.iff rfl rfl c110 (R.callC (fl := []) (cl := []) rfl cf82 rfl rfl (echelonref23_seat.ok e112 (hg.fr0 h.fr0)) (?_))))))
      rintro _ w ⟨rfl, g113⟩
      replace h := h.same g113
      obtain rfl := Option.some.inj F
      refine R.pT rfl rfl c110 rfl (R.as rfl rfl (R.nil (fun a ha => ⟨ha.sub ⟨rfl, rfl, rfl, trivial⟩, h⟩)))
    · replace F := (ifF c110).symm.trans F
      obtain rfl := Option.some.inj F
      refine R.not_ rfl rfl rfl c110 (R.not_ rfl rfl rfl c110 (R.not_ rfl rfl rfl c110 (R.pF rfl rfl c110 rfl (R.as rfl rfl (R.nil (fun a ha => ⟨ha.sub ⟨rfl, rfl, rfl, trivial⟩, h⟩))))))
  · clear F
    rintro a w ⟨ha, h⟩
    refine T.use ?_ ha
    have F := E108
    refine T.seq fun Kk114 k114 => ?_
    refine T.block ?_
    obtain ⟨y116, F, E115⟩ := Option.bind_eq_some_iff.1 F
    refine T.cut (fun a w => Agr 139 [(1, .pointer (some ⟨b102, 0, none⟩)), (4, .bool x105), (5, .bool y109), (15, .bool y116)] a ∧ H W0 (fun _ => False) w [] [ABox b102 83 (encGNote.enc a0).toArray]) ?_ ?_
    · refine T.region ?_
      refine R.fldB rfl fo83_0 rfl (R.ld rfl sh3 rfl (h.box 0 0 rfl rfl) (R.ib rfl rfl rfl rfl (R.mv rfl rfl (?_))))
      refine bsplit (a0.Kind == 1) (fun c117 => ?_) (fun c117 => ?_)
      · replace F := (ifT c117).symm.trans F
        obtain rfl := Option.some.inj F
        refine R.iff rfl rfl c117 (R.mv rfl rfl (R.pT rfl rfl c117 rfl (R.as rfl rfl (R.nil (fun a ha => ⟨ha.sub ⟨rfl, rfl, rfl, rfl, trivial⟩, h⟩)))))
      · replace F := (ifF c117).symm.trans F
        obtain rfl := Option.some.inj F
        refine R.not_ rfl rfl rfl c117 (R.pF rfl rfl c117 rfl (R.as rfl rfl (R.nil (fun a ha => ⟨ha.sub ⟨rfl, rfl, rfl, rfl, trivial⟩, h⟩))))
    · clear F
      rintro a w ⟨ha, h⟩
      refine T.use ?_ ha
      have F := E115
      refine T.cond rfl (fun c118 => ?_) (fun c118 => ?_)
      · replace F := (ifT c118).symm.trans F
        refine T.seq fun Kk119 k119 => ?_
        refine T.regionD (C := fun w => H W0 (fun _ => False) w [] [ABox b102 83 (encGNote.enc a0).toArray]) mix (by kernel_rfl) (h.same (Fr.drewN w 1)) ?_
        obtain ⟨x120, e121, F⟩ := Option.bind_eq_some_iff.1 F
        obtain ⟨x122, e123, F⟩ := Option.bind_eq_some_iff.1 F
        obtain ⟨x124, e125, F⟩ := Option.bind_eq_some_iff.1 F
        obtain ⟨x126, e127, F⟩ := Option.bind_eq_some_iff.1 F
        refine RD.val rfl rfl (fun w (h : H W0 (fun _ => False) w [] [ABox b102 83 (encGNote.enc a0).toArray]) _ kk => R.fldB rfl fo83_1 rfl (R.nil kk)) (RD.val rfl rfl (fun w (h : H W0 (fun _ => False) w [] [ABox b102 83 (encGNote.enc a0).toArray]) _ kk => R.ld rfl sh3 rfl (h.box 0 1 rfl rfl) (R.nil kk)) (RD.callF rfl cf61 rfl (fun w (h : H W0 (fun _ => False) w [] [ABox b102 83 (encGNote.enc a0).toArray]) => (echelonref23_letter.ok e121 (hg.fr0 h.fr0)).mono (fun _ _ ⟨_, h1, h2, h3⟩ => ⟨by rw [h1, h2], h.same h3⟩)) (RD.val rfl rfl (fun w (h : H W0 (fun _ => False) w [] [ABox b102 83 (encGNote.enc a0).toArray]) _ kk => R.sadd rfl rfl rfl e123 (R.nil kk)) (RD.val rfl rfl (fun w (h : H W0 (fun _ => False) w [] [ABox b102 83 (encGNote.enc a0).toArray]) _ kk => R.fldB rfl fo83_2 rfl (R.nil kk)) (RD.val rfl rfl (fun w (h : H W0 (fun _ => False) w [] [ABox b102 83 (encGNote.enc a0).toArray]) _ kk => R.ld rfl sh3 rfl (h.box 0 2 rfl rfl) (R.nil kk)) (RD.callF rfl cf52 rfl (fun w (h : H W0 (fun _ => False) w [] [ABox b102 83 (encGNote.enc a0).toArray]) => (lib_Itoa.ok e125 (hg.fr0 h.fr0)).mono (fun _ _ ⟨_, h1, h2, h3⟩ => ⟨by rw [h1, h2], h.same h3⟩)) (RD.val rfl rfl (fun w (h : H W0 (fun _ => False) w [] [ABox b102 83 (encGNote.enc a0).toArray]) _ kk => R.sadd rfl rfl rfl e127 (R.nil kk)) (RD.val rfl rfl (fun w (h : H W0 (fun _ => False) w [] [ABox b102 83 (encGNote.enc a0).toArray]) _ kk => R.as rfl rfl (R.nil kk)) (RD.val rfl rfl (fun w (h : H W0 (fun _ => False) w [] [ABox b102 83 (encGNote.enc a0).toArray]) _ kk => R.as rfl rfl (R.nil kk)) (RD.nil (fun w (h : H W0 (fun _ => False) w [] [ABox b102 83 (encGNote.enc a0).toArray]) => k119 _ _ ?_)))))))))))
        obtain rfl := Option.some.inj F
        refine T.ret (retG (vs := [vS x126, .bool true]) [.tmp 2, .tmp 3] rfl ⟨rfl, rfl, trivial⟩ ⟨rfl, h.fr0⟩)
      · replace F := (ifF c118).symm.trans F
        obtain ⟨y129, F, E128⟩ := Option.bind_eq_some_iff.1 F
        refine T.cut (fun a w => Agr 139 [(1, .pointer (some ⟨b102, 0, none⟩)), (4, .bool x105), (5, .bool y109), (30, .bool y129)] a ∧ H W0 (fun _ => False) w [] [ABox b102 83 (encGNote.enc a0).toArray]) ?_ ?_
        · refine T.region ?_
          refine R.fldB rfl fo83_0 rfl (R.ld rfl sh3 rfl (h.box 0 0 rfl rfl) (R.ib rfl rfl rfl rfl (R.mv rfl rfl (?_))))
          refine bsplit (a0.Kind == 2) (fun c130 => ?_) (fun c130 => ?_)
          · replace F := (ifT c130).symm.trans F
            obtain rfl := Option.some.inj F
            refine R.iff rfl rfl c130 (R.mv rfl rfl (R.pT rfl rfl c130 rfl (R.as rfl rfl (R.nil (fun a ha => ⟨ha.sub ⟨rfl, rfl, rfl, rfl, trivial⟩, h⟩)))))
          · replace F := (ifF c130).symm.trans F
            obtain rfl := Option.some.inj F
            refine R.not_ rfl rfl rfl c130 (R.pF rfl rfl c130 rfl (R.as rfl rfl (R.nil (fun a ha => ⟨ha.sub ⟨rfl, rfl, rfl, rfl, trivial⟩, h⟩))))
        · clear F
          rintro a w ⟨ha, h⟩
          refine T.use ?_ ha
          have F := E128
          refine T.cond rfl (fun c131 => ?_) (fun c131 => ?_)
          · replace F := (ifT c131).symm.trans F
            refine T.seq fun Kk132 k132 => ?_
            refine T.regionD (C := fun w => H W0 (fun _ => False) w [] [ABox b102 83 (encGNote.enc a0).toArray]) mix (by kernel_rfl) (h.same (Fr.drewN w 1)) ?_
            obtain ⟨x133, e134, F⟩ := Option.bind_eq_some_iff.1 F
            obtain ⟨x135, e136, F⟩ := Option.bind_eq_some_iff.1 F
            obtain ⟨x137, e138, F⟩ := Option.bind_eq_some_iff.1 F
            obtain ⟨x139, e140, F⟩ := Option.bind_eq_some_iff.1 F
            refine RD.val rfl rfl (fun w (h : H W0 (fun _ => False) w [] [ABox b102 83 (encGNote.enc a0).toArray]) _ kk => R.fldB rfl fo83_1 rfl (R.nil kk)) (RD.val rfl rfl (fun w (h : H W0 (fun _ => False) w [] [ABox b102 83 (encGNote.enc a0).toArray]) _ kk => R.ld rfl sh3 rfl (h.box 0 1 rfl rfl) (R.nil kk)) (RD.callF rfl cf61 rfl (fun w (h : H W0 (fun _ => False) w [] [ABox b102 83 (encGNote.enc a0).toArray]) => (echelonref23_letter.ok e134 (hg.fr0 h.fr0)).mono (fun _ _ ⟨_, h1, h2, h3⟩ => ⟨by rw [h1, h2], h.same h3⟩)) (RD.val rfl rfl (fun w (h : H W0 (fun _ => False) w [] [ABox b102 83 (encGNote.enc a0).toArray]) _ kk => R.sadd rfl rfl rfl e136 (R.nil kk)) (RD.val rfl rfl (fun w (h : H W0 (fun _ => False) w [] [ABox b102 83 (encGNote.enc a0).toArray]) _ kk => R.fldB rfl fo83_2 rfl (R.nil kk)) (RD.val rfl rfl (fun w (h : H W0 (fun _ => False) w [] [ABox b102 83 (encGNote.enc a0).toArray]) _ kk => R.ld rfl sh3 rfl (h.box 0 2 rfl rfl) (R.nil kk)) (RD.callF rfl cf61 rfl (fun w (h : H W0 (fun _ => False) w [] [ABox b102 83 (encGNote.enc a0).toArray]) => (echelonref23_letter.ok e138 (hg.fr0 h.fr0)).mono (fun _ _ ⟨_, h1, h2, h3⟩ => ⟨by rw [h1, h2], h.same h3⟩)) (RD.val rfl rfl (fun w (h : H W0 (fun _ => False) w [] [ABox b102 83 (encGNote.enc a0).toArray]) _ kk => R.sadd rfl rfl rfl e140 (R.nil kk)) (RD.val rfl rfl (fun w (h : H W0 (fun _ => False) w [] [ABox b102 83 (encGNote.enc a0).toArray]) _ kk => R.as rfl rfl (R.nil kk)) (RD.val rfl rfl (fun w (h : H W0 (fun _ => False) w [] [ABox b102 83 (encGNote.enc a0).toArray]) _ kk => R.as rfl rfl (R.nil kk)) (RD.nil (fun w (h : H W0 (fun _ => False) w [] [ABox b102 83 (encGNote.enc a0).toArray]) => k132 _ _ ?_)))))))))))
            obtain rfl := Option.some.inj F
            refine T.ret (retG (vs := [vS x139, .bool true]) [.tmp 2, .tmp 3] rfl ⟨rfl, rfl, trivial⟩ ⟨rfl, h.fr0⟩)
          · replace F := (ifF c131).symm.trans F
            obtain ⟨y142, F, E141⟩ := Option.bind_eq_some_iff.1 F
            refine T.cut (fun a w => Agr 139 [(1, .pointer (some ⟨b102, 0, none⟩)), (4, .bool x105), (5, .bool y109), (45, .bool y142)] a ∧ H W0 (fun _ => False) w [] [ABox b102 83 (encGNote.enc a0).toArray]) ?_ ?_
            · refine T.region ?_
              refine R.fldB rfl fo83_0 rfl (R.ld rfl sh3 rfl (h.box 0 0 rfl rfl) (R.ib rfl rfl rfl rfl (R.mv rfl rfl (?_))))
              refine bsplit (a0.Kind == 3) (fun c143 => ?_) (fun c143 => ?_)
              · replace F := (ifT c143).symm.trans F
                obtain rfl := Option.some.inj F
                refine R.iff rfl rfl c143 (R.mv rfl rfl (R.pT rfl rfl c143 rfl (R.as rfl rfl (R.nil (fun a ha => ⟨ha.sub ⟨rfl, rfl, rfl, rfl, trivial⟩, h⟩)))))
              · replace F := (ifF c143).symm.trans F
                obtain rfl := Option.some.inj F
                refine R.not_ rfl rfl rfl c143 (R.pF rfl rfl c143 rfl (R.as rfl rfl (R.nil (fun a ha => ⟨ha.sub ⟨rfl, rfl, rfl, rfl, trivial⟩, h⟩))))
            · clear F
              rintro a w ⟨ha, h⟩
              refine T.use ?_ ha
              have F := E141
              refine T.cond rfl (fun c144 => ?_) (fun c144 => ?_)
              · replace F := (ifT c144).symm.trans F
                refine T.seq fun Kk145 k145 => ?_
                refine T.regionD (C := fun w => H W0 (fun _ => False) w [] [ABox b102 83 (encGNote.enc a0).toArray]) mix (by kernel_rfl) (h.same (Fr.drewN w 1)) ?_
                obtain ⟨x146, e147, F⟩ := Option.bind_eq_some_iff.1 F
                obtain ⟨x148, e149, F⟩ := Option.bind_eq_some_iff.1 F
                obtain ⟨x150, e151, F⟩ := Option.bind_eq_some_iff.1 F
                obtain ⟨x152, e153, F⟩ := Option.bind_eq_some_iff.1 F
                refine RD.val rfl rfl (fun w (h : H W0 (fun _ => False) w [] [ABox b102 83 (encGNote.enc a0).toArray]) _ kk => R.fldB rfl fo83_1 rfl (R.nil kk)) (RD.val rfl rfl (fun w (h : H W0 (fun _ => False) w [] [ABox b102 83 (encGNote.enc a0).toArray]) _ kk => R.ld rfl sh3 rfl (h.box 0 1 rfl rfl) (R.nil kk)) (RD.callF rfl cf61 rfl (fun w (h : H W0 (fun _ => False) w [] [ABox b102 83 (encGNote.enc a0).toArray]) => (echelonref23_letter.ok e147 (hg.fr0 h.fr0)).mono (fun _ _ ⟨_, h1, h2, h3⟩ => ⟨by rw [h1, h2], h.same h3⟩)) (RD.val rfl rfl (fun w (h : H W0 (fun _ => False) w [] [ABox b102 83 (encGNote.enc a0).toArray]) _ kk => R.sadd rfl rfl rfl e149 (R.nil kk)) (RD.val rfl rfl (fun w (h : H W0 (fun _ => False) w [] [ABox b102 83 (encGNote.enc a0).toArray]) _ kk => R.fldB rfl fo83_2 rfl (R.nil kk)) (RD.val rfl rfl (fun w (h : H W0 (fun _ => False) w [] [ABox b102 83 (encGNote.enc a0).toArray]) _ kk => R.ld rfl sh3 rfl (h.box 0 2 rfl rfl) (R.nil kk)) (RD.callF rfl cf61 rfl (fun w (h : H W0 (fun _ => False) w [] [ABox b102 83 (encGNote.enc a0).toArray]) => (echelonref23_letter.ok e151 (hg.fr0 h.fr0)).mono (fun _ _ ⟨_, h1, h2, h3⟩ => ⟨by rw [h1, h2], h.same h3⟩)) (RD.val rfl rfl (fun w (h : H W0 (fun _ => False) w [] [ABox b102 83 (encGNote.enc a0).toArray]) _ kk => R.sadd rfl rfl rfl e153 (R.nil kk)) (RD.val rfl rfl (fun w (h : H W0 (fun _ => False) w [] [ABox b102 83 (encGNote.enc a0).toArray]) _ kk => R.as rfl rfl (R.nil kk)) (RD.val rfl rfl (fun w (h : H W0 (fun _ => False) w [] [ABox b102 83 (encGNote.enc a0).toArray]) _ kk => R.as rfl rfl (R.nil kk)) (RD.nil (fun w (h : H W0 (fun _ => False) w [] [ABox b102 83 (encGNote.enc a0).toArray]) => k145 _ _ ?_)))))))))))
                obtain rfl := Option.some.inj F
                refine T.ret (retG (vs := [vS x152, .bool true]) [.tmp 2, .tmp 3] rfl ⟨rfl, rfl, trivial⟩ ⟨rfl, h.fr0⟩)
              · replace F := (ifF c144).symm.trans F
                obtain ⟨y155, F, E154⟩ := Option.bind_eq_some_iff.1 F
                refine T.cut (fun a w => Agr 139 [(1, .pointer (some ⟨b102, 0, none⟩)), (4, .bool x105), (5, .bool y109), (60, .bool y155)] a ∧ H W0 (fun _ => False) w [] [ABox b102 83 (encGNote.enc a0).toArray]) ?_ ?_
                · refine T.region ?_
                  refine R.fldB rfl fo83_0 rfl (R.ld rfl sh3 rfl (h.box 0 0 rfl rfl) (R.ib rfl rfl rfl rfl (R.mv rfl rfl (?_))))
                  refine bsplit (a0.Kind == 4) (fun c156 => ?_) (fun c156 => ?_)
                  · replace F := (ifT c156).symm.trans F
                    obtain rfl := Option.some.inj F
                    refine R.iff rfl rfl c156 (R.mv rfl rfl (R.pT rfl rfl c156 rfl (R.as rfl rfl (R.nil (fun a ha => ⟨ha.sub ⟨rfl, rfl, rfl, rfl, trivial⟩, h⟩)))))
                  · replace F := (ifF c156).symm.trans F
                    obtain rfl := Option.some.inj F
                    refine R.not_ rfl rfl rfl c156 (R.pF rfl rfl c156 rfl (R.as rfl rfl (R.nil (fun a ha => ⟨ha.sub ⟨rfl, rfl, rfl, rfl, trivial⟩, h⟩))))
                · clear F
                  rintro a w ⟨ha, h⟩
                  refine T.use ?_ ha
                  have F := E154
                  refine T.cond rfl (fun c157 => ?_) (fun c157 => ?_)
                  · replace F := (ifT c157).symm.trans F
                    refine T.seq fun Kk158 k158 => ?_
                    refine T.region ?_
                    obtain ⟨x159, e160, F⟩ := Option.bind_eq_some_iff.1 F
                    refine R.fldB rfl fo83_1 rfl (R.ld rfl sh3 rfl (h.box 0 1 rfl rfl) (R.callC (fl := []) (cl := []) rfl cf61 rfl rfl (echelonref23_letter.ok e160 (hg.fr0 h.fr0)) (?_)))
                    rintro _ w ⟨rfl, g161⟩
                    replace h := h.same g161
                    obtain ⟨x162, e163, F⟩ := Option.bind_eq_some_iff.1 F
                    refine R.sadd rfl rfl rfl e163 (R.as rfl rfl (R.as rfl rfl (R.nil (k158 _ _ ?_))))
                    obtain rfl := Option.some.inj F
                    refine T.ret (retG (vs := [vS x162, .bool true]) [.tmp 2, .tmp 3] rfl ⟨rfl, rfl, trivial⟩ ⟨rfl, h.fr0⟩)
                  · replace F := (ifF c157).symm.trans F
                    obtain ⟨y165, F, E164⟩ := Option.bind_eq_some_iff.1 F
                    refine T.cut (fun a w => Agr 139 [(1, .pointer (some ⟨b102, 0, none⟩)), (4, .bool x105), (5, .bool y109), (71, .bool y165)] a ∧ H W0 (fun _ => False) w [] [ABox b102 83 (encGNote.enc a0).toArray]) ?_ ?_
                    · refine T.region ?_
                      refine R.fldB rfl fo83_0 rfl (R.ld rfl sh3 rfl (h.box 0 0 rfl rfl) (R.ib rfl rfl rfl rfl (R.mv rfl rfl (?_))))
                      refine bsplit (a0.Kind == 5) (fun c166 => ?_) (fun c166 => ?_)
                      · replace F := (ifT c166).symm.trans F
                        refine R.iff rfl rfl c166 (R.mv rfl rfl (R.pT rfl rfl c166 rfl (R.mv rfl rfl (?_))))
                        refine bsplit x105 (fun c167 => ?_) (fun c167 => ?_)
                        · replace F := (ifT c167).symm.trans F
                          obtain ⟨x168, e169, F⟩ := Option.bind_eq_some_iff.1 F
                          refine R.iff rfl rfl c167 (R.fldB rfl fo83_2 rfl (R.iff rfl rfl c167 (R.ld rfl sh3 rfl (h.box 0 2 rfl rfl) (R.iff rfl rfl c167 (R.callC (fl := []) (cl := []) rfl cf83 rfl rfl (echelonref23_kind.ok e169 (hg.fr0 h.fr0)) (?_))))))
                          rintro _ w ⟨rfl, g170⟩
                          replace h := h.same g170
                          obtain rfl := Option.some.inj F
                          refine R.pT rfl rfl c167 rfl (R.as rfl rfl (R.nil (fun a ha => ⟨ha.sub ⟨rfl, rfl, rfl, rfl, trivial⟩, h⟩)))
                        · replace F := (ifF c167).symm.trans F
                          obtain rfl := Option.some.inj F
                          refine R.not_ rfl rfl rfl c167 (R.not_ rfl rfl rfl c167 (R.not_ rfl rfl rfl c167 (R.pF rfl rfl c167 rfl (R.as rfl rfl (R.nil (fun a ha => ⟨ha.sub ⟨rfl, rfl, rfl, rfl, trivial⟩, h⟩))))))
                      · replace F := (ifF c166).symm.trans F
                        obtain rfl := Option.some.inj F
                        refine R.not_ rfl rfl rfl c166 (R.pF rfl rfl c166 rfl (R.mv rfl rfl (R.not_ rfl rfl rfl rfl (R.not_ rfl rfl rfl rfl (R.not_ rfl rfl rfl rfl (R.pF rfl rfl rfl rfl (R.as rfl rfl (R.nil (fun a ha => ⟨ha.sub ⟨rfl, rfl, rfl, rfl, trivial⟩, h⟩)))))))))
                    · clear F
                      rintro a w ⟨ha, h⟩
                      refine T.use ?_ ha
                      have F := E164
                      refine T.cond rfl (fun c171 => ?_) (fun c171 => ?_)
                      · replace F := (ifT c171).symm.trans F
                        refine T.seq fun Kk172 k172 => ?_
                        refine T.regionD (C := fun w => H W0 (fun _ => False) w [] [ABox b102 83 (encGNote.enc a0).toArray]) mix (by kernel_rfl) (h.same (Fr.drewN w 1)) ?_
                        obtain ⟨x173, e174, F⟩ := Option.bind_eq_some_iff.1 F
                        obtain ⟨x175, e176, F⟩ := Option.bind_eq_some_iff.1 F
                        obtain ⟨x177, e178, F⟩ := Option.bind_eq_some_iff.1 F
                        obtain ⟨x179, e180, F⟩ := Option.bind_eq_some_iff.1 F
                        refine RD.val rfl rfl (fun w (h : H W0 (fun _ => False) w [] [ABox b102 83 (encGNote.enc a0).toArray]) _ kk => R.fldB rfl fo83_1 rfl (R.nil kk)) (RD.val rfl rfl (fun w (h : H W0 (fun _ => False) w [] [ABox b102 83 (encGNote.enc a0).toArray]) _ kk => R.ld rfl sh3 rfl (h.box 0 1 rfl rfl) (R.nil kk)) (RD.callF rfl cf61 rfl (fun w (h : H W0 (fun _ => False) w [] [ABox b102 83 (encGNote.enc a0).toArray]) => (echelonref23_letter.ok e174 (hg.fr0 h.fr0)).mono (fun _ _ ⟨_, h1, h2, h3⟩ => ⟨by rw [h1, h2], h.same h3⟩)) (RD.val rfl rfl (fun w (h : H W0 (fun _ => False) w [] [ABox b102 83 (encGNote.enc a0).toArray]) _ kk => R.sadd rfl rfl rfl e176 (R.nil kk)) (RD.val rfl rfl (fun w (h : H W0 (fun _ => False) w [] [ABox b102 83 (encGNote.enc a0).toArray]) _ kk => R.fldB rfl fo83_2 rfl (R.nil kk)) (RD.val rfl rfl (fun w (h : H W0 (fun _ => False) w [] [ABox b102 83 (encGNote.enc a0).toArray]) _ kk => R.ld rfl sh3 rfl (h.box 0 2 rfl rfl) (R.nil kk)) (RD.callF rfl cf84 rfl (fun w (h : H W0 (fun _ => False) w [] [ABox b102 83 (encGNote.enc a0).toArray]) => (echelonref23_thing.ok e178 (hg.fr0 h.fr0)).mono (fun _ _ ⟨_, h1, h2, h3⟩ => ⟨by rw [h1, h2], h.same h3⟩)) (RD.val rfl rfl (fun w (h : H W0 (fun _ => False) w [] [ABox b102 83 (encGNote.enc a0).toArray]) _ kk => R.sadd rfl rfl rfl e180 (R.nil kk)) (RD.val rfl rfl (fun w (h : H W0 (fun _ => False) w [] [ABox b102 83 (encGNote.enc a0).toArray]) _ kk => R.as rfl rfl (R.nil kk)) (RD.val rfl rfl (fun w (h : H W0 (fun _ => False) w [] [ABox b102 83 (encGNote.enc a0).toArray]) _ kk => R.as rfl rfl (R.nil kk)) (RD.nil (fun w (h : H W0 (fun _ => False) w [] [ABox b102 83 (encGNote.enc a0).toArray]) => k172 _ _ ?_)))))))))))
                        obtain rfl := Option.some.inj F
                        refine T.ret (retG (vs := [vS x179, .bool true]) [.tmp 2, .tmp 3] rfl ⟨rfl, rfl, trivial⟩ ⟨rfl, h.fr0⟩)
                      · replace F := (ifF c171).symm.trans F
                        obtain ⟨y182, F, E181⟩ := Option.bind_eq_some_iff.1 F
                        refine T.cut (fun a w => Agr 139 [(1, .pointer (some ⟨b102, 0, none⟩)), (4, .bool x105), (5, .bool y109), (91, .bool y182)] a ∧ H W0 (fun _ => False) w [] [ABox b102 83 (encGNote.enc a0).toArray]) ?_ ?_
                        · refine T.region ?_
                          refine R.fldB rfl fo83_0 rfl (R.ld rfl sh3 rfl (h.box 0 0 rfl rfl) (R.ib rfl rfl rfl rfl (R.mv rfl rfl (?_))))
                          refine bsplit (a0.Kind == 6) (fun c183 => ?_) (fun c183 => ?_)
                          · replace F := (ifT c183).symm.trans F
                            obtain ⟨x184, e185, F⟩ := Option.bind_eq_some_iff.1 F
                            refine R.iff rfl rfl c183 (R.fldB rfl fo83_2 rfl (R.iff rfl rfl c183 (R.ld rfl sh3 rfl (h.box 0 2 rfl rfl) (R.iff rfl rfl c183 (R.callC (fl := []) (cl := []) rfl cf83 rfl rfl (echelonref23_kind.ok e185 (hg.fr0 h.fr0)) (?_))))))
                            rintro _ w ⟨rfl, g186⟩
                            replace h := h.same g186
                            obtain rfl := Option.some.inj F
                            refine R.pT rfl rfl c183 rfl (R.as rfl rfl (R.nil (fun a ha => ⟨ha.sub ⟨rfl, rfl, rfl, rfl, trivial⟩, h⟩)))
                          · replace F := (ifF c183).symm.trans F
                            obtain rfl := Option.some.inj F
                            refine R.not_ rfl rfl rfl c183 (R.not_ rfl rfl rfl c183 (R.not_ rfl rfl rfl c183 (R.pF rfl rfl c183 rfl (R.as rfl rfl (R.nil (fun a ha => ⟨ha.sub ⟨rfl, rfl, rfl, rfl, trivial⟩, h⟩))))))
                        · clear F
                          rintro a w ⟨ha, h⟩
                          refine T.use ?_ ha
                          have F := E181
                          refine T.cond rfl (fun c187 => ?_) (fun c187 => ?_)
                          · replace F := (ifT c187).symm.trans F
                            refine T.seq fun Kk188 k188 => ?_
                            refine T.regionD (C := fun w => H W0 (fun _ => False) w [] [ABox b102 83 (encGNote.enc a0).toArray]) mix (by kernel_rfl) (h.same (Fr.drewN w 1)) ?_
                            obtain ⟨x189, e190, F⟩ := Option.bind_eq_some_iff.1 F
                            obtain ⟨x191, e192, F⟩ := Option.bind_eq_some_iff.1 F
                            obtain ⟨x193, e194, F⟩ := Option.bind_eq_some_iff.1 F
                            obtain ⟨x195, e196, F⟩ := Option.bind_eq_some_iff.1 F
                            obtain ⟨x197, e198, F⟩ := Option.bind_eq_some_iff.1 F
                            refine RD.val rfl rfl (fun w (h : H W0 (fun _ => False) w [] [ABox b102 83 (encGNote.enc a0).toArray]) _ kk => R.fldB rfl fo83_1 rfl (R.nil kk)) (RD.val rfl rfl (fun w (h : H W0 (fun _ => False) w [] [ABox b102 83 (encGNote.enc a0).toArray]) _ kk => R.ld rfl sh3 rfl (h.box 0 1 rfl rfl) (R.nil kk)) (RD.callF rfl cf52 rfl (fun w (h : H W0 (fun _ => False) w [] [ABox b102 83 (encGNote.enc a0).toArray]) => (lib_Itoa.ok e190 (hg.fr0 h.fr0)).mono (fun _ _ ⟨_, h1, h2, h3⟩ => ⟨by rw [h1, h2], h.same h3⟩)) (RD.val rfl rfl (fun w (h : H W0 (fun _ => False) w [] [ABox b102 83 (encGNote.enc a0).toArray]) _ kk => R.sadd rfl rfl rfl e192 (R.nil kk)) (RD.val rfl rfl (fun w (h : H W0 (fun _ => False) w [] [ABox b102 83 (encGNote.enc a0).toArray]) _ kk => R.sadd rfl rfl rfl e194 (R.nil kk)) (RD.val rfl rfl (fun w (h : H W0 (fun _ => False) w [] [ABox b102 83 (encGNote.enc a0).toArray]) _ kk => R.fldB rfl fo83_2 rfl (R.nil kk)) (RD.val rfl rfl (fun w (h : H W0 (fun _ => False) w [] [ABox b102 83 (encGNote.enc a0).toArray]) _ kk => R.ld rfl sh3 rfl (h.box 0 2 rfl rfl) (R.nil kk)) (RD.callF rfl cf84 rfl (fun w (h : H W0 (fun _ => False) w [] [ABox b102 83 (encGNote.enc a0).toArray]) => (echelonref23_thing.ok e196 (hg.fr0 h.fr0)).mono (fun _ _ ⟨_, h1, h2, h3⟩ => ⟨by rw [h1, h2], h.same h3⟩)) (RD.val rfl rfl (fun w (h : H W0 (fun _ => False) w [] [ABox b102 83 (encGNote.enc a0).toArray]) _ kk => R.sadd rfl rfl rfl e198 (R.nil kk)) (RD.val rfl rfl (fun w (h : H W0 (fun _ => False) w [] [ABox b102 83 (encGNote.enc a0).toArray]) _ kk => R.as rfl rfl (R.nil kk)) (RD.val rfl rfl (fun w (h : H W0 (fun _ => False) w [] [ABox b102 83 (encGNote.enc a0).toArray]) _ kk => R.as rfl rfl (R.nil kk)) (RD.nil (fun w (h : H W0 (fun _ => False) w [] [ABox b102 83 (encGNote.enc a0).toArray]) => k188 _ _ ?_))))))))))))
                            obtain rfl := Option.some.inj F
                            refine T.ret (retG (vs := [vS x197, .bool true]) [.tmp 2, .tmp 3] rfl ⟨rfl, rfl, trivial⟩ ⟨rfl, h.fr0⟩)
                          · replace F := (ifF c187).symm.trans F
                            obtain ⟨y200, F, E199⟩ := Option.bind_eq_some_iff.1 F
                            refine T.cut (fun a w => Agr 139 [(1, .pointer (some ⟨b102, 0, none⟩)), (4, .bool x105), (109, .bool y200)] a ∧ H W0 (fun _ => False) w [] [ABox b102 83 (encGNote.enc a0).toArray]) ?_ ?_
                            · refine T.region ?_
                              refine R.fldB rfl fo83_0 rfl (R.ld rfl sh3 rfl (h.box 0 0 rfl rfl) (R.ib rfl rfl rfl rfl (R.mv rfl rfl (?_))))
                              refine bsplit (a0.Kind == 7) (fun c201 => ?_) (fun c201 => ?_)
                              · replace F := (ifT c201).symm.trans F
                                obtain rfl := Option.some.inj F
                                refine R.iff rfl rfl c201 (R.mv rfl rfl (R.pT rfl rfl c201 rfl (R.as rfl rfl (R.nil (fun a ha => ⟨ha.sub ⟨rfl, rfl, rfl, trivial⟩, h⟩)))))
                              · replace F := (ifF c201).symm.trans F
                                obtain rfl := Option.some.inj F
                                refine R.not_ rfl rfl rfl c201 (R.pF rfl rfl c201 rfl (R.as rfl rfl (R.nil (fun a ha => ⟨ha.sub ⟨rfl, rfl, rfl, trivial⟩, h⟩))))
                            · clear F
                              rintro a w ⟨ha, h⟩
                              refine T.use ?_ ha
                              have F := E199
                              refine T.cond rfl (fun c202 => ?_) (fun c202 => ?_)
                              · replace F := (ifT c202).symm.trans F
                                refine T.seq fun Kk203 k203 => ?_
                                refine T.regionD (C := fun w => H W0 (fun _ => False) w [] [ABox b102 83 (encGNote.enc a0).toArray]) mix (by kernel_rfl) (h.same (Fr.drewN w 1)) ?_
                                obtain ⟨x204, e205, F⟩ := Option.bind_eq_some_iff.1 F
                                obtain ⟨x206, e207, F⟩ := Option.bind_eq_some_iff.1 F
                                obtain ⟨x208, e209, F⟩ := Option.bind_eq_some_iff.1 F
                                obtain ⟨x210, e211, F⟩ := Option.bind_eq_some_iff.1 F
                                refine RD.val rfl rfl (fun w (h : H W0 (fun _ => False) w [] [ABox b102 83 (encGNote.enc a0).toArray]) _ kk => R.fldB rfl fo83_1 rfl (R.nil kk)) (RD.val rfl rfl (fun w (h : H W0 (fun _ => False) w [] [ABox b102 83 (encGNote.enc a0).toArray]) _ kk => R.ld rfl sh3 rfl (h.box 0 1 rfl rfl) (R.nil kk)) (RD.callF rfl cf61 rfl (fun w (h : H W0 (fun _ => False) w [] [ABox b102 83 (encGNote.enc a0).toArray]) => (echelonref23_letter.ok e205 (hg.fr0 h.fr0)).mono (fun _ _ ⟨_, h1, h2, h3⟩ => ⟨by rw [h1, h2], h.same h3⟩)) (RD.val rfl rfl (fun w (h : H W0 (fun _ => False) w [] [ABox b102 83 (encGNote.enc a0).toArray]) _ kk => R.sadd rfl rfl rfl e207 (R.nil kk)) (RD.val rfl rfl (fun w (h : H W0 (fun _ => False) w [] [ABox b102 83 (encGNote.enc a0).toArray]) _ kk => R.fldB rfl fo83_2 rfl (R.nil kk)) (RD.val rfl rfl (fun w (h : H W0 (fun _ => False) w [] [ABox b102 83 (encGNote.enc a0).toArray]) _ kk => R.ld rfl sh3 rfl (h.box 0 2 rfl rfl) (R.nil kk)) (RD.callF rfl cf61 rfl (fun w (h : H W0 (fun _ => False) w [] [ABox b102 83 (encGNote.enc a0).toArray]) => (echelonref23_letter.ok e209 (hg.fr0 h.fr0)).mono (fun _ _ ⟨_, h1, h2, h3⟩ => ⟨by rw [h1, h2], h.same h3⟩)) (RD.val rfl rfl (fun w (h : H W0 (fun _ => False) w [] [ABox b102 83 (encGNote.enc a0).toArray]) _ kk => R.sadd rfl rfl rfl e211 (R.nil kk)) (RD.val rfl rfl (fun w (h : H W0 (fun _ => False) w [] [ABox b102 83 (encGNote.enc a0).toArray]) _ kk => R.as rfl rfl (R.nil kk)) (RD.val rfl rfl (fun w (h : H W0 (fun _ => False) w [] [ABox b102 83 (encGNote.enc a0).toArray]) _ kk => R.as rfl rfl (R.nil kk)) (RD.nil (fun w (h : H W0 (fun _ => False) w [] [ABox b102 83 (encGNote.enc a0).toArray]) => k203 _ _ ?_)))))))))))
                                obtain rfl := Option.some.inj F
                                refine T.ret (retG (vs := [vS x210, .bool true]) [.tmp 2, .tmp 3] rfl ⟨rfl, rfl, trivial⟩ ⟨rfl, h.fr0⟩)
                              · replace F := (ifF c202).symm.trans F
                                obtain ⟨y213, F, E212⟩ := Option.bind_eq_some_iff.1 F
                                refine T.cut (fun a w => Agr 139 [(1, .pointer (some ⟨b102, 0, none⟩)), (124, .bool y213)] a ∧ H W0 (fun _ => False) w [] [ABox b102 83 (encGNote.enc a0).toArray]) ?_ ?_
                                · refine T.region ?_
                                  refine R.fldB rfl fo83_0 rfl (R.ld rfl sh3 rfl (h.box 0 0 rfl rfl) (R.ib rfl rfl rfl rfl (R.mv rfl rfl (?_))))
                                  refine bsplit (a0.Kind == 8) (fun c214 => ?_) (fun c214 => ?_)
                                  · replace F := (ifT c214).symm.trans F
                                    obtain rfl := Option.some.inj F
                                    refine R.iff rfl rfl c214 (R.mv rfl rfl (R.pT rfl rfl c214 rfl (R.as rfl rfl (R.nil (fun a ha => ⟨ha.sub ⟨rfl, rfl, trivial⟩, h⟩)))))
                                  · replace F := (ifF c214).symm.trans F
                                    obtain rfl := Option.some.inj F
                                    refine R.not_ rfl rfl rfl c214 (R.pF rfl rfl c214 rfl (R.as rfl rfl (R.nil (fun a ha => ⟨ha.sub ⟨rfl, rfl, trivial⟩, h⟩))))
                                · clear F
                                  rintro a w ⟨ha, h⟩
                                  refine T.use ?_ ha
                                  have F := E212
                                  refine T.cond rfl (fun c215 => ?_) (fun c215 => ?_)
                                  · replace F := (ifT c215).symm.trans F
                                    refine T.seq fun Kk216 k216 => ?_
                                    refine T.regionD (C := fun w => H W0 (fun _ => False) w [] [ABox b102 83 (encGNote.enc a0).toArray]) mix (by kernel_rfl) (h.same (Fr.drewN w 1)) ?_
                                    obtain ⟨x217, e218, F⟩ := Option.bind_eq_some_iff.1 F
                                    obtain ⟨x219, e220, F⟩ := Option.bind_eq_some_iff.1 F
                                    obtain ⟨x221, e222, F⟩ := Option.bind_eq_some_iff.1 F
                                    obtain ⟨x223, e224, F⟩ := Option.bind_eq_some_iff.1 F
                                    refine RD.val rfl rfl (fun w (h : H W0 (fun _ => False) w [] [ABox b102 83 (encGNote.enc a0).toArray]) _ kk => R.fldB rfl fo83_1 rfl (R.nil kk)) (RD.val rfl rfl (fun w (h : H W0 (fun _ => False) w [] [ABox b102 83 (encGNote.enc a0).toArray]) _ kk => R.ld rfl sh3 rfl (h.box 0 1 rfl rfl) (R.nil kk)) (RD.callF rfl cf61 rfl (fun w (h : H W0 (fun _ => False) w [] [ABox b102 83 (encGNote.enc a0).toArray]) => (echelonref23_letter.ok e218 (hg.fr0 h.fr0)).mono (fun _ _ ⟨_, h1, h2, h3⟩ => ⟨by rw [h1, h2], h.same h3⟩)) (RD.val rfl rfl (fun w (h : H W0 (fun _ => False) w [] [ABox b102 83 (encGNote.enc a0).toArray]) _ kk => R.sadd rfl rfl rfl e220 (R.nil kk)) (RD.val rfl rfl (fun w (h : H W0 (fun _ => False) w [] [ABox b102 83 (encGNote.enc a0).toArray]) _ kk => R.fldB rfl fo83_2 rfl (R.nil kk)) (RD.val rfl rfl (fun w (h : H W0 (fun _ => False) w [] [ABox b102 83 (encGNote.enc a0).toArray]) _ kk => R.ld rfl sh3 rfl (h.box 0 2 rfl rfl) (R.nil kk)) (RD.callF rfl cf52 rfl (fun w (h : H W0 (fun _ => False) w [] [ABox b102 83 (encGNote.enc a0).toArray]) => (lib_Itoa.ok e222 (hg.fr0 h.fr0)).mono (fun _ _ ⟨_, h1, h2, h3⟩ => ⟨by rw [h1, h2], h.same h3⟩)) (RD.val rfl rfl (fun w (h : H W0 (fun _ => False) w [] [ABox b102 83 (encGNote.enc a0).toArray]) _ kk => R.sadd rfl rfl rfl e224 (R.nil kk)) (RD.val rfl rfl (fun w (h : H W0 (fun _ => False) w [] [ABox b102 83 (encGNote.enc a0).toArray]) _ kk => R.as rfl rfl (R.nil kk)) (RD.val rfl rfl (fun w (h : H W0 (fun _ => False) w [] [ABox b102 83 (encGNote.enc a0).toArray]) _ kk => R.as rfl rfl (R.nil kk)) (RD.nil (fun w (h : H W0 (fun _ => False) w [] [ABox b102 83 (encGNote.enc a0).toArray]) => k216 _ _ ?_)))))))))))
                                    obtain rfl := Option.some.inj F
                                    refine T.ret (retG (vs := [vS x223, .bool true]) [.tmp 2, .tmp 3] rfl ⟨rfl, rfl, trivial⟩ ⟨rfl, h.fr0⟩)
                                  · replace F := (ifF c215).symm.trans F
                                    refine T.skip (k114 _ _ ?_)
                                    refine T.seq fun Kk225 k225 => ?_
                                    refine T.region ?_
                                    refine R.as rfl rfl (R.as rfl rfl (R.nil (k225 _ _ ?_)))
                                    obtain rfl := Option.some.inj F
                                    refine T.ret (retG (vs := [vS ([]), .bool false]) [.tmp 2, .tmp 3] rfl ⟨rfl, rfl, trivial⟩ ⟨rfl, h.fr0⟩)
attribute [irreducible] echelonref23_line

/-! echelon/echelonref23.Notes: function 21 -/
noncomputable def echelonref23_Notes (a0 : List GNote) : Option (Str × Int) :=
  (Loop.run (fun (s129 : Str × Int) => if decide (s129.2 < (a0.length : Int)) then (getI a0 s129.2).bind fun (x137 : GNote) => (echelonref23_line x137).bind fun x139 => if !x139.2 then some (.inr (.inr ([], 230))) else (cat s129.1 x139.1).bind fun (x146 : Str) => (cat x146 ([10])).bind fun (x148 : Str) => some (.inl (x148, W (s129.2 + 1))) else some (.inr ((.inl s129.1)))) ([], 0) : Option ((Str) ⊕ _)).bind fun y105 => Sum.elim (fun (y106 : Str) => some (y106, 0)) some y105
theorem echelonref23_Notes.ok {a0 : List GNote} {p0_0 : Option Addr} {c0_0 : Nat} {r : Str × Int} {W0 : World} (F : echelonref23_Notes a0 = some r) (hD0_0 : RdS W0 encGNote p0_0 c0_0 a0) (hg : Gl W0) :
    Calls Tryd.prog 21 [(.slice p0_0 a0.length c0_0 : Value)].toArray W0 fun e w' => ∃ v, e = .returned v ∧ (v = .tuple #[vS r.1, .int .i64 r.2] ∧ Fr0 W0 w') := by
  unfold echelonref23_Notes at F
  refine calls_body 29 Tryd.func21 rfl rfl rfl ?_
  have h : H W0 (fun _ => False) W0 [DS encGNote p0_0 c0_0 a0] [] := H.ofRs (List.forall_mem_cons.2 ⟨hD0_0.use, fun _ h => by cases h⟩)
  refine T.seq fun Kk102 k102 => ?_
  refine T.region ?_
  refine R.as rfl rfl (R.as rfl rfl (R.nil (k102 _ _ ?_)))
  refine T.seq fun Kk103 k103 => ?_
  refine T.region ?_
  refine R.as rfl rfl (R.nil (k103 _ _ ?_))
  obtain ⟨y105, F, E104⟩ := Option.bind_eq_some_iff.1 F
  refine T.cut (fun a w => ∃ y106, y105 = .inl y106 ∧ Agr 29 [(4, vS y106)] a ∧ H W0 (fun _ => False) w [DS encGNote p0_0 c0_0 a0] []) ?_ ?_
  · refine T.seq fun Kk107 k107 => ?_
    refine T.region ?_
    refine R.as rfl rfl (R.nil (k107 _ _ ?_))
    refine T.block ?_
    refine T.loop (fun (s129 : Str × Int) a w => Agr 29 [(0, .slice p0_0 a0.length c0_0), (4, vS s129.1), (5, .int .i64 s129.2)] a ∧ H W0 (fun _ => False) w [DS encGNote p0_0 c0_0 a0] []) F (fun a ha => ⟨ha.sub ⟨rfl, rfl, rfl, trivial⟩, h⟩) ?_
    clear h F
    intro s129 F a w
    rintro ⟨ha, h⟩
    refine T.use ?_ ha
    obtain ⟨x131, F, c1, c2⟩ := Loop.run_step F
    have E130 := F
    refine T.seq fun Kk132 k132 => ?_
    refine T.seq fun Kk133 k133 => ?_
    refine T.region ?_
    refine R.mv rfl rfl (R.mv rfl rfl (R.lenSl rfl u39 rfl (R.ib rfl rfl rfl rfl (R.nil (k133 _ _ ?_)))))
    refine T.cond rfl (fun c134 => ?_) (fun c134 => ?_)
    · replace F := (ifT c134).symm.trans F
      refine T.skip (k132 _ _ ?_)
      refine T.seq fun Kk135 k135 => ?_
      refine T.block ?_
      refine T.seq fun Kk136 k136 => ?_
      refine T.region ?_
      obtain ⟨x137, e138, F⟩ := Option.bind_eq_some_iff.1 F
      obtain ⟨x139, e140, F⟩ := Option.bind_eq_some_iff.1 F
      refine R.mv rfl rfl (R.mv rfl rfl (R.ixS rfl ss39 rfl rfl (h.rS 0 rfl) e138 (R.ldN (cs := [.int .i64 x137.Kind, .int .i64 x137.A, .int .i64 x137.B]) rfl sh83 rfl rfl (RdS.cells (h.rS 0 rfl) e138 0 rfl) (R.callC (fl := []) (cl := []) rfl cf51 rfl rfl (echelonref23_line.ok e140 (hg.fr0 h.fr0)) (?_)))))
      rintro _ w ⟨rfl, g141⟩
      replace h := h.same g141
      refine R.mv rfl rfl (R.ext rfl rfl rfl (R.ext rfl rfl rfl (R.as rfl rfl (R.as rfl rfl (R.nil (k136 _ _ ?_))))))
      refine T.seq fun Kk142 k142 => ?_
      refine T.seq fun Kk143 k143 => ?_
      refine T.region ?_
      refine R.mv rfl rfl (R.not rfl rfl (R.nil (k143 _ _ ?_)))
      refine T.cond rfl (fun c144 => ?_) (fun c144 => ?_)
      · replace F := (ifT c144).symm.trans F
        refine T.seq fun Kk145 k145 => ?_
        refine T.region ?_
        refine R.as rfl rfl (R.as rfl rfl (R.nil (k145 _ _ ?_)))
        obtain rfl := Option.some.inj F
        replace F := congrArg some (c2 _ rfl)
        obtain rfl := Option.some.inj F
        replace F := elimR E104
        obtain rfl := Option.some.inj F
        refine T.ret (retG (vs := [vS ([]), .int .i64 230]) [.tmp 2, .tmp 3] rfl ⟨rfl, rfl, trivial⟩ ⟨rfl, h.fr0⟩)
      · replace F := (ifF c144).symm.trans F
        refine T.skip (k142 _ _ ?_)
        refine T.region ?_
        obtain ⟨x146, e147, F⟩ := Option.bind_eq_some_iff.1 F
        obtain ⟨x148, e149, F⟩ := Option.bind_eq_some_iff.1 F
        refine R.mv rfl rfl (R.mv rfl rfl (R.sadd rfl rfl rfl e147 (R.sadd rfl rfl rfl e149 (R.as rfl rfl (R.nil (k135 _ _ ?_))))))
        refine T.region ?_
        obtain rfl := Option.some.inj F
        refine R.mv rfl rfl (R.ib rfl rfl rfl rfl (R.as rfl rfl (R.nil (fun a ha => ⟨_, E130, ha.sub ⟨rfl, rfl, rfl, trivial⟩, h⟩))))
    · replace F := (ifF c134).symm.trans F
      obtain rfl := Option.some.inj F
      replace F := congrArg some (c2 _ rfl)
      obtain rfl := Option.some.inj F
      refine T.exit (fun a ha => ⟨_, rfl, ha.sub ⟨rfl, trivial⟩, h⟩)
  · clear F
    rintro a w ⟨y106, rfl, ha, h⟩
    refine T.use ?_ ha
    have F := elimL E104
    refine T.seq fun Kk150 k150 => ?_
    refine T.region ?_
    refine R.mv rfl rfl (R.as rfl rfl (R.as rfl rfl (R.nil (k150 _ _ ?_))))
    obtain rfl := Option.some.inj F
    refine T.ret (retG (vs := [vS y106, .int .i64 0]) [.tmp 2, .tmp 3] rfl ⟨rfl, rfl, trivial⟩ ⟨rfl, h.fr0⟩)
attribute [irreducible] echelonref23_Notes

/-! echelon/echelonlaw23.ViewNotes: function 5 -/
noncomputable def echelonlaw23_ViewNotes (a0 : List GNote) : Option (Bool) :=
  (echelonlaw23_awake).bind fun x104 => (view_Notes a0).bind fun x108 => (echelonref23_Notes a0).bind fun x112 => (if x104 then if x108.1 == x112.1 then some (x108.2 == x112.2) else some false else some false).bind fun (y116 : Bool) => some y116
theorem echelonlaw23_ViewNotes.ok {a0 : List GNote} {p0_0 : Option Addr} {c0_0 : Nat} {r : Bool} {W0 : World} (F : echelonlaw23_ViewNotes a0 = some r) (hD0_0 : RdS W0 encGNote p0_0 c0_0 a0) (hg : Gl W0) :
    Calls Tryd.prog 5 [(.slice p0_0 a0.length c0_0 : Value)].toArray W0 fun e w' => ∃ v, e = .returned v ∧ (v = .bool r ∧ Fr0 W0 w') := by
  unfold echelonlaw23_ViewNotes at F
  refine calls_body 30 Tryd.func5 rfl rfl rfl ?_
  have h : H W0 (fun _ => False) W0 [DS encGNote p0_0 c0_0 a0] [] := H.ofRs (List.forall_mem_cons.2 ⟨hD0_0.use, fun _ h => by cases h⟩)
  refine T.seq fun Kk102 k102 => ?_
  refine T.region ?_
  refine R.as rfl rfl (R.nil (k102 _ _ ?_))
  refine T.seq fun Kk103 k103 => ?_
  refine T.region ?_
  obtain ⟨x104, e105, F⟩ := Option.bind_eq_some_iff.1 F
  refine R.callC (fl := []) (cl := []) rfl cf16 rfl rfl (echelonlaw23_awake.ok e105 (hg.fr0 h.fr0)) (?_)
  rintro _ w ⟨rfl, g106⟩
  replace h := h.same g106
  refine R.as rfl rfl (R.nil (k103 _ _ ?_))
  refine T.seq fun Kk107 k107 => ?_
  refine T.region ?_
  obtain ⟨x108, e109, F⟩ := Option.bind_eq_some_iff.1 F
  refine R.mv rfl rfl (R.callC (fl := []) (cl := []) rfl cf20 rfl rfl (view_Notes.ok e109 (h.rS 0 rfl) (hg.fr0 h.fr0)) (?_))
  rintro _ w ⟨rfl, g110⟩
  replace h := h.same g110
  refine R.mv rfl rfl (R.ext rfl rfl rfl (R.ext rfl rfl rfl (R.as rfl rfl (R.as rfl rfl (R.nil (k107 _ _ ?_))))))
  refine T.seq fun Kk111 k111 => ?_
  refine T.region ?_
  obtain ⟨x112, e113, F⟩ := Option.bind_eq_some_iff.1 F
  refine R.mv rfl rfl (R.callC (fl := []) (cl := []) rfl cf21 rfl rfl (echelonref23_Notes.ok e113 (h.rS 0 rfl) (hg.fr0 h.fr0)) (?_))
  rintro _ w ⟨rfl, g114⟩
  replace h := h.same g114
  refine R.mv rfl rfl (R.ext rfl rfl rfl (R.ext rfl rfl rfl (R.as rfl rfl (R.as rfl rfl (R.nil (k111 _ _ ?_))))))
  obtain ⟨y116, F, E115⟩ := Option.bind_eq_some_iff.1 F
  refine T.cut (fun a w => Agr 30 [(2, .bool y116)] a ∧ H W0 (fun _ => False) w [DS encGNote p0_0 c0_0 a0] []) ?_ ?_
  · refine T.region ?_
    refine R.mv rfl rfl (R.mv rfl rfl (?_))
    refine bsplit x104 (fun c117 => ?_) (fun c117 => ?_)
    · replace F := (ifT c117).symm.trans F
      refine R.iff rfl rfl c117 (R.mv rfl rfl (R.iff rfl rfl c117 (R.mv rfl rfl (R.iff rfl rfl c117 (R.sb rfl rfl rfl rfl (R.pT rfl rfl c117 rfl (R.mv rfl rfl (?_))))))))
      refine bsplit (x108.1 == x112.1) (fun c118 => ?_) (fun c118 => ?_)
      · replace F := (ifT c118).symm.trans F
        obtain rfl := Option.some.inj F
        refine R.iff rfl rfl c118 (R.mv rfl rfl (R.iff rfl rfl c118 (R.mv rfl rfl (R.iff rfl rfl c118 (R.ib rfl rfl rfl rfl (R.pT rfl rfl c118 rfl (R.as rfl rfl (R.nil (fun a ha => ⟨ha.sub ⟨rfl, trivial⟩, h⟩)))))))))
      · replace F := (ifF c118).symm.trans F
        obtain rfl := Option.some.inj F
        refine R.not_ rfl rfl rfl c118 (R.not_ rfl rfl rfl c118 (R.not_ rfl rfl rfl c118 (R.pF rfl rfl c118 rfl (R.as rfl rfl (R.nil (fun a ha => ⟨ha.sub ⟨rfl, trivial⟩, h⟩))))))
    · replace F := (ifF c117).symm.trans F
      obtain rfl := Option.some.inj F
      refine R.not_ rfl rfl rfl c117 (R.not_ rfl rfl rfl c117 (R.not_ rfl rfl rfl c117 (R.pF rfl rfl c117 rfl (R.mv rfl rfl (R.not_ rfl rfl rfl rfl (R.not_ rfl rfl rfl rfl (R.not_ rfl rfl rfl rfl (R.pF rfl rfl rfl rfl (R.as rfl rfl (R.nil (fun a ha => ⟨ha.sub ⟨rfl, trivial⟩, h⟩)))))))))))
  · clear F
    rintro a w ⟨ha, h⟩
    refine T.use ?_ ha
    have F := E115
    obtain rfl := Option.some.inj F
    refine T.ret (retG (vs := [.bool y116]) [.tmp 2] rfl ⟨rfl, trivial⟩ ⟨rfl, h.fr0⟩)
attribute [irreducible] echelonlaw23_ViewNotes

end Go.Proofs.YtflmncjhonmmhaaDoor.Vn
