/- Walks of functions, written by my program g2.py out of Lean's print. -/
import Derived.Test.YtflmncjhonmmhaaDoorProg
import Derived.Test.YtflmncjhonmmhaaDoorVwG3
namespace Go.Proofs.YtflmncjhonmmhaaDoor.Vw
open Go
set_option linter.unusedVariables false
set_option linter.unusedSimpArgs false
set_option maxRecDepth 4000
set_option maxHeartbeats 4000000
/-! echelon/echelonref23.Correct: function 18 -/
noncomputable def echelonref23_Correct (a0 : GWorld) (a1 : GWorld) : Option (List GCorrection × Int) :=
  ((some ((a1.Movers.length : Int) != (a0.Movers.length : Int))).bind fun (x118 : Bool) => if x118 then some true else (some ((a0.Scores.length : Int) != (a0.Movers.length : Int))).bind fun (x121 : Bool) => if x121 then some true else (some ((a1.Scores.length : Int) != (a0.Movers.length : Int))).bind fun (x124 : Bool) => some x124).bind fun (y117 : Bool) => if y117 then some (([] : List GCorrection), 230) else (Loop.run (fun (s193 : Int × List GCorrection) => (some (decide (s193.1 < (a0.Movers.length : Int)))).bind fun (x198 : Bool) => if x198 then ((getI a0.Movers s193.1).bind fun (x210 : GMover) => (getI a1.Movers s193.1).bind fun (x212 : GMover) => (getI a1.Scores s193.1).bind fun (x227 : GScore) => (getI a0.Scores s193.1).bind fun (x229 : GScore) => (if !((x210.At.X == x212.At.X) && ((x210.At.Y == x212.At.Y) && true)) then some true else if x210.Health != x212.Health then some true else (getI a0.Scores s193.1).bind fun (x235 : GScore) => (getI a1.Scores s193.1).bind fun (x237 : GScore) => some (x235.Points != x237.Points)).bind fun (y232 : Bool) => if y232 then (must (decide ((s193.2.length + ([GCorrection.mk s193.1 x210.At x212.At (W (x212.Health - x210.Health)) (W (x227.Points - x229.Points))]).length) * 56 ≤ 140737488355328))).bind fun _ => some (s193.2 ++ ([GCorrection.mk s193.1 x210.At x212.At (W (x212.Health - x210.Health)) (W (x227.Points - x229.Points))])) else some s193.2).bind fun (y202 : List GCorrection) => some (.inl (W (s193.1 + 1), y202)) else some (.inr (s193.2))) (0, ([] : List GCorrection))).bind fun (y131 : List GCorrection) => some (y131, 0)
theorem echelonref23_Correct.ok {a0 : GWorld} {a1 : GWorld} {p0_0 : Option Addr} {c0_0 : Nat} {p0_1 : Option Addr} {c0_1 : Nat} {p0_2 : Option Addr} {c0_2 : Nat} {p0_3 : Option Addr} {c0_3 : Nat} {p1_0 : Option Addr} {c1_0 : Nat} {p1_1 : Option Addr} {c1_1 : Nat} {p1_2 : Option Addr} {c1_2 : Nat} {p1_3 : Option Addr} {c1_3 : Nat} {r : List GCorrection × Int} {W0 : World} (F : echelonref23_Correct a0 a1 = some r) (hD0_0 : RdS W0 encGMover p0_0 c0_0 a0.Movers) (hD0_1 : RdS W0 encGScore p0_1 c0_1 a0.Scores) (hD0_2 : RdS W0 encGShot p0_2 c0_2 a0.Shots) (hD0_3 : RdS W0 encGPickup p0_3 c0_3 a0.Pickups) (hD1_0 : RdS W0 encGMover p1_0 c1_0 a1.Movers) (hD1_1 : RdS W0 encGScore p1_1 c1_1 a1.Scores) (hD1_2 : RdS W0 encGShot p1_2 c1_2 a1.Shots) (hD1_3 : RdS W0 encGPickup p1_3 c1_3 a1.Pickups) (hg : Gl W0) :
    Calls Tryd.prog 18 [(.agg #[.int .i64 a0.Frame, .slice p0_0 a0.Movers.length c0_0, .slice p0_1 a0.Scores.length c0_1, .slice p0_2 a0.Shots.length c0_2, .slice p0_3 a0.Pickups.length c0_3, .int .i64 a0.NextNo] : Value), (.agg #[.int .i64 a1.Frame, .slice p1_0 a1.Movers.length c1_0, .slice p1_1 a1.Scores.length c1_1, .slice p1_2 a1.Shots.length c1_2, .slice p1_3 a1.Pickups.length c1_3, .int .i64 a1.NextNo] : Value)].toArray W0 fun e w' => ∃ v, e = .returned v ∧ ∃ q0 d0, (v = .tuple #[.slice q0 r.1.length d0, .int .i64 r.2] ∧ H W0 (fun _ => False) w' [] [ASl 37 encGCorrection q0 d0 r.1]) := by
  unfold echelonref23_Correct at F
  refine calls_body 107 Tryd.func18 rfl rfl rfl ?_
  have h : H W0 (fun _ => False) W0 [DS encGMover p0_0 c0_0 a0.Movers, DS encGScore p0_1 c0_1 a0.Scores, DS encGShot p0_2 c0_2 a0.Shots, DS encGPickup p0_3 c0_3 a0.Pickups, DS encGMover p1_0 c1_0 a1.Movers, DS encGScore p1_1 c1_1 a1.Scores, DS encGShot p1_2 c1_2 a1.Shots, DS encGPickup p1_3 c1_3 a1.Pickups] [] := H.ofRs (List.forall_mem_cons.2 ⟨hD0_0.use, List.forall_mem_cons.2 ⟨hD0_1.use, List.forall_mem_cons.2 ⟨hD0_2.use, List.forall_mem_cons.2 ⟨hD0_3.use, List.forall_mem_cons.2 ⟨hD1_0.use, List.forall_mem_cons.2 ⟨hD1_1.use, List.forall_mem_cons.2 ⟨hD1_2.use, List.forall_mem_cons.2 ⟨hD1_3.use, fun _ h => by cases h⟩⟩⟩⟩⟩⟩⟩⟩)
  refine T.seq fun Kk109 k109 => ?_
  refine T.region ?_
  refine R.box rfl h rfl (fun b110 w (h : H W0 (fun _ => False) w [DS encGMover p0_0 c0_0 a0.Movers, DS encGScore p0_1 c0_1 a0.Scores, DS encGShot p0_2 c0_2 a0.Shots, DS encGPickup p0_3 c0_3 a0.Pickups, DS encGMover p1_0 c1_0 a1.Movers, DS encGScore p1_1 c1_1 a1.Scores, DS encGShot p1_2 c1_2 a1.Shots, DS encGPickup p1_3 c1_3 a1.Pickups] [ABox b110 27 #[.int .i64 a0.Frame, .slice p0_0 a0.Movers.length c0_0, .slice p0_1 a0.Scores.length c0_1, .slice p0_2 a0.Shots.length c0_2, .slice p0_3 a0.Pickups.length c0_3, .int .i64 a0.NextNo]]) => R.box rfl h rfl (fun b112 w (h : H W0 (fun _ => False) w [DS encGMover p0_0 c0_0 a0.Movers, DS encGScore p0_1 c0_1 a0.Scores, DS encGShot p0_2 c0_2 a0.Shots, DS encGPickup p0_3 c0_3 a0.Pickups, DS encGMover p1_0 c1_0 a1.Movers, DS encGScore p1_1 c1_1 a1.Scores, DS encGShot p1_2 c1_2 a1.Shots, DS encGPickup p1_3 c1_3 a1.Pickups] [ABox b110 27 #[.int .i64 a0.Frame, .slice p0_0 a0.Movers.length c0_0, .slice p0_1 a0.Scores.length c0_1, .slice p0_2 a0.Shots.length c0_2, .slice p0_3 a0.Pickups.length c0_3, .int .i64 a0.NextNo], ABox b112 27 #[.int .i64 a1.Frame, .slice p1_0 a1.Movers.length c1_0, .slice p1_1 a1.Scores.length c1_1, .slice p1_2 a1.Shots.length c1_2, .slice p1_3 a1.Pickups.length c1_3, .int .i64 a1.NextNo]]) => R.as rfl rfl (R.as rfl rfl (R.nil (k109 _ _ ?_)))))
  refine T.seq fun Kk114 k114 => ?_
  refine T.region ?_
  refine R.fldB rfl fo27_1 rfl (R.ld rfl sh22 rfl (h.box 0 1 rfl rfl) (R.lenSl rfl u22 rfl (R.as rfl rfl (R.nil (k114 _ _ ?_)))))
  refine T.seq fun Kk115 k115 => ?_
  obtain ⟨y117, F, E116⟩ := Option.bind_eq_some_iff.1 F
  refine T.cut (fun a w => Agr 107 [(2, .pointer (some ⟨b110, 0, none⟩)), (3, .pointer (some ⟨b112, 0, none⟩)), (6, .int .i64 (a0.Movers.length : Int)), (33, .bool y117)] a ∧ H W0 (fun _ => False) w [DS encGMover p0_0 c0_0 a0.Movers, DS encGScore p0_1 c0_1 a0.Scores, DS encGShot p0_2 c0_2 a0.Shots, DS encGPickup p0_3 c0_3 a0.Pickups, DS encGMover p1_0 c1_0 a1.Movers, DS encGScore p1_1 c1_1 a1.Scores, DS encGShot p1_2 c1_2 a1.Shots, DS encGPickup p1_3 c1_3 a1.Pickups] [ABox b110 27 #[.int .i64 a0.Frame, .slice p0_0 a0.Movers.length c0_0, .slice p0_1 a0.Scores.length c0_1, .slice p0_2 a0.Shots.length c0_2, .slice p0_3 a0.Pickups.length c0_3, .int .i64 a0.NextNo], ABox b112 27 #[.int .i64 a1.Frame, .slice p1_0 a1.Movers.length c1_0, .slice p1_1 a1.Scores.length c1_1, .slice p1_2 a1.Shots.length c1_2, .slice p1_3 a1.Pickups.length c1_3, .int .i64 a1.NextNo]]) ?_ ?_
  · refine T.region ?_
    obtain ⟨x118, e119, F⟩ := Option.bind_eq_some_iff.1 F
    refine R.fldB rfl fo27_1 rfl (R.ld rfl sh22 rfl (h.box 1 1 rfl rfl) (R.lenSl rfl u22 rfl (R.mv rfl rfl (R.ib rfl rfl rfl rfl (R.re (congrArg Value.bool (Option.some.inj e119)) (R.mv rfl rfl (?_)))))))
    refine bsplit x118 (fun c120 => ?_) (fun c120 => ?_)
    · replace F := (ifT c120).symm.trans F
      obtain rfl := Option.some.inj F
      refine R.not_ rfl rfl rfl c120 (R.not_ rfl rfl rfl c120 (R.not_ rfl rfl rfl c120 (R.not_ rfl rfl rfl c120 (R.not_ rfl rfl rfl c120 (R.pT rfl rfl c120 rfl (R.mv rfl rfl (R.not_ rfl rfl rfl rfl (R.not_ rfl rfl rfl rfl (R.not_ rfl rfl rfl rfl (R.not_ rfl rfl rfl rfl (R.not_ rfl rfl rfl rfl (R.pT rfl rfl rfl rfl (R.nil (fun a ha => ⟨ha.sub ⟨rfl, rfl, rfl, rfl, trivial⟩, h⟩))))))))))))))
    · replace F := (ifF c120).symm.trans F
      obtain ⟨x121, e122, F⟩ := Option.bind_eq_some_iff.1 F
      refine R.iff rfl rfl c120 (R.fldB rfl fo27_2 rfl (R.iff rfl rfl c120 (R.ld rfl sh23 rfl (h.box 0 2 rfl rfl) (R.iff rfl rfl c120 (R.lenSl rfl u23 rfl (R.iff rfl rfl c120 (R.mv rfl rfl (R.iff rfl rfl c120 (R.ib rfl rfl rfl rfl (R.re (congrArg Value.bool (Option.some.inj e122)) (R.pF rfl rfl c120 rfl (R.mv rfl rfl (?_)))))))))))))
      refine bsplit x121 (fun c123 => ?_) (fun c123 => ?_)
      · replace F := (ifT c123).symm.trans F
        obtain rfl := Option.some.inj F
        refine R.not_ rfl rfl rfl c123 (R.not_ rfl rfl rfl c123 (R.not_ rfl rfl rfl c123 (R.not_ rfl rfl rfl c123 (R.not_ rfl rfl rfl c123 (R.pT rfl rfl c123 rfl (R.nil (fun a ha => ⟨ha.sub ⟨rfl, rfl, rfl, rfl, trivial⟩, h⟩)))))))
      · replace F := (ifF c123).symm.trans F
        obtain ⟨x124, e125, F⟩ := Option.bind_eq_some_iff.1 F
        obtain rfl := Option.some.inj F
        refine R.iff rfl rfl c123 (R.fldB rfl fo27_2 rfl (R.iff rfl rfl c123 (R.ld rfl sh23 rfl (h.box 1 2 rfl rfl) (R.iff rfl rfl c123 (R.lenSl rfl u23 rfl (R.iff rfl rfl c123 (R.mv rfl rfl (R.iff rfl rfl c123 (R.ib rfl rfl rfl rfl (R.re (congrArg Value.bool (Option.some.inj e125)) (R.pF rfl rfl c123 rfl (R.nil (fun a ha => ⟨ha.sub ⟨rfl, rfl, rfl, rfl, trivial⟩, h⟩)))))))))))))
  · clear F
    rintro a w ⟨ha, h⟩
    refine T.use ?_ ha
    have F := E116
    refine T.cond rfl (fun c126 => ?_) (fun c126 => ?_)
    · replace F := (ifT c126).symm.trans F
      refine T.seq fun Kk127 k127 => ?_
      refine T.region ?_
      refine R.as rfl rfl (R.as rfl rfl (R.nil (k127 _ _ ?_)))
      obtain rfl := Option.some.inj F
      replace h := h.nilSl 37 encGCorrection
      refine T.ret (retG (vs := [.slice none ([] : List GCorrection).length 0, .int .i64 230]) [.tmp 4, .tmp 5] rfl ⟨rfl, rfl, trivial⟩ ⟨_, _, rfl, ((h.sel [2] rfl (by decide))).out⟩)
    · replace F := (ifF c126).symm.trans F
      refine T.skip (k115 _ _ ?_)
      refine T.seq fun Kk129 k129 => ?_
      refine T.region ?_
      refine R.as rfl rfl (R.nil (k129 _ _ ?_))
      obtain ⟨y131, F, E130⟩ := Option.bind_eq_some_iff.1 F
      refine T.cut (fun a w => ∃ p254 c255, Agr 107 [(7, .slice p254 y131.length c255)] a ∧ H W0 (fun _ => False) w [DS encGMover p0_0 c0_0 a0.Movers, DS encGScore p0_1 c0_1 a0.Scores, DS encGShot p0_2 c0_2 a0.Shots, DS encGPickup p0_3 c0_3 a0.Pickups, DS encGMover p1_0 c1_0 a1.Movers, DS encGScore p1_1 c1_1 a1.Scores, DS encGShot p1_2 c1_2 a1.Shots, DS encGPickup p1_3 c1_3 a1.Pickups] [ASl 37 encGCorrection p254 c255 y131]) ?_ ?_
      · refine T.seq fun Kk132 k132 => ?_
        refine T.region ?_
        refine R.as rfl rfl (R.nil (k132 _ _ ?_))
        refine T.block ?_
        replace h := h.nilSl 37 encGCorrection
        refine T.loop (fun (s193 : Int × List GCorrection) a w => ∃ p191 c192, Agr 107 [(2, .pointer (some ⟨b110, 0, none⟩)), (3, .pointer (some ⟨b112, 0, none⟩)), (6, .int .i64 (a0.Movers.length : Int)), (7, .slice p191 s193.2.length c192), (8, .int .i64 s193.1)] a ∧ H W0 (fun _ => False) w [DS encGMover p0_0 c0_0 a0.Movers, DS encGScore p0_1 c0_1 a0.Scores, DS encGShot p0_2 c0_2 a0.Shots, DS encGPickup p0_3 c0_3 a0.Pickups, DS encGMover p1_0 c1_0 a1.Movers, DS encGScore p1_1 c1_1 a1.Scores, DS encGShot p1_2 c1_2 a1.Shots, DS encGPickup p1_3 c1_3 a1.Pickups] [ABox b110 27 #[.int .i64 a0.Frame, .slice p0_0 a0.Movers.length c0_0, .slice p0_1 a0.Scores.length c0_1, .slice p0_2 a0.Shots.length c0_2, .slice p0_3 a0.Pickups.length c0_3, .int .i64 a0.NextNo], ABox b112 27 #[.int .i64 a1.Frame, .slice p1_0 a1.Movers.length c1_0, .slice p1_1 a1.Scores.length c1_1, .slice p1_2 a1.Shots.length c1_2, .slice p1_3 a1.Pickups.length c1_3, .int .i64 a1.NextNo], ASl 37 encGCorrection p191 c192 s193.2]) F (fun a ha => ⟨_, _, ha.sub ⟨rfl, rfl, rfl, rfl, rfl, trivial⟩, h⟩) ?_
        clear h F
        intro s193 F a w
        rintro ⟨p191, c192, ha, h⟩
        refine T.use ?_ ha
        obtain ⟨x195, F, c1, c2⟩ := Loop.run_step F
        have E194 := F
        refine T.seq fun Kk196 k196 => ?_
        refine T.seq fun Kk197 k197 => ?_
        refine T.region ?_
        obtain ⟨x198, e199, F⟩ := Option.bind_eq_some_iff.1 F
        refine R.mv rfl rfl (R.mv rfl rfl (R.ib rfl rfl rfl rfl (R.re (congrArg Value.bool (Option.some.inj e199)) (R.nil (k197 _ _ ?_)))))
        refine T.cond rfl (fun c200 => ?_) (fun c200 => ?_)
        · replace F := (ifT c200).symm.trans F
          refine T.skip (k196 _ _ ?_)
          obtain ⟨y202, F, E201⟩ := Option.bind_eq_some_iff.1 F
          refine T.cut (fun a w => ∃ p246 c247, Agr 107 [(2, .pointer (some ⟨b110, 0, none⟩)), (3, .pointer (some ⟨b112, 0, none⟩)), (6, .int .i64 (a0.Movers.length : Int)), (7, .slice p246 y202.length c247), (8, .int .i64 s193.1)] a ∧ H W0 (fun _ => False) w [DS encGMover p0_0 c0_0 a0.Movers, DS encGScore p0_1 c0_1 a0.Scores, DS encGShot p0_2 c0_2 a0.Shots, DS encGPickup p0_3 c0_3 a0.Pickups, DS encGMover p1_0 c1_0 a1.Movers, DS encGScore p1_1 c1_1 a1.Scores, DS encGShot p1_2 c1_2 a1.Shots, DS encGPickup p1_3 c1_3 a1.Pickups] [ABox b110 27 #[.int .i64 a0.Frame, .slice p0_0 a0.Movers.length c0_0, .slice p0_1 a0.Scores.length c0_1, .slice p0_2 a0.Shots.length c0_2, .slice p0_3 a0.Pickups.length c0_3, .int .i64 a0.NextNo], ABox b112 27 #[.int .i64 a1.Frame, .slice p1_0 a1.Movers.length c1_0, .slice p1_1 a1.Scores.length c1_1, .slice p1_2 a1.Shots.length c1_2, .slice p1_3 a1.Pickups.length c1_3, .int .i64 a1.NextNo], ASl 37 encGCorrection p246 c247 y202]) ?_ ?_
          · refine T.block ?_
            refine T.seq fun Kk203 k203 => ?_
            obtain ⟨x210, e211, F⟩ := Option.bind_eq_some_iff.1 F
            obtain ⟨x212, e213, F⟩ := Option.bind_eq_some_iff.1 F
            refine T.regionI (fun dn a w => ∃ b214 b216, Agr 107 [(2, .pointer (some ⟨b110, 0, none⟩)), (3, .pointer (some ⟨b112, 0, none⟩)), (6, .int .i64 (a0.Movers.length : Int)), (7, .slice p191 s193.2.length c192), (8, .int .i64 s193.1), (34, .int .i64 s193.1), (35, .int .i64 (a0.Movers.length : Int)), (36, .bool x198)] a ∧ Kn dn [(0, 39, .pointer (some ⟨b110, 1, none⟩)), (1, 40, .slice p0_0 a0.Movers.length c0_0), (2, 41, .int .i64 s193.1), (3, 42, .pointer (some ((adr p0_0).add (s193.1.toNat * 13)))), (4, 43, vGMover x210), (5, 44, .pointer (some ⟨b112, 1, none⟩)), (6, 45, .slice p1_0 a1.Movers.length c1_0), (7, 46, .int .i64 s193.1), (8, 47, .pointer (some ((adr p1_0).add (s193.1.toNat * 13)))), (9, 48, vGMover x212), (10, 9, .pointer (some ⟨b214, 0, none⟩)), (11, 10, .pointer (some ⟨b216, 0, none⟩))] a ∧ H W0 (fun _ => False) w [DS encGMover p0_0 c0_0 a0.Movers, DS encGScore p0_1 c0_1 a0.Scores, DS encGShot p0_2 c0_2 a0.Shots, DS encGPickup p0_3 c0_3 a0.Pickups, DS encGMover p1_0 c1_0 a1.Movers, DS encGScore p1_1 c1_1 a1.Scores, DS encGShot p1_2 c1_2 a1.Shots, DS encGPickup p1_3 c1_3 a1.Pickups] [ABox b110 27 #[.int .i64 a0.Frame, .slice p0_0 a0.Movers.length c0_0, .slice p0_1 a0.Scores.length c0_1, .slice p0_2 a0.Shots.length c0_2, .slice p0_3 a0.Pickups.length c0_3, .int .i64 a0.NextNo], ABox b112 27 #[.int .i64 a1.Frame, .slice p1_0 a1.Movers.length c1_0, .slice p1_1 a1.Scores.length c1_1, .slice p1_2 a1.Shots.length c1_2, .slice p1_3 a1.Pickups.length c1_3, .int .i64 a1.NextNo], ASl 37 encGCorrection p191 c192 s193.2, (bif (dn 12) then ABox b214 85 (encGMover.enc x210).toArray else (bif (dn 10) then ABox b214 85 #[.int .i64 0, .int .i64 0, .int .i64 0, .int .i64 0, .int .i64 0, .int .i64 0, .int .i64 0, .int .i64 0, .int .i64 0, .bool false, .int .i64 0, .int .i64 0, .int .i64 0] else AEmp)), (bif (dn 13) then ABox b216 85 (encGMover.enc x212).toArray else (bif (dn 11) then ABox b216 85 #[.int .i64 0, .int .i64 0, .int .i64 0, .int .i64 0, .int .i64 0, .int .i64 0, .int .i64 0, .int .i64 0, .int .i64 0, .bool false, .int .i64 0, .int .i64 0, .int .i64 0] else AEmp))]) mix (by kernel_rfl) ?_ ⟨?_, ?_, ?_, ?_, ?_, ?_, ?_, ?_, ?_, ?_, ?_, ?_, ?_, ?_, trivial⟩ ?_
            · intro a ha
              exact ⟨0, 0, ha.sub ⟨rfl, rfl, rfl, rfl, rfl, rfl, rfl, rfl, trivial⟩, Kn.start _, (h.same (Fr.drewN w 1)).emp.emp⟩
            · intro dn hn hcl haf a w
              rintro ⟨b214, b216, hA, hK, h⟩
              refine R.step (d := 39) (Φ := fun v w => v = .pointer (some ⟨b110, 1, none⟩) ∧ H W0 (fun _ => False) w [DS encGMover p0_0 c0_0 a0.Movers, DS encGScore p0_1 c0_1 a0.Scores, DS encGShot p0_2 c0_2 a0.Shots, DS encGPickup p0_3 c0_3 a0.Pickups, DS encGMover p1_0 c1_0 a1.Movers, DS encGScore p1_1 c1_1 a1.Scores, DS encGShot p1_2 c1_2 a1.Shots, DS encGPickup p1_3 c1_3 a1.Pickups] [ABox b110 27 #[.int .i64 a0.Frame, .slice p0_0 a0.Movers.length c0_0, .slice p0_1 a0.Scores.length c0_1, .slice p0_2 a0.Shots.length c0_2, .slice p0_3 a0.Pickups.length c0_3, .int .i64 a0.NextNo], ABox b112 27 #[.int .i64 a1.Frame, .slice p1_0 a1.Movers.length c1_0, .slice p1_1 a1.Scores.length c1_1, .slice p1_2 a1.Shots.length c1_2, .slice p1_3 a1.Pickups.length c1_3, .int .i64 a1.NextNo], ASl 37 encGCorrection p191 c192 s193.2, (bif (dn 12) then ABox b214 85 (encGMover.enc x210).toArray else (bif (dn 10) then ABox b214 85 #[.int .i64 0, .int .i64 0, .int .i64 0, .int .i64 0, .int .i64 0, .int .i64 0, .int .i64 0, .int .i64 0, .int .i64 0, .bool false, .int .i64 0, .int .i64 0, .int .i64 0] else AEmp)), (bif (dn 13) then ABox b216 85 (encGMover.enc x212).toArray else (bif (dn 11) then ABox b216 85 #[.int .i64 0, .int .i64 0, .int .i64 0, .int .i64 0, .int .i64 0, .int .i64 0, .int .i64 0, .int .i64 0, .int .i64 0, .bool false, .int .i64 0, .int .i64 0, .int .i64 0] else AEmp))]) ?_ hA rfl rfl ?_
              · exact R.fldB rfl fo27_1 rfl (R.nil (fun a ha => ⟨_, ha.slots _ _ rfl, ⟨rfl, h⟩, ha.defers, ha.size⟩))
              · rintro a2 v w ht hdf ⟨rfl, h⟩
                exact ⟨b214, b216, hA.putS rfl ht hdf, Kn.put hK hA 0 rfl rfl rfl ht, h⟩
            · intro dn hn hcl haf a w
              rintro ⟨b214, b216, hA, hK, h⟩
              have d0 : dn 0 = true := (afterB_at haf 0 rfl rfl)
              refine R.step (d := 40) (Φ := fun v w => v = .slice p0_0 a0.Movers.length c0_0 ∧ H W0 (fun _ => False) w [DS encGMover p0_0 c0_0 a0.Movers, DS encGScore p0_1 c0_1 a0.Scores, DS encGShot p0_2 c0_2 a0.Shots, DS encGPickup p0_3 c0_3 a0.Pickups, DS encGMover p1_0 c1_0 a1.Movers, DS encGScore p1_1 c1_1 a1.Scores, DS encGShot p1_2 c1_2 a1.Shots, DS encGPickup p1_3 c1_3 a1.Pickups] [ABox b110 27 #[.int .i64 a0.Frame, .slice p0_0 a0.Movers.length c0_0, .slice p0_1 a0.Scores.length c0_1, .slice p0_2 a0.Shots.length c0_2, .slice p0_3 a0.Pickups.length c0_3, .int .i64 a0.NextNo], ABox b112 27 #[.int .i64 a1.Frame, .slice p1_0 a1.Movers.length c1_0, .slice p1_1 a1.Scores.length c1_1, .slice p1_2 a1.Shots.length c1_2, .slice p1_3 a1.Pickups.length c1_3, .int .i64 a1.NextNo], ASl 37 encGCorrection p191 c192 s193.2, (bif (dn 12) then ABox b214 85 (encGMover.enc x210).toArray else (bif (dn 10) then ABox b214 85 #[.int .i64 0, .int .i64 0, .int .i64 0, .int .i64 0, .int .i64 0, .int .i64 0, .int .i64 0, .int .i64 0, .int .i64 0, .bool false, .int .i64 0, .int .i64 0, .int .i64 0] else AEmp)), (bif (dn 13) then ABox b216 85 (encGMover.enc x212).toArray else (bif (dn 11) then ABox b216 85 #[.int .i64 0, .int .i64 0, .int .i64 0, .int .i64 0, .int .i64 0, .int .i64 0, .int .i64 0, .int .i64 0, .int .i64 0, .bool false, .int .i64 0, .int .i64 0, .int .i64 0] else AEmp))]) ?_ (hA.add (hK.get 0 rfl d0)) rfl rfl ?_
              · exact R.ld rfl sh22 rfl (h.box 0 1 rfl rfl) (R.nil (fun a ha => ⟨_, ha.slots _ _ rfl, ⟨rfl, h⟩, ha.defers, ha.size⟩))
              · rintro a2 v w ht hdf ⟨rfl, h⟩
                exact ⟨b214, b216, hA.putS rfl ht hdf, Kn.put hK hA 1 rfl rfl rfl ht, h⟩
            · intro dn hn hcl haf a w
              rintro ⟨b214, b216, hA, hK, h⟩
              refine R.step (d := 41) (Φ := fun v w => v = .int .i64 s193.1 ∧ H W0 (fun _ => False) w [DS encGMover p0_0 c0_0 a0.Movers, DS encGScore p0_1 c0_1 a0.Scores, DS encGShot p0_2 c0_2 a0.Shots, DS encGPickup p0_3 c0_3 a0.Pickups, DS encGMover p1_0 c1_0 a1.Movers, DS encGScore p1_1 c1_1 a1.Scores, DS encGShot p1_2 c1_2 a1.Shots, DS encGPickup p1_3 c1_3 a1.Pickups] [ABox b110 27 #[.int .i64 a0.Frame, .slice p0_0 a0.Movers.length c0_0, .slice p0_1 a0.Scores.length c0_1, .slice p0_2 a0.Shots.length c0_2, .slice p0_3 a0.Pickups.length c0_3, .int .i64 a0.NextNo], ABox b112 27 #[.int .i64 a1.Frame, .slice p1_0 a1.Movers.length c1_0, .slice p1_1 a1.Scores.length c1_1, .slice p1_2 a1.Shots.length c1_2, .slice p1_3 a1.Pickups.length c1_3, .int .i64 a1.NextNo], ASl 37 encGCorrection p191 c192 s193.2, (bif (dn 12) then ABox b214 85 (encGMover.enc x210).toArray else (bif (dn 10) then ABox b214 85 #[.int .i64 0, .int .i64 0, .int .i64 0, .int .i64 0, .int .i64 0, .int .i64 0, .int .i64 0, .int .i64 0, .int .i64 0, .bool false, .int .i64 0, .int .i64 0, .int .i64 0] else AEmp)), (bif (dn 13) then ABox b216 85 (encGMover.enc x212).toArray else (bif (dn 11) then ABox b216 85 #[.int .i64 0, .int .i64 0, .int .i64 0, .int .i64 0, .int .i64 0, .int .i64 0, .int .i64 0, .int .i64 0, .int .i64 0, .bool false, .int .i64 0, .int .i64 0, .int .i64 0] else AEmp))]) ?_ hA rfl rfl ?_
              · exact R.mv rfl rfl (R.nil (fun a ha => ⟨_, ha.slots _ _ rfl, ⟨rfl, h⟩, ha.defers, ha.size⟩))
              · rintro a2 v w ht hdf ⟨rfl, h⟩
                exact ⟨b214, b216, hA.putS rfl ht hdf, Kn.put hK hA 2 rfl rfl rfl ht, h⟩
            · intro dn hn hcl haf a w
              rintro ⟨b214, b216, hA, hK, h⟩
              have d1 : dn 1 = true := (afterB_at haf 0 rfl rfl)
              have d2 : dn 2 = true := (afterB_at haf 1 rfl rfl)
              refine R.step (d := 42) (Φ := fun v w => v = .pointer (some ((adr p0_0).add (s193.1.toNat * 13))) ∧ H W0 (fun _ => False) w [DS encGMover p0_0 c0_0 a0.Movers, DS encGScore p0_1 c0_1 a0.Scores, DS encGShot p0_2 c0_2 a0.Shots, DS encGPickup p0_3 c0_3 a0.Pickups, DS encGMover p1_0 c1_0 a1.Movers, DS encGScore p1_1 c1_1 a1.Scores, DS encGShot p1_2 c1_2 a1.Shots, DS encGPickup p1_3 c1_3 a1.Pickups] [ABox b110 27 #[.int .i64 a0.Frame, .slice p0_0 a0.Movers.length c0_0, .slice p0_1 a0.Scores.length c0_1, .slice p0_2 a0.Shots.length c0_2, .slice p0_3 a0.Pickups.length c0_3, .int .i64 a0.NextNo], ABox b112 27 #[.int .i64 a1.Frame, .slice p1_0 a1.Movers.length c1_0, .slice p1_1 a1.Scores.length c1_1, .slice p1_2 a1.Shots.length c1_2, .slice p1_3 a1.Pickups.length c1_3, .int .i64 a1.NextNo], ASl 37 encGCorrection p191 c192 s193.2, (bif (dn 12) then ABox b214 85 (encGMover.enc x210).toArray else (bif (dn 10) then ABox b214 85 #[.int .i64 0, .int .i64 0, .int .i64 0, .int .i64 0, .int .i64 0, .int .i64 0, .int .i64 0, .int .i64 0, .int .i64 0, .bool false, .int .i64 0, .int .i64 0, .int .i64 0] else AEmp)), (bif (dn 13) then ABox b216 85 (encGMover.enc x212).toArray else (bif (dn 11) then ABox b216 85 #[.int .i64 0, .int .i64 0, .int .i64 0, .int .i64 0, .int .i64 0, .int .i64 0, .int .i64 0, .int .i64 0, .int .i64 0, .bool false, .int .i64 0, .int .i64 0, .int .i64 0] else AEmp))]) ?_ ((hA.add (hK.get 1 rfl d1)).add (hK.get 2 rfl d2)) rfl rfl ?_
              · exact R.ixS rfl ss22 rfl rfl (h.rS 0 rfl) e211 (R.nil (fun a ha => ⟨_, ha.slots _ _ rfl, ⟨rfl, h⟩, ha.defers, ha.size⟩))
              · rintro a2 v w ht hdf ⟨rfl, h⟩
                exact ⟨b214, b216, hA.putS rfl ht hdf, Kn.put hK hA 3 rfl rfl rfl ht, h⟩
            · intro dn hn hcl haf a w
              rintro ⟨b214, b216, hA, hK, h⟩
              have d3 : dn 3 = true := (afterB_at haf 0 rfl rfl)
              refine R.step (d := 43) (Φ := fun v w => v = vGMover x210 ∧ H W0 (fun _ => False) w [DS encGMover p0_0 c0_0 a0.Movers, DS encGScore p0_1 c0_1 a0.Scores, DS encGShot p0_2 c0_2 a0.Shots, DS encGPickup p0_3 c0_3 a0.Pickups, DS encGMover p1_0 c1_0 a1.Movers, DS encGScore p1_1 c1_1 a1.Scores, DS encGShot p1_2 c1_2 a1.Shots, DS encGPickup p1_3 c1_3 a1.Pickups] [ABox b110 27 #[.int .i64 a0.Frame, .slice p0_0 a0.Movers.length c0_0, .slice p0_1 a0.Scores.length c0_1, .slice p0_2 a0.Shots.length c0_2, .slice p0_3 a0.Pickups.length c0_3, .int .i64 a0.NextNo], ABox b112 27 #[.int .i64 a1.Frame, .slice p1_0 a1.Movers.length c1_0, .slice p1_1 a1.Scores.length c1_1, .slice p1_2 a1.Shots.length c1_2, .slice p1_3 a1.Pickups.length c1_3, .int .i64 a1.NextNo], ASl 37 encGCorrection p191 c192 s193.2, (bif (dn 12) then ABox b214 85 (encGMover.enc x210).toArray else (bif (dn 10) then ABox b214 85 #[.int .i64 0, .int .i64 0, .int .i64 0, .int .i64 0, .int .i64 0, .int .i64 0, .int .i64 0, .int .i64 0, .int .i64 0, .bool false, .int .i64 0, .int .i64 0, .int .i64 0] else AEmp)), (bif (dn 13) then ABox b216 85 (encGMover.enc x212).toArray else (bif (dn 11) then ABox b216 85 #[.int .i64 0, .int .i64 0, .int .i64 0, .int .i64 0, .int .i64 0, .int .i64 0, .int .i64 0, .int .i64 0, .int .i64 0, .bool false, .int .i64 0, .int .i64 0, .int .i64 0] else AEmp))]) ?_ (hA.add (hK.get 3 rfl d3)) rfl rfl ?_
              · exact R.ldN (cs := [.int .i64 x210.At.X, .int .i64 x210.At.Y, .int .i64 x210.Speed.X, .int .i64 x210.Speed.Y, .int .i64 x210.Push.X, .int .i64 x210.Push.Y, .int .i64 x210.Facing, .int .i64 x210.Health, .int .i64 x210.Energy, .bool x210.Shield, .int .i64 x210.Cool, .int .i64 x210.Out, .int .i64 x210.Said]) rfl sh85 rfl rfl (RdS.cells (h.rS 0 rfl) e211 0 rfl) (R.nil (fun a ha => ⟨_, ha.slots _ _ rfl, ⟨rfl, h⟩, ha.defers, ha.size⟩))
              · rintro a2 v w ht hdf ⟨rfl, h⟩
                exact ⟨b214, b216, hA.putS rfl ht hdf, Kn.put hK hA 4 rfl rfl rfl ht, h⟩
            · intro dn hn hcl haf a w
              rintro ⟨b214, b216, hA, hK, h⟩
              refine R.step (d := 44) (Φ := fun v w => v = .pointer (some ⟨b112, 1, none⟩) ∧ H W0 (fun _ => False) w [DS encGMover p0_0 c0_0 a0.Movers, DS encGScore p0_1 c0_1 a0.Scores, DS encGShot p0_2 c0_2 a0.Shots, DS encGPickup p0_3 c0_3 a0.Pickups, DS encGMover p1_0 c1_0 a1.Movers, DS encGScore p1_1 c1_1 a1.Scores, DS encGShot p1_2 c1_2 a1.Shots, DS encGPickup p1_3 c1_3 a1.Pickups] [ABox b110 27 #[.int .i64 a0.Frame, .slice p0_0 a0.Movers.length c0_0, .slice p0_1 a0.Scores.length c0_1, .slice p0_2 a0.Shots.length c0_2, .slice p0_3 a0.Pickups.length c0_3, .int .i64 a0.NextNo], ABox b112 27 #[.int .i64 a1.Frame, .slice p1_0 a1.Movers.length c1_0, .slice p1_1 a1.Scores.length c1_1, .slice p1_2 a1.Shots.length c1_2, .slice p1_3 a1.Pickups.length c1_3, .int .i64 a1.NextNo], ASl 37 encGCorrection p191 c192 s193.2, (bif (dn 12) then ABox b214 85 (encGMover.enc x210).toArray else (bif (dn 10) then ABox b214 85 #[.int .i64 0, .int .i64 0, .int .i64 0, .int .i64 0, .int .i64 0, .int .i64 0, .int .i64 0, .int .i64 0, .int .i64 0, .bool false, .int .i64 0, .int .i64 0, .int .i64 0] else AEmp)), (bif (dn 13) then ABox b216 85 (encGMover.enc x212).toArray else (bif (dn 11) then ABox b216 85 #[.int .i64 0, .int .i64 0, .int .i64 0, .int .i64 0, .int .i64 0, .int .i64 0, .int .i64 0, .int .i64 0, .int .i64 0, .bool false, .int .i64 0, .int .i64 0, .int .i64 0] else AEmp))]) ?_ hA rfl rfl ?_
              · exact R.fldB rfl fo27_1 rfl (R.nil (fun a ha => ⟨_, ha.slots _ _ rfl, ⟨rfl, h⟩, ha.defers, ha.size⟩))
              · rintro a2 v w ht hdf ⟨rfl, h⟩
                exact ⟨b214, b216, hA.putS rfl ht hdf, Kn.put hK hA 5 rfl rfl rfl ht, h⟩
            · intro dn hn hcl haf a w
              rintro ⟨b214, b216, hA, hK, h⟩
              have d5 : dn 5 = true := (afterB_at haf 0 rfl rfl)
              refine R.step (d := 45) (Φ := fun v w => v = .slice p1_0 a1.Movers.length c1_0 ∧ H W0 (fun _ => False) w [DS encGMover p0_0 c0_0 a0.Movers, DS encGScore p0_1 c0_1 a0.Scores, DS encGShot p0_2 c0_2 a0.Shots, DS encGPickup p0_3 c0_3 a0.Pickups, DS encGMover p1_0 c1_0 a1.Movers, DS encGScore p1_1 c1_1 a1.Scores, DS encGShot p1_2 c1_2 a1.Shots, DS encGPickup p1_3 c1_3 a1.Pickups] [ABox b110 27 #[.int .i64 a0.Frame, .slice p0_0 a0.Movers.length c0_0, .slice p0_1 a0.Scores.length c0_1, .slice p0_2 a0.Shots.length c0_2, .slice p0_3 a0.Pickups.length c0_3, .int .i64 a0.NextNo], ABox b112 27 #[.int .i64 a1.Frame, .slice p1_0 a1.Movers.length c1_0, .slice p1_1 a1.Scores.length c1_1, .slice p1_2 a1.Shots.length c1_2, .slice p1_3 a1.Pickups.length c1_3, .int .i64 a1.NextNo], ASl 37 encGCorrection p191 c192 s193.2, (bif (dn 12) then ABox b214 85 (encGMover.enc x210).toArray else (bif (dn 10) then ABox b214 85 #[.int .i64 0, .int .i64 0, .int .i64 0, .int .i64 0, .int .i64 0, .int .i64 0, .int .i64 0, .int .i64 0, .int .i64 0, .bool false, .int .i64 0, .int .i64 0, .int .i64 0] else AEmp)), (bif (dn 13) then ABox b216 85 (encGMover.enc x212).toArray else (bif (dn 11) then ABox b216 85 #[.int .i64 0, .int .i64 0, .int .i64 0, .int .i64 0, .int .i64 0, .int .i64 0, .int .i64 0, .int .i64 0, .int .i64 0, .bool false, .int .i64 0, .int .i64 0, .int .i64 0] else AEmp))]) ?_ (hA.add (hK.get 5 rfl d5)) rfl rfl ?_
              · exact R.ld rfl sh22 rfl (h.box 1 1 rfl rfl) (R.nil (fun a ha => ⟨_, ha.slots _ _ rfl, ⟨rfl, h⟩, ha.defers, ha.size⟩))
              · rintro a2 v w ht hdf ⟨rfl, h⟩
                exact ⟨b214, b216, hA.putS rfl ht hdf, Kn.put hK hA 6 rfl rfl rfl ht, h⟩
            · intro dn hn hcl haf a w
              rintro ⟨b214, b216, hA, hK, h⟩
              refine R.step (d := 46) (Φ := fun v w => v = .int .i64 s193.1 ∧ H W0 (fun _ => False) w [DS encGMover p0_0 c0_0 a0.Movers, DS encGScore p0_1 c0_1 a0.Scores, DS encGShot p0_2 c0_2 a0.Shots, DS encGPickup p0_3 c0_3 a0.Pickups, DS encGMover p1_0 c1_0 a1.Movers, DS encGScore p1_1 c1_1 a1.Scores, DS encGShot p1_2 c1_2 a1.Shots, DS encGPickup p1_3 c1_3 a1.Pickups] [ABox b110 27 #[.int .i64 a0.Frame, .slice p0_0 a0.Movers.length c0_0, .slice p0_1 a0.Scores.length c0_1, .slice p0_2 a0.Shots.length c0_2, .slice p0_3 a0.Pickups.length c0_3, .int .i64 a0.NextNo], ABox b112 27 #[.int .i64 a1.Frame, .slice p1_0 a1.Movers.length c1_0, .slice p1_1 a1.Scores.length c1_1, .slice p1_2 a1.Shots.length c1_2, .slice p1_3 a1.Pickups.length c1_3, .int .i64 a1.NextNo], ASl 37 encGCorrection p191 c192 s193.2, (bif (dn 12) then ABox b214 85 (encGMover.enc x210).toArray else (bif (dn 10) then ABox b214 85 #[.int .i64 0, .int .i64 0, .int .i64 0, .int .i64 0, .int .i64 0, .int .i64 0, .int .i64 0, .int .i64 0, .int .i64 0, .bool false, .int .i64 0, .int .i64 0, .int .i64 0] else AEmp)), (bif (dn 13) then ABox b216 85 (encGMover.enc x212).toArray else (bif (dn 11) then ABox b216 85 #[.int .i64 0, .int .i64 0, .int .i64 0, .int .i64 0, .int .i64 0, .int .i64 0, .int .i64 0, .int .i64 0, .int .i64 0, .bool false, .int .i64 0, .int .i64 0, .int .i64 0] else AEmp))]) ?_ hA rfl rfl ?_
              · exact R.mv rfl rfl (R.nil (fun a ha => ⟨_, ha.slots _ _ rfl, ⟨rfl, h⟩, ha.defers, ha.size⟩))
              · rintro a2 v w ht hdf ⟨rfl, h⟩
                exact ⟨b214, b216, hA.putS rfl ht hdf, Kn.put hK hA 7 rfl rfl rfl ht, h⟩
            · intro dn hn hcl haf a w
              rintro ⟨b214, b216, hA, hK, h⟩
              have d6 : dn 6 = true := (afterB_at haf 0 rfl rfl)
              have d7 : dn 7 = true := (afterB_at haf 1 rfl rfl)
              refine R.step (d := 47) (Φ := fun v w => v = .pointer (some ((adr p1_0).add (s193.1.toNat * 13))) ∧ H W0 (fun _ => False) w [DS encGMover p0_0 c0_0 a0.Movers, DS encGScore p0_1 c0_1 a0.Scores, DS encGShot p0_2 c0_2 a0.Shots, DS encGPickup p0_3 c0_3 a0.Pickups, DS encGMover p1_0 c1_0 a1.Movers, DS encGScore p1_1 c1_1 a1.Scores, DS encGShot p1_2 c1_2 a1.Shots, DS encGPickup p1_3 c1_3 a1.Pickups] [ABox b110 27 #[.int .i64 a0.Frame, .slice p0_0 a0.Movers.length c0_0, .slice p0_1 a0.Scores.length c0_1, .slice p0_2 a0.Shots.length c0_2, .slice p0_3 a0.Pickups.length c0_3, .int .i64 a0.NextNo], ABox b112 27 #[.int .i64 a1.Frame, .slice p1_0 a1.Movers.length c1_0, .slice p1_1 a1.Scores.length c1_1, .slice p1_2 a1.Shots.length c1_2, .slice p1_3 a1.Pickups.length c1_3, .int .i64 a1.NextNo], ASl 37 encGCorrection p191 c192 s193.2, (bif (dn 12) then ABox b214 85 (encGMover.enc x210).toArray else (bif (dn 10) then ABox b214 85 #[.int .i64 0, .int .i64 0, .int .i64 0, .int .i64 0, .int .i64 0, .int .i64 0, .int .i64 0, .int .i64 0, .int .i64 0, .bool false, .int .i64 0, .int .i64 0, .int .i64 0] else AEmp)), (bif (dn 13) then ABox b216 85 (encGMover.enc x212).toArray else (bif (dn 11) then ABox b216 85 #[.int .i64 0, .int .i64 0, .int .i64 0, .int .i64 0, .int .i64 0, .int .i64 0, .int .i64 0, .int .i64 0, .int .i64 0, .bool false, .int .i64 0, .int .i64 0, .int .i64 0] else AEmp))]) ?_ ((hA.add (hK.get 6 rfl d6)).add (hK.get 7 rfl d7)) rfl rfl ?_
              · exact R.ixS rfl ss22 rfl rfl (h.rS 4 rfl) e213 (R.nil (fun a ha => ⟨_, ha.slots _ _ rfl, ⟨rfl, h⟩, ha.defers, ha.size⟩))
              · rintro a2 v w ht hdf ⟨rfl, h⟩
                exact ⟨b214, b216, hA.putS rfl ht hdf, Kn.put hK hA 8 rfl rfl rfl ht, h⟩
            · intro dn hn hcl haf a w
              rintro ⟨b214, b216, hA, hK, h⟩
              have d8 : dn 8 = true := (afterB_at haf 0 rfl rfl)
              refine R.step (d := 48) (Φ := fun v w => v = vGMover x212 ∧ H W0 (fun _ => False) w [DS encGMover p0_0 c0_0 a0.Movers, DS encGScore p0_1 c0_1 a0.Scores, DS encGShot p0_2 c0_2 a0.Shots, DS encGPickup p0_3 c0_3 a0.Pickups, DS encGMover p1_0 c1_0 a1.Movers, DS encGScore p1_1 c1_1 a1.Scores, DS encGShot p1_2 c1_2 a1.Shots, DS encGPickup p1_3 c1_3 a1.Pickups] [ABox b110 27 #[.int .i64 a0.Frame, .slice p0_0 a0.Movers.length c0_0, .slice p0_1 a0.Scores.length c0_1, .slice p0_2 a0.Shots.length c0_2, .slice p0_3 a0.Pickups.length c0_3, .int .i64 a0.NextNo], ABox b112 27 #[.int .i64 a1.Frame, .slice p1_0 a1.Movers.length c1_0, .slice p1_1 a1.Scores.length c1_1, .slice p1_2 a1.Shots.length c1_2, .slice p1_3 a1.Pickups.length c1_3, .int .i64 a1.NextNo], ASl 37 encGCorrection p191 c192 s193.2, (bif (dn 12) then ABox b214 85 (encGMover.enc x210).toArray else (bif (dn 10) then ABox b214 85 #[.int .i64 0, .int .i64 0, .int .i64 0, .int .i64 0, .int .i64 0, .int .i64 0, .int .i64 0, .int .i64 0, .int .i64 0, .bool false, .int .i64 0, .int .i64 0, .int .i64 0] else AEmp)), (bif (dn 13) then ABox b216 85 (encGMover.enc x212).toArray else (bif (dn 11) then ABox b216 85 #[.int .i64 0, .int .i64 0, .int .i64 0, .int .i64 0, .int .i64 0, .int .i64 0, .int .i64 0, .int .i64 0, .int .i64 0, .bool false, .int .i64 0, .int .i64 0, .int .i64 0] else AEmp))]) ?_ (hA.add (hK.get 8 rfl d8)) rfl rfl ?_
              · exact R.ldN (cs := [.int .i64 x212.At.X, .int .i64 x212.At.Y, .int .i64 x212.Speed.X, .int .i64 x212.Speed.Y, .int .i64 x212.Push.X, .int .i64 x212.Push.Y, .int .i64 x212.Facing, .int .i64 x212.Health, .int .i64 x212.Energy, .bool x212.Shield, .int .i64 x212.Cool, .int .i64 x212.Out, .int .i64 x212.Said]) rfl sh85 rfl rfl (RdS.cells (h.rS 4 rfl) e213 0 rfl) (R.nil (fun a ha => ⟨_, ha.slots _ _ rfl, ⟨rfl, h⟩, ha.defers, ha.size⟩))
              · rintro a2 v w ht hdf ⟨rfl, h⟩
                exact ⟨b214, b216, hA.putS rfl ht hdf, Kn.put hK hA 9 rfl rfl rfl ht, h⟩
            · intro dn hn hcl haf a w
              rintro ⟨b214, b216, hA, hK, h⟩
              have f12 : dn 12 = false := (dnF (fun hm => (afterB_at (hcl 12 _ rfl hm) 0 rfl rfl)) hn)
              refine R.step (d := 9) (Φ := fun v w => ∃ b214, v = .pointer (some ⟨b214, 0, none⟩) ∧ H W0 (fun _ => False) w [DS encGMover p0_0 c0_0 a0.Movers, DS encGScore p0_1 c0_1 a0.Scores, DS encGShot p0_2 c0_2 a0.Shots, DS encGPickup p0_3 c0_3 a0.Pickups, DS encGMover p1_0 c1_0 a1.Movers, DS encGScore p1_1 c1_1 a1.Scores, DS encGShot p1_2 c1_2 a1.Shots, DS encGPickup p1_3 c1_3 a1.Pickups] [ABox b110 27 #[.int .i64 a0.Frame, .slice p0_0 a0.Movers.length c0_0, .slice p0_1 a0.Scores.length c0_1, .slice p0_2 a0.Shots.length c0_2, .slice p0_3 a0.Pickups.length c0_3, .int .i64 a0.NextNo], ABox b112 27 #[.int .i64 a1.Frame, .slice p1_0 a1.Movers.length c1_0, .slice p1_1 a1.Scores.length c1_1, .slice p1_2 a1.Shots.length c1_2, .slice p1_3 a1.Pickups.length c1_3, .int .i64 a1.NextNo], ASl 37 encGCorrection p191 c192 s193.2, (bif (dn 12) then ABox b214 85 (encGMover.enc x210).toArray else (bif true then ABox b214 85 #[.int .i64 0, .int .i64 0, .int .i64 0, .int .i64 0, .int .i64 0, .int .i64 0, .int .i64 0, .int .i64 0, .int .i64 0, .bool false, .int .i64 0, .int .i64 0, .int .i64 0] else AEmp)), (bif (dn 13) then ABox b216 85 (encGMover.enc x212).toArray else (bif (dn 11) then ABox b216 85 #[.int .i64 0, .int .i64 0, .int .i64 0, .int .i64 0, .int .i64 0, .int .i64 0, .int .i64 0, .int .i64 0, .int .i64 0, .bool false, .int .i64 0, .int .i64 0, .int .i64 0] else AEmp))]) ?_ hA rfl rfl ?_
              · exact R.alloc rfl h zr85 (fun b214 w h => R.nil (fun a ha => ⟨_, ha.slots _ _ rfl, ⟨b214, rfl, (((h.sel [0, 1, 2, 5, 4] rfl (by decide)).wT 3 rfl (b := true) rfl).wF 3 rfl f12)⟩, ha.defers, ha.size⟩))
              · rintro a2 v w ht hdf ⟨b214, rfl, h⟩
                exact ⟨b214, b216, hA.putS rfl ht hdf, Kn.put (Kn.sw (K' := [(0, 39, .pointer (some ⟨b110, 1, none⟩)), (1, 40, .slice p0_0 a0.Movers.length c0_0), (2, 41, .int .i64 s193.1), (3, 42, .pointer (some ((adr p0_0).add (s193.1.toNat * 13)))), (4, 43, vGMover x210), (5, 44, .pointer (some ⟨b112, 1, none⟩)), (6, 45, .slice p1_0 a1.Movers.length c1_0), (7, 46, .int .i64 s193.1), (8, 47, .pointer (some ((adr p1_0).add (s193.1.toNat * 13)))), (9, 48, vGMover x212), (10, 9, .pointer (some ⟨b214, 0, none⟩)), (11, 10, .pointer (some ⟨b216, 0, none⟩))]) hK ⟨⟨rfl, rfl, .inl rfl⟩, ⟨rfl, rfl, .inl rfl⟩, ⟨rfl, rfl, .inl rfl⟩, ⟨rfl, rfl, .inl rfl⟩, ⟨rfl, rfl, .inl rfl⟩, ⟨rfl, rfl, .inl rfl⟩, ⟨rfl, rfl, .inl rfl⟩, ⟨rfl, rfl, .inl rfl⟩, ⟨rfl, rfl, .inl rfl⟩, ⟨rfl, rfl, .inl rfl⟩, ⟨rfl, rfl, .inr hn⟩, ⟨rfl, rfl, .inl rfl⟩, trivial⟩) hA 10 rfl rfl rfl ht, h⟩
            · intro dn hn hcl haf a w
              rintro ⟨b214, b216, hA, hK, h⟩
              have f13 : dn 13 = false := (dnF (fun hm => (afterB_at (hcl 13 _ rfl hm) 0 rfl rfl)) hn)
              refine R.step (d := 10) (Φ := fun v w => ∃ b216, v = .pointer (some ⟨b216, 0, none⟩) ∧ H W0 (fun _ => False) w [DS encGMover p0_0 c0_0 a0.Movers, DS encGScore p0_1 c0_1 a0.Scores, DS encGShot p0_2 c0_2 a0.Shots, DS encGPickup p0_3 c0_3 a0.Pickups, DS encGMover p1_0 c1_0 a1.Movers, DS encGScore p1_1 c1_1 a1.Scores, DS encGShot p1_2 c1_2 a1.Shots, DS encGPickup p1_3 c1_3 a1.Pickups] [ABox b110 27 #[.int .i64 a0.Frame, .slice p0_0 a0.Movers.length c0_0, .slice p0_1 a0.Scores.length c0_1, .slice p0_2 a0.Shots.length c0_2, .slice p0_3 a0.Pickups.length c0_3, .int .i64 a0.NextNo], ABox b112 27 #[.int .i64 a1.Frame, .slice p1_0 a1.Movers.length c1_0, .slice p1_1 a1.Scores.length c1_1, .slice p1_2 a1.Shots.length c1_2, .slice p1_3 a1.Pickups.length c1_3, .int .i64 a1.NextNo], ASl 37 encGCorrection p191 c192 s193.2, (bif (dn 12) then ABox b214 85 (encGMover.enc x210).toArray else (bif (dn 10) then ABox b214 85 #[.int .i64 0, .int .i64 0, .int .i64 0, .int .i64 0, .int .i64 0, .int .i64 0, .int .i64 0, .int .i64 0, .int .i64 0, .bool false, .int .i64 0, .int .i64 0, .int .i64 0] else AEmp)), (bif (dn 13) then ABox b216 85 (encGMover.enc x212).toArray else (bif true then ABox b216 85 #[.int .i64 0, .int .i64 0, .int .i64 0, .int .i64 0, .int .i64 0, .int .i64 0, .int .i64 0, .int .i64 0, .int .i64 0, .bool false, .int .i64 0, .int .i64 0, .int .i64 0] else AEmp))]) ?_ hA rfl rfl ?_
              · exact R.alloc rfl h zr85 (fun b216 w h => R.nil (fun a ha => ⟨_, ha.slots _ _ rfl, ⟨b216, rfl, (((h.sel [0, 1, 2, 3, 5] rfl (by decide)).wT 4 rfl (b := true) rfl).wF 4 rfl f13)⟩, ha.defers, ha.size⟩))
              · rintro a2 v w ht hdf ⟨b216, rfl, h⟩
                exact ⟨b214, b216, hA.putS rfl ht hdf, Kn.put (Kn.sw (K' := [(0, 39, .pointer (some ⟨b110, 1, none⟩)), (1, 40, .slice p0_0 a0.Movers.length c0_0), (2, 41, .int .i64 s193.1), (3, 42, .pointer (some ((adr p0_0).add (s193.1.toNat * 13)))), (4, 43, vGMover x210), (5, 44, .pointer (some ⟨b112, 1, none⟩)), (6, 45, .slice p1_0 a1.Movers.length c1_0), (7, 46, .int .i64 s193.1), (8, 47, .pointer (some ((adr p1_0).add (s193.1.toNat * 13)))), (9, 48, vGMover x212), (10, 9, .pointer (some ⟨b214, 0, none⟩)), (11, 10, .pointer (some ⟨b216, 0, none⟩))]) hK ⟨⟨rfl, rfl, .inl rfl⟩, ⟨rfl, rfl, .inl rfl⟩, ⟨rfl, rfl, .inl rfl⟩, ⟨rfl, rfl, .inl rfl⟩, ⟨rfl, rfl, .inl rfl⟩, ⟨rfl, rfl, .inl rfl⟩, ⟨rfl, rfl, .inl rfl⟩, ⟨rfl, rfl, .inl rfl⟩, ⟨rfl, rfl, .inl rfl⟩, ⟨rfl, rfl, .inl rfl⟩, ⟨rfl, rfl, .inl rfl⟩, ⟨rfl, rfl, .inr hn⟩, trivial⟩) hA 11 rfl rfl rfl ht, h⟩
            · intro dn hn hcl haf a w
              rintro ⟨b214, b216, hA, hK, h⟩
              have d4 : dn 4 = true := (afterB_at haf 1 rfl rfl)
              have d10 : dn 10 = true := (afterB_at haf 0 rfl rfl)
              replace h := h.cF 3 rfl hn
              replace h := h.cT 3 rfl d10
              refine R.stepU (Φ := fun w => H W0 (fun _ => False) w [DS encGMover p0_0 c0_0 a0.Movers, DS encGScore p0_1 c0_1 a0.Scores, DS encGShot p0_2 c0_2 a0.Shots, DS encGPickup p0_3 c0_3 a0.Pickups, DS encGMover p1_0 c1_0 a1.Movers, DS encGScore p1_1 c1_1 a1.Scores, DS encGShot p1_2 c1_2 a1.Shots, DS encGPickup p1_3 c1_3 a1.Pickups] [ABox b110 27 #[.int .i64 a0.Frame, .slice p0_0 a0.Movers.length c0_0, .slice p0_1 a0.Scores.length c0_1, .slice p0_2 a0.Shots.length c0_2, .slice p0_3 a0.Pickups.length c0_3, .int .i64 a0.NextNo], ABox b112 27 #[.int .i64 a1.Frame, .slice p1_0 a1.Movers.length c1_0, .slice p1_1 a1.Scores.length c1_1, .slice p1_2 a1.Shots.length c1_2, .slice p1_3 a1.Pickups.length c1_3, .int .i64 a1.NextNo], ASl 37 encGCorrection p191 c192 s193.2, (bif true then ABox b214 85 (encGMover.enc x210).toArray else (bif (dn 10) then ABox b214 85 #[.int .i64 0, .int .i64 0, .int .i64 0, .int .i64 0, .int .i64 0, .int .i64 0, .int .i64 0, .int .i64 0, .int .i64 0, .bool false, .int .i64 0, .int .i64 0, .int .i64 0] else AEmp)), (bif (dn 13) then ABox b216 85 (encGMover.enc x212).toArray else (bif (dn 11) then ABox b216 85 #[.int .i64 0, .int .i64 0, .int .i64 0, .int .i64 0, .int .i64 0, .int .i64 0, .int .i64 0, .int .i64 0, .int .i64 0, .bool false, .int .i64 0, .int .i64 0, .int .i64 0] else AEmp))]) ?_ ((hA.add (hK.get 4 rfl d4)).add (hK.get 10 rfl d10)) rfl ?_
              · exact R.stB (ds := [.int .i64 x210.At.X, .int .i64 x210.At.Y, .int .i64 x210.Speed.X, .int .i64 x210.Speed.Y, .int .i64 x210.Push.X, .int .i64 x210.Push.Y, .int .i64 x210.Facing, .int .i64 x210.Health, .int .i64 x210.Energy, .bool x210.Shield, .int .i64 x210.Cool, .int .i64 x210.Out, .int .i64 x210.Said]) 3 h rfl sz85 rfl rfl rfl rfl rfl (fun w h => R.nil (fun a ha => ⟨(h.wT 3 rfl (b := true) rfl), ha.defers⟩))
              · rintro a2 w ht hdf h
                exact ⟨b214, b216, hA.same ht hdf, Kn.none hK rfl ht, h⟩
            · intro dn hn hcl haf a w
              rintro ⟨b214, b216, hA, hK, h⟩
              have d9 : dn 9 = true := (afterB_at haf 1 rfl rfl)
              have d11 : dn 11 = true := (afterB_at haf 0 rfl rfl)
              replace h := h.cF 4 rfl hn
              replace h := h.cT 4 rfl d11
              refine R.stepU (Φ := fun w => H W0 (fun _ => False) w [DS encGMover p0_0 c0_0 a0.Movers, DS encGScore p0_1 c0_1 a0.Scores, DS encGShot p0_2 c0_2 a0.Shots, DS encGPickup p0_3 c0_3 a0.Pickups, DS encGMover p1_0 c1_0 a1.Movers, DS encGScore p1_1 c1_1 a1.Scores, DS encGShot p1_2 c1_2 a1.Shots, DS encGPickup p1_3 c1_3 a1.Pickups] [ABox b110 27 #[.int .i64 a0.Frame, .slice p0_0 a0.Movers.length c0_0, .slice p0_1 a0.Scores.length c0_1, .slice p0_2 a0.Shots.length c0_2, .slice p0_3 a0.Pickups.length c0_3, .int .i64 a0.NextNo], ABox b112 27 #[.int .i64 a1.Frame, .slice p1_0 a1.Movers.length c1_0, .slice p1_1 a1.Scores.length c1_1, .slice p1_2 a1.Shots.length c1_2, .slice p1_3 a1.Pickups.length c1_3, .int .i64 a1.NextNo], ASl 37 encGCorrection p191 c192 s193.2, (bif (dn 12) then ABox b214 85 (encGMover.enc x210).toArray else (bif (dn 10) then ABox b214 85 #[.int .i64 0, .int .i64 0, .int .i64 0, .int .i64 0, .int .i64 0, .int .i64 0, .int .i64 0, .int .i64 0, .int .i64 0, .bool false, .int .i64 0, .int .i64 0, .int .i64 0] else AEmp)), (bif true then ABox b216 85 (encGMover.enc x212).toArray else (bif (dn 11) then ABox b216 85 #[.int .i64 0, .int .i64 0, .int .i64 0, .int .i64 0, .int .i64 0, .int .i64 0, .int .i64 0, .int .i64 0, .int .i64 0, .bool false, .int .i64 0, .int .i64 0, .int .i64 0] else AEmp))]) ?_ ((hA.add (hK.get 9 rfl d9)).add (hK.get 11 rfl d11)) rfl ?_
              · exact R.stB (ds := [.int .i64 x212.At.X, .int .i64 x212.At.Y, .int .i64 x212.Speed.X, .int .i64 x212.Speed.Y, .int .i64 x212.Push.X, .int .i64 x212.Push.Y, .int .i64 x212.Facing, .int .i64 x212.Health, .int .i64 x212.Energy, .bool x212.Shield, .int .i64 x212.Cool, .int .i64 x212.Out, .int .i64 x212.Said]) 4 h rfl sz85 rfl rfl rfl rfl rfl (fun w h => R.nil (fun a ha => ⟨(h.wT 4 rfl (b := true) rfl), ha.defers⟩))
              · rintro a2 w ht hdf h
                exact ⟨b214, b216, hA.same ht hdf, Kn.none hK rfl ht, h⟩
            · rintro a w ⟨b214, b216, hA, hK, h⟩
              replace h : H W0 (fun _ => False) w [DS encGMover p0_0 c0_0 a0.Movers, DS encGScore p0_1 c0_1 a0.Scores, DS encGShot p0_2 c0_2 a0.Shots, DS encGPickup p0_3 c0_3 a0.Pickups, DS encGMover p1_0 c1_0 a1.Movers, DS encGScore p1_1 c1_1 a1.Scores, DS encGShot p1_2 c1_2 a1.Shots, DS encGPickup p1_3 c1_3 a1.Pickups] [ABox b110 27 #[.int .i64 a0.Frame, .slice p0_0 a0.Movers.length c0_0, .slice p0_1 a0.Scores.length c0_1, .slice p0_2 a0.Shots.length c0_2, .slice p0_3 a0.Pickups.length c0_3, .int .i64 a0.NextNo], ABox b112 27 #[.int .i64 a1.Frame, .slice p1_0 a1.Movers.length c1_0, .slice p1_1 a1.Scores.length c1_1, .slice p1_2 a1.Shots.length c1_2, .slice p1_3 a1.Pickups.length c1_3, .int .i64 a1.NextNo], ASl 37 encGCorrection p191 c192 s193.2, ABox b214 85 (encGMover.enc x210).toArray, ABox b216 85 (encGMover.enc x212).toArray] := h
              refine Go1.use (k203 _ _ ?_) ((hA.add (hK.get 10 rfl rfl)).add (hK.get 11 rfl rfl))
              refine T.seq fun Kk218 k218 => ?_
              refine T.region ?_
              refine R.mv rfl rfl (R.fldB rfl fo85_0 rfl (R.ldN (cs := [.int .i64 x210.At.X, .int .i64 x210.At.Y]) rfl sh35 rfl rfl (h.boxN 3 rfl rfl) (R.fldB rfl fo85_0 rfl (R.ldN (cs := [.int .i64 x212.At.X, .int .i64 x212.At.Y]) rfl sh35 rfl rfl (h.boxN 4 rfl rfl) (R.bld rfl rfl (bd12 _ _ _ _ _) (R.alloc rfl h zr37 (fun b219 w (h : H W0 (fun _ => False) w [DS encGMover p0_0 c0_0 a0.Movers, DS encGScore p0_1 c0_1 a0.Scores, DS encGShot p0_2 c0_2 a0.Shots, DS encGPickup p0_3 c0_3 a0.Pickups, DS encGMover p1_0 c1_0 a1.Movers, DS encGScore p1_1 c1_1 a1.Scores, DS encGShot p1_2 c1_2 a1.Shots, DS encGPickup p1_3 c1_3 a1.Pickups] [ABox b110 27 #[.int .i64 a0.Frame, .slice p0_0 a0.Movers.length c0_0, .slice p0_1 a0.Scores.length c0_1, .slice p0_2 a0.Shots.length c0_2, .slice p0_3 a0.Pickups.length c0_3, .int .i64 a0.NextNo], ABox b112 27 #[.int .i64 a1.Frame, .slice p1_0 a1.Movers.length c1_0, .slice p1_1 a1.Scores.length c1_1, .slice p1_2 a1.Shots.length c1_2, .slice p1_3 a1.Pickups.length c1_3, .int .i64 a1.NextNo], ASl 37 encGCorrection p191 c192 s193.2, ABox b214 85 (encGMover.enc x210).toArray, ABox b216 85 (encGMover.enc x212).toArray, ABox b219 37 #[.int .i64 0, .int .i64 0, .int .i64 0, .int .i64 0, .int .i64 0, .int .i64 0, .int .i64 0]]) => R.stB (ds := [.int .i64 s193.1, .int .i64 x210.At.X, .int .i64 x210.At.Y, .int .i64 x212.At.X, .int .i64 x212.At.Y, .int .i64 0, .int .i64 0]) 5 h rfl sz37 rfl rfl rfl rfl rfl (fun w (h : H W0 (fun _ => False) w [DS encGMover p0_0 c0_0 a0.Movers, DS encGScore p0_1 c0_1 a0.Scores, DS encGShot p0_2 c0_2 a0.Shots, DS encGPickup p0_3 c0_3 a0.Pickups, DS encGMover p1_0 c1_0 a1.Movers, DS encGScore p1_1 c1_1 a1.Scores, DS encGShot p1_2 c1_2 a1.Shots, DS encGPickup p1_3 c1_3 a1.Pickups] [ABox b110 27 #[.int .i64 a0.Frame, .slice p0_0 a0.Movers.length c0_0, .slice p0_1 a0.Scores.length c0_1, .slice p0_2 a0.Shots.length c0_2, .slice p0_3 a0.Pickups.length c0_3, .int .i64 a0.NextNo], ABox b112 27 #[.int .i64 a1.Frame, .slice p1_0 a1.Movers.length c1_0, .slice p1_1 a1.Scores.length c1_1, .slice p1_2 a1.Shots.length c1_2, .slice p1_3 a1.Pickups.length c1_3, .int .i64 a1.NextNo], ASl 37 encGCorrection p191 c192 s193.2, ABox b214 85 (encGMover.enc x210).toArray, ABox b216 85 (encGMover.enc x212).toArray, ABox b219 37 #[.int .i64 s193.1, .int .i64 x210.At.X, .int .i64 x210.At.Y, .int .i64 x212.At.X, .int .i64 x212.At.Y, .int .i64 0, .int .i64 0]]) => R.nil (k218 _ _ ?_)))))))))
              refine T.seq fun Kk221 k221 => ?_
              refine T.region ?_
              refine R.fldB rfl fo85_4 rfl (R.ld rfl sh3 rfl (h.box 4 7 rfl rfl) (R.fldB rfl fo85_4 rfl (R.ld rfl sh3 rfl (h.box 3 7 rfl rfl) (R.ib rfl rfl rfl rfl (R.fldB rfl fo37_3 rfl (R.stB (ds := [.int .i64 (W (x212.Health - x210.Health))]) 5 h rfl sz3 rfl rfl rfl rfl rfl (fun w (h : H W0 (fun _ => False) w [DS encGMover p0_0 c0_0 a0.Movers, DS encGScore p0_1 c0_1 a0.Scores, DS encGShot p0_2 c0_2 a0.Shots, DS encGPickup p0_3 c0_3 a0.Pickups, DS encGMover p1_0 c1_0 a1.Movers, DS encGScore p1_1 c1_1 a1.Scores, DS encGShot p1_2 c1_2 a1.Shots, DS encGPickup p1_3 c1_3 a1.Pickups] [ABox b110 27 #[.int .i64 a0.Frame, .slice p0_0 a0.Movers.length c0_0, .slice p0_1 a0.Scores.length c0_1, .slice p0_2 a0.Shots.length c0_2, .slice p0_3 a0.Pickups.length c0_3, .int .i64 a0.NextNo], ABox b112 27 #[.int .i64 a1.Frame, .slice p1_0 a1.Movers.length c1_0, .slice p1_1 a1.Scores.length c1_1, .slice p1_2 a1.Shots.length c1_2, .slice p1_3 a1.Pickups.length c1_3, .int .i64 a1.NextNo], ASl 37 encGCorrection p191 c192 s193.2, ABox b214 85 (encGMover.enc x210).toArray, ABox b216 85 (encGMover.enc x212).toArray, ABox b219 37 #[.int .i64 s193.1, .int .i64 x210.At.X, .int .i64 x210.At.Y, .int .i64 x212.At.X, .int .i64 x212.At.Y, .int .i64 (W (x212.Health - x210.Health)), .int .i64 0]]) => R.nil (k221 _ _ ?_))))))))
              refine T.seq fun Kk222 k222 => ?_
              obtain ⟨x227, e228, F⟩ := Option.bind_eq_some_iff.1 F
              obtain ⟨x229, e230, F⟩ := Option.bind_eq_some_iff.1 F
              refine T.regionI (fun dn a w => Agr 107 [(2, .pointer (some ⟨b110, 0, none⟩)), (3, .pointer (some ⟨b112, 0, none⟩)), (6, .int .i64 (a0.Movers.length : Int)), (7, .slice p191 s193.2.length c192), (8, .int .i64 s193.1), (9, .pointer (some ⟨b214, 0, none⟩)), (10, .pointer (some ⟨b216, 0, none⟩)), (11, .pointer (some ⟨b219, 0, none⟩)), (34, .int .i64 s193.1), (35, .int .i64 (a0.Movers.length : Int)), (36, .bool x198), (49, .int .i64 s193.1), (50, .pointer (some ⟨b214, 0, none⟩)), (51, vGPoint x210.At), (52, .pointer (some ⟨b216, 0, none⟩)), (53, vGPoint x212.At), (54, .agg #[.int .i64 s193.1, .int .i64 x210.At.X, .int .i64 x210.At.Y, .int .i64 x212.At.X, .int .i64 x212.At.Y, .int .i64 0, .int .i64 0]), (55, .pointer (some ⟨b216, 7, none⟩)), (56, .int .i64 x212.Health), (57, .pointer (some ⟨b214, 7, none⟩)), (58, .int .i64 x210.Health), (59, .int .i64 (W (x212.Health - x210.Health))), (60, .pointer (some ⟨b219, 5, none⟩))] a ∧ Kn dn [(0, 61, .pointer (some ⟨b112, 2, none⟩)), (1, 62, .slice p1_1 a1.Scores.length c1_1), (2, 63, .int .i64 s193.1), (3, 64, .pointer (some ((adr p1_1).add (s193.1.toNat * 4)))), (4, 65, .pointer (some ((adr p1_1).add (s193.1.toNat * 4)))), (5, 66, .int .i64 x227.Points), (6, 67, .pointer (some ⟨b110, 2, none⟩)), (7, 68, .slice p0_1 a0.Scores.length c0_1), (8, 69, .int .i64 s193.1), (9, 70, .pointer (some ((adr p0_1).add (s193.1.toNat * 4)))), (10, 71, .pointer (some ((adr p0_1).add (s193.1.toNat * 4)))), (11, 72, .int .i64 x229.Points), (12, 73, .int .i64 (W (x227.Points - x229.Points))), (13, 74, .pointer (some ⟨b219, 6, none⟩))] a ∧ H W0 (fun _ => False) w [DS encGMover p0_0 c0_0 a0.Movers, DS encGScore p0_1 c0_1 a0.Scores, DS encGShot p0_2 c0_2 a0.Shots, DS encGPickup p0_3 c0_3 a0.Pickups, DS encGMover p1_0 c1_0 a1.Movers, DS encGScore p1_1 c1_1 a1.Scores, DS encGShot p1_2 c1_2 a1.Shots, DS encGPickup p1_3 c1_3 a1.Pickups] [ABox b110 27 #[.int .i64 a0.Frame, .slice p0_0 a0.Movers.length c0_0, .slice p0_1 a0.Scores.length c0_1, .slice p0_2 a0.Shots.length c0_2, .slice p0_3 a0.Pickups.length c0_3, .int .i64 a0.NextNo], ABox b112 27 #[.int .i64 a1.Frame, .slice p1_0 a1.Movers.length c1_0, .slice p1_1 a1.Scores.length c1_1, .slice p1_2 a1.Shots.length c1_2, .slice p1_3 a1.Pickups.length c1_3, .int .i64 a1.NextNo], ASl 37 encGCorrection p191 c192 s193.2, ABox b214 85 (encGMover.enc x210).toArray, ABox b216 85 (encGMover.enc x212).toArray, (bif (dn 14) then ABox b219 37 #[.int .i64 s193.1, .int .i64 x210.At.X, .int .i64 x210.At.Y, .int .i64 x212.At.X, .int .i64 x212.At.Y, .int .i64 (W (x212.Health - x210.Health)), .int .i64 (W (x227.Points - x229.Points))] else ABox b219 37 #[.int .i64 s193.1, .int .i64 x210.At.X, .int .i64 x210.At.Y, .int .i64 x212.At.X, .int .i64 x212.At.Y, .int .i64 (W (x212.Health - x210.Health)), .int .i64 0])]) mix (by kernel_rfl) ?_ ⟨?_, ?_, ?_, ?_, ?_, ?_, ?_, ?_, ?_, ?_, ?_, ?_, ?_, ?_, ?_, trivial⟩ ?_
              · intro a ha
                exact ⟨ha.sub ⟨rfl, rfl, rfl, rfl, rfl, rfl, rfl, rfl, rfl, rfl, rfl, rfl, rfl, rfl, rfl, rfl, rfl, rfl, rfl, rfl, rfl, rfl, rfl, trivial⟩, Kn.start _, (h.same (Fr.drewN w 1))⟩
              · intro dn hn hcl haf a w
                rintro ⟨hA, hK, h⟩
                refine R.step (d := 61) (Φ := fun v w => v = .pointer (some ⟨b112, 2, none⟩) ∧ H W0 (fun _ => False) w [DS encGMover p0_0 c0_0 a0.Movers, DS encGScore p0_1 c0_1 a0.Scores, DS encGShot p0_2 c0_2 a0.Shots, DS encGPickup p0_3 c0_3 a0.Pickups, DS encGMover p1_0 c1_0 a1.Movers, DS encGScore p1_1 c1_1 a1.Scores, DS encGShot p1_2 c1_2 a1.Shots, DS encGPickup p1_3 c1_3 a1.Pickups] [ABox b110 27 #[.int .i64 a0.Frame, .slice p0_0 a0.Movers.length c0_0, .slice p0_1 a0.Scores.length c0_1, .slice p0_2 a0.Shots.length c0_2, .slice p0_3 a0.Pickups.length c0_3, .int .i64 a0.NextNo], ABox b112 27 #[.int .i64 a1.Frame, .slice p1_0 a1.Movers.length c1_0, .slice p1_1 a1.Scores.length c1_1, .slice p1_2 a1.Shots.length c1_2, .slice p1_3 a1.Pickups.length c1_3, .int .i64 a1.NextNo], ASl 37 encGCorrection p191 c192 s193.2, ABox b214 85 (encGMover.enc x210).toArray, ABox b216 85 (encGMover.enc x212).toArray, (bif (dn 14) then ABox b219 37 #[.int .i64 s193.1, .int .i64 x210.At.X, .int .i64 x210.At.Y, .int .i64 x212.At.X, .int .i64 x212.At.Y, .int .i64 (W (x212.Health - x210.Health)), .int .i64 (W (x227.Points - x229.Points))] else ABox b219 37 #[.int .i64 s193.1, .int .i64 x210.At.X, .int .i64 x210.At.Y, .int .i64 x212.At.X, .int .i64 x212.At.Y, .int .i64 (W (x212.Health - x210.Health)), .int .i64 0])]) ?_ hA rfl rfl ?_
                · exact R.fldB rfl fo27_2 rfl (R.nil (fun a ha => ⟨_, ha.slots _ _ rfl, ⟨rfl, h⟩, ha.defers, ha.size⟩))
                · rintro a2 v w ht hdf ⟨rfl, h⟩
                  exact ⟨hA.putS rfl ht hdf, Kn.put hK hA 0 rfl rfl rfl ht, h⟩
              · intro dn hn hcl haf a w
                rintro ⟨hA, hK, h⟩
                have d0 : dn 0 = true := (afterB_at haf 0 rfl rfl)
                refine R.step (d := 62) (Φ := fun v w => v = .slice p1_1 a1.Scores.length c1_1 ∧ H W0 (fun _ => False) w [DS encGMover p0_0 c0_0 a0.Movers, DS encGScore p0_1 c0_1 a0.Scores, DS encGShot p0_2 c0_2 a0.Shots, DS encGPickup p0_3 c0_3 a0.Pickups, DS encGMover p1_0 c1_0 a1.Movers, DS encGScore p1_1 c1_1 a1.Scores, DS encGShot p1_2 c1_2 a1.Shots, DS encGPickup p1_3 c1_3 a1.Pickups] [ABox b110 27 #[.int .i64 a0.Frame, .slice p0_0 a0.Movers.length c0_0, .slice p0_1 a0.Scores.length c0_1, .slice p0_2 a0.Shots.length c0_2, .slice p0_3 a0.Pickups.length c0_3, .int .i64 a0.NextNo], ABox b112 27 #[.int .i64 a1.Frame, .slice p1_0 a1.Movers.length c1_0, .slice p1_1 a1.Scores.length c1_1, .slice p1_2 a1.Shots.length c1_2, .slice p1_3 a1.Pickups.length c1_3, .int .i64 a1.NextNo], ASl 37 encGCorrection p191 c192 s193.2, ABox b214 85 (encGMover.enc x210).toArray, ABox b216 85 (encGMover.enc x212).toArray, (bif (dn 14) then ABox b219 37 #[.int .i64 s193.1, .int .i64 x210.At.X, .int .i64 x210.At.Y, .int .i64 x212.At.X, .int .i64 x212.At.Y, .int .i64 (W (x212.Health - x210.Health)), .int .i64 (W (x227.Points - x229.Points))] else ABox b219 37 #[.int .i64 s193.1, .int .i64 x210.At.X, .int .i64 x210.At.Y, .int .i64 x212.At.X, .int .i64 x212.At.Y, .int .i64 (W (x212.Health - x210.Health)), .int .i64 0])]) ?_ (hA.add (hK.get 0 rfl d0)) rfl rfl ?_
                · exact R.ld rfl sh23 rfl (h.box 1 2 rfl rfl) (R.nil (fun a ha => ⟨_, ha.slots _ _ rfl, ⟨rfl, h⟩, ha.defers, ha.size⟩))
                · rintro a2 v w ht hdf ⟨rfl, h⟩
                  exact ⟨hA.putS rfl ht hdf, Kn.put hK hA 1 rfl rfl rfl ht, h⟩
              · intro dn hn hcl haf a w
                rintro ⟨hA, hK, h⟩
                refine R.step (d := 63) (Φ := fun v w => v = .int .i64 s193.1 ∧ H W0 (fun _ => False) w [DS encGMover p0_0 c0_0 a0.Movers, DS encGScore p0_1 c0_1 a0.Scores, DS encGShot p0_2 c0_2 a0.Shots, DS encGPickup p0_3 c0_3 a0.Pickups, DS encGMover p1_0 c1_0 a1.Movers, DS encGScore p1_1 c1_1 a1.Scores, DS encGShot p1_2 c1_2 a1.Shots, DS encGPickup p1_3 c1_3 a1.Pickups] [ABox b110 27 #[.int .i64 a0.Frame, .slice p0_0 a0.Movers.length c0_0, .slice p0_1 a0.Scores.length c0_1, .slice p0_2 a0.Shots.length c0_2, .slice p0_3 a0.Pickups.length c0_3, .int .i64 a0.NextNo], ABox b112 27 #[.int .i64 a1.Frame, .slice p1_0 a1.Movers.length c1_0, .slice p1_1 a1.Scores.length c1_1, .slice p1_2 a1.Shots.length c1_2, .slice p1_3 a1.Pickups.length c1_3, .int .i64 a1.NextNo], ASl 37 encGCorrection p191 c192 s193.2, ABox b214 85 (encGMover.enc x210).toArray, ABox b216 85 (encGMover.enc x212).toArray, (bif (dn 14) then ABox b219 37 #[.int .i64 s193.1, .int .i64 x210.At.X, .int .i64 x210.At.Y, .int .i64 x212.At.X, .int .i64 x212.At.Y, .int .i64 (W (x212.Health - x210.Health)), .int .i64 (W (x227.Points - x229.Points))] else ABox b219 37 #[.int .i64 s193.1, .int .i64 x210.At.X, .int .i64 x210.At.Y, .int .i64 x212.At.X, .int .i64 x212.At.Y, .int .i64 (W (x212.Health - x210.Health)), .int .i64 0])]) ?_ hA rfl rfl ?_
                · exact R.mv rfl rfl (R.nil (fun a ha => ⟨_, ha.slots _ _ rfl, ⟨rfl, h⟩, ha.defers, ha.size⟩))
                · rintro a2 v w ht hdf ⟨rfl, h⟩
                  exact ⟨hA.putS rfl ht hdf, Kn.put hK hA 2 rfl rfl rfl ht, h⟩
              · intro dn hn hcl haf a w
                rintro ⟨hA, hK, h⟩
                have d1 : dn 1 = true := (afterB_at haf 0 rfl rfl)
                have d2 : dn 2 = true := (afterB_at haf 1 rfl rfl)
                refine R.step (d := 64) (Φ := fun v w => v = .pointer (some ((adr p1_1).add (s193.1.toNat * 4))) ∧ H W0 (fun _ => False) w [DS encGMover p0_0 c0_0 a0.Movers, DS encGScore p0_1 c0_1 a0.Scores, DS encGShot p0_2 c0_2 a0.Shots, DS encGPickup p0_3 c0_3 a0.Pickups, DS encGMover p1_0 c1_0 a1.Movers, DS encGScore p1_1 c1_1 a1.Scores, DS encGShot p1_2 c1_2 a1.Shots, DS encGPickup p1_3 c1_3 a1.Pickups] [ABox b110 27 #[.int .i64 a0.Frame, .slice p0_0 a0.Movers.length c0_0, .slice p0_1 a0.Scores.length c0_1, .slice p0_2 a0.Shots.length c0_2, .slice p0_3 a0.Pickups.length c0_3, .int .i64 a0.NextNo], ABox b112 27 #[.int .i64 a1.Frame, .slice p1_0 a1.Movers.length c1_0, .slice p1_1 a1.Scores.length c1_1, .slice p1_2 a1.Shots.length c1_2, .slice p1_3 a1.Pickups.length c1_3, .int .i64 a1.NextNo], ASl 37 encGCorrection p191 c192 s193.2, ABox b214 85 (encGMover.enc x210).toArray, ABox b216 85 (encGMover.enc x212).toArray, (bif (dn 14) then ABox b219 37 #[.int .i64 s193.1, .int .i64 x210.At.X, .int .i64 x210.At.Y, .int .i64 x212.At.X, .int .i64 x212.At.Y, .int .i64 (W (x212.Health - x210.Health)), .int .i64 (W (x227.Points - x229.Points))] else ABox b219 37 #[.int .i64 s193.1, .int .i64 x210.At.X, .int .i64 x210.At.Y, .int .i64 x212.At.X, .int .i64 x212.At.Y, .int .i64 (W (x212.Health - x210.Health)), .int .i64 0])]) ?_ ((hA.add (hK.get 1 rfl d1)).add (hK.get 2 rfl d2)) rfl rfl ?_
                · exact R.ixS rfl ss23 rfl rfl (h.rS 5 rfl) e228 (R.nil (fun a ha => ⟨_, ha.slots _ _ rfl, ⟨rfl, h⟩, ha.defers, ha.size⟩))
                · rintro a2 v w ht hdf ⟨rfl, h⟩
                  exact ⟨hA.putS rfl ht hdf, Kn.put hK hA 3 rfl rfl rfl ht, h⟩
              · intro dn hn hcl haf a w
                rintro ⟨hA, hK, h⟩
                have d3 : dn 3 = true := (afterB_at haf 0 rfl rfl)
                refine R.step (d := 65) (Φ := fun v w => v = .pointer (some ((adr p1_1).add (s193.1.toNat * 4))) ∧ H W0 (fun _ => False) w [DS encGMover p0_0 c0_0 a0.Movers, DS encGScore p0_1 c0_1 a0.Scores, DS encGShot p0_2 c0_2 a0.Shots, DS encGPickup p0_3 c0_3 a0.Pickups, DS encGMover p1_0 c1_0 a1.Movers, DS encGScore p1_1 c1_1 a1.Scores, DS encGShot p1_2 c1_2 a1.Shots, DS encGPickup p1_3 c1_3 a1.Pickups] [ABox b110 27 #[.int .i64 a0.Frame, .slice p0_0 a0.Movers.length c0_0, .slice p0_1 a0.Scores.length c0_1, .slice p0_2 a0.Shots.length c0_2, .slice p0_3 a0.Pickups.length c0_3, .int .i64 a0.NextNo], ABox b112 27 #[.int .i64 a1.Frame, .slice p1_0 a1.Movers.length c1_0, .slice p1_1 a1.Scores.length c1_1, .slice p1_2 a1.Shots.length c1_2, .slice p1_3 a1.Pickups.length c1_3, .int .i64 a1.NextNo], ASl 37 encGCorrection p191 c192 s193.2, ABox b214 85 (encGMover.enc x210).toArray, ABox b216 85 (encGMover.enc x212).toArray, (bif (dn 14) then ABox b219 37 #[.int .i64 s193.1, .int .i64 x210.At.X, .int .i64 x210.At.Y, .int .i64 x212.At.X, .int .i64 x212.At.Y, .int .i64 (W (x212.Health - x210.Health)), .int .i64 (W (x227.Points - x229.Points))] else ABox b219 37 #[.int .i64 s193.1, .int .i64 x210.At.X, .int .i64 x210.At.Y, .int .i64 x212.At.X, .int .i64 x212.At.Y, .int .i64 (W (x212.Health - x210.Health)), .int .i64 0])]) ?_ (hA.add (hK.get 3 rfl d3)) rfl rfl ?_
                · exact R.fldE rfl fo87_0 rfl (R.nil (fun a ha => ⟨_, ha.slots _ _ rfl, ⟨rfl, h⟩, ha.defers, ha.size⟩))
                · rintro a2 v w ht hdf ⟨rfl, h⟩
                  exact ⟨hA.putS rfl ht hdf, Kn.put hK hA 4 rfl rfl rfl ht, h⟩
              · intro dn hn hcl haf a w
                rintro ⟨hA, hK, h⟩
                have d4 : dn 4 = true := (afterB_at haf 0 rfl rfl)
                refine R.step (d := 66) (Φ := fun v w => v = .int .i64 x227.Points ∧ H W0 (fun _ => False) w [DS encGMover p0_0 c0_0 a0.Movers, DS encGScore p0_1 c0_1 a0.Scores, DS encGShot p0_2 c0_2 a0.Shots, DS encGPickup p0_3 c0_3 a0.Pickups, DS encGMover p1_0 c1_0 a1.Movers, DS encGScore p1_1 c1_1 a1.Scores, DS encGShot p1_2 c1_2 a1.Shots, DS encGPickup p1_3 c1_3 a1.Pickups] [ABox b110 27 #[.int .i64 a0.Frame, .slice p0_0 a0.Movers.length c0_0, .slice p0_1 a0.Scores.length c0_1, .slice p0_2 a0.Shots.length c0_2, .slice p0_3 a0.Pickups.length c0_3, .int .i64 a0.NextNo], ABox b112 27 #[.int .i64 a1.Frame, .slice p1_0 a1.Movers.length c1_0, .slice p1_1 a1.Scores.length c1_1, .slice p1_2 a1.Shots.length c1_2, .slice p1_3 a1.Pickups.length c1_3, .int .i64 a1.NextNo], ASl 37 encGCorrection p191 c192 s193.2, ABox b214 85 (encGMover.enc x210).toArray, ABox b216 85 (encGMover.enc x212).toArray, (bif (dn 14) then ABox b219 37 #[.int .i64 s193.1, .int .i64 x210.At.X, .int .i64 x210.At.Y, .int .i64 x212.At.X, .int .i64 x212.At.Y, .int .i64 (W (x212.Health - x210.Health)), .int .i64 (W (x227.Points - x229.Points))] else ABox b219 37 #[.int .i64 s193.1, .int .i64 x210.At.X, .int .i64 x210.At.Y, .int .i64 x212.At.X, .int .i64 x212.At.Y, .int .i64 (W (x212.Health - x210.Health)), .int .i64 0])]) ?_ (hA.add (hK.get 4 rfl d4)) rfl rfl ?_
                · exact R.ld rfl sh3 rfl (RdS.cell (h.rS 5 rfl) e228 0 rfl) (R.nil (fun a ha => ⟨_, ha.slots _ _ rfl, ⟨rfl, h⟩, ha.defers, ha.size⟩))
                · rintro a2 v w ht hdf ⟨rfl, h⟩
                  exact ⟨hA.putS rfl ht hdf, Kn.put hK hA 5 rfl rfl rfl ht, h⟩
              · intro dn hn hcl haf a w
                rintro ⟨hA, hK, h⟩
                refine R.step (d := 67) (Φ := fun v w => v = .pointer (some ⟨b110, 2, none⟩) ∧ H W0 (fun _ => False) w [DS encGMover p0_0 c0_0 a0.Movers, DS encGScore p0_1 c0_1 a0.Scores, DS encGShot p0_2 c0_2 a0.Shots, DS encGPickup p0_3 c0_3 a0.Pickups, DS encGMover p1_0 c1_0 a1.Movers, DS encGScore p1_1 c1_1 a1.Scores, DS encGShot p1_2 c1_2 a1.Shots, DS encGPickup p1_3 c1_3 a1.Pickups] [ABox b110 27 #[.int .i64 a0.Frame, .slice p0_0 a0.Movers.length c0_0, .slice p0_1 a0.Scores.length c0_1, .slice p0_2 a0.Shots.length c0_2, .slice p0_3 a0.Pickups.length c0_3, .int .i64 a0.NextNo], ABox b112 27 #[.int .i64 a1.Frame, .slice p1_0 a1.Movers.length c1_0, .slice p1_1 a1.Scores.length c1_1, .slice p1_2 a1.Shots.length c1_2, .slice p1_3 a1.Pickups.length c1_3, .int .i64 a1.NextNo], ASl 37 encGCorrection p191 c192 s193.2, ABox b214 85 (encGMover.enc x210).toArray, ABox b216 85 (encGMover.enc x212).toArray, (bif (dn 14) then ABox b219 37 #[.int .i64 s193.1, .int .i64 x210.At.X, .int .i64 x210.At.Y, .int .i64 x212.At.X, .int .i64 x212.At.Y, .int .i64 (W (x212.Health - x210.Health)), .int .i64 (W (x227.Points - x229.Points))] else ABox b219 37 #[.int .i64 s193.1, .int .i64 x210.At.X, .int .i64 x210.At.Y, .int .i64 x212.At.X, .int .i64 x212.At.Y, .int .i64 (W (x212.Health - x210.Health)), .int .i64 0])]) ?_ hA rfl rfl ?_
                · exact R.fldB rfl fo27_2 rfl (R.nil (fun a ha => ⟨_, ha.slots _ _ rfl, ⟨rfl, h⟩, ha.defers, ha.size⟩))
                · rintro a2 v w ht hdf ⟨rfl, h⟩
                  exact ⟨hA.putS rfl ht hdf, Kn.put hK hA 6 rfl rfl rfl ht, h⟩
              · intro dn hn hcl haf a w
                rintro ⟨hA, hK, h⟩
                have d6 : dn 6 = true := (afterB_at haf 0 rfl rfl)
                refine R.step (d := 68) (Φ := fun v w => v = .slice p0_1 a0.Scores.length c0_1 ∧ H W0 (fun _ => False) w [DS encGMover p0_0 c0_0 a0.Movers, DS encGScore p0_1 c0_1 a0.Scores, DS encGShot p0_2 c0_2 a0.Shots, DS encGPickup p0_3 c0_3 a0.Pickups, DS encGMover p1_0 c1_0 a1.Movers, DS encGScore p1_1 c1_1 a1.Scores, DS encGShot p1_2 c1_2 a1.Shots, DS encGPickup p1_3 c1_3 a1.Pickups] [ABox b110 27 #[.int .i64 a0.Frame, .slice p0_0 a0.Movers.length c0_0, .slice p0_1 a0.Scores.length c0_1, .slice p0_2 a0.Shots.length c0_2, .slice p0_3 a0.Pickups.length c0_3, .int .i64 a0.NextNo], ABox b112 27 #[.int .i64 a1.Frame, .slice p1_0 a1.Movers.length c1_0, .slice p1_1 a1.Scores.length c1_1, .slice p1_2 a1.Shots.length c1_2, .slice p1_3 a1.Pickups.length c1_3, .int .i64 a1.NextNo], ASl 37 encGCorrection p191 c192 s193.2, ABox b214 85 (encGMover.enc x210).toArray, ABox b216 85 (encGMover.enc x212).toArray, (bif (dn 14) then ABox b219 37 #[.int .i64 s193.1, .int .i64 x210.At.X, .int .i64 x210.At.Y, .int .i64 x212.At.X, .int .i64 x212.At.Y, .int .i64 (W (x212.Health - x210.Health)), .int .i64 (W (x227.Points - x229.Points))] else ABox b219 37 #[.int .i64 s193.1, .int .i64 x210.At.X, .int .i64 x210.At.Y, .int .i64 x212.At.X, .int .i64 x212.At.Y, .int .i64 (W (x212.Health - x210.Health)), .int .i64 0])]) ?_ (hA.add (hK.get 6 rfl d6)) rfl rfl ?_
                · exact R.ld rfl sh23 rfl (h.box 0 2 rfl rfl) (R.nil (fun a ha => ⟨_, ha.slots _ _ rfl, ⟨rfl, h⟩, ha.defers, ha.size⟩))
                · rintro a2 v w ht hdf ⟨rfl, h⟩
                  exact ⟨hA.putS rfl ht hdf, Kn.put hK hA 7 rfl rfl rfl ht, h⟩
              · intro dn hn hcl haf a w
                rintro ⟨hA, hK, h⟩
                refine R.step (d := 69) (Φ := fun v w => v = .int .i64 s193.1 ∧ H W0 (fun _ => False) w [DS encGMover p0_0 c0_0 a0.Movers, DS encGScore p0_1 c0_1 a0.Scores, DS encGShot p0_2 c0_2 a0.Shots, DS encGPickup p0_3 c0_3 a0.Pickups, DS encGMover p1_0 c1_0 a1.Movers, DS encGScore p1_1 c1_1 a1.Scores, DS encGShot p1_2 c1_2 a1.Shots, DS encGPickup p1_3 c1_3 a1.Pickups] [ABox b110 27 #[.int .i64 a0.Frame, .slice p0_0 a0.Movers.length c0_0, .slice p0_1 a0.Scores.length c0_1, .slice p0_2 a0.Shots.length c0_2, .slice p0_3 a0.Pickups.length c0_3, .int .i64 a0.NextNo], ABox b112 27 #[.int .i64 a1.Frame, .slice p1_0 a1.Movers.length c1_0, .slice p1_1 a1.Scores.length c1_1, .slice p1_2 a1.Shots.length c1_2, .slice p1_3 a1.Pickups.length c1_3, .int .i64 a1.NextNo], ASl 37 encGCorrection p191 c192 s193.2, ABox b214 85 (encGMover.enc x210).toArray, ABox b216 85 (encGMover.enc x212).toArray, (bif (dn 14) then ABox b219 37 #[.int .i64 s193.1, .int .i64 x210.At.X, .int .i64 x210.At.Y, .int .i64 x212.At.X, .int .i64 x212.At.Y, .int .i64 (W (x212.Health - x210.Health)), .int .i64 (W (x227.Points - x229.Points))] else ABox b219 37 #[.int .i64 s193.1, .int .i64 x210.At.X, .int .i64 x210.At.Y, .int .i64 x212.At.X, .int .i64 x212.At.Y, .int .i64 (W (x212.Health - x210.Health)), .int .i64 0])]) ?_ hA rfl rfl ?_
                · exact R.mv rfl rfl (R.nil (fun a ha => ⟨_, ha.slots _ _ rfl, ⟨rfl, h⟩, ha.defers, ha.size⟩))
                · rintro a2 v w ht hdf ⟨rfl, h⟩
                  exact ⟨hA.putS rfl ht hdf, Kn.put hK hA 8 rfl rfl rfl ht, h⟩
              · intro dn hn hcl haf a w
                rintro ⟨hA, hK, h⟩
                have d7 : dn 7 = true := (afterB_at haf 0 rfl rfl)
                have d8 : dn 8 = true := (afterB_at haf 1 rfl rfl)
                refine R.step (d := 70) (Φ := fun v w => v = .pointer (some ((adr p0_1).add (s193.1.toNat * 4))) ∧ H W0 (fun _ => False) w [DS encGMover p0_0 c0_0 a0.Movers, DS encGScore p0_1 c0_1 a0.Scores, DS encGShot p0_2 c0_2 a0.Shots, DS encGPickup p0_3 c0_3 a0.Pickups, DS encGMover p1_0 c1_0 a1.Movers, DS encGScore p1_1 c1_1 a1.Scores, DS encGShot p1_2 c1_2 a1.Shots, DS encGPickup p1_3 c1_3 a1.Pickups] [ABox b110 27 #[.int .i64 a0.Frame, .slice p0_0 a0.Movers.length c0_0, .slice p0_1 a0.Scores.length c0_1, .slice p0_2 a0.Shots.length c0_2, .slice p0_3 a0.Pickups.length c0_3, .int .i64 a0.NextNo], ABox b112 27 #[.int .i64 a1.Frame, .slice p1_0 a1.Movers.length c1_0, .slice p1_1 a1.Scores.length c1_1, .slice p1_2 a1.Shots.length c1_2, .slice p1_3 a1.Pickups.length c1_3, .int .i64 a1.NextNo], ASl 37 encGCorrection p191 c192 s193.2, ABox b214 85 (encGMover.enc x210).toArray, ABox b216 85 (encGMover.enc x212).toArray, (bif (dn 14) then ABox b219 37 #[.int .i64 s193.1, .int .i64 x210.At.X, .int .i64 x210.At.Y, .int .i64 x212.At.X, .int .i64 x212.At.Y, .int .i64 (W (x212.Health - x210.Health)), .int .i64 (W (x227.Points - x229.Points))] else ABox b219 37 #[.int .i64 s193.1, .int .i64 x210.At.X, .int .i64 x210.At.Y, .int .i64 x212.At.X, .int .i64 x212.At.Y, .int .i64 (W (x212.Health - x210.Health)), .int .i64 0])]) ?_ ((hA.add (hK.get 7 rfl d7)).add (hK.get 8 rfl d8)) rfl rfl ?_
                · exact R.ixS rfl ss23 rfl rfl (h.rS 1 rfl) e230 (R.nil (fun a ha => ⟨_, ha.slots _ _ rfl, ⟨rfl, h⟩, ha.defers, ha.size⟩))
                · rintro a2 v w ht hdf ⟨rfl, h⟩
                  exact ⟨hA.putS rfl ht hdf, Kn.put hK hA 9 rfl rfl rfl ht, h⟩
              · intro dn hn hcl haf a w
                rintro ⟨hA, hK, h⟩
                have d9 : dn 9 = true := (afterB_at haf 0 rfl rfl)
                refine R.step (d := 71) (Φ := fun v w => v = .pointer (some ((adr p0_1).add (s193.1.toNat * 4))) ∧ H W0 (fun _ => False) w [DS encGMover p0_0 c0_0 a0.Movers, DS encGScore p0_1 c0_1 a0.Scores, DS encGShot p0_2 c0_2 a0.Shots, DS encGPickup p0_3 c0_3 a0.Pickups, DS encGMover p1_0 c1_0 a1.Movers, DS encGScore p1_1 c1_1 a1.Scores, DS encGShot p1_2 c1_2 a1.Shots, DS encGPickup p1_3 c1_3 a1.Pickups] [ABox b110 27 #[.int .i64 a0.Frame, .slice p0_0 a0.Movers.length c0_0, .slice p0_1 a0.Scores.length c0_1, .slice p0_2 a0.Shots.length c0_2, .slice p0_3 a0.Pickups.length c0_3, .int .i64 a0.NextNo], ABox b112 27 #[.int .i64 a1.Frame, .slice p1_0 a1.Movers.length c1_0, .slice p1_1 a1.Scores.length c1_1, .slice p1_2 a1.Shots.length c1_2, .slice p1_3 a1.Pickups.length c1_3, .int .i64 a1.NextNo], ASl 37 encGCorrection p191 c192 s193.2, ABox b214 85 (encGMover.enc x210).toArray, ABox b216 85 (encGMover.enc x212).toArray, (bif (dn 14) then ABox b219 37 #[.int .i64 s193.1, .int .i64 x210.At.X, .int .i64 x210.At.Y, .int .i64 x212.At.X, .int .i64 x212.At.Y, .int .i64 (W (x212.Health - x210.Health)), .int .i64 (W (x227.Points - x229.Points))] else ABox b219 37 #[.int .i64 s193.1, .int .i64 x210.At.X, .int .i64 x210.At.Y, .int .i64 x212.At.X, .int .i64 x212.At.Y, .int .i64 (W (x212.Health - x210.Health)), .int .i64 0])]) ?_ (hA.add (hK.get 9 rfl d9)) rfl rfl ?_
                · exact R.fldE rfl fo87_0 rfl (R.nil (fun a ha => ⟨_, ha.slots _ _ rfl, ⟨rfl, h⟩, ha.defers, ha.size⟩))
                · rintro a2 v w ht hdf ⟨rfl, h⟩
                  exact ⟨hA.putS rfl ht hdf, Kn.put hK hA 10 rfl rfl rfl ht, h⟩
              · intro dn hn hcl haf a w
                rintro ⟨hA, hK, h⟩
                have d10 : dn 10 = true := (afterB_at haf 0 rfl rfl)
                refine R.step (d := 72) (Φ := fun v w => v = .int .i64 x229.Points ∧ H W0 (fun _ => False) w [DS encGMover p0_0 c0_0 a0.Movers, DS encGScore p0_1 c0_1 a0.Scores, DS encGShot p0_2 c0_2 a0.Shots, DS encGPickup p0_3 c0_3 a0.Pickups, DS encGMover p1_0 c1_0 a1.Movers, DS encGScore p1_1 c1_1 a1.Scores, DS encGShot p1_2 c1_2 a1.Shots, DS encGPickup p1_3 c1_3 a1.Pickups] [ABox b110 27 #[.int .i64 a0.Frame, .slice p0_0 a0.Movers.length c0_0, .slice p0_1 a0.Scores.length c0_1, .slice p0_2 a0.Shots.length c0_2, .slice p0_3 a0.Pickups.length c0_3, .int .i64 a0.NextNo], ABox b112 27 #[.int .i64 a1.Frame, .slice p1_0 a1.Movers.length c1_0, .slice p1_1 a1.Scores.length c1_1, .slice p1_2 a1.Shots.length c1_2, .slice p1_3 a1.Pickups.length c1_3, .int .i64 a1.NextNo], ASl 37 encGCorrection p191 c192 s193.2, ABox b214 85 (encGMover.enc x210).toArray, ABox b216 85 (encGMover.enc x212).toArray, (bif (dn 14) then ABox b219 37 #[.int .i64 s193.1, .int .i64 x210.At.X, .int .i64 x210.At.Y, .int .i64 x212.At.X, .int .i64 x212.At.Y, .int .i64 (W (x212.Health - x210.Health)), .int .i64 (W (x227.Points - x229.Points))] else ABox b219 37 #[.int .i64 s193.1, .int .i64 x210.At.X, .int .i64 x210.At.Y, .int .i64 x212.At.X, .int .i64 x212.At.Y, .int .i64 (W (x212.Health - x210.Health)), .int .i64 0])]) ?_ (hA.add (hK.get 10 rfl d10)) rfl rfl ?_
                · exact R.ld rfl sh3 rfl (RdS.cell (h.rS 1 rfl) e230 0 rfl) (R.nil (fun a ha => ⟨_, ha.slots _ _ rfl, ⟨rfl, h⟩, ha.defers, ha.size⟩))
                · rintro a2 v w ht hdf ⟨rfl, h⟩
                  exact ⟨hA.putS rfl ht hdf, Kn.put hK hA 11 rfl rfl rfl ht, h⟩
              · intro dn hn hcl haf a w
                rintro ⟨hA, hK, h⟩
                have d5 : dn 5 = true := (afterB_at haf 0 rfl rfl)
                have d11 : dn 11 = true := (afterB_at haf 1 rfl rfl)
                refine R.step (d := 73) (Φ := fun v w => v = .int .i64 (W (x227.Points - x229.Points)) ∧ H W0 (fun _ => False) w [DS encGMover p0_0 c0_0 a0.Movers, DS encGScore p0_1 c0_1 a0.Scores, DS encGShot p0_2 c0_2 a0.Shots, DS encGPickup p0_3 c0_3 a0.Pickups, DS encGMover p1_0 c1_0 a1.Movers, DS encGScore p1_1 c1_1 a1.Scores, DS encGShot p1_2 c1_2 a1.Shots, DS encGPickup p1_3 c1_3 a1.Pickups] [ABox b110 27 #[.int .i64 a0.Frame, .slice p0_0 a0.Movers.length c0_0, .slice p0_1 a0.Scores.length c0_1, .slice p0_2 a0.Shots.length c0_2, .slice p0_3 a0.Pickups.length c0_3, .int .i64 a0.NextNo], ABox b112 27 #[.int .i64 a1.Frame, .slice p1_0 a1.Movers.length c1_0, .slice p1_1 a1.Scores.length c1_1, .slice p1_2 a1.Shots.length c1_2, .slice p1_3 a1.Pickups.length c1_3, .int .i64 a1.NextNo], ASl 37 encGCorrection p191 c192 s193.2, ABox b214 85 (encGMover.enc x210).toArray, ABox b216 85 (encGMover.enc x212).toArray, (bif (dn 14) then ABox b219 37 #[.int .i64 s193.1, .int .i64 x210.At.X, .int .i64 x210.At.Y, .int .i64 x212.At.X, .int .i64 x212.At.Y, .int .i64 (W (x212.Health - x210.Health)), .int .i64 (W (x227.Points - x229.Points))] else ABox b219 37 #[.int .i64 s193.1, .int .i64 x210.At.X, .int .i64 x210.At.Y, .int .i64 x212.At.X, .int .i64 x212.At.Y, .int .i64 (W (x212.Health - x210.Health)), .int .i64 0])]) ?_ ((hA.add (hK.get 5 rfl d5)).add (hK.get 11 rfl d11)) rfl rfl ?_
                · exact R.ib rfl rfl rfl rfl (R.nil (fun a ha => ⟨_, ha.slots _ _ rfl, ⟨rfl, h⟩, ha.defers, ha.size⟩))
                · rintro a2 v w ht hdf ⟨rfl, h⟩
                  exact ⟨hA.putS rfl ht hdf, Kn.put hK hA 12 rfl rfl rfl ht, h⟩
              · intro dn hn hcl haf a w
                rintro ⟨hA, hK, h⟩
                have f14 : dn 14 = false := (dnF (fun hm => (afterB_at (hcl 14 _ rfl hm) 0 rfl rfl)) hn)
                replace h := h.cF 5 rfl f14
                refine R.step (d := 74) (Φ := fun v w => v = .pointer (some ⟨b219, 6, none⟩) ∧ H W0 (fun _ => False) w [DS encGMover p0_0 c0_0 a0.Movers, DS encGScore p0_1 c0_1 a0.Scores, DS encGShot p0_2 c0_2 a0.Shots, DS encGPickup p0_3 c0_3 a0.Pickups, DS encGMover p1_0 c1_0 a1.Movers, DS encGScore p1_1 c1_1 a1.Scores, DS encGShot p1_2 c1_2 a1.Shots, DS encGPickup p1_3 c1_3 a1.Pickups] [ABox b110 27 #[.int .i64 a0.Frame, .slice p0_0 a0.Movers.length c0_0, .slice p0_1 a0.Scores.length c0_1, .slice p0_2 a0.Shots.length c0_2, .slice p0_3 a0.Pickups.length c0_3, .int .i64 a0.NextNo], ABox b112 27 #[.int .i64 a1.Frame, .slice p1_0 a1.Movers.length c1_0, .slice p1_1 a1.Scores.length c1_1, .slice p1_2 a1.Shots.length c1_2, .slice p1_3 a1.Pickups.length c1_3, .int .i64 a1.NextNo], ASl 37 encGCorrection p191 c192 s193.2, ABox b214 85 (encGMover.enc x210).toArray, ABox b216 85 (encGMover.enc x212).toArray, (bif (dn 14) then ABox b219 37 #[.int .i64 s193.1, .int .i64 x210.At.X, .int .i64 x210.At.Y, .int .i64 x212.At.X, .int .i64 x212.At.Y, .int .i64 (W (x212.Health - x210.Health)), .int .i64 (W (x227.Points - x229.Points))] else ABox b219 37 #[.int .i64 s193.1, .int .i64 x210.At.X, .int .i64 x210.At.Y, .int .i64 x212.At.X, .int .i64 x212.At.Y, .int .i64 (W (x212.Health - x210.Health)), .int .i64 0])]) ?_ hA rfl rfl ?_
                · exact R.fldB rfl fo37_4 rfl (R.nil (fun a ha => ⟨_, ha.slots _ _ rfl, ⟨rfl, (h.wF 5 rfl f14)⟩, ha.defers, ha.size⟩))
                · rintro a2 v w ht hdf ⟨rfl, h⟩
                  exact ⟨hA.putS rfl ht hdf, Kn.put hK hA 13 rfl rfl rfl ht, h⟩
              · intro dn hn hcl haf a w
                rintro ⟨hA, hK, h⟩
                have d12 : dn 12 = true := (afterB_at haf 1 rfl rfl)
                have d13 : dn 13 = true := (afterB_at haf 0 rfl rfl)
                replace h := h.cF 5 rfl hn
                refine R.stepU (Φ := fun w => H W0 (fun _ => False) w [DS encGMover p0_0 c0_0 a0.Movers, DS encGScore p0_1 c0_1 a0.Scores, DS encGShot p0_2 c0_2 a0.Shots, DS encGPickup p0_3 c0_3 a0.Pickups, DS encGMover p1_0 c1_0 a1.Movers, DS encGScore p1_1 c1_1 a1.Scores, DS encGShot p1_2 c1_2 a1.Shots, DS encGPickup p1_3 c1_3 a1.Pickups] [ABox b110 27 #[.int .i64 a0.Frame, .slice p0_0 a0.Movers.length c0_0, .slice p0_1 a0.Scores.length c0_1, .slice p0_2 a0.Shots.length c0_2, .slice p0_3 a0.Pickups.length c0_3, .int .i64 a0.NextNo], ABox b112 27 #[.int .i64 a1.Frame, .slice p1_0 a1.Movers.length c1_0, .slice p1_1 a1.Scores.length c1_1, .slice p1_2 a1.Shots.length c1_2, .slice p1_3 a1.Pickups.length c1_3, .int .i64 a1.NextNo], ASl 37 encGCorrection p191 c192 s193.2, ABox b214 85 (encGMover.enc x210).toArray, ABox b216 85 (encGMover.enc x212).toArray, (bif true then ABox b219 37 #[.int .i64 s193.1, .int .i64 x210.At.X, .int .i64 x210.At.Y, .int .i64 x212.At.X, .int .i64 x212.At.Y, .int .i64 (W (x212.Health - x210.Health)), .int .i64 (W (x227.Points - x229.Points))] else ABox b219 37 #[.int .i64 s193.1, .int .i64 x210.At.X, .int .i64 x210.At.Y, .int .i64 x212.At.X, .int .i64 x212.At.Y, .int .i64 (W (x212.Health - x210.Health)), .int .i64 0])]) ?_ ((hA.add (hK.get 12 rfl d12)).add (hK.get 13 rfl d13)) rfl ?_
                · exact R.stB (ds := [.int .i64 (W (x227.Points - x229.Points))]) 5 h rfl sz3 rfl rfl rfl rfl rfl (fun w h => R.nil (fun a ha => ⟨(h.wT 5 rfl (b := true) rfl), ha.defers⟩))
                · rintro a2 w ht hdf h
                  exact ⟨hA.same ht hdf, Kn.none hK rfl ht, h⟩
              · rintro a w ⟨hA, hK, h⟩
                replace h : H W0 (fun _ => False) w [DS encGMover p0_0 c0_0 a0.Movers, DS encGScore p0_1 c0_1 a0.Scores, DS encGShot p0_2 c0_2 a0.Shots, DS encGPickup p0_3 c0_3 a0.Pickups, DS encGMover p1_0 c1_0 a1.Movers, DS encGScore p1_1 c1_1 a1.Scores, DS encGShot p1_2 c1_2 a1.Shots, DS encGPickup p1_3 c1_3 a1.Pickups] [ABox b110 27 #[.int .i64 a0.Frame, .slice p0_0 a0.Movers.length c0_0, .slice p0_1 a0.Scores.length c0_1, .slice p0_2 a0.Shots.length c0_2, .slice p0_3 a0.Pickups.length c0_3, .int .i64 a0.NextNo], ABox b112 27 #[.int .i64 a1.Frame, .slice p1_0 a1.Movers.length c1_0, .slice p1_1 a1.Scores.length c1_1, .slice p1_2 a1.Shots.length c1_2, .slice p1_3 a1.Pickups.length c1_3, .int .i64 a1.NextNo], ASl 37 encGCorrection p191 c192 s193.2, ABox b214 85 (encGMover.enc x210).toArray, ABox b216 85 (encGMover.enc x212).toArray, ABox b219 37 #[.int .i64 s193.1, .int .i64 x210.At.X, .int .i64 x210.At.Y, .int .i64 x212.At.X, .int .i64 x212.At.Y, .int .i64 (W (x212.Health - x210.Health)), .int .i64 (W (x227.Points - x229.Points))]] := h
                refine Go1.use (k222 _ _ ?_) hA
                obtain ⟨y232, F, E231⟩ := Option.bind_eq_some_iff.1 F
                refine T.cut (fun a w => Agr 107 [(2, .pointer (some ⟨b110, 0, none⟩)), (3, .pointer (some ⟨b112, 0, none⟩)), (6, .int .i64 (a0.Movers.length : Int)), (7, .slice p191 s193.2.length c192), (8, .int .i64 s193.1), (11, .pointer (some ⟨b219, 0, none⟩)), (101, .bool y232)] a ∧ H W0 (fun _ => False) w [DS encGMover p0_0 c0_0 a0.Movers, DS encGScore p0_1 c0_1 a0.Scores, DS encGShot p0_2 c0_2 a0.Shots, DS encGPickup p0_3 c0_3 a0.Pickups, DS encGMover p1_0 c1_0 a1.Movers, DS encGScore p1_1 c1_1 a1.Scores, DS encGShot p1_2 c1_2 a1.Shots, DS encGPickup p1_3 c1_3 a1.Pickups] [ABox b110 27 #[.int .i64 a0.Frame, .slice p0_0 a0.Movers.length c0_0, .slice p0_1 a0.Scores.length c0_1, .slice p0_2 a0.Shots.length c0_2, .slice p0_3 a0.Pickups.length c0_3, .int .i64 a0.NextNo], ABox b112 27 #[.int .i64 a1.Frame, .slice p1_0 a1.Movers.length c1_0, .slice p1_1 a1.Scores.length c1_1, .slice p1_2 a1.Shots.length c1_2, .slice p1_3 a1.Pickups.length c1_3, .int .i64 a1.NextNo], ASl 37 encGCorrection p191 c192 s193.2, ABox b219 37 #[.int .i64 s193.1, .int .i64 x210.At.X, .int .i64 x210.At.Y, .int .i64 x212.At.X, .int .i64 x212.At.Y, .int .i64 (W (x212.Health - x210.Health)), .int .i64 (W (x227.Points - x229.Points))]]) ?_ ?_
                · refine T.regionD (C := fun w => H W0 (fun _ => False) w [DS encGMover p0_0 c0_0 a0.Movers, DS encGScore p0_1 c0_1 a0.Scores, DS encGShot p0_2 c0_2 a0.Shots, DS encGPickup p0_3 c0_3 a0.Pickups, DS encGMover p1_0 c1_0 a1.Movers, DS encGScore p1_1 c1_1 a1.Scores, DS encGShot p1_2 c1_2 a1.Shots, DS encGPickup p1_3 c1_3 a1.Pickups] [ABox b110 27 #[.int .i64 a0.Frame, .slice p0_0 a0.Movers.length c0_0, .slice p0_1 a0.Scores.length c0_1, .slice p0_2 a0.Shots.length c0_2, .slice p0_3 a0.Pickups.length c0_3, .int .i64 a0.NextNo], ABox b112 27 #[.int .i64 a1.Frame, .slice p1_0 a1.Movers.length c1_0, .slice p1_1 a1.Scores.length c1_1, .slice p1_2 a1.Shots.length c1_2, .slice p1_3 a1.Pickups.length c1_3, .int .i64 a1.NextNo], ASl 37 encGCorrection p191 c192 s193.2, ABox b214 85 (encGMover.enc x210).toArray, ABox b216 85 (encGMover.enc x212).toArray, ABox b219 37 #[.int .i64 s193.1, .int .i64 x210.At.X, .int .i64 x210.At.Y, .int .i64 x212.At.X, .int .i64 x212.At.Y, .int .i64 (W (x212.Health - x210.Health)), .int .i64 (W (x227.Points - x229.Points))]]) mix (by kernel_rfl) (h.same (Fr.drewN w 1)) ?_
                  refine RD.val rfl rfl (fun w (h : H W0 (fun _ => False) w [DS encGMover p0_0 c0_0 a0.Movers, DS encGScore p0_1 c0_1 a0.Scores, DS encGShot p0_2 c0_2 a0.Shots, DS encGPickup p0_3 c0_3 a0.Pickups, DS encGMover p1_0 c1_0 a1.Movers, DS encGScore p1_1 c1_1 a1.Scores, DS encGShot p1_2 c1_2 a1.Shots, DS encGPickup p1_3 c1_3 a1.Pickups] [ABox b110 27 #[.int .i64 a0.Frame, .slice p0_0 a0.Movers.length c0_0, .slice p0_1 a0.Scores.length c0_1, .slice p0_2 a0.Shots.length c0_2, .slice p0_3 a0.Pickups.length c0_3, .int .i64 a0.NextNo], ABox b112 27 #[.int .i64 a1.Frame, .slice p1_0 a1.Movers.length c1_0, .slice p1_1 a1.Scores.length c1_1, .slice p1_2 a1.Shots.length c1_2, .slice p1_3 a1.Pickups.length c1_3, .int .i64 a1.NextNo], ASl 37 encGCorrection p191 c192 s193.2, ABox b214 85 (encGMover.enc x210).toArray, ABox b216 85 (encGMover.enc x212).toArray, ABox b219 37 #[.int .i64 s193.1, .int .i64 x210.At.X, .int .i64 x210.At.Y, .int .i64 x212.At.X, .int .i64 x212.At.Y, .int .i64 (W (x212.Health - x210.Health)), .int .i64 (W (x227.Points - x229.Points))]]) _ kk => R.fldB rfl fo85_0 rfl (R.nil kk)) (RD.val rfl rfl (fun w (h : H W0 (fun _ => False) w [DS encGMover p0_0 c0_0 a0.Movers, DS encGScore p0_1 c0_1 a0.Scores, DS encGShot p0_2 c0_2 a0.Shots, DS encGPickup p0_3 c0_3 a0.Pickups, DS encGMover p1_0 c1_0 a1.Movers, DS encGScore p1_1 c1_1 a1.Scores, DS encGShot p1_2 c1_2 a1.Shots, DS encGPickup p1_3 c1_3 a1.Pickups] [ABox b110 27 #[.int .i64 a0.Frame, .slice p0_0 a0.Movers.length c0_0, .slice p0_1 a0.Scores.length c0_1, .slice p0_2 a0.Shots.length c0_2, .slice p0_3 a0.Pickups.length c0_3, .int .i64 a0.NextNo], ABox b112 27 #[.int .i64 a1.Frame, .slice p1_0 a1.Movers.length c1_0, .slice p1_1 a1.Scores.length c1_1, .slice p1_2 a1.Shots.length c1_2, .slice p1_3 a1.Pickups.length c1_3, .int .i64 a1.NextNo], ASl 37 encGCorrection p191 c192 s193.2, ABox b214 85 (encGMover.enc x210).toArray, ABox b216 85 (encGMover.enc x212).toArray, ABox b219 37 #[.int .i64 s193.1, .int .i64 x210.At.X, .int .i64 x210.At.Y, .int .i64 x212.At.X, .int .i64 x212.At.Y, .int .i64 (W (x212.Health - x210.Health)), .int .i64 (W (x227.Points - x229.Points))]]) _ kk => R.ldN (cs := [.int .i64 x210.At.X, .int .i64 x210.At.Y]) rfl sh35 rfl rfl (h.boxN 3 rfl rfl) (R.nil kk)) (RD.val rfl rfl (fun w (h : H W0 (fun _ => False) w [DS encGMover p0_0 c0_0 a0.Movers, DS encGScore p0_1 c0_1 a0.Scores, DS encGShot p0_2 c0_2 a0.Shots, DS encGPickup p0_3 c0_3 a0.Pickups, DS encGMover p1_0 c1_0 a1.Movers, DS encGScore p1_1 c1_1 a1.Scores, DS encGShot p1_2 c1_2 a1.Shots, DS encGPickup p1_3 c1_3 a1.Pickups] [ABox b110 27 #[.int .i64 a0.Frame, .slice p0_0 a0.Movers.length c0_0, .slice p0_1 a0.Scores.length c0_1, .slice p0_2 a0.Shots.length c0_2, .slice p0_3 a0.Pickups.length c0_3, .int .i64 a0.NextNo], ABox b112 27 #[.int .i64 a1.Frame, .slice p1_0 a1.Movers.length c1_0, .slice p1_1 a1.Scores.length c1_1, .slice p1_2 a1.Shots.length c1_2, .slice p1_3 a1.Pickups.length c1_3, .int .i64 a1.NextNo], ASl 37 encGCorrection p191 c192 s193.2, ABox b214 85 (encGMover.enc x210).toArray, ABox b216 85 (encGMover.enc x212).toArray, ABox b219 37 #[.int .i64 s193.1, .int .i64 x210.At.X, .int .i64 x210.At.Y, .int .i64 x212.At.X, .int .i64 x212.At.Y, .int .i64 (W (x212.Health - x210.Health)), .int .i64 (W (x227.Points - x229.Points))]]) _ kk => R.fldB rfl fo85_0 rfl (R.nil kk)) (RD.val rfl rfl (fun w (h : H W0 (fun _ => False) w [DS encGMover p0_0 c0_0 a0.Movers, DS encGScore p0_1 c0_1 a0.Scores, DS encGShot p0_2 c0_2 a0.Shots, DS encGPickup p0_3 c0_3 a0.Pickups, DS encGMover p1_0 c1_0 a1.Movers, DS encGScore p1_1 c1_1 a1.Scores, DS encGShot p1_2 c1_2 a1.Shots, DS encGPickup p1_3 c1_3 a1.Pickups] [ABox b110 27 #[.int .i64 a0.Frame, .slice p0_0 a0.Movers.length c0_0, .slice p0_1 a0.Scores.length c0_1, .slice p0_2 a0.Shots.length c0_2, .slice p0_3 a0.Pickups.length c0_3, .int .i64 a0.NextNo], ABox b112 27 #[.int .i64 a1.Frame, .slice p1_0 a1.Movers.length c1_0, .slice p1_1 a1.Scores.length c1_1, .slice p1_2 a1.Shots.length c1_2, .slice p1_3 a1.Pickups.length c1_3, .int .i64 a1.NextNo], ASl 37 encGCorrection p191 c192 s193.2, ABox b214 85 (encGMover.enc x210).toArray, ABox b216 85 (encGMover.enc x212).toArray, ABox b219 37 #[.int .i64 s193.1, .int .i64 x210.At.X, .int .i64 x210.At.Y, .int .i64 x212.At.X, .int .i64 x212.At.Y, .int .i64 (W (x212.Health - x210.Health)), .int .i64 (W (x227.Points - x229.Points))]]) _ kk => R.ldN (cs := [.int .i64 x212.At.X, .int .i64 x212.At.Y]) rfl sh35 rfl rfl (h.boxN 4 rfl rfl) (R.nil kk)) (RD.val rfl rfl (fun w (h : H W0 (fun _ => False) w [DS encGMover p0_0 c0_0 a0.Movers, DS encGScore p0_1 c0_1 a0.Scores, DS encGShot p0_2 c0_2 a0.Shots, DS encGPickup p0_3 c0_3 a0.Pickups, DS encGMover p1_0 c1_0 a1.Movers, DS encGScore p1_1 c1_1 a1.Scores, DS encGShot p1_2 c1_2 a1.Shots, DS encGPickup p1_3 c1_3 a1.Pickups] [ABox b110 27 #[.int .i64 a0.Frame, .slice p0_0 a0.Movers.length c0_0, .slice p0_1 a0.Scores.length c0_1, .slice p0_2 a0.Shots.length c0_2, .slice p0_3 a0.Pickups.length c0_3, .int .i64 a0.NextNo], ABox b112 27 #[.int .i64 a1.Frame, .slice p1_0 a1.Movers.length c1_0, .slice p1_1 a1.Scores.length c1_1, .slice p1_2 a1.Shots.length c1_2, .slice p1_3 a1.Pickups.length c1_3, .int .i64 a1.NextNo], ASl 37 encGCorrection p191 c192 s193.2, ABox b214 85 (encGMover.enc x210).toArray, ABox b216 85 (encGMover.enc x212).toArray, ABox b219 37 #[.int .i64 s193.1, .int .i64 x210.At.X, .int .i64 x210.At.Y, .int .i64 x212.At.X, .int .i64 x212.At.Y, .int .i64 (W (x212.Health - x210.Health)), .int .i64 (W (x227.Points - x229.Points))]]) _ kk => R.neS rfl eg35 rfl rfl (eq35 _ _ _ _ ) (R.nil kk)) (RD.val rfl rfl (fun w (h : H W0 (fun _ => False) w [DS encGMover p0_0 c0_0 a0.Movers, DS encGScore p0_1 c0_1 a0.Scores, DS encGShot p0_2 c0_2 a0.Shots, DS encGPickup p0_3 c0_3 a0.Pickups, DS encGMover p1_0 c1_0 a1.Movers, DS encGScore p1_1 c1_1 a1.Scores, DS encGShot p1_2 c1_2 a1.Shots, DS encGPickup p1_3 c1_3 a1.Pickups] [ABox b110 27 #[.int .i64 a0.Frame, .slice p0_0 a0.Movers.length c0_0, .slice p0_1 a0.Scores.length c0_1, .slice p0_2 a0.Shots.length c0_2, .slice p0_3 a0.Pickups.length c0_3, .int .i64 a0.NextNo], ABox b112 27 #[.int .i64 a1.Frame, .slice p1_0 a1.Movers.length c1_0, .slice p1_1 a1.Scores.length c1_1, .slice p1_2 a1.Shots.length c1_2, .slice p1_3 a1.Pickups.length c1_3, .int .i64 a1.NextNo], ASl 37 encGCorrection p191 c192 s193.2, ABox b214 85 (encGMover.enc x210).toArray, ABox b216 85 (encGMover.enc x212).toArray, ABox b219 37 #[.int .i64 s193.1, .int .i64 x210.At.X, .int .i64 x210.At.Y, .int .i64 x212.At.X, .int .i64 x212.At.Y, .int .i64 (W (x212.Health - x210.Health)), .int .i64 (W (x227.Points - x229.Points))]]) _ kk => R.mv rfl rfl (R.nil kk)) (?_))))))
                  refine bsplit (!((x210.At.X == x212.At.X) && ((x210.At.Y == x212.At.Y) && true))) (fun c233 => ?_) (fun c233 => ?_)
                  · replace F := (ifT c233).symm.trans F
                    obtain rfl := Option.some.inj F
                    refine RD.not_ rfl rfl rfl c233 (RD.not_ rfl rfl rfl c233 (RD.not_ rfl rfl rfl c233 (RD.not_ rfl rfl rfl c233 (RD.not_ rfl rfl rfl c233 (RD.val rfl rfl (fun w (h : H W0 (fun _ => False) w [DS encGMover p0_0 c0_0 a0.Movers, DS encGScore p0_1 c0_1 a0.Scores, DS encGShot p0_2 c0_2 a0.Shots, DS encGPickup p0_3 c0_3 a0.Pickups, DS encGMover p1_0 c1_0 a1.Movers, DS encGScore p1_1 c1_1 a1.Scores, DS encGShot p1_2 c1_2 a1.Shots, DS encGPickup p1_3 c1_3 a1.Pickups] [ABox b110 27 #[.int .i64 a0.Frame, .slice p0_0 a0.Movers.length c0_0, .slice p0_1 a0.Scores.length c0_1, .slice p0_2 a0.Shots.length c0_2, .slice p0_3 a0.Pickups.length c0_3, .int .i64 a0.NextNo], ABox b112 27 #[.int .i64 a1.Frame, .slice p1_0 a1.Movers.length c1_0, .slice p1_1 a1.Scores.length c1_1, .slice p1_2 a1.Shots.length c1_2, .slice p1_3 a1.Pickups.length c1_3, .int .i64 a1.NextNo], ASl 37 encGCorrection p191 c192 s193.2, ABox b214 85 (encGMover.enc x210).toArray, ABox b216 85 (encGMover.enc x212).toArray, ABox b219 37 #[.int .i64 s193.1, .int .i64 x210.At.X, .int .i64 x210.At.Y, .int .i64 x212.At.X, .int .i64 x212.At.Y, .int .i64 (W (x212.Health - x210.Health)), .int .i64 (W (x227.Points - x229.Points))]]) _ kk => R.pT rfl rfl c233 rfl (R.nil kk)) (RD.val rfl rfl (fun w (h : H W0 (fun _ => False) w [DS encGMover p0_0 c0_0 a0.Movers, DS encGScore p0_1 c0_1 a0.Scores, DS encGShot p0_2 c0_2 a0.Shots, DS encGPickup p0_3 c0_3 a0.Pickups, DS encGMover p1_0 c1_0 a1.Movers, DS encGScore p1_1 c1_1 a1.Scores, DS encGShot p1_2 c1_2 a1.Shots, DS encGPickup p1_3 c1_3 a1.Pickups] [ABox b110 27 #[.int .i64 a0.Frame, .slice p0_0 a0.Movers.length c0_0, .slice p0_1 a0.Scores.length c0_1, .slice p0_2 a0.Shots.length c0_2, .slice p0_3 a0.Pickups.length c0_3, .int .i64 a0.NextNo], ABox b112 27 #[.int .i64 a1.Frame, .slice p1_0 a1.Movers.length c1_0, .slice p1_1 a1.Scores.length c1_1, .slice p1_2 a1.Shots.length c1_2, .slice p1_3 a1.Pickups.length c1_3, .int .i64 a1.NextNo], ASl 37 encGCorrection p191 c192 s193.2, ABox b214 85 (encGMover.enc x210).toArray, ABox b216 85 (encGMover.enc x212).toArray, ABox b219 37 #[.int .i64 s193.1, .int .i64 x210.At.X, .int .i64 x210.At.Y, .int .i64 x212.At.X, .int .i64 x212.At.Y, .int .i64 (W (x212.Health - x210.Health)), .int .i64 (W (x227.Points - x229.Points))]]) _ kk => R.mv rfl rfl (R.nil kk)) (RD.not_ rfl rfl rfl rfl (RD.not_ rfl rfl rfl rfl (RD.not_ rfl rfl rfl rfl (RD.not_ rfl rfl rfl rfl (RD.not_ rfl rfl rfl rfl (RD.not_ rfl rfl rfl rfl (RD.not_ rfl rfl rfl rfl (RD.not_ rfl rfl rfl rfl (RD.not_ rfl rfl rfl rfl (RD.not_ rfl rfl rfl rfl (RD.not_ rfl rfl rfl rfl (RD.not_ rfl rfl rfl rfl (RD.not_ rfl rfl rfl rfl (RD.val rfl rfl (fun w (h : H W0 (fun _ => False) w [DS encGMover p0_0 c0_0 a0.Movers, DS encGScore p0_1 c0_1 a0.Scores, DS encGShot p0_2 c0_2 a0.Shots, DS encGPickup p0_3 c0_3 a0.Pickups, DS encGMover p1_0 c1_0 a1.Movers, DS encGScore p1_1 c1_1 a1.Scores, DS encGShot p1_2 c1_2 a1.Shots, DS encGPickup p1_3 c1_3 a1.Pickups] [ABox b110 27 #[.int .i64 a0.Frame, .slice p0_0 a0.Movers.length c0_0, .slice p0_1 a0.Scores.length c0_1, .slice p0_2 a0.Shots.length c0_2, .slice p0_3 a0.Pickups.length c0_3, .int .i64 a0.NextNo], ABox b112 27 #[.int .i64 a1.Frame, .slice p1_0 a1.Movers.length c1_0, .slice p1_1 a1.Scores.length c1_1, .slice p1_2 a1.Shots.length c1_2, .slice p1_3 a1.Pickups.length c1_3, .int .i64 a1.NextNo], ASl 37 encGCorrection p191 c192 s193.2, ABox b214 85 (encGMover.enc x210).toArray, ABox b216 85 (encGMover.enc x212).toArray, ABox b219 37 #[.int .i64 s193.1, .int .i64 x210.At.X, .int .i64 x210.At.Y, .int .i64 x212.At.X, .int .i64 x212.At.Y, .int .i64 (W (x212.Health - x210.Health)), .int .i64 (W (x227.Points - x229.Points))]]) _ kk => R.pT rfl rfl rfl rfl (R.nil kk)) (RD.nil (fun w (h : H W0 (fun _ => False) w [DS encGMover p0_0 c0_0 a0.Movers, DS encGScore p0_1 c0_1 a0.Scores, DS encGShot p0_2 c0_2 a0.Shots, DS encGPickup p0_3 c0_3 a0.Pickups, DS encGMover p1_0 c1_0 a1.Movers, DS encGScore p1_1 c1_1 a1.Scores, DS encGShot p1_2 c1_2 a1.Shots, DS encGPickup p1_3 c1_3 a1.Pickups] [ABox b110 27 #[.int .i64 a0.Frame, .slice p0_0 a0.Movers.length c0_0, .slice p0_1 a0.Scores.length c0_1, .slice p0_2 a0.Shots.length c0_2, .slice p0_3 a0.Pickups.length c0_3, .int .i64 a0.NextNo], ABox b112 27 #[.int .i64 a1.Frame, .slice p1_0 a1.Movers.length c1_0, .slice p1_1 a1.Scores.length c1_1, .slice p1_2 a1.Shots.length c1_2, .slice p1_3 a1.Pickups.length c1_3, .int .i64 a1.NextNo], ASl 37 encGCorrection p191 c192 s193.2, ABox b214 85 (encGMover.enc x210).toArray, ABox b216 85 (encGMover.enc x212).toArray, ABox b219 37 #[.int .i64 s193.1, .int .i64 x210.At.X, .int .i64 x210.At.Y, .int .i64 x212.At.X, .int .i64 x212.At.Y, .int .i64 (W (x212.Health - x210.Health)), .int .i64 (W (x227.Points - x229.Points))]]) => fun a ha => ⟨ha.sub ⟨rfl, rfl, rfl, rfl, rfl, rfl, rfl, trivial⟩, (h.sel [0, 1, 2, 5] rfl (by decide))⟩))))))))))))))))))))))
                  · replace F := (ifF c233).symm.trans F
                    refine RD.iff rfl rfl c233 (RD.val rfl rfl (fun w (h : H W0 (fun _ => False) w [DS encGMover p0_0 c0_0 a0.Movers, DS encGScore p0_1 c0_1 a0.Scores, DS encGShot p0_2 c0_2 a0.Shots, DS encGPickup p0_3 c0_3 a0.Pickups, DS encGMover p1_0 c1_0 a1.Movers, DS encGScore p1_1 c1_1 a1.Scores, DS encGShot p1_2 c1_2 a1.Shots, DS encGPickup p1_3 c1_3 a1.Pickups] [ABox b110 27 #[.int .i64 a0.Frame, .slice p0_0 a0.Movers.length c0_0, .slice p0_1 a0.Scores.length c0_1, .slice p0_2 a0.Shots.length c0_2, .slice p0_3 a0.Pickups.length c0_3, .int .i64 a0.NextNo], ABox b112 27 #[.int .i64 a1.Frame, .slice p1_0 a1.Movers.length c1_0, .slice p1_1 a1.Scores.length c1_1, .slice p1_2 a1.Shots.length c1_2, .slice p1_3 a1.Pickups.length c1_3, .int .i64 a1.NextNo], ASl 37 encGCorrection p191 c192 s193.2, ABox b214 85 (encGMover.enc x210).toArray, ABox b216 85 (encGMover.enc x212).toArray, ABox b219 37 #[.int .i64 s193.1, .int .i64 x210.At.X, .int .i64 x210.At.Y, .int .i64 x212.At.X, .int .i64 x212.At.Y, .int .i64 (W (x212.Health - x210.Health)), .int .i64 (W (x227.Points - x229.Points))]]) _ kk => R.fldB rfl fo85_4 rfl (R.nil kk)) (RD.iff rfl rfl c233 (RD.val rfl rfl (fun w (h : H W0 (fun _ => False) w [DS encGMover p0_0 c0_0 a0.Movers, DS encGScore p0_1 c0_1 a0.Scores, DS encGShot p0_2 c0_2 a0.Shots, DS encGPickup p0_3 c0_3 a0.Pickups, DS encGMover p1_0 c1_0 a1.Movers, DS encGScore p1_1 c1_1 a1.Scores, DS encGShot p1_2 c1_2 a1.Shots, DS encGPickup p1_3 c1_3 a1.Pickups] [ABox b110 27 #[.int .i64 a0.Frame, .slice p0_0 a0.Movers.length c0_0, .slice p0_1 a0.Scores.length c0_1, .slice p0_2 a0.Shots.length c0_2, .slice p0_3 a0.Pickups.length c0_3, .int .i64 a0.NextNo], ABox b112 27 #[.int .i64 a1.Frame, .slice p1_0 a1.Movers.length c1_0, .slice p1_1 a1.Scores.length c1_1, .slice p1_2 a1.Shots.length c1_2, .slice p1_3 a1.Pickups.length c1_3, .int .i64 a1.NextNo], ASl 37 encGCorrection p191 c192 s193.2, ABox b214 85 (encGMover.enc x210).toArray, ABox b216 85 (encGMover.enc x212).toArray, ABox b219 37 #[.int .i64 s193.1, .int .i64 x210.At.X, .int .i64 x210.At.Y, .int .i64 x212.At.X, .int .i64 x212.At.Y, .int .i64 (W (x212.Health - x210.Health)), .int .i64 (W (x227.Points - x229.Points))]]) _ kk => R.ld rfl sh3 rfl (h.box 3 7 rfl rfl) (R.nil kk)) (RD.iff rfl rfl c233 (RD.val rfl rfl (fun w (h : H W0 (fun _ => False) w [DS encGMover p0_0 c0_0 a0.Movers, DS encGScore p0_1 c0_1 a0.Scores, DS encGShot p0_2 c0_2 a0.Shots, DS encGPickup p0_3 c0_3 a0.Pickups, DS encGMover p1_0 c1_0 a1.Movers, DS encGScore p1_1 c1_1 a1.Scores, DS encGShot p1_2 c1_2 a1.Shots, DS encGPickup p1_3 c1_3 a1.Pickups] [ABox b110 27 #[.int .i64 a0.Frame, .slice p0_0 a0.Movers.length c0_0, .slice p0_1 a0.Scores.length c0_1, .slice p0_2 a0.Shots.length c0_2, .slice p0_3 a0.Pickups.length c0_3, .int .i64 a0.NextNo], ABox b112 27 #[.int .i64 a1.Frame, .slice p1_0 a1.Movers.length c1_0, .slice p1_1 a1.Scores.length c1_1, .slice p1_2 a1.Shots.length c1_2, .slice p1_3 a1.Pickups.length c1_3, .int .i64 a1.NextNo], ASl 37 encGCorrection p191 c192 s193.2, ABox b214 85 (encGMover.enc x210).toArray, ABox b216 85 (encGMover.enc x212).toArray, ABox b219 37 #[.int .i64 s193.1, .int .i64 x210.At.X, .int .i64 x210.At.Y, .int .i64 x212.At.X, .int .i64 x212.At.Y, .int .i64 (W (x212.Health - x210.Health)), .int .i64 (W (x227.Points - x229.Points))]]) _ kk => R.fldB rfl fo85_4 rfl (R.nil kk)) (RD.iff rfl rfl c233 (RD.val rfl rfl (fun w (h : H W0 (fun _ => False) w [DS encGMover p0_0 c0_0 a0.Movers, DS encGScore p0_1 c0_1 a0.Scores, DS encGShot p0_2 c0_2 a0.Shots, DS encGPickup p0_3 c0_3 a0.Pickups, DS encGMover p1_0 c1_0 a1.Movers, DS encGScore p1_1 c1_1 a1.Scores, DS encGShot p1_2 c1_2 a1.Shots, DS encGPickup p1_3 c1_3 a1.Pickups] [ABox b110 27 #[.int .i64 a0.Frame, .slice p0_0 a0.Movers.length c0_0, .slice p0_1 a0.Scores.length c0_1, .slice p0_2 a0.Shots.length c0_2, .slice p0_3 a0.Pickups.length c0_3, .int .i64 a0.NextNo], ABox b112 27 #[.int .i64 a1.Frame, .slice p1_0 a1.Movers.length c1_0, .slice p1_1 a1.Scores.length c1_1, .slice p1_2 a1.Shots.length c1_2, .slice p1_3 a1.Pickups.length c1_3, .int .i64 a1.NextNo], ASl 37 encGCorrection p191 c192 s193.2, ABox b214 85 (encGMover.enc x210).toArray, ABox b216 85 (encGMover.enc x212).toArray, ABox b219 37 #[.int .i64 s193.1, .int .i64 x210.At.X, .int .i64 x210.At.Y, .int .i64 x212.At.X, .int .i64 x212.At.Y, .int .i64 (W (x212.Health - x210.Health)), .int .i64 (W (x227.Points - x229.Points))]]) _ kk => R.ld rfl sh3 rfl (h.box 4 7 rfl rfl) (R.nil kk)) (RD.iff rfl rfl c233 (RD.val rfl rfl (fun w (h : H W0 (fun _ => False) w [DS encGMover p0_0 c0_0 a0.Movers, DS encGScore p0_1 c0_1 a0.Scores, DS encGShot p0_2 c0_2 a0.Shots, DS encGPickup p0_3 c0_3 a0.Pickups, DS encGMover p1_0 c1_0 a1.Movers, DS encGScore p1_1 c1_1 a1.Scores, DS encGShot p1_2 c1_2 a1.Shots, DS encGPickup p1_3 c1_3 a1.Pickups] [ABox b110 27 #[.int .i64 a0.Frame, .slice p0_0 a0.Movers.length c0_0, .slice p0_1 a0.Scores.length c0_1, .slice p0_2 a0.Shots.length c0_2, .slice p0_3 a0.Pickups.length c0_3, .int .i64 a0.NextNo], ABox b112 27 #[.int .i64 a1.Frame, .slice p1_0 a1.Movers.length c1_0, .slice p1_1 a1.Scores.length c1_1, .slice p1_2 a1.Shots.length c1_2, .slice p1_3 a1.Pickups.length c1_3, .int .i64 a1.NextNo], ASl 37 encGCorrection p191 c192 s193.2, ABox b214 85 (encGMover.enc x210).toArray, ABox b216 85 (encGMover.enc x212).toArray, ABox b219 37 #[.int .i64 s193.1, .int .i64 x210.At.X, .int .i64 x210.At.Y, .int .i64 x212.At.X, .int .i64 x212.At.Y, .int .i64 (W (x212.Health - x210.Health)), .int .i64 (W (x227.Points - x229.Points))]]) _ kk => R.ib rfl rfl rfl rfl (R.nil kk)) (RD.val rfl rfl (fun w (h : H W0 (fun _ => False) w [DS encGMover p0_0 c0_0 a0.Movers, DS encGScore p0_1 c0_1 a0.Scores, DS encGShot p0_2 c0_2 a0.Shots, DS encGPickup p0_3 c0_3 a0.Pickups, DS encGMover p1_0 c1_0 a1.Movers, DS encGScore p1_1 c1_1 a1.Scores, DS encGShot p1_2 c1_2 a1.Shots, DS encGPickup p1_3 c1_3 a1.Pickups] [ABox b110 27 #[.int .i64 a0.Frame, .slice p0_0 a0.Movers.length c0_0, .slice p0_1 a0.Scores.length c0_1, .slice p0_2 a0.Shots.length c0_2, .slice p0_3 a0.Pickups.length c0_3, .int .i64 a0.NextNo], ABox b112 27 #[.int .i64 a1.Frame, .slice p1_0 a1.Movers.length c1_0, .slice p1_1 a1.Scores.length c1_1, .slice p1_2 a1.Shots.length c1_2, .slice p1_3 a1.Pickups.length c1_3, .int .i64 a1.NextNo], ASl 37 encGCorrection p191 c192 s193.2, ABox b214 85 (encGMover.enc x210).toArray, ABox b216 85 (encGMover.enc x212).toArray, ABox b219 37 #[.int .i64 s193.1, .int .i64 x210.At.X, .int .i64 x210.At.Y, .int .i64 x212.At.X, .int .i64 x212.At.Y, .int .i64 (W (x212.Health - x210.Health)), .int .i64 (W (x227.Points - x229.Points))]]) _ kk => R.pF rfl rfl c233 rfl (R.nil kk)) (RD.val rfl rfl (fun w (h : H W0 (fun _ => False) w [DS encGMover p0_0 c0_0 a0.Movers, DS encGScore p0_1 c0_1 a0.Scores, DS encGShot p0_2 c0_2 a0.Shots, DS encGPickup p0_3 c0_3 a0.Pickups, DS encGMover p1_0 c1_0 a1.Movers, DS encGScore p1_1 c1_1 a1.Scores, DS encGShot p1_2 c1_2 a1.Shots, DS encGPickup p1_3 c1_3 a1.Pickups] [ABox b110 27 #[.int .i64 a0.Frame, .slice p0_0 a0.Movers.length c0_0, .slice p0_1 a0.Scores.length c0_1, .slice p0_2 a0.Shots.length c0_2, .slice p0_3 a0.Pickups.length c0_3, .int .i64 a0.NextNo], ABox b112 27 #[.int .i64 a1.Frame, .slice p1_0 a1.Movers.length c1_0, .slice p1_1 a1.Scores.length c1_1, .slice p1_2 a1.Shots.length c1_2, .slice p1_3 a1.Pickups.length c1_3, .int .i64 a1.NextNo], ASl 37 encGCorrection p191 c192 s193.2, ABox b214 85 (encGMover.enc x210).toArray, ABox b216 85 (encGMover.enc x212).toArray, ABox b219 37 #[.int .i64 s193.1, .int .i64 x210.At.X, .int .i64 x210.At.Y, .int .i64 x212.At.X, .int .i64 x212.At.Y, .int .i64 (W (x212.Health - x210.Health)), .int .i64 (W (x227.Points - x229.Points))]]) _ kk => R.mv rfl rfl (R.nil kk)) (?_))))))))))))
                    refine bsplit (x210.Health != x212.Health) (fun c234 => ?_) (fun c234 => ?_)
                    · replace F := (ifT c234).symm.trans F
                      obtain rfl := Option.some.inj F
                      refine RD.not_ rfl rfl rfl c234 (RD.not_ rfl rfl rfl c234 (RD.not_ rfl rfl rfl c234 (RD.not_ rfl rfl rfl c234 (RD.not_ rfl rfl rfl c234 (RD.not_ rfl rfl rfl c234 (RD.not_ rfl rfl rfl c234 (RD.not_ rfl rfl rfl c234 (RD.not_ rfl rfl rfl c234 (RD.not_ rfl rfl rfl c234 (RD.not_ rfl rfl rfl c234 (RD.not_ rfl rfl rfl c234 (RD.not_ rfl rfl rfl c234 (RD.val rfl rfl (fun w (h : H W0 (fun _ => False) w [DS encGMover p0_0 c0_0 a0.Movers, DS encGScore p0_1 c0_1 a0.Scores, DS encGShot p0_2 c0_2 a0.Shots, DS encGPickup p0_3 c0_3 a0.Pickups, DS encGMover p1_0 c1_0 a1.Movers, DS encGScore p1_1 c1_1 a1.Scores, DS encGShot p1_2 c1_2 a1.Shots, DS encGPickup p1_3 c1_3 a1.Pickups] [ABox b110 27 #[.int .i64 a0.Frame, .slice p0_0 a0.Movers.length c0_0, .slice p0_1 a0.Scores.length c0_1, .slice p0_2 a0.Shots.length c0_2, .slice p0_3 a0.Pickups.length c0_3, .int .i64 a0.NextNo], ABox b112 27 #[.int .i64 a1.Frame, .slice p1_0 a1.Movers.length c1_0, .slice p1_1 a1.Scores.length c1_1, .slice p1_2 a1.Shots.length c1_2, .slice p1_3 a1.Pickups.length c1_3, .int .i64 a1.NextNo], ASl 37 encGCorrection p191 c192 s193.2, ABox b214 85 (encGMover.enc x210).toArray, ABox b216 85 (encGMover.enc x212).toArray, ABox b219 37 #[.int .i64 s193.1, .int .i64 x210.At.X, .int .i64 x210.At.Y, .int .i64 x212.At.X, .int .i64 x212.At.Y, .int .i64 (W (x212.Health - x210.Health)), .int .i64 (W (x227.Points - x229.Points))]]) _ kk => R.pT rfl rfl c234 rfl (R.nil kk)) (RD.nil (fun w (h : H W0 (fun _ => False) w [DS encGMover p0_0 c0_0 a0.Movers, DS encGScore p0_1 c0_1 a0.Scores, DS encGShot p0_2 c0_2 a0.Shots, DS encGPickup p0_3 c0_3 a0.Pickups, DS encGMover p1_0 c1_0 a1.Movers, DS encGScore p1_1 c1_1 a1.Scores, DS encGShot p1_2 c1_2 a1.Shots, DS encGPickup p1_3 c1_3 a1.Pickups] [ABox b110 27 #[.int .i64 a0.Frame, .slice p0_0 a0.Movers.length c0_0, .slice p0_1 a0.Scores.length c0_1, .slice p0_2 a0.Shots.length c0_2, .slice p0_3 a0.Pickups.length c0_3, .int .i64 a0.NextNo], ABox b112 27 #[.int .i64 a1.Frame, .slice p1_0 a1.Movers.length c1_0, .slice p1_1 a1.Scores.length c1_1, .slice p1_2 a1.Shots.length c1_2, .slice p1_3 a1.Pickups.length c1_3, .int .i64 a1.NextNo], ASl 37 encGCorrection p191 c192 s193.2, ABox b214 85 (encGMover.enc x210).toArray, ABox b216 85 (encGMover.enc x212).toArray, ABox b219 37 #[.int .i64 s193.1, .int .i64 x210.At.X, .int .i64 x210.At.Y, .int .i64 x212.At.X, .int .i64 x212.At.Y, .int .i64 (W (x212.Health - x210.Health)), .int .i64 (W (x227.Points - x229.Points))]]) => fun a ha => ⟨ha.sub ⟨rfl, rfl, rfl, rfl, rfl, rfl, rfl, trivial⟩, (h.sel [0, 1, 2, 5] rfl (by decide))⟩)))))))))))))))
                    · replace F := (ifF c234).symm.trans F
                      obtain ⟨x235, e236, F⟩ := Option.bind_eq_some_iff.1 F
                      obtain ⟨x237, e238, F⟩ := Option.bind_eq_some_iff.1 F
                      obtain rfl := Option.some.inj F
                      refine RD.iff rfl rfl c234 (RD.val rfl rfl (fun w (h : H W0 (fun _ => False) w [DS encGMover p0_0 c0_0 a0.Movers, DS encGScore p0_1 c0_1 a0.Scores, DS encGShot p0_2 c0_2 a0.Shots, DS encGPickup p0_3 c0_3 a0.Pickups, DS encGMover p1_0 c1_0 a1.Movers, DS encGScore p1_1 c1_1 a1.Scores, DS encGShot p1_2 c1_2 a1.Shots, DS encGPickup p1_3 c1_3 a1.Pickups] [ABox b110 27 #[.int .i64 a0.Frame, .slice p0_0 a0.Movers.length c0_0, .slice p0_1 a0.Scores.length c0_1, .slice p0_2 a0.Shots.length c0_2, .slice p0_3 a0.Pickups.length c0_3, .int .i64 a0.NextNo], ABox b112 27 #[.int .i64 a1.Frame, .slice p1_0 a1.Movers.length c1_0, .slice p1_1 a1.Scores.length c1_1, .slice p1_2 a1.Shots.length c1_2, .slice p1_3 a1.Pickups.length c1_3, .int .i64 a1.NextNo], ASl 37 encGCorrection p191 c192 s193.2, ABox b214 85 (encGMover.enc x210).toArray, ABox b216 85 (encGMover.enc x212).toArray, ABox b219 37 #[.int .i64 s193.1, .int .i64 x210.At.X, .int .i64 x210.At.Y, .int .i64 x212.At.X, .int .i64 x212.At.Y, .int .i64 (W (x212.Health - x210.Health)), .int .i64 (W (x227.Points - x229.Points))]]) _ kk => R.fldB rfl fo27_2 rfl (R.nil kk)) (RD.iff rfl rfl c234 (RD.val rfl rfl (fun w (h : H W0 (fun _ => False) w [DS encGMover p0_0 c0_0 a0.Movers, DS encGScore p0_1 c0_1 a0.Scores, DS encGShot p0_2 c0_2 a0.Shots, DS encGPickup p0_3 c0_3 a0.Pickups, DS encGMover p1_0 c1_0 a1.Movers, DS encGScore p1_1 c1_1 a1.Scores, DS encGShot p1_2 c1_2 a1.Shots, DS encGPickup p1_3 c1_3 a1.Pickups] [ABox b110 27 #[.int .i64 a0.Frame, .slice p0_0 a0.Movers.length c0_0, .slice p0_1 a0.Scores.length c0_1, .slice p0_2 a0.Shots.length c0_2, .slice p0_3 a0.Pickups.length c0_3, .int .i64 a0.NextNo], ABox b112 27 #[.int .i64 a1.Frame, .slice p1_0 a1.Movers.length c1_0, .slice p1_1 a1.Scores.length c1_1, .slice p1_2 a1.Shots.length c1_2, .slice p1_3 a1.Pickups.length c1_3, .int .i64 a1.NextNo], ASl 37 encGCorrection p191 c192 s193.2, ABox b214 85 (encGMover.enc x210).toArray, ABox b216 85 (encGMover.enc x212).toArray, ABox b219 37 #[.int .i64 s193.1, .int .i64 x210.At.X, .int .i64 x210.At.Y, .int .i64 x212.At.X, .int .i64 x212.At.Y, .int .i64 (W (x212.Health - x210.Health)), .int .i64 (W (x227.Points - x229.Points))]]) _ kk => R.ld rfl sh23 rfl (h.box 0 2 rfl rfl) (R.nil kk)) (RD.iff rfl rfl c234 (RD.val rfl rfl (fun w (h : H W0 (fun _ => False) w [DS encGMover p0_0 c0_0 a0.Movers, DS encGScore p0_1 c0_1 a0.Scores, DS encGShot p0_2 c0_2 a0.Shots, DS encGPickup p0_3 c0_3 a0.Pickups, DS encGMover p1_0 c1_0 a1.Movers, DS encGScore p1_1 c1_1 a1.Scores, DS encGShot p1_2 c1_2 a1.Shots, DS encGPickup p1_3 c1_3 a1.Pickups] [ABox b110 27 #[.int .i64 a0.Frame, .slice p0_0 a0.Movers.length c0_0, .slice p0_1 a0.Scores.length c0_1, .slice p0_2 a0.Shots.length c0_2, .slice p0_3 a0.Pickups.length c0_3, .int .i64 a0.NextNo], ABox b112 27 #[.int .i64 a1.Frame, .slice p1_0 a1.Movers.length c1_0, .slice p1_1 a1.Scores.length c1_1, .slice p1_2 a1.Shots.length c1_2, .slice p1_3 a1.Pickups.length c1_3, .int .i64 a1.NextNo], ASl 37 encGCorrection p191 c192 s193.2, ABox b214 85 (encGMover.enc x210).toArray, ABox b216 85 (encGMover.enc x212).toArray, ABox b219 37 #[.int .i64 s193.1, .int .i64 x210.At.X, .int .i64 x210.At.Y, .int .i64 x212.At.X, .int .i64 x212.At.Y, .int .i64 (W (x212.Health - x210.Health)), .int .i64 (W (x227.Points - x229.Points))]]) _ kk => R.mv rfl rfl (R.nil kk)) (RD.iff rfl rfl c234 (RD.val rfl rfl (fun w (h : H W0 (fun _ => False) w [DS encGMover p0_0 c0_0 a0.Movers, DS encGScore p0_1 c0_1 a0.Scores, DS encGShot p0_2 c0_2 a0.Shots, DS encGPickup p0_3 c0_3 a0.Pickups, DS encGMover p1_0 c1_0 a1.Movers, DS encGScore p1_1 c1_1 a1.Scores, DS encGShot p1_2 c1_2 a1.Shots, DS encGPickup p1_3 c1_3 a1.Pickups] [ABox b110 27 #[.int .i64 a0.Frame, .slice p0_0 a0.Movers.length c0_0, .slice p0_1 a0.Scores.length c0_1, .slice p0_2 a0.Shots.length c0_2, .slice p0_3 a0.Pickups.length c0_3, .int .i64 a0.NextNo], ABox b112 27 #[.int .i64 a1.Frame, .slice p1_0 a1.Movers.length c1_0, .slice p1_1 a1.Scores.length c1_1, .slice p1_2 a1.Shots.length c1_2, .slice p1_3 a1.Pickups.length c1_3, .int .i64 a1.NextNo], ASl 37 encGCorrection p191 c192 s193.2, ABox b214 85 (encGMover.enc x210).toArray, ABox b216 85 (encGMover.enc x212).toArray, ABox b219 37 #[.int .i64 s193.1, .int .i64 x210.At.X, .int .i64 x210.At.Y, .int .i64 x212.At.X, .int .i64 x212.At.Y, .int .i64 (W (x212.Health - x210.Health)), .int .i64 (W (x227.Points - x229.Points))]]) _ kk => R.ixS rfl ss23 rfl rfl (h.rS 1 rfl) e236 (R.nil kk)) (RD.iff rfl rfl c234 (RD.val rfl rfl (fun w (h : H W0 (fun _ => False) w [DS encGMover p0_0 c0_0 a0.Movers, DS encGScore p0_1 c0_1 a0.Scores, DS encGShot p0_2 c0_2 a0.Shots, DS encGPickup p0_3 c0_3 a0.Pickups, DS encGMover p1_0 c1_0 a1.Movers, DS encGScore p1_1 c1_1 a1.Scores, DS encGShot p1_2 c1_2 a1.Shots, DS encGPickup p1_3 c1_3 a1.Pickups] [ABox b110 27 #[.int .i64 a0.Frame, .slice p0_0 a0.Movers.length c0_0, .slice p0_1 a0.Scores.length c0_1, .slice p0_2 a0.Shots.length c0_2, .slice p0_3 a0.Pickups.length c0_3, .int .i64 a0.NextNo], ABox b112 27 #[.int .i64 a1.Frame, .slice p1_0 a1.Movers.length c1_0, .slice p1_1 a1.Scores.length c1_1, .slice p1_2 a1.Shots.length c1_2, .slice p1_3 a1.Pickups.length c1_3, .int .i64 a1.NextNo], ASl 37 encGCorrection p191 c192 s193.2, ABox b214 85 (encGMover.enc x210).toArray, ABox b216 85 (encGMover.enc x212).toArray, ABox b219 37 #[.int .i64 s193.1, .int .i64 x210.At.X, .int .i64 x210.At.Y, .int .i64 x212.At.X, .int .i64 x212.At.Y, .int .i64 (W (x212.Health - x210.Health)), .int .i64 (W (x227.Points - x229.Points))]]) _ kk => R.fldE rfl fo87_0 rfl (R.nil kk)) (RD.iff rfl rfl c234 (RD.val rfl rfl (fun w (h : H W0 (fun _ => False) w [DS encGMover p0_0 c0_0 a0.Movers, DS encGScore p0_1 c0_1 a0.Scores, DS encGShot p0_2 c0_2 a0.Shots, DS encGPickup p0_3 c0_3 a0.Pickups, DS encGMover p1_0 c1_0 a1.Movers, DS encGScore p1_1 c1_1 a1.Scores, DS encGShot p1_2 c1_2 a1.Shots, DS encGPickup p1_3 c1_3 a1.Pickups] [ABox b110 27 #[.int .i64 a0.Frame, .slice p0_0 a0.Movers.length c0_0, .slice p0_1 a0.Scores.length c0_1, .slice p0_2 a0.Shots.length c0_2, .slice p0_3 a0.Pickups.length c0_3, .int .i64 a0.NextNo], ABox b112 27 #[.int .i64 a1.Frame, .slice p1_0 a1.Movers.length c1_0, .slice p1_1 a1.Scores.length c1_1, .slice p1_2 a1.Shots.length c1_2, .slice p1_3 a1.Pickups.length c1_3, .int .i64 a1.NextNo], ASl 37 encGCorrection p191 c192 s193.2, ABox b214 85 (encGMover.enc x210).toArray, ABox b216 85 (encGMover.enc x212).toArray, ABox b219 37 #[.int .i64 s193.1, .int .i64 x210.At.X, .int .i64 x210.At.Y, .int .i64 x212.At.X, .int .i64 x212.At.Y, .int .i64 (W (x212.Health - x210.Health)), .int .i64 (W (x227.Points - x229.Points))]]) _ kk => R.ld rfl sh3 rfl (RdS.cell (h.rS 1 rfl) e236 0 rfl) (R.nil kk)) (RD.iff rfl rfl c234 (RD.val rfl rfl (fun w (h : H W0 (fun _ => False) w [DS encGMover p0_0 c0_0 a0.Movers, DS encGScore p0_1 c0_1 a0.Scores, DS encGShot p0_2 c0_2 a0.Shots, DS encGPickup p0_3 c0_3 a0.Pickups, DS encGMover p1_0 c1_0 a1.Movers, DS encGScore p1_1 c1_1 a1.Scores, DS encGShot p1_2 c1_2 a1.Shots, DS encGPickup p1_3 c1_3 a1.Pickups] [ABox b110 27 #[.int .i64 a0.Frame, .slice p0_0 a0.Movers.length c0_0, .slice p0_1 a0.Scores.length c0_1, .slice p0_2 a0.Shots.length c0_2, .slice p0_3 a0.Pickups.length c0_3, .int .i64 a0.NextNo], ABox b112 27 #[.int .i64 a1.Frame, .slice p1_0 a1.Movers.length c1_0, .slice p1_1 a1.Scores.length c1_1, .slice p1_2 a1.Shots.length c1_2, .slice p1_3 a1.Pickups.length c1_3, .int .i64 a1.NextNo], ASl 37 encGCorrection p191 c192 s193.2, ABox b214 85 (encGMover.enc x210).toArray, ABox b216 85 (encGMover.enc x212).toArray, ABox b219 37 #[.int .i64 s193.1, .int .i64 x210.At.X, .int .i64 x210.At.Y, .int .i64 x212.At.X, .int .i64 x212.At.Y, .int .i64 (W (x212.Health - x210.Health)), .int .i64 (W (x227.Points - x229.Points))]]) _ kk => R.fldB rfl fo27_2 rfl (R.nil kk)) (RD.iff rfl rfl c234 (RD.val rfl rfl (fun w (h : H W0 (fun _ => False) w [DS encGMover p0_0 c0_0 a0.Movers, DS encGScore p0_1 c0_1 a0.Scores, DS encGShot p0_2 c0_2 a0.Shots, DS encGPickup p0_3 c0_3 a0.Pickups, DS encGMover p1_0 c1_0 a1.Movers, DS encGScore p1_1 c1_1 a1.Scores, DS encGShot p1_2 c1_2 a1.Shots, DS encGPickup p1_3 c1_3 a1.Pickups] [ABox b110 27 #[.int .i64 a0.Frame, .slice p0_0 a0.Movers.length c0_0, .slice p0_1 a0.Scores.length c0_1, .slice p0_2 a0.Shots.length c0_2, .slice p0_3 a0.Pickups.length c0_3, .int .i64 a0.NextNo], ABox b112 27 #[.int .i64 a1.Frame, .slice p1_0 a1.Movers.length c1_0, .slice p1_1 a1.Scores.length c1_1, .slice p1_2 a1.Shots.length c1_2, .slice p1_3 a1.Pickups.length c1_3, .int .i64 a1.NextNo], ASl 37 encGCorrection p191 c192 s193.2, ABox b214 85 (encGMover.enc x210).toArray, ABox b216 85 (encGMover.enc x212).toArray, ABox b219 37 #[.int .i64 s193.1, .int .i64 x210.At.X, .int .i64 x210.At.Y, .int .i64 x212.At.X, .int .i64 x212.At.Y, .int .i64 (W (x212.Health - x210.Health)), .int .i64 (W (x227.Points - x229.Points))]]) _ kk => R.ld rfl sh23 rfl (h.box 1 2 rfl rfl) (R.nil kk)) (RD.iff rfl rfl c234 (RD.val rfl rfl (fun w (h : H W0 (fun _ => False) w [DS encGMover p0_0 c0_0 a0.Movers, DS encGScore p0_1 c0_1 a0.Scores, DS encGShot p0_2 c0_2 a0.Shots, DS encGPickup p0_3 c0_3 a0.Pickups, DS encGMover p1_0 c1_0 a1.Movers, DS encGScore p1_1 c1_1 a1.Scores, DS encGShot p1_2 c1_2 a1.Shots, DS encGPickup p1_3 c1_3 a1.Pickups] [ABox b110 27 #[.int .i64 a0.Frame, .slice p0_0 a0.Movers.length c0_0, .slice p0_1 a0.Scores.length c0_1, .slice p0_2 a0.Shots.length c0_2, .slice p0_3 a0.Pickups.length c0_3, .int .i64 a0.NextNo], ABox b112 27 #[.int .i64 a1.Frame, .slice p1_0 a1.Movers.length c1_0, .slice p1_1 a1.Scores.length c1_1, .slice p1_2 a1.Shots.length c1_2, .slice p1_3 a1.Pickups.length c1_3, .int .i64 a1.NextNo], ASl 37 encGCorrection p191 c192 s193.2, ABox b214 85 (encGMover.enc x210).toArray, ABox b216 85 (encGMover.enc x212).toArray, ABox b219 37 #[.int .i64 s193.1, .int .i64 x210.At.X, .int .i64 x210.At.Y, .int .i64 x212.At.X, .int .i64 x212.At.Y, .int .i64 (W (x212.Health - x210.Health)), .int .i64 (W (x227.Points - x229.Points))]]) _ kk => R.mv rfl rfl (R.nil kk)) (RD.iff rfl rfl c234 (RD.val rfl rfl (fun w (h : H W0 (fun _ => False) w [DS encGMover p0_0 c0_0 a0.Movers, DS encGScore p0_1 c0_1 a0.Scores, DS encGShot p0_2 c0_2 a0.Shots, DS encGPickup p0_3 c0_3 a0.Pickups, DS encGMover p1_0 c1_0 a1.Movers, DS encGScore p1_1 c1_1 a1.Scores, DS encGShot p1_2 c1_2 a1.Shots, DS encGPickup p1_3 c1_3 a1.Pickups] [ABox b110 27 #[.int .i64 a0.Frame, .slice p0_0 a0.Movers.length c0_0, .slice p0_1 a0.Scores.length c0_1, .slice p0_2 a0.Shots.length c0_2, .slice p0_3 a0.Pickups.length c0_3, .int .i64 a0.NextNo], ABox b112 27 #[.int .i64 a1.Frame, .slice p1_0 a1.Movers.length c1_0, .slice p1_1 a1.Scores.length c1_1, .slice p1_2 a1.Shots.length c1_2, .slice p1_3 a1.Pickups.length c1_3, .int .i64 a1.NextNo], ASl 37 encGCorrection p191 c192 s193.2, ABox b214 85 (encGMover.enc x210).toArray, ABox b216 85 (encGMover.enc x212).toArray, ABox b219 37 #[.int .i64 s193.1, .int .i64 x210.At.X, .int .i64 x210.At.Y, .int .i64 x212.At.X, .int .i64 x212.At.Y, .int .i64 (W (x212.Health - x210.Health)), .int .i64 (W (x227.Points - x229.Points))]]) _ kk => R.ixS rfl ss23 rfl rfl (h.rS 5 rfl) e238 (R.nil kk)) (RD.iff rfl rfl c234 (RD.val rfl rfl (fun w (h : H W0 (fun _ => False) w [DS encGMover p0_0 c0_0 a0.Movers, DS encGScore p0_1 c0_1 a0.Scores, DS encGShot p0_2 c0_2 a0.Shots, DS encGPickup p0_3 c0_3 a0.Pickups, DS encGMover p1_0 c1_0 a1.Movers, DS encGScore p1_1 c1_1 a1.Scores, DS encGShot p1_2 c1_2 a1.Shots, DS encGPickup p1_3 c1_3 a1.Pickups] [ABox b110 27 #[.int .i64 a0.Frame, .slice p0_0 a0.Movers.length c0_0, .slice p0_1 a0.Scores.length c0_1, .slice p0_2 a0.Shots.length c0_2, .slice p0_3 a0.Pickups.length c0_3, .int .i64 a0.NextNo], ABox b112 27 #[.int .i64 a1.Frame, .slice p1_0 a1.Movers.length c1_0, .slice p1_1 a1.Scores.length c1_1, .slice p1_2 a1.Shots.length c1_2, .slice p1_3 a1.Pickups.length c1_3, .int .i64 a1.NextNo], ASl 37 encGCorrection p191 c192 s193.2, ABox b214 85 (encGMover.enc x210).toArray, ABox b216 85 (encGMover.enc x212).toArray, ABox b219 37 #[.int .i64 s193.1, .int .i64 x210.At.X, .int .i64 x210.At.Y, .int .i64 x212.At.X, .int .i64 x212.At.Y, .int .i64 (W (x212.Health - x210.Health)), .int .i64 (W (x227.Points - x229.Points))]]) _ kk => R.fldE rfl fo87_0 rfl (R.nil kk)) (RD.iff rfl rfl c234 (RD.val rfl rfl (fun w (h : H W0 (fun _ => False) w [DS encGMover p0_0 c0_0 a0.Movers, DS encGScore p0_1 c0_1 a0.Scores, DS encGShot p0_2 c0_2 a0.Shots, DS encGPickup p0_3 c0_3 a0.Pickups, DS encGMover p1_0 c1_0 a1.Movers, DS encGScore p1_1 c1_1 a1.Scores, DS encGShot p1_2 c1_2 a1.Shots, DS encGPickup p1_3 c1_3 a1.Pickups] [ABox b110 27 #[.int .i64 a0.Frame, .slice p0_0 a0.Movers.length c0_0, .slice p0_1 a0.Scores.length c0_1, .slice p0_2 a0.Shots.length c0_2, .slice p0_3 a0.Pickups.length c0_3, .int .i64 a0.NextNo], ABox b112 27 #[.int .i64 a1.Frame, .slice p1_0 a1.Movers.length c1_0, .slice p1_1 a1.Scores.length c1_1, .slice p1_2 a1.Shots.length c1_2, .slice p1_3 a1.Pickups.length c1_3, .int .i64 a1.NextNo], ASl 37 encGCorrection p191 c192 s193.2, ABox b214 85 (encGMover.enc x210).toArray, ABox b216 85 (encGMover.enc x212).toArray, ABox b219 37 #[.int .i64 s193.1, .int .i64 x210.At.X, .int .i64 x210.At.Y, .int .i64 x212.At.X, .int .i64 x212.At.Y, .int .i64 (W (x212.Health - x210.Health)), .int .i64 (W (x227.Points - x229.Points))]]) _ kk => R.ld rfl sh3 rfl (RdS.cell (h.rS 5 rfl) e238 0 rfl) (R.nil kk)) (RD.iff rfl rfl c234 (RD.val rfl rfl (fun w (h : H W0 (fun _ => False) w [DS encGMover p0_0 c0_0 a0.Movers, DS encGScore p0_1 c0_1 a0.Scores, DS encGShot p0_2 c0_2 a0.Shots, DS encGPickup p0_3 c0_3 a0.Pickups, DS encGMover p1_0 c1_0 a1.Movers, DS encGScore p1_1 c1_1 a1.Scores, DS encGShot p1_2 c1_2 a1.Shots, DS encGPickup p1_3 c1_3 a1.Pickups] [ABox b110 27 #[.int .i64 a0.Frame, .slice p0_0 a0.Movers.length c0_0, .slice p0_1 a0.Scores.length c0_1, .slice p0_2 a0.Shots.length c0_2, .slice p0_3 a0.Pickups.length c0_3, .int .i64 a0.NextNo], ABox b112 27 #[.int .i64 a1.Frame, .slice p1_0 a1.Movers.length c1_0, .slice p1_1 a1.Scores.length c1_1, .slice p1_2 a1.Shots.length c1_2, .slice p1_3 a1.Pickups.length c1_3, .int .i64 a1.NextNo], ASl 37 encGCorrection p191 c192 s193.2, ABox b214 85 (encGMover.enc x210).toArray, ABox b216 85 (encGMover.enc x212).toArray, ABox b219 37 #[.int .i64 s193.1, .int .i64 x210.At.X, .int .i64 x210.At.Y, .int .i64 x212.At.X, .int .i64 x212.At.Y, .int .i64 (W (x212.Health - x210.Health)), .int .i64 (W (x227.Points - x229.Points))]]) _ kk => R.ib rfl rfl rfl rfl (R.nil kk)) (RD.val rfl rfl (fun w (h : H W0 (fun _ => False) w [DS encGMover p0_0 c0_0 a0.Movers, DS encGScore p0_1 c0_1 a0.Scores, DS encGShot p0_2 c0_2 a0.Shots, DS encGPickup p0_3 c0_3 a0.Pickups, DS encGMover p1_0 c1_0 a1.Movers, DS encGScore p1_1 c1_1 a1.Scores, DS encGShot p1_2 c1_2 a1.Shots, DS encGPickup p1_3 c1_3 a1.Pickups] [ABox b110 27 #[.int .i64 a0.Frame, .slice p0_0 a0.Movers.length c0_0, .slice p0_1 a0.Scores.length c0_1, .slice p0_2 a0.Shots.length c0_2, .slice p0_3 a0.Pickups.length c0_3, .int .i64 a0.NextNo], ABox b112 27 #[.int .i64 a1.Frame, .slice p1_0 a1.Movers.length c1_0, .slice p1_1 a1.Scores.length c1_1, .slice p1_2 a1.Shots.length c1_2, .slice p1_3 a1.Pickups.length c1_3, .int .i64 a1.NextNo], ASl 37 encGCorrection p191 c192 s193.2, ABox b214 85 (encGMover.enc x210).toArray, ABox b216 85 (encGMover.enc x212).toArray, ABox b219 37 #[.int .i64 s193.1, .int .i64 x210.At.X, .int .i64 x210.At.Y, .int .i64 x212.At.X, .int .i64 x212.At.Y, .int .i64 (W (x212.Health - x210.Health)), .int .i64 (W (x227.Points - x229.Points))]]) _ kk => R.pF rfl rfl c234 rfl (R.nil kk)) (RD.nil (fun w (h : H W0 (fun _ => False) w [DS encGMover p0_0 c0_0 a0.Movers, DS encGScore p0_1 c0_1 a0.Scores, DS encGShot p0_2 c0_2 a0.Shots, DS encGPickup p0_3 c0_3 a0.Pickups, DS encGMover p1_0 c1_0 a1.Movers, DS encGScore p1_1 c1_1 a1.Scores, DS encGShot p1_2 c1_2 a1.Shots, DS encGPickup p1_3 c1_3 a1.Pickups] [ABox b110 27 #[.int .i64 a0.Frame, .slice p0_0 a0.Movers.length c0_0, .slice p0_1 a0.Scores.length c0_1, .slice p0_2 a0.Shots.length c0_2, .slice p0_3 a0.Pickups.length c0_3, .int .i64 a0.NextNo], ABox b112 27 #[.int .i64 a1.Frame, .slice p1_0 a1.Movers.length c1_0, .slice p1_1 a1.Scores.length c1_1, .slice p1_2 a1.Shots.length c1_2, .slice p1_3 a1.Pickups.length c1_3, .int .i64 a1.NextNo], ASl 37 encGCorrection p191 c192 s193.2, ABox b214 85 (encGMover.enc x210).toArray, ABox b216 85 (encGMover.enc x212).toArray, ABox b219 37 #[.int .i64 s193.1, .int .i64 x210.At.X, .int .i64 x210.At.Y, .int .i64 x212.At.X, .int .i64 x212.At.Y, .int .i64 (W (x212.Health - x210.Health)), .int .i64 (W (x227.Points - x229.Points))]]) => fun a ha => ⟨ha.sub ⟨rfl, rfl, rfl, rfl, rfl, rfl, rfl, trivial⟩, (h.sel [0, 1, 2, 5] rfl (by decide))⟩))))))))))))))))))))))))))))
                · clear F
                  rintro a w ⟨ha, h⟩
                  refine T.use ?_ ha
                  have F := E231
                  refine T.cond rfl (fun c239 => ?_) (fun c239 => ?_)
                  · replace F := (ifT c239).symm.trans F
                    refine T.region ?_
                    obtain ⟨_, e243, F⟩ := Option.bind_eq_some_iff.1 F
                    obtain rfl := Option.some.inj F
                    refine R.mv rfl rfl (R.ldN (cs := [.int .i64 s193.1, .int .i64 x210.At.X, .int .i64 x210.At.Y, .int .i64 x212.At.X, .int .i64 x212.At.Y, .int .i64 (W (x212.Health - x210.Health)), .int .i64 (W (x227.Points - x229.Points))]) rfl sh37 rfl rfl (h.boxN 3 rfl rfl) (R.litK (e := encGCorrection) (xs := [GCorrection.mk s193.1 x210.At x212.At (W (x212.Health - x210.Health)) (W (x227.Points - x229.Points))]) (vs := [.agg #[.int .i64 s193.1, .int .i64 x210.At.X, .int .i64 x210.At.Y, .int .i64 x212.At.X, .int .i64 x212.At.Y, .int .i64 (W (x212.Health - x210.Health)), .int .i64 (W (x227.Points - x229.Points))]]) rfl h u29 in37 rfl rfl rfl rfl rfl rfl (fun p240 c241 w h => R.appG 2 rfl h rfl u29 ia37 rfl rfl rfl rfl (h.rL 4 rfl) ⟨must_leN e243, by have := must_leN e243; omega⟩ (fun p244 c245 w h => R.as rfl rfl (R.nil (fun a ha => ⟨_, _, ha.sub ⟨rfl, rfl, rfl, rfl, rfl, trivial⟩, (h.sel [0, 1, 2] rfl (by decide))⟩))))))
                  · replace F := (ifF c239).symm.trans F
                    obtain rfl := Option.some.inj F
                    refine T.skip (fun a ha => ⟨_, _, ha.sub ⟨rfl, rfl, rfl, rfl, rfl, trivial⟩, (h.sel [0, 1, 2] rfl (by decide))⟩)
          · clear F
            rintro a w ⟨p246, c247, ha, h⟩
            refine T.use ?_ ha
            have F := E201
            refine T.region ?_
            obtain rfl := Option.some.inj F
            refine R.mv rfl rfl (R.ib rfl rfl rfl rfl (R.as rfl rfl (R.nil (fun a ha => ⟨_, E194, _, _, ha.sub ⟨rfl, rfl, rfl, rfl, rfl, trivial⟩, h⟩))))
        · replace F := (ifF c200).symm.trans F
          obtain rfl := Option.some.inj F
          replace F := congrArg some (c2 _ rfl)
          obtain rfl := Option.some.inj F
          refine T.exit (fun a ha => ⟨_, _, ha.sub ⟨rfl, trivial⟩, (h.sel [2] rfl (by decide))⟩)
      · clear F
        rintro a w ⟨p254, c255, ha, h⟩
        refine T.use ?_ ha
        have F := E130
        refine T.seq fun Kk256 k256 => ?_
        refine T.region ?_
        refine R.mv rfl rfl (R.as rfl rfl (R.as rfl rfl (R.nil (k256 _ _ ?_))))
        obtain rfl := Option.some.inj F
        refine T.ret (retG (vs := [.slice p254 y131.length c255, .int .i64 0]) [.tmp 4, .tmp 5] rfl ⟨rfl, rfl, trivial⟩ ⟨_, _, rfl, h.out⟩)
attribute [irreducible] echelonref23_Correct

/-! echelon/echelonref23.SameCorrections: function 19 -/
noncomputable def echelonref23_SameCorrections (a0 : List GCorrection) (a1 : List GCorrection) : Option (Bool) :=
  if (a0.length : Int) != (a1.length : Int) then some false else (Loop.run (fun (s126 : Int) => if decide (s126 < (a0.length : Int)) then (getI a0 s126).bind fun (x134 : GCorrection) => (getI a1 s126).bind fun (x136 : GCorrection) => if !((x134.Peer == x136.Peer) && (((x134.Before.X == x136.Before.X) && ((x134.Before.Y == x136.Before.Y) && true)) && (((x134.After.X == x136.After.X) && ((x134.After.Y == x136.After.Y) && true)) && ((x134.Health == x136.Health) && ((x134.Points == x136.Points) && true))))) then some (.inr (.inr false)) else some (.inl (W (s126 + 1))) else some (.inr ((.inl ())))) 0 : Option ((Unit) ⊕ _)).bind fun y109 => Sum.elim (fun (y110 : Unit) => some true) some y109
theorem echelonref23_SameCorrections.ok {a0 : List GCorrection} {a1 : List GCorrection} {p0_0 : Option Addr} {c0_0 : Nat} {p1_0 : Option Addr} {c1_0 : Nat} {r : Bool} {W0 : World} (F : echelonref23_SameCorrections a0 a1 = some r) (hD0_0 : RdS W0 encGCorrection p0_0 c0_0 a0) (hD1_0 : RdS W0 encGCorrection p1_0 c1_0 a1) (hg : Gl W0) :
    Calls Tryd.prog 19 [(.slice p0_0 a0.length c0_0 : Value), (.slice p1_0 a1.length c1_0 : Value)].toArray W0 fun e w' => ∃ v, e = .returned v ∧ (v = .bool r ∧ Fr0 W0 w') := by
  unfold echelonref23_SameCorrections at F
  refine calls_body 26 Tryd.func19 rfl rfl rfl ?_
  have h : H W0 (fun _ => False) W0 [DS encGCorrection p0_0 c0_0 a0, DS encGCorrection p1_0 c1_0 a1] [] := H.ofRs (List.forall_mem_cons.2 ⟨hD0_0.use, List.forall_mem_cons.2 ⟨hD1_0.use, fun _ h => by cases h⟩⟩)
  refine T.seq fun Kk103 k103 => ?_
  refine T.region ?_
  refine R.as rfl rfl (R.nil (k103 _ _ ?_))
  refine T.seq fun Kk104 k104 => ?_
  refine T.seq fun Kk105 k105 => ?_
  refine T.region ?_
  refine R.mv rfl rfl (R.lenSl rfl u29 rfl (R.mv rfl rfl (R.lenSl rfl u29 rfl (R.ib rfl rfl rfl rfl (R.nil (k105 _ _ ?_))))))
  refine T.cond rfl (fun c106 => ?_) (fun c106 => ?_)
  · replace F := (ifT c106).symm.trans F
    refine T.seq fun Kk107 k107 => ?_
    refine T.region ?_
    refine R.as rfl rfl (R.nil (k107 _ _ ?_))
    obtain rfl := Option.some.inj F
    refine T.ret (retG (vs := [.bool false]) [.tmp 4] rfl ⟨rfl, trivial⟩ ⟨rfl, h.fr0⟩)
  · replace F := (ifF c106).symm.trans F
    refine T.skip (k104 _ _ ?_)
    obtain ⟨y109, F, E108⟩ := Option.bind_eq_some_iff.1 F
    refine T.cut (fun a w => ∃ y110, y109 = .inl y110 ∧ Agr 26 [] a ∧ H W0 (fun _ => False) w [DS encGCorrection p0_0 c0_0 a0, DS encGCorrection p1_0 c1_0 a1] []) ?_ ?_
    · refine T.seq fun Kk111 k111 => ?_
      refine T.region ?_
      refine R.as rfl rfl (R.nil (k111 _ _ ?_))
      refine T.block ?_
      refine T.loop (fun (s126 : Int) a w => Agr 26 [(0, .slice p0_0 a0.length c0_0), (1, .slice p1_0 a1.length c1_0), (5, .int .i64 s126)] a ∧ H W0 (fun _ => False) w [DS encGCorrection p0_0 c0_0 a0, DS encGCorrection p1_0 c1_0 a1] []) F (fun a ha => ⟨ha.sub ⟨rfl, rfl, rfl, trivial⟩, h⟩) ?_
      clear h F
      intro s126 F a w
      rintro ⟨ha, h⟩
      refine T.use ?_ ha
      obtain ⟨x128, F, c1, c2⟩ := Loop.run_step F
      have E127 := F
      refine T.seq fun Kk129 k129 => ?_
      refine T.seq fun Kk130 k130 => ?_
      refine T.region ?_
      refine R.mv rfl rfl (R.mv rfl rfl (R.lenSl rfl u29 rfl (R.ib rfl rfl rfl rfl (R.nil (k130 _ _ ?_)))))
      refine T.cond rfl (fun c131 => ?_) (fun c131 => ?_)
      · replace F := (ifT c131).symm.trans F
        refine T.skip (k129 _ _ ?_)
        refine T.seq fun Kk132 k132 => ?_
        refine T.block ?_
        refine T.seq fun Kk133 k133 => ?_
        refine T.regionD (C := fun w => H W0 (fun _ => False) w [DS encGCorrection p0_0 c0_0 a0, DS encGCorrection p1_0 c1_0 a1] []) mix (by kernel_rfl) (h.same (Fr.drewN w 1)) ?_
        obtain ⟨x134, e135, F⟩ := Option.bind_eq_some_iff.1 F
        obtain ⟨x136, e137, F⟩ := Option.bind_eq_some_iff.1 F
        refine RD.val rfl rfl (fun w (h : H W0 (fun _ => False) w [DS encGCorrection p0_0 c0_0 a0, DS encGCorrection p1_0 c1_0 a1] []) _ kk => R.mv rfl rfl (R.nil kk)) (RD.val rfl rfl (fun w (h : H W0 (fun _ => False) w [DS encGCorrection p0_0 c0_0 a0, DS encGCorrection p1_0 c1_0 a1] []) _ kk => R.mv rfl rfl (R.nil kk)) (RD.val rfl rfl (fun w (h : H W0 (fun _ => False) w [DS encGCorrection p0_0 c0_0 a0, DS encGCorrection p1_0 c1_0 a1] []) _ kk => R.ixS rfl ss29 rfl rfl (h.rS 0 rfl) e135 (R.nil kk)) (RD.val rfl rfl (fun w (h : H W0 (fun _ => False) w [DS encGCorrection p0_0 c0_0 a0, DS encGCorrection p1_0 c1_0 a1] []) _ kk => R.ldN (cs := [.int .i64 x134.Peer, .int .i64 x134.Before.X, .int .i64 x134.Before.Y, .int .i64 x134.After.X, .int .i64 x134.After.Y, .int .i64 x134.Health, .int .i64 x134.Points]) rfl sh37 rfl rfl (RdS.cells (h.rS 0 rfl) e135 0 rfl) (R.nil kk)) (RD.val rfl rfl (fun w (h : H W0 (fun _ => False) w [DS encGCorrection p0_0 c0_0 a0, DS encGCorrection p1_0 c1_0 a1] []) _ kk => R.mv rfl rfl (R.nil kk)) (RD.val rfl rfl (fun w (h : H W0 (fun _ => False) w [DS encGCorrection p0_0 c0_0 a0, DS encGCorrection p1_0 c1_0 a1] []) _ kk => R.mv rfl rfl (R.nil kk)) (RD.val rfl rfl (fun w (h : H W0 (fun _ => False) w [DS encGCorrection p0_0 c0_0 a0, DS encGCorrection p1_0 c1_0 a1] []) _ kk => R.ixS rfl ss29 rfl rfl (h.rS 1 rfl) e137 (R.nil kk)) (RD.val rfl rfl (fun w (h : H W0 (fun _ => False) w [DS encGCorrection p0_0 c0_0 a0, DS encGCorrection p1_0 c1_0 a1] []) _ kk => R.ldN (cs := [.int .i64 x136.Peer, .int .i64 x136.Before.X, .int .i64 x136.Before.Y, .int .i64 x136.After.X, .int .i64 x136.After.Y, .int .i64 x136.Health, .int .i64 x136.Points]) rfl sh37 rfl rfl (RdS.cells (h.rS 1 rfl) e137 0 rfl) (R.nil kk)) (RD.val rfl rfl (fun w (h : H W0 (fun _ => False) w [DS encGCorrection p0_0 c0_0 a0, DS encGCorrection p1_0 c1_0 a1] []) _ kk => R.neS rfl eg37 rfl rfl (eq37 _ _ _ _ _ _ _ _ _ _ _ _ _ _ ) (R.nil kk)) (RD.nil (fun w (h : H W0 (fun _ => False) w [DS encGCorrection p0_0 c0_0 a0, DS encGCorrection p1_0 c1_0 a1] []) => k133 _ _ ?_))))))))))
        refine T.cond rfl (fun c138 => ?_) (fun c138 => ?_)
        · replace F := (ifT c138).symm.trans F
          refine T.seq fun Kk139 k139 => ?_
          refine T.region ?_
          refine R.as rfl rfl (R.nil (k139 _ _ ?_))
          obtain rfl := Option.some.inj F
          replace F := congrArg some (c2 _ rfl)
          obtain rfl := Option.some.inj F
          replace F := elimR E108
          obtain rfl := Option.some.inj F
          refine T.ret (retG (vs := [.bool false]) [.tmp 4] rfl ⟨rfl, trivial⟩ ⟨rfl, h.fr0⟩)
        · replace F := (ifF c138).symm.trans F
          refine T.skip (k132 _ _ ?_)
          refine T.region ?_
          obtain rfl := Option.some.inj F
          refine R.mv rfl rfl (R.ib rfl rfl rfl rfl (R.as rfl rfl (R.nil (fun a ha => ⟨_, E127, ha.sub ⟨rfl, rfl, rfl, trivial⟩, h⟩))))
      · replace F := (ifF c131).symm.trans F
        obtain rfl := Option.some.inj F
        replace F := congrArg some (c2 _ rfl)
        obtain rfl := Option.some.inj F
        refine T.exit (fun a ha => ⟨_, rfl, ha.sub trivial, h⟩)
    · clear F
      rintro a w ⟨y110, rfl, ha, h⟩
      refine T.use ?_ ha
      have F := elimL E108
      refine T.seq fun Kk140 k140 => ?_
      refine T.region ?_
      refine R.as rfl rfl (R.nil (k140 _ _ ?_))
      obtain rfl := Option.some.inj F
      refine T.ret (retG (vs := [.bool true]) [.tmp 4] rfl ⟨rfl, trivial⟩ ⟨rfl, h.fr0⟩)
attribute [irreducible] echelonref23_SameCorrections

/-! echelon/echelonlaw23.ViewCorrects: function 3 -/
noncomputable def echelonlaw23_ViewCorrects (a0 : GWorld) (a1 : GWorld) : Option (Bool) :=
  (echelonlaw23_awake).bind fun x115 => (view_Correct a0 a1).bind fun x119 => (echelonref23_Correct a0 a1).bind fun x126 => (echelonref23_SameCorrections x119.1 x126.1).bind fun x133 => (Loop.run (fun (s148 : Int × List GCorrection) => if decide (s148.1 < (s148.2.length : Int)) then (getI s148.2 s148.1).bind fun (x155 : GCorrection) => some (.inl (W (s148.1 + 1), s148.2.set s148.1.toNat (GCorrection.mk (-1) x155.Before x155.After x155.Health x155.Points))) else some (.inr (s148.2))) (0, x119.1)).bind fun (y137 : List GCorrection) => (must (decide ((y137.length + ([GCorrection.mk (-2) (GPoint.mk 0 0) (GPoint.mk 0 0) 0 0]).length) * 56 ≤ 140737488355328))).bind fun _ => (view_Correct a0 a1).bind fun x165 => (echelonref23_SameCorrections x165.1 x126.1).bind fun x172 => (if x115 then if x133 then if x172 then if x119.2 == x126.2 then if x165.2 == x126.2 then (some ((y137 ++ ([GCorrection.mk (-2) (GPoint.mk 0 0) (GPoint.mk 0 0) 0 0])).length : Int)).bind fun (x182 : Int) => some (x182 == (W ((x126.1.length : Int) + 1))) else some false else some false else some false else some false else some false).bind fun (y176 : Bool) => some y176
theorem echelonlaw23_ViewCorrects.ok {a0 : GWorld} {a1 : GWorld} {p0_0 : Option Addr} {c0_0 : Nat} {p0_1 : Option Addr} {c0_1 : Nat} {p0_2 : Option Addr} {c0_2 : Nat} {p0_3 : Option Addr} {c0_3 : Nat} {p1_0 : Option Addr} {c1_0 : Nat} {p1_1 : Option Addr} {c1_1 : Nat} {p1_2 : Option Addr} {c1_2 : Nat} {p1_3 : Option Addr} {c1_3 : Nat} {r : Bool} {W0 : World} (F : echelonlaw23_ViewCorrects a0 a1 = some r) (hD0_0 : RdS W0 encGMover p0_0 c0_0 a0.Movers) (hD0_1 : RdS W0 encGScore p0_1 c0_1 a0.Scores) (hD0_2 : RdS W0 encGShot p0_2 c0_2 a0.Shots) (hD0_3 : RdS W0 encGPickup p0_3 c0_3 a0.Pickups) (hD1_0 : RdS W0 encGMover p1_0 c1_0 a1.Movers) (hD1_1 : RdS W0 encGScore p1_1 c1_1 a1.Scores) (hD1_2 : RdS W0 encGShot p1_2 c1_2 a1.Shots) (hD1_3 : RdS W0 encGPickup p1_3 c1_3 a1.Pickups) (hg : Gl W0) :
    Calls Tryd.prog 3 [(.agg #[.int .i64 a0.Frame, .slice p0_0 a0.Movers.length c0_0, .slice p0_1 a0.Scores.length c0_1, .slice p0_2 a0.Shots.length c0_2, .slice p0_3 a0.Pickups.length c0_3, .int .i64 a0.NextNo] : Value), (.agg #[.int .i64 a1.Frame, .slice p1_0 a1.Movers.length c1_0, .slice p1_1 a1.Scores.length c1_1, .slice p1_2 a1.Shots.length c1_2, .slice p1_3 a1.Pickups.length c1_3, .int .i64 a1.NextNo] : Value)].toArray W0 fun e w' => ∃ v, e = .returned v ∧ (v = .bool r ∧ Fr0 W0 w') := by
  unfold echelonlaw23_ViewCorrects at F
  refine calls_body 80 Tryd.func3 rfl rfl rfl ?_
  have h : H W0 (fun _ => False) W0 [DS encGMover p0_0 c0_0 a0.Movers, DS encGScore p0_1 c0_1 a0.Scores, DS encGShot p0_2 c0_2 a0.Shots, DS encGPickup p0_3 c0_3 a0.Pickups, DS encGMover p1_0 c1_0 a1.Movers, DS encGScore p1_1 c1_1 a1.Scores, DS encGShot p1_2 c1_2 a1.Shots, DS encGPickup p1_3 c1_3 a1.Pickups] [] := H.ofRs (List.forall_mem_cons.2 ⟨hD0_0.use, List.forall_mem_cons.2 ⟨hD0_1.use, List.forall_mem_cons.2 ⟨hD0_2.use, List.forall_mem_cons.2 ⟨hD0_3.use, List.forall_mem_cons.2 ⟨hD1_0.use, List.forall_mem_cons.2 ⟨hD1_1.use, List.forall_mem_cons.2 ⟨hD1_2.use, List.forall_mem_cons.2 ⟨hD1_3.use, fun _ h => by cases h⟩⟩⟩⟩⟩⟩⟩⟩)
  refine T.seq fun Kk109 k109 => ?_
  refine T.region ?_
  refine R.box rfl h rfl (fun b110 w (h : H W0 (fun _ => False) w [DS encGMover p0_0 c0_0 a0.Movers, DS encGScore p0_1 c0_1 a0.Scores, DS encGShot p0_2 c0_2 a0.Shots, DS encGPickup p0_3 c0_3 a0.Pickups, DS encGMover p1_0 c1_0 a1.Movers, DS encGScore p1_1 c1_1 a1.Scores, DS encGShot p1_2 c1_2 a1.Shots, DS encGPickup p1_3 c1_3 a1.Pickups] [ABox b110 27 #[.int .i64 a0.Frame, .slice p0_0 a0.Movers.length c0_0, .slice p0_1 a0.Scores.length c0_1, .slice p0_2 a0.Shots.length c0_2, .slice p0_3 a0.Pickups.length c0_3, .int .i64 a0.NextNo]]) => R.box rfl h rfl (fun b112 w (h : H W0 (fun _ => False) w [DS encGMover p0_0 c0_0 a0.Movers, DS encGScore p0_1 c0_1 a0.Scores, DS encGShot p0_2 c0_2 a0.Shots, DS encGPickup p0_3 c0_3 a0.Pickups, DS encGMover p1_0 c1_0 a1.Movers, DS encGScore p1_1 c1_1 a1.Scores, DS encGShot p1_2 c1_2 a1.Shots, DS encGPickup p1_3 c1_3 a1.Pickups] [ABox b110 27 #[.int .i64 a0.Frame, .slice p0_0 a0.Movers.length c0_0, .slice p0_1 a0.Scores.length c0_1, .slice p0_2 a0.Shots.length c0_2, .slice p0_3 a0.Pickups.length c0_3, .int .i64 a0.NextNo], ABox b112 27 #[.int .i64 a1.Frame, .slice p1_0 a1.Movers.length c1_0, .slice p1_1 a1.Scores.length c1_1, .slice p1_2 a1.Shots.length c1_2, .slice p1_3 a1.Pickups.length c1_3, .int .i64 a1.NextNo]]) => R.as rfl rfl (R.nil (k109 _ _ ?_))))
  refine T.seq fun Kk114 k114 => ?_
  refine T.region ?_
  obtain ⟨x115, e116, F⟩ := Option.bind_eq_some_iff.1 F
  refine R.callC (fl := []) (cl := []) rfl cf16 rfl rfl (echelonlaw23_awake.ok e116 (hg.fr0 h.fr0)) (?_)
  rintro _ w ⟨rfl, g117⟩
  replace h := h.same g117
  refine R.as rfl rfl (R.nil (k114 _ _ ?_))
  refine T.seq fun Kk118 k118 => ?_
  refine T.region ?_
  obtain ⟨x119, e120, F⟩ := Option.bind_eq_some_iff.1 F
  refine R.ldN (cs := [.int .i64 a0.Frame, .slice p0_0 a0.Movers.length c0_0, .slice p0_1 a0.Scores.length c0_1, .slice p0_2 a0.Shots.length c0_2, .slice p0_3 a0.Pickups.length c0_3, .int .i64 a0.NextNo]) rfl sh27 rfl rfl (h.boxN 0 rfl rfl) (R.ldN (cs := [.int .i64 a1.Frame, .slice p1_0 a1.Movers.length c1_0, .slice p1_1 a1.Scores.length c1_1, .slice p1_2 a1.Shots.length c1_2, .slice p1_3 a1.Pickups.length c1_3, .int .i64 a1.NextNo]) rfl sh27 rfl rfl (h.boxN 1 rfl rfl) (R.callC (fl := []) (cl := []) rfl cf17 rfl rfl (view_Correct.ok e120 (h.rS 0 rfl) (h.rS 1 rfl) (h.rS 2 rfl) (h.rS 3 rfl) (h.rS 4 rfl) (h.rS 5 rfl) (h.rS 6 rfl) (h.rS 7 rfl) (hg.fr0 h.fr0)) (?_)))
  rintro _ w ⟨p121, c122, rfl, g123⟩
  replace h := h.join g123
  refine R.mv rfl rfl (R.ext rfl rfl rfl (R.ext rfl rfl rfl (R.as rfl rfl (R.as rfl rfl (R.nil (k118 _ _ ?_))))))
  refine T.seq fun Kk125 k125 => ?_
  refine T.region ?_
  obtain ⟨x126, e127, F⟩ := Option.bind_eq_some_iff.1 F
  refine R.ldN (cs := [.int .i64 a0.Frame, .slice p0_0 a0.Movers.length c0_0, .slice p0_1 a0.Scores.length c0_1, .slice p0_2 a0.Shots.length c0_2, .slice p0_3 a0.Pickups.length c0_3, .int .i64 a0.NextNo]) rfl sh27 rfl rfl (h.boxN 0 rfl rfl) (R.ldN (cs := [.int .i64 a1.Frame, .slice p1_0 a1.Movers.length c1_0, .slice p1_1 a1.Scores.length c1_1, .slice p1_2 a1.Shots.length c1_2, .slice p1_3 a1.Pickups.length c1_3, .int .i64 a1.NextNo]) rfl sh27 rfl rfl (h.boxN 1 rfl rfl) (R.callC (fl := []) (cl := []) rfl cf18 rfl rfl (echelonref23_Correct.ok e127 (h.rS 0 rfl) (h.rS 1 rfl) (h.rS 2 rfl) (h.rS 3 rfl) (h.rS 4 rfl) (h.rS 5 rfl) (h.rS 6 rfl) (h.rS 7 rfl) (hg.fr0 h.fr0)) (?_)))
  rintro _ w ⟨p128, c129, rfl, g130⟩
  replace h := h.join g130
  refine R.mv rfl rfl (R.ext rfl rfl rfl (R.ext rfl rfl rfl (R.as rfl rfl (R.as rfl rfl (R.nil (k125 _ _ ?_))))))
  refine T.seq fun Kk132 k132 => ?_
  refine T.region ?_
  obtain ⟨x133, e134, F⟩ := Option.bind_eq_some_iff.1 F
  refine R.mv rfl rfl (R.mv rfl rfl (R.callC (fl := []) (cl := []) rfl cf19 rfl rfl (echelonref23_SameCorrections.ok e134 (h.rL 2 rfl) (h.rL 3 rfl) (hg.fr0 h.fr0)) (?_)))
  rintro _ w ⟨rfl, g135⟩
  replace h := h.same g135
  refine R.as rfl rfl (R.nil (k132 _ _ ?_))
  obtain ⟨y137, F, E136⟩ := Option.bind_eq_some_iff.1 F
  refine T.cut (fun a w => Agr 80 [(2, .pointer (some ⟨b110, 0, none⟩)), (3, .pointer (some ⟨b112, 0, none⟩)), (5, .bool x115), (6, .slice p121 y137.length c122), (7, .int .i64 x119.2), (8, .slice p128 x126.1.length c129), (9, .int .i64 x126.2), (10, .bool x133)] a ∧ H W0 (fun _ => False) w [DS encGMover p0_0 c0_0 a0.Movers, DS encGScore p0_1 c0_1 a0.Scores, DS encGShot p0_2 c0_2 a0.Shots, DS encGPickup p0_3 c0_3 a0.Pickups, DS encGMover p1_0 c1_0 a1.Movers, DS encGScore p1_1 c1_1 a1.Scores, DS encGShot p1_2 c1_2 a1.Shots, DS encGPickup p1_3 c1_3 a1.Pickups] [ABox b110 27 #[.int .i64 a0.Frame, .slice p0_0 a0.Movers.length c0_0, .slice p0_1 a0.Scores.length c0_1, .slice p0_2 a0.Shots.length c0_2, .slice p0_3 a0.Pickups.length c0_3, .int .i64 a0.NextNo], ABox b112 27 #[.int .i64 a1.Frame, .slice p1_0 a1.Movers.length c1_0, .slice p1_1 a1.Scores.length c1_1, .slice p1_2 a1.Shots.length c1_2, .slice p1_3 a1.Pickups.length c1_3, .int .i64 a1.NextNo], ASl 37 encGCorrection p121 c122 y137, ASl 37 encGCorrection p128 c129 x126.1]) ?_ ?_
  · refine T.seq fun Kk138 k138 => ?_
    refine T.region ?_
    refine R.as rfl rfl (R.nil (k138 _ _ ?_))
    refine T.block ?_
    refine T.loop (fun (s148 : Int × List GCorrection) a w => Agr 80 [(2, .pointer (some ⟨b110, 0, none⟩)), (3, .pointer (some ⟨b112, 0, none⟩)), (5, .bool x115), (6, .slice p121 s148.2.length c122), (7, .int .i64 x119.2), (8, .slice p128 x126.1.length c129), (9, .int .i64 x126.2), (10, .bool x133), (11, .int .i64 s148.1)] a ∧ H W0 (fun _ => False) w [DS encGMover p0_0 c0_0 a0.Movers, DS encGScore p0_1 c0_1 a0.Scores, DS encGShot p0_2 c0_2 a0.Shots, DS encGPickup p0_3 c0_3 a0.Pickups, DS encGMover p1_0 c1_0 a1.Movers, DS encGScore p1_1 c1_1 a1.Scores, DS encGShot p1_2 c1_2 a1.Shots, DS encGPickup p1_3 c1_3 a1.Pickups] [ABox b110 27 #[.int .i64 a0.Frame, .slice p0_0 a0.Movers.length c0_0, .slice p0_1 a0.Scores.length c0_1, .slice p0_2 a0.Shots.length c0_2, .slice p0_3 a0.Pickups.length c0_3, .int .i64 a0.NextNo], ABox b112 27 #[.int .i64 a1.Frame, .slice p1_0 a1.Movers.length c1_0, .slice p1_1 a1.Scores.length c1_1, .slice p1_2 a1.Shots.length c1_2, .slice p1_3 a1.Pickups.length c1_3, .int .i64 a1.NextNo], ASl 37 encGCorrection p121 c122 s148.2, ASl 37 encGCorrection p128 c129 x126.1]) F (fun a ha => ⟨ha.sub ⟨rfl, rfl, rfl, rfl, rfl, rfl, rfl, rfl, rfl, trivial⟩, h⟩) ?_
    clear h F
    intro s148 F a w
    rintro ⟨ha, h⟩
    refine T.use ?_ ha
    obtain ⟨x150, F, c1, c2⟩ := Loop.run_step F
    have E149 := F
    refine T.seq fun Kk151 k151 => ?_
    refine T.seq fun Kk152 k152 => ?_
    refine T.region ?_
    refine R.mv rfl rfl (R.mv rfl rfl (R.lenSl rfl u29 rfl (R.ib rfl rfl rfl rfl (R.nil (k152 _ _ ?_)))))
    refine T.cond rfl (fun c153 => ?_) (fun c153 => ?_)
    · replace F := (ifT c153).symm.trans F
      refine T.skip (k151 _ _ ?_)
      refine T.seq fun Kk154 k154 => ?_
      refine T.block ?_
      refine T.region ?_
      obtain ⟨x155, e156, F⟩ := Option.bind_eq_some_iff.1 F
      refine R.mv rfl rfl (R.mv rfl rfl (R.ixS rfl ss29 rfl rfl (h.rL 2 rfl) e156 (R.fldE rfl fo37_0 rfl (R.stE (off := 0) (ds := [.int .i64 (-1)]) (u' := GCorrection.mk (-1) x155.Before x155.After x155.Health x155.Points) 2 h rfl sz3 rfl rfl rfl e156 rfl rfl (fun w (h : H W0 (fun _ => False) w [DS encGMover p0_0 c0_0 a0.Movers, DS encGScore p0_1 c0_1 a0.Scores, DS encGShot p0_2 c0_2 a0.Shots, DS encGPickup p0_3 c0_3 a0.Pickups, DS encGMover p1_0 c1_0 a1.Movers, DS encGScore p1_1 c1_1 a1.Scores, DS encGShot p1_2 c1_2 a1.Shots, DS encGPickup p1_3 c1_3 a1.Pickups] [ABox b110 27 #[.int .i64 a0.Frame, .slice p0_0 a0.Movers.length c0_0, .slice p0_1 a0.Scores.length c0_1, .slice p0_2 a0.Shots.length c0_2, .slice p0_3 a0.Pickups.length c0_3, .int .i64 a0.NextNo], ABox b112 27 #[.int .i64 a1.Frame, .slice p1_0 a1.Movers.length c1_0, .slice p1_1 a1.Scores.length c1_1, .slice p1_2 a1.Shots.length c1_2, .slice p1_3 a1.Pickups.length c1_3, .int .i64 a1.NextNo], ASl 37 encGCorrection p121 c122 (s148.2.set s148.1.toNat (GCorrection.mk (-1) x155.Before x155.After x155.Health x155.Points)), ASl 37 encGCorrection p128 c129 x126.1]) => R.rl 6 rfl (show (.slice p121 s148.2.length c122 : Value) = .slice p121 (s148.2.set s148.1.toNat (GCorrection.mk (-1) x155.Before x155.After x155.Health x155.Points)).length c122 from by simp) (R.nil (k154 _ _ ?_)))))))
      refine T.region ?_
      obtain rfl := Option.some.inj F
      refine R.mv rfl rfl (R.ib rfl rfl rfl rfl (R.as rfl rfl (R.nil (fun a ha => ⟨_, E149, ha.sub ⟨rfl, rfl, rfl, rfl, rfl, rfl, rfl, rfl, rfl, trivial⟩, h⟩))))
    · replace F := (ifF c153).symm.trans F
      obtain rfl := Option.some.inj F
      replace F := congrArg some (c2 _ rfl)
      obtain rfl := Option.some.inj F
      refine T.exit (fun a ha => ⟨ha.sub ⟨rfl, rfl, rfl, rfl, rfl, rfl, rfl, rfl, trivial⟩, h⟩)
  · clear F
    rintro a w ⟨ha, h⟩
    refine T.use ?_ ha
    have F := E136
    refine T.seq fun Kk157 k157 => ?_
    refine T.region ?_
    obtain ⟨_, e161, F⟩ := Option.bind_eq_some_iff.1 F
    refine R.mv rfl rfl (R.bld rfl rfl (bd13 _) (R.litK (e := encGCorrection) (xs := [GCorrection.mk (-2) (GPoint.mk 0 0) (GPoint.mk 0 0) 0 0]) (vs := [.agg #[.int .i64 (-2), .int .i64 0, .int .i64 0, .int .i64 0, .int .i64 0, .int .i64 0, .int .i64 0]]) rfl h u29 in37 rfl rfl rfl rfl rfl rfl (fun p158 c159 w h => R.appG 2 rfl h rfl u29 ia37 rfl rfl rfl rfl (h.rL 4 rfl) ⟨must_leN e161, by have := must_leN e161; omega⟩ (fun p162 c163 w h => R.as rfl rfl (R.nil (k157 _ _ ?_))))))
    refine T.seq fun Kk164 k164 => ?_
    refine T.region ?_
    obtain ⟨x165, e166, F⟩ := Option.bind_eq_some_iff.1 F
    refine R.ldN (cs := [.int .i64 a0.Frame, .slice p0_0 a0.Movers.length c0_0, .slice p0_1 a0.Scores.length c0_1, .slice p0_2 a0.Shots.length c0_2, .slice p0_3 a0.Pickups.length c0_3, .int .i64 a0.NextNo]) rfl sh27 rfl rfl (h.boxN 0 rfl rfl) (R.ldN (cs := [.int .i64 a1.Frame, .slice p1_0 a1.Movers.length c1_0, .slice p1_1 a1.Scores.length c1_1, .slice p1_2 a1.Shots.length c1_2, .slice p1_3 a1.Pickups.length c1_3, .int .i64 a1.NextNo]) rfl sh27 rfl rfl (h.boxN 1 rfl rfl) (R.callC (fl := []) (cl := []) rfl cf17 rfl rfl (view_Correct.ok e166 (h.rS 0 rfl) (h.rS 1 rfl) (h.rS 2 rfl) (h.rS 3 rfl) (h.rS 4 rfl) (h.rS 5 rfl) (h.rS 6 rfl) (h.rS 7 rfl) (hg.fr0 h.fr0)) (?_)))
    rintro _ w ⟨p167, c168, rfl, g169⟩
    replace h := h.join g169
    refine R.mv rfl rfl (R.ext rfl rfl rfl (R.ext rfl rfl rfl (R.as rfl rfl (R.as rfl rfl (R.nil (k164 _ _ ?_))))))
    refine T.seq fun Kk171 k171 => ?_
    refine T.region ?_
    obtain ⟨x172, e173, F⟩ := Option.bind_eq_some_iff.1 F
    refine R.mv rfl rfl (R.mv rfl rfl (R.callC (fl := []) (cl := []) rfl cf19 rfl rfl (echelonref23_SameCorrections.ok e173 (h.rL 5 rfl) (h.rL 3 rfl) (hg.fr0 h.fr0)) (?_)))
    rintro _ w ⟨rfl, g174⟩
    replace h := h.same g174
    refine R.as rfl rfl (R.nil (k171 _ _ ?_))
    obtain ⟨y176, F, E175⟩ := Option.bind_eq_some_iff.1 F
    refine T.cut (fun a w => Agr 80 [(4, .bool y176)] a ∧ H W0 (fun _ => False) w [DS encGMover p0_0 c0_0 a0.Movers, DS encGScore p0_1 c0_1 a0.Scores, DS encGShot p0_2 c0_2 a0.Shots, DS encGPickup p0_3 c0_3 a0.Pickups, DS encGMover p1_0 c1_0 a1.Movers, DS encGScore p1_1 c1_1 a1.Scores, DS encGShot p1_2 c1_2 a1.Shots, DS encGPickup p1_3 c1_3 a1.Pickups] []) ?_ ?_
    · refine T.region ?_
      refine R.mv rfl rfl (R.mv rfl rfl (?_))
      refine bsplit x115 (fun c177 => ?_) (fun c177 => ?_)
      · replace F := (ifT c177).symm.trans F
        refine R.iff rfl rfl c177 (R.mv rfl rfl (R.pT rfl rfl c177 rfl (R.mv rfl rfl (?_))))
        refine bsplit x133 (fun c178 => ?_) (fun c178 => ?_)
        · replace F := (ifT c178).symm.trans F
          refine R.iff rfl rfl c178 (R.mv rfl rfl (R.pT rfl rfl c178 rfl (R.mv rfl rfl (?_))))
          refine bsplit x172 (fun c179 => ?_) (fun c179 => ?_)
          · replace F := (ifT c179).symm.trans F
            refine R.iff rfl rfl c179 (R.mv rfl rfl (R.iff rfl rfl c179 (R.mv rfl rfl (R.iff rfl rfl c179 (R.ib rfl rfl rfl rfl (R.pT rfl rfl c179 rfl (R.mv rfl rfl (?_))))))))
            refine bsplit (x119.2 == x126.2) (fun c180 => ?_) (fun c180 => ?_)
            · replace F := (ifT c180).symm.trans F
              refine R.iff rfl rfl c180 (R.mv rfl rfl (R.iff rfl rfl c180 (R.mv rfl rfl (R.iff rfl rfl c180 (R.ib rfl rfl rfl rfl (R.pT rfl rfl c180 rfl (R.mv rfl rfl (?_))))))))
              refine bsplit (x165.2 == x126.2) (fun c181 => ?_) (fun c181 => ?_)
              · replace F := (ifT c181).symm.trans F
                obtain ⟨x182, e183, F⟩ := Option.bind_eq_some_iff.1 F
                obtain rfl := Option.some.inj F
                refine R.iff rfl rfl c181 (R.mv rfl rfl (R.iff rfl rfl c181 (R.lenSl rfl u29 rfl (R.re (congrArg (Value.int .i64) (Option.some.inj e183)) (R.iff rfl rfl c181 (R.mv rfl rfl (R.iff rfl rfl c181 (R.lenSl rfl u29 rfl (R.iff rfl rfl c181 (R.ib rfl rfl rfl rfl (R.iff rfl rfl c181 (R.ib rfl rfl rfl rfl (R.pT rfl rfl c181 rfl (R.as rfl rfl (R.nil (fun a ha => ⟨ha.sub ⟨rfl, trivial⟩, (h.sel [] rfl (by decide))⟩))))))))))))))))
              · replace F := (ifF c181).symm.trans F
                obtain rfl := Option.some.inj F
                refine R.not_ rfl rfl rfl c181 (R.not_ rfl rfl rfl c181 (R.not_ rfl rfl rfl c181 (R.not_ rfl rfl rfl c181 (R.not_ rfl rfl rfl c181 (R.not_ rfl rfl rfl c181 (R.pF rfl rfl c181 rfl (R.as rfl rfl (R.nil (fun a ha => ⟨ha.sub ⟨rfl, trivial⟩, (h.sel [] rfl (by decide))⟩)))))))))
            · replace F := (ifF c180).symm.trans F
              obtain rfl := Option.some.inj F
              refine R.not_ rfl rfl rfl c180 (R.not_ rfl rfl rfl c180 (R.not_ rfl rfl rfl c180 (R.pF rfl rfl c180 rfl (R.mv rfl rfl (R.not_ rfl rfl rfl rfl (R.not_ rfl rfl rfl rfl (R.not_ rfl rfl rfl rfl (R.not_ rfl rfl rfl rfl (R.not_ rfl rfl rfl rfl (R.not_ rfl rfl rfl rfl (R.pF rfl rfl rfl rfl (R.as rfl rfl (R.nil (fun a ha => ⟨ha.sub ⟨rfl, trivial⟩, (h.sel [] rfl (by decide))⟩))))))))))))))
          · replace F := (ifF c179).symm.trans F
            obtain rfl := Option.some.inj F
            refine R.not_ rfl rfl rfl c179 (R.not_ rfl rfl rfl c179 (R.not_ rfl rfl rfl c179 (R.pF rfl rfl c179 rfl (R.mv rfl rfl (R.not_ rfl rfl rfl rfl (R.not_ rfl rfl rfl rfl (R.not_ rfl rfl rfl rfl (R.pF rfl rfl rfl rfl (R.mv rfl rfl (R.not_ rfl rfl rfl rfl (R.not_ rfl rfl rfl rfl (R.not_ rfl rfl rfl rfl (R.not_ rfl rfl rfl rfl (R.not_ rfl rfl rfl rfl (R.not_ rfl rfl rfl rfl (R.pF rfl rfl rfl rfl (R.as rfl rfl (R.nil (fun a ha => ⟨ha.sub ⟨rfl, trivial⟩, (h.sel [] rfl (by decide))⟩)))))))))))))))))))
        · replace F := (ifF c178).symm.trans F
          obtain rfl := Option.some.inj F
          refine R.not_ rfl rfl rfl c178 (R.pF rfl rfl c178 rfl (R.mv rfl rfl (R.not_ rfl rfl rfl rfl (R.not_ rfl rfl rfl rfl (R.not_ rfl rfl rfl rfl (R.pF rfl rfl rfl rfl (R.mv rfl rfl (R.not_ rfl rfl rfl rfl (R.not_ rfl rfl rfl rfl (R.not_ rfl rfl rfl rfl (R.pF rfl rfl rfl rfl (R.mv rfl rfl (R.not_ rfl rfl rfl rfl (R.not_ rfl rfl rfl rfl (R.not_ rfl rfl rfl rfl (R.not_ rfl rfl rfl rfl (R.not_ rfl rfl rfl rfl (R.not_ rfl rfl rfl rfl (R.pF rfl rfl rfl rfl (R.as rfl rfl (R.nil (fun a ha => ⟨ha.sub ⟨rfl, trivial⟩, (h.sel [] rfl (by decide))⟩))))))))))))))))))))))
      · replace F := (ifF c177).symm.trans F
        obtain rfl := Option.some.inj F
        refine R.not_ rfl rfl rfl c177 (R.pF rfl rfl c177 rfl (R.mv rfl rfl (R.not_ rfl rfl rfl rfl (R.pF rfl rfl rfl rfl (R.mv rfl rfl (R.not_ rfl rfl rfl rfl (R.not_ rfl rfl rfl rfl (R.not_ rfl rfl rfl rfl (R.pF rfl rfl rfl rfl (R.mv rfl rfl (R.not_ rfl rfl rfl rfl (R.not_ rfl rfl rfl rfl (R.not_ rfl rfl rfl rfl (R.pF rfl rfl rfl rfl (R.mv rfl rfl (R.not_ rfl rfl rfl rfl (R.not_ rfl rfl rfl rfl (R.not_ rfl rfl rfl rfl (R.not_ rfl rfl rfl rfl (R.not_ rfl rfl rfl rfl (R.not_ rfl rfl rfl rfl (R.pF rfl rfl rfl rfl (R.as rfl rfl (R.nil (fun a ha => ⟨ha.sub ⟨rfl, trivial⟩, (h.sel [] rfl (by decide))⟩)))))))))))))))))))))))))
    · clear F
      rintro a w ⟨ha, h⟩
      refine T.use ?_ ha
      have F := E175
      obtain rfl := Option.some.inj F
      refine T.ret (retG (vs := [.bool y176]) [.tmp 4] rfl ⟨rfl, trivial⟩ ⟨rfl, h.fr0⟩)
attribute [irreducible] echelonlaw23_ViewCorrects

/-! echelon/echelonlaw23.ViewTurns: function 4 -/
noncomputable def echelonlaw23_ViewTurns (a0 : GWorld) (a1 : GWorld) : Option (Bool) :=
  (echelonlaw23_awake).bind fun x115 => (view_Correct a0 a1).bind fun x119 => (view_Correct a1 a0).bind fun x126 => (view_Correct a0 a0).bind fun x133 => (some ((a0.Movers.length : Int) == (a0.Scores.length : Int))).bind fun (x140 : Bool) => (if (x133.1.length : Int) != 0 then some true else if !((x133.2 == 0) == x140) then some true else if x119.2 != x126.2 then some true else (some ((x119.1.length : Int) != (x126.1.length : Int))).bind fun (x148 : Bool) => some x148).bind fun (y144 : Bool) => if y144 then some false else (Loop.run (fun (s199 : Int) => if decide (s199 < (x119.1.length : Int)) then (getI x119.1 s199).bind fun (x213 : GCorrection) => (getI x126.1 s199).bind fun (x215 : GCorrection) => (if x213.Peer != x215.Peer then some true else (some (!((x213.Before.X == x215.After.X) && ((x213.Before.Y == x215.After.Y) && true)))).bind fun (x225 : Bool) => if x225 then some true else (some (!((x213.After.X == x215.Before.X) && ((x213.After.Y == x215.Before.Y) && true)))).bind fun (x228 : Bool) => if x228 then some true else if x213.Health != (W (0 - x215.Health)) then some true else some (x213.Points != (W (0 - x215.Points)))).bind fun (y223 : Bool) => if y223 then some (.inr (.inr false)) else ((some ((x213.Before.X == x213.After.X) && ((x213.Before.Y == x213.After.Y) && true))).bind fun (x236 : Bool) => if x236 then if x213.Health == 0 then some (x213.Points == 0) else some false else some false).bind fun (y235 : Bool) => if y235 then some (.inr (.inr false)) else some (.inl (W (s199 + 1))) else some (.inr ((.inl ())))) 0 : Option ((Unit) ⊕ _)).bind fun y153 => Sum.elim (fun (y154 : Unit) => some x115) some y153
theorem echelonlaw23_ViewTurns.ok {a0 : GWorld} {a1 : GWorld} {p0_0 : Option Addr} {c0_0 : Nat} {p0_1 : Option Addr} {c0_1 : Nat} {p0_2 : Option Addr} {c0_2 : Nat} {p0_3 : Option Addr} {c0_3 : Nat} {p1_0 : Option Addr} {c1_0 : Nat} {p1_1 : Option Addr} {c1_1 : Nat} {p1_2 : Option Addr} {c1_2 : Nat} {p1_3 : Option Addr} {c1_3 : Nat} {r : Bool} {W0 : World} (F : echelonlaw23_ViewTurns a0 a1 = some r) (hD0_0 : RdS W0 encGMover p0_0 c0_0 a0.Movers) (hD0_1 : RdS W0 encGScore p0_1 c0_1 a0.Scores) (hD0_2 : RdS W0 encGShot p0_2 c0_2 a0.Shots) (hD0_3 : RdS W0 encGPickup p0_3 c0_3 a0.Pickups) (hD1_0 : RdS W0 encGMover p1_0 c1_0 a1.Movers) (hD1_1 : RdS W0 encGScore p1_1 c1_1 a1.Scores) (hD1_2 : RdS W0 encGShot p1_2 c1_2 a1.Shots) (hD1_3 : RdS W0 encGPickup p1_3 c1_3 a1.Pickups) (hg : Gl W0) :
    Calls Tryd.prog 4 [(.agg #[.int .i64 a0.Frame, .slice p0_0 a0.Movers.length c0_0, .slice p0_1 a0.Scores.length c0_1, .slice p0_2 a0.Shots.length c0_2, .slice p0_3 a0.Pickups.length c0_3, .int .i64 a0.NextNo] : Value), (.agg #[.int .i64 a1.Frame, .slice p1_0 a1.Movers.length c1_0, .slice p1_1 a1.Scores.length c1_1, .slice p1_2 a1.Shots.length c1_2, .slice p1_3 a1.Pickups.length c1_3, .int .i64 a1.NextNo] : Value)].toArray W0 fun e w' => ∃ v, e = .returned v ∧ (v = .bool r ∧ Fr0 W0 w') := by
  unfold echelonlaw23_ViewTurns at F
  refine calls_body 128 Tryd.func4 rfl rfl rfl ?_
  have h : H W0 (fun _ => False) W0 [DS encGMover p0_0 c0_0 a0.Movers, DS encGScore p0_1 c0_1 a0.Scores, DS encGShot p0_2 c0_2 a0.Shots, DS encGPickup p0_3 c0_3 a0.Pickups, DS encGMover p1_0 c1_0 a1.Movers, DS encGScore p1_1 c1_1 a1.Scores, DS encGShot p1_2 c1_2 a1.Shots, DS encGPickup p1_3 c1_3 a1.Pickups] [] := H.ofRs (List.forall_mem_cons.2 ⟨hD0_0.use, List.forall_mem_cons.2 ⟨hD0_1.use, List.forall_mem_cons.2 ⟨hD0_2.use, List.forall_mem_cons.2 ⟨hD0_3.use, List.forall_mem_cons.2 ⟨hD1_0.use, List.forall_mem_cons.2 ⟨hD1_1.use, List.forall_mem_cons.2 ⟨hD1_2.use, List.forall_mem_cons.2 ⟨hD1_3.use, fun _ h => by cases h⟩⟩⟩⟩⟩⟩⟩⟩)
  refine T.seq fun Kk109 k109 => ?_
  refine T.region ?_
  refine R.box rfl h rfl (fun b110 w (h : H W0 (fun _ => False) w [DS encGMover p0_0 c0_0 a0.Movers, DS encGScore p0_1 c0_1 a0.Scores, DS encGShot p0_2 c0_2 a0.Shots, DS encGPickup p0_3 c0_3 a0.Pickups, DS encGMover p1_0 c1_0 a1.Movers, DS encGScore p1_1 c1_1 a1.Scores, DS encGShot p1_2 c1_2 a1.Shots, DS encGPickup p1_3 c1_3 a1.Pickups] [ABox b110 27 #[.int .i64 a0.Frame, .slice p0_0 a0.Movers.length c0_0, .slice p0_1 a0.Scores.length c0_1, .slice p0_2 a0.Shots.length c0_2, .slice p0_3 a0.Pickups.length c0_3, .int .i64 a0.NextNo]]) => R.box rfl h rfl (fun b112 w (h : H W0 (fun _ => False) w [DS encGMover p0_0 c0_0 a0.Movers, DS encGScore p0_1 c0_1 a0.Scores, DS encGShot p0_2 c0_2 a0.Shots, DS encGPickup p0_3 c0_3 a0.Pickups, DS encGMover p1_0 c1_0 a1.Movers, DS encGScore p1_1 c1_1 a1.Scores, DS encGShot p1_2 c1_2 a1.Shots, DS encGPickup p1_3 c1_3 a1.Pickups] [ABox b110 27 #[.int .i64 a0.Frame, .slice p0_0 a0.Movers.length c0_0, .slice p0_1 a0.Scores.length c0_1, .slice p0_2 a0.Shots.length c0_2, .slice p0_3 a0.Pickups.length c0_3, .int .i64 a0.NextNo], ABox b112 27 #[.int .i64 a1.Frame, .slice p1_0 a1.Movers.length c1_0, .slice p1_1 a1.Scores.length c1_1, .slice p1_2 a1.Shots.length c1_2, .slice p1_3 a1.Pickups.length c1_3, .int .i64 a1.NextNo]]) => R.as rfl rfl (R.nil (k109 _ _ ?_))))
  refine T.seq fun Kk114 k114 => ?_
  refine T.region ?_
  obtain ⟨x115, e116, F⟩ := Option.bind_eq_some_iff.1 F
  refine R.callC (fl := []) (cl := []) rfl cf16 rfl rfl (echelonlaw23_awake.ok e116 (hg.fr0 h.fr0)) (?_)
  rintro _ w ⟨rfl, g117⟩
  replace h := h.same g117
  refine R.as rfl rfl (R.nil (k114 _ _ ?_))
  refine T.seq fun Kk118 k118 => ?_
  refine T.region ?_
  obtain ⟨x119, e120, F⟩ := Option.bind_eq_some_iff.1 F
  refine R.ldN (cs := [.int .i64 a0.Frame, .slice p0_0 a0.Movers.length c0_0, .slice p0_1 a0.Scores.length c0_1, .slice p0_2 a0.Shots.length c0_2, .slice p0_3 a0.Pickups.length c0_3, .int .i64 a0.NextNo]) rfl sh27 rfl rfl (h.boxN 0 rfl rfl) (R.ldN (cs := [.int .i64 a1.Frame, .slice p1_0 a1.Movers.length c1_0, .slice p1_1 a1.Scores.length c1_1, .slice p1_2 a1.Shots.length c1_2, .slice p1_3 a1.Pickups.length c1_3, .int .i64 a1.NextNo]) rfl sh27 rfl rfl (h.boxN 1 rfl rfl) (R.callC (fl := []) (cl := []) rfl cf17 rfl rfl (view_Correct.ok e120 (h.rS 0 rfl) (h.rS 1 rfl) (h.rS 2 rfl) (h.rS 3 rfl) (h.rS 4 rfl) (h.rS 5 rfl) (h.rS 6 rfl) (h.rS 7 rfl) (hg.fr0 h.fr0)) (?_)))
  rintro _ w ⟨p121, c122, rfl, g123⟩
  replace h := h.join g123
  refine R.mv rfl rfl (R.ext rfl rfl rfl (R.ext rfl rfl rfl (R.as rfl rfl (R.as rfl rfl (R.nil (k118 _ _ ?_))))))
  refine T.seq fun Kk125 k125 => ?_
  refine T.region ?_
  obtain ⟨x126, e127, F⟩ := Option.bind_eq_some_iff.1 F
  refine R.ldN (cs := [.int .i64 a1.Frame, .slice p1_0 a1.Movers.length c1_0, .slice p1_1 a1.Scores.length c1_1, .slice p1_2 a1.Shots.length c1_2, .slice p1_3 a1.Pickups.length c1_3, .int .i64 a1.NextNo]) rfl sh27 rfl rfl (h.boxN 1 rfl rfl) (R.ldN (cs := [.int .i64 a0.Frame, .slice p0_0 a0.Movers.length c0_0, .slice p0_1 a0.Scores.length c0_1, .slice p0_2 a0.Shots.length c0_2, .slice p0_3 a0.Pickups.length c0_3, .int .i64 a0.NextNo]) rfl sh27 rfl rfl (h.boxN 0 rfl rfl) (R.callC (fl := []) (cl := []) rfl cf17 rfl rfl (view_Correct.ok e127 (h.rS 4 rfl) (h.rS 5 rfl) (h.rS 6 rfl) (h.rS 7 rfl) (h.rS 0 rfl) (h.rS 1 rfl) (h.rS 2 rfl) (h.rS 3 rfl) (hg.fr0 h.fr0)) (?_)))
  rintro _ w ⟨p128, c129, rfl, g130⟩
  replace h := h.join g130
  refine R.mv rfl rfl (R.ext rfl rfl rfl (R.ext rfl rfl rfl (R.as rfl rfl (R.as rfl rfl (R.nil (k125 _ _ ?_))))))
  refine T.seq fun Kk132 k132 => ?_
  refine T.region ?_
  obtain ⟨x133, e134, F⟩ := Option.bind_eq_some_iff.1 F
  refine R.ldN (cs := [.int .i64 a0.Frame, .slice p0_0 a0.Movers.length c0_0, .slice p0_1 a0.Scores.length c0_1, .slice p0_2 a0.Shots.length c0_2, .slice p0_3 a0.Pickups.length c0_3, .int .i64 a0.NextNo]) rfl sh27 rfl rfl (h.boxN 0 rfl rfl) (R.ldN (cs := [.int .i64 a0.Frame, .slice p0_0 a0.Movers.length c0_0, .slice p0_1 a0.Scores.length c0_1, .slice p0_2 a0.Shots.length c0_2, .slice p0_3 a0.Pickups.length c0_3, .int .i64 a0.NextNo]) rfl sh27 rfl rfl (h.boxN 0 rfl rfl) (R.callC (fl := []) (cl := []) rfl cf17 rfl rfl (view_Correct.ok e134 (h.rS 0 rfl) (h.rS 1 rfl) (h.rS 2 rfl) (h.rS 3 rfl) (h.rS 0 rfl) (h.rS 1 rfl) (h.rS 2 rfl) (h.rS 3 rfl) (hg.fr0 h.fr0)) (?_)))
  rintro _ w ⟨p135, c136, rfl, g137⟩
  replace h := h.join g137
  refine R.mv rfl rfl (R.ext rfl rfl rfl (R.ext rfl rfl rfl (R.as rfl rfl (R.as rfl rfl (R.nil (k132 _ _ ?_))))))
  refine T.seq fun Kk139 k139 => ?_
  refine T.region ?_
  obtain ⟨x140, e141, F⟩ := Option.bind_eq_some_iff.1 F
  refine R.fldB rfl fo27_1 rfl (R.ld rfl sh22 rfl (h.box 0 1 rfl rfl) (R.lenSl rfl u22 rfl (R.fldB rfl fo27_2 rfl (R.ld rfl sh23 rfl (h.box 0 2 rfl rfl) (R.lenSl rfl u23 rfl (R.ib rfl rfl rfl rfl (R.re (congrArg Value.bool (Option.some.inj e141)) (R.as rfl rfl (R.nil (k139 _ _ ?_))))))))))
  refine T.seq fun Kk142 k142 => ?_
  obtain ⟨y144, F, E143⟩ := Option.bind_eq_some_iff.1 F
  refine T.cut (fun a w => Agr 128 [(5, .bool x115), (6, .slice p121 x119.1.length c122), (8, .slice p128 x126.1.length c129), (62, .bool y144)] a ∧ H W0 (fun _ => False) w [DS encGMover p0_0 c0_0 a0.Movers, DS encGScore p0_1 c0_1 a0.Scores, DS encGShot p0_2 c0_2 a0.Shots, DS encGPickup p0_3 c0_3 a0.Pickups, DS encGMover p1_0 c1_0 a1.Movers, DS encGScore p1_1 c1_1 a1.Scores, DS encGShot p1_2 c1_2 a1.Shots, DS encGPickup p1_3 c1_3 a1.Pickups] [ASl 37 encGCorrection p121 c122 x119.1, ASl 37 encGCorrection p128 c129 x126.1]) ?_ ?_
  · refine T.region ?_
    refine R.mv rfl rfl (R.lenSl rfl u29 rfl (R.ib rfl rfl rfl rfl (R.mv rfl rfl (?_))))
    refine bsplit ((x133.1.length : Int) != 0) (fun c145 => ?_) (fun c145 => ?_)
    · replace F := (ifT c145).symm.trans F
      obtain rfl := Option.some.inj F
      refine R.not_ rfl rfl rfl c145 (R.not_ rfl rfl rfl c145 (R.not_ rfl rfl rfl c145 (R.not_ rfl rfl rfl c145 (R.pT rfl rfl c145 rfl (R.mv rfl rfl (R.not_ rfl rfl rfl rfl (R.not_ rfl rfl rfl rfl (R.not_ rfl rfl rfl rfl (R.pT rfl rfl rfl rfl (R.mv rfl rfl (R.not_ rfl rfl rfl rfl (R.not_ rfl rfl rfl rfl (R.not_ rfl rfl rfl rfl (R.not_ rfl rfl rfl rfl (R.not_ rfl rfl rfl rfl (R.pT rfl rfl rfl rfl (R.nil (fun a ha => ⟨ha.sub ⟨rfl, rfl, rfl, rfl, trivial⟩, (h.sel [2, 3] rfl (by decide))⟩))))))))))))))))))
    · replace F := (ifF c145).symm.trans F
      refine R.iff rfl rfl c145 (R.mv rfl rfl (R.iff rfl rfl c145 (R.ib rfl rfl rfl rfl (R.iff rfl rfl c145 (R.mv rfl rfl (R.iff rfl rfl c145 (R.bb rfl u4 rfl rfl rfl (R.pF rfl rfl c145 rfl (R.mv rfl rfl (?_))))))))))
      refine bsplit (!((x133.2 == 0) == x140)) (fun c146 => ?_) (fun c146 => ?_)
      · replace F := (ifT c146).symm.trans F
        obtain rfl := Option.some.inj F
        refine R.not_ rfl rfl rfl c146 (R.not_ rfl rfl rfl c146 (R.not_ rfl rfl rfl c146 (R.pT rfl rfl c146 rfl (R.mv rfl rfl (R.not_ rfl rfl rfl rfl (R.not_ rfl rfl rfl rfl (R.not_ rfl rfl rfl rfl (R.not_ rfl rfl rfl rfl (R.not_ rfl rfl rfl rfl (R.pT rfl rfl rfl rfl (R.nil (fun a ha => ⟨ha.sub ⟨rfl, rfl, rfl, rfl, trivial⟩, (h.sel [2, 3] rfl (by decide))⟩))))))))))))
      · replace F := (ifF c146).symm.trans F
        refine R.iff rfl rfl c146 (R.mv rfl rfl (R.iff rfl rfl c146 (R.mv rfl rfl (R.iff rfl rfl c146 (R.ib rfl rfl rfl rfl (R.pF rfl rfl c146 rfl (R.mv rfl rfl (?_))))))))
        refine bsplit (x119.2 != x126.2) (fun c147 => ?_) (fun c147 => ?_)
        · replace F := (ifT c147).symm.trans F
          obtain rfl := Option.some.inj F
          refine R.not_ rfl rfl rfl c147 (R.not_ rfl rfl rfl c147 (R.not_ rfl rfl rfl c147 (R.not_ rfl rfl rfl c147 (R.not_ rfl rfl rfl c147 (R.pT rfl rfl c147 rfl (R.nil (fun a ha => ⟨ha.sub ⟨rfl, rfl, rfl, rfl, trivial⟩, (h.sel [2, 3] rfl (by decide))⟩)))))))
        · replace F := (ifF c147).symm.trans F
          obtain ⟨x148, e149, F⟩ := Option.bind_eq_some_iff.1 F
          obtain rfl := Option.some.inj F
          refine R.iff rfl rfl c147 (R.mv rfl rfl (R.iff rfl rfl c147 (R.lenSl rfl u29 rfl (R.iff rfl rfl c147 (R.mv rfl rfl (R.iff rfl rfl c147 (R.lenSl rfl u29 rfl (R.iff rfl rfl c147 (R.ib rfl rfl rfl rfl (R.re (congrArg Value.bool (Option.some.inj e149)) (R.pF rfl rfl c147 rfl (R.nil (fun a ha => ⟨ha.sub ⟨rfl, rfl, rfl, rfl, trivial⟩, (h.sel [2, 3] rfl (by decide))⟩)))))))))))))
  · clear F
    rintro a w ⟨ha, h⟩
    refine T.use ?_ ha
    have F := E143
    refine T.cond rfl (fun c150 => ?_) (fun c150 => ?_)
    · replace F := (ifT c150).symm.trans F
      refine T.seq fun Kk151 k151 => ?_
      refine T.region ?_
      refine R.as rfl rfl (R.nil (k151 _ _ ?_))
      obtain rfl := Option.some.inj F
      refine T.ret (retG (vs := [.bool false]) [.tmp 4] rfl ⟨rfl, trivial⟩ ⟨rfl, h.fr0⟩)
    · replace F := (ifF c150).symm.trans F
      refine T.skip (k142 _ _ ?_)
      obtain ⟨y153, F, E152⟩ := Option.bind_eq_some_iff.1 F
      refine T.cut (fun a w => ∃ y154, y153 = .inl y154 ∧ Agr 128 [(5, .bool x115)] a ∧ H W0 (fun _ => False) w [DS encGMover p0_0 c0_0 a0.Movers, DS encGScore p0_1 c0_1 a0.Scores, DS encGShot p0_2 c0_2 a0.Shots, DS encGPickup p0_3 c0_3 a0.Pickups, DS encGMover p1_0 c1_0 a1.Movers, DS encGScore p1_1 c1_1 a1.Scores, DS encGShot p1_2 c1_2 a1.Shots, DS encGPickup p1_3 c1_3 a1.Pickups] []) ?_ ?_
      · refine T.seq fun Kk155 k155 => ?_
        refine T.region ?_
        refine R.as rfl rfl (R.nil (k155 _ _ ?_))
        refine T.block ?_
        refine T.loop (fun (s199 : Int) a w => Agr 128 [(5, .bool x115), (6, .slice p121 x119.1.length c122), (8, .slice p128 x126.1.length c129), (13, .int .i64 s199)] a ∧ H W0 (fun _ => False) w [DS encGMover p0_0 c0_0 a0.Movers, DS encGScore p0_1 c0_1 a0.Scores, DS encGShot p0_2 c0_2 a0.Shots, DS encGPickup p0_3 c0_3 a0.Pickups, DS encGMover p1_0 c1_0 a1.Movers, DS encGScore p1_1 c1_1 a1.Scores, DS encGShot p1_2 c1_2 a1.Shots, DS encGPickup p1_3 c1_3 a1.Pickups] [ASl 37 encGCorrection p121 c122 x119.1, ASl 37 encGCorrection p128 c129 x126.1]) F (fun a ha => ⟨ha.sub ⟨rfl, rfl, rfl, rfl, trivial⟩, h⟩) ?_
        clear h F
        intro s199 F a w
        rintro ⟨ha, h⟩
        refine T.use ?_ ha
        obtain ⟨x201, F, c1, c2⟩ := Loop.run_step F
        have E200 := F
        refine T.seq fun Kk202 k202 => ?_
        refine T.seq fun Kk203 k203 => ?_
        refine T.region ?_
        refine R.mv rfl rfl (R.mv rfl rfl (R.lenSl rfl u29 rfl (R.ib rfl rfl rfl rfl (R.nil (k203 _ _ ?_)))))
        refine T.cond rfl (fun c204 => ?_) (fun c204 => ?_)
        · replace F := (ifT c204).symm.trans F
          refine T.skip (k202 _ _ ?_)
          refine T.seq fun Kk205 k205 => ?_
          refine T.block ?_
          refine T.seq fun Kk206 k206 => ?_
          obtain ⟨x213, e214, F⟩ := Option.bind_eq_some_iff.1 F
          obtain ⟨x215, e216, F⟩ := Option.bind_eq_some_iff.1 F
          refine T.regionI (fun dn a w => ∃ b217 b219, Agr 128 [(5, .bool x115), (6, .slice p121 x119.1.length c122), (8, .slice p128 x126.1.length c129), (13, .int .i64 s199), (63, .int .i64 s199), (64, .slice p121 x119.1.length c122), (65, .int .i64 (x119.1.length : Int)), (66, .bool (decide (s199 < (x119.1.length : Int))))] a ∧ Kn dn [(0, 69, .slice p121 x119.1.length c122), (1, 70, .int .i64 s199), (2, 71, .pointer (some ((adr p121).add (s199.toNat * 7)))), (3, 72, vGCorrection x213), (4, 73, .slice p128 x126.1.length c129), (5, 74, .int .i64 s199), (6, 75, .pointer (some ((adr p128).add (s199.toNat * 7)))), (7, 76, vGCorrection x215), (8, 14, .pointer (some ⟨b217, 0, none⟩)), (9, 15, .pointer (some ⟨b219, 0, none⟩))] a ∧ H W0 (fun _ => False) w [DS encGMover p0_0 c0_0 a0.Movers, DS encGScore p0_1 c0_1 a0.Scores, DS encGShot p0_2 c0_2 a0.Shots, DS encGPickup p0_3 c0_3 a0.Pickups, DS encGMover p1_0 c1_0 a1.Movers, DS encGScore p1_1 c1_1 a1.Scores, DS encGShot p1_2 c1_2 a1.Shots, DS encGPickup p1_3 c1_3 a1.Pickups] [ASl 37 encGCorrection p121 c122 x119.1, ASl 37 encGCorrection p128 c129 x126.1, (bif (dn 10) then ABox b217 37 (encGCorrection.enc x213).toArray else (bif (dn 8) then ABox b217 37 #[.int .i64 0, .int .i64 0, .int .i64 0, .int .i64 0, .int .i64 0, .int .i64 0, .int .i64 0] else AEmp)), (bif (dn 11) then ABox b219 37 (encGCorrection.enc x215).toArray else (bif (dn 9) then ABox b219 37 #[.int .i64 0, .int .i64 0, .int .i64 0, .int .i64 0, .int .i64 0, .int .i64 0, .int .i64 0] else AEmp))]) mix (by kernel_rfl) ?_ ⟨?_, ?_, ?_, ?_, ?_, ?_, ?_, ?_, ?_, ?_, ?_, ?_, trivial⟩ ?_
          · intro a ha
            exact ⟨0, 0, ha.sub ⟨rfl, rfl, rfl, rfl, rfl, rfl, rfl, rfl, trivial⟩, Kn.start _, (h.same (Fr.drewN w 1)).emp.emp⟩
          · intro dn hn hcl haf a w
            rintro ⟨b217, b219, hA, hK, h⟩
            refine R.step (d := 69) (Φ := fun v w => v = .slice p121 x119.1.length c122 ∧ H W0 (fun _ => False) w [DS encGMover p0_0 c0_0 a0.Movers, DS encGScore p0_1 c0_1 a0.Scores, DS encGShot p0_2 c0_2 a0.Shots, DS encGPickup p0_3 c0_3 a0.Pickups, DS encGMover p1_0 c1_0 a1.Movers, DS encGScore p1_1 c1_1 a1.Scores, DS encGShot p1_2 c1_2 a1.Shots, DS encGPickup p1_3 c1_3 a1.Pickups] [ASl 37 encGCorrection p121 c122 x119.1, ASl 37 encGCorrection p128 c129 x126.1, (bif (dn 10) then ABox b217 37 (encGCorrection.enc x213).toArray else (bif (dn 8) then ABox b217 37 #[.int .i64 0, .int .i64 0, .int .i64 0, .int .i64 0, .int .i64 0, .int .i64 0, .int .i64 0] else AEmp)), (bif (dn 11) then ABox b219 37 (encGCorrection.enc x215).toArray else (bif (dn 9) then ABox b219 37 #[.int .i64 0, .int .i64 0, .int .i64 0, .int .i64 0, .int .i64 0, .int .i64 0, .int .i64 0] else AEmp))]) ?_ hA rfl rfl ?_
            · exact R.mv rfl rfl (R.nil (fun a ha => ⟨_, ha.slots _ _ rfl, ⟨rfl, h⟩, ha.defers, ha.size⟩))
            · rintro a2 v w ht hdf ⟨rfl, h⟩
              exact ⟨b217, b219, hA.putS rfl ht hdf, Kn.put hK hA 0 rfl rfl rfl ht, h⟩
          · intro dn hn hcl haf a w
            rintro ⟨b217, b219, hA, hK, h⟩
            refine R.step (d := 70) (Φ := fun v w => v = .int .i64 s199 ∧ H W0 (fun _ => False) w [DS encGMover p0_0 c0_0 a0.Movers, DS encGScore p0_1 c0_1 a0.Scores, DS encGShot p0_2 c0_2 a0.Shots, DS encGPickup p0_3 c0_3 a0.Pickups, DS encGMover p1_0 c1_0 a1.Movers, DS encGScore p1_1 c1_1 a1.Scores, DS encGShot p1_2 c1_2 a1.Shots, DS encGPickup p1_3 c1_3 a1.Pickups] [ASl 37 encGCorrection p121 c122 x119.1, ASl 37 encGCorrection p128 c129 x126.1, (bif (dn 10) then ABox b217 37 (encGCorrection.enc x213).toArray else (bif (dn 8) then ABox b217 37 #[.int .i64 0, .int .i64 0, .int .i64 0, .int .i64 0, .int .i64 0, .int .i64 0, .int .i64 0] else AEmp)), (bif (dn 11) then ABox b219 37 (encGCorrection.enc x215).toArray else (bif (dn 9) then ABox b219 37 #[.int .i64 0, .int .i64 0, .int .i64 0, .int .i64 0, .int .i64 0, .int .i64 0, .int .i64 0] else AEmp))]) ?_ hA rfl rfl ?_
            · exact R.mv rfl rfl (R.nil (fun a ha => ⟨_, ha.slots _ _ rfl, ⟨rfl, h⟩, ha.defers, ha.size⟩))
            · rintro a2 v w ht hdf ⟨rfl, h⟩
              exact ⟨b217, b219, hA.putS rfl ht hdf, Kn.put hK hA 1 rfl rfl rfl ht, h⟩
          · intro dn hn hcl haf a w
            rintro ⟨b217, b219, hA, hK, h⟩
            have d0 : dn 0 = true := (afterB_at haf 0 rfl rfl)
            have d1 : dn 1 = true := (afterB_at haf 1 rfl rfl)
            refine R.step (d := 71) (Φ := fun v w => v = .pointer (some ((adr p121).add (s199.toNat * 7))) ∧ H W0 (fun _ => False) w [DS encGMover p0_0 c0_0 a0.Movers, DS encGScore p0_1 c0_1 a0.Scores, DS encGShot p0_2 c0_2 a0.Shots, DS encGPickup p0_3 c0_3 a0.Pickups, DS encGMover p1_0 c1_0 a1.Movers, DS encGScore p1_1 c1_1 a1.Scores, DS encGShot p1_2 c1_2 a1.Shots, DS encGPickup p1_3 c1_3 a1.Pickups] [ASl 37 encGCorrection p121 c122 x119.1, ASl 37 encGCorrection p128 c129 x126.1, (bif (dn 10) then ABox b217 37 (encGCorrection.enc x213).toArray else (bif (dn 8) then ABox b217 37 #[.int .i64 0, .int .i64 0, .int .i64 0, .int .i64 0, .int .i64 0, .int .i64 0, .int .i64 0] else AEmp)), (bif (dn 11) then ABox b219 37 (encGCorrection.enc x215).toArray else (bif (dn 9) then ABox b219 37 #[.int .i64 0, .int .i64 0, .int .i64 0, .int .i64 0, .int .i64 0, .int .i64 0, .int .i64 0] else AEmp))]) ?_ ((hA.add (hK.get 0 rfl d0)).add (hK.get 1 rfl d1)) rfl rfl ?_
            · exact R.ixS rfl ss29 rfl rfl (h.rL 0 rfl) e214 (R.nil (fun a ha => ⟨_, ha.slots _ _ rfl, ⟨rfl, h⟩, ha.defers, ha.size⟩))
            · rintro a2 v w ht hdf ⟨rfl, h⟩
              exact ⟨b217, b219, hA.putS rfl ht hdf, Kn.put hK hA 2 rfl rfl rfl ht, h⟩
          · intro dn hn hcl haf a w
            rintro ⟨b217, b219, hA, hK, h⟩
            have d2 : dn 2 = true := (afterB_at haf 0 rfl rfl)
            refine R.step (d := 72) (Φ := fun v w => v = vGCorrection x213 ∧ H W0 (fun _ => False) w [DS encGMover p0_0 c0_0 a0.Movers, DS encGScore p0_1 c0_1 a0.Scores, DS encGShot p0_2 c0_2 a0.Shots, DS encGPickup p0_3 c0_3 a0.Pickups, DS encGMover p1_0 c1_0 a1.Movers, DS encGScore p1_1 c1_1 a1.Scores, DS encGShot p1_2 c1_2 a1.Shots, DS encGPickup p1_3 c1_3 a1.Pickups] [ASl 37 encGCorrection p121 c122 x119.1, ASl 37 encGCorrection p128 c129 x126.1, (bif (dn 10) then ABox b217 37 (encGCorrection.enc x213).toArray else (bif (dn 8) then ABox b217 37 #[.int .i64 0, .int .i64 0, .int .i64 0, .int .i64 0, .int .i64 0, .int .i64 0, .int .i64 0] else AEmp)), (bif (dn 11) then ABox b219 37 (encGCorrection.enc x215).toArray else (bif (dn 9) then ABox b219 37 #[.int .i64 0, .int .i64 0, .int .i64 0, .int .i64 0, .int .i64 0, .int .i64 0, .int .i64 0] else AEmp))]) ?_ (hA.add (hK.get 2 rfl d2)) rfl rfl ?_
            · exact R.ldN (cs := [.int .i64 x213.Peer, .int .i64 x213.Before.X, .int .i64 x213.Before.Y, .int .i64 x213.After.X, .int .i64 x213.After.Y, .int .i64 x213.Health, .int .i64 x213.Points]) rfl sh37 rfl rfl (RdS.cells (h.rL 0 rfl) e214 0 rfl) (R.nil (fun a ha => ⟨_, ha.slots _ _ rfl, ⟨rfl, h⟩, ha.defers, ha.size⟩))
            · rintro a2 v w ht hdf ⟨rfl, h⟩
              exact ⟨b217, b219, hA.putS rfl ht hdf, Kn.put hK hA 3 rfl rfl rfl ht, h⟩
          · intro dn hn hcl haf a w
            rintro ⟨b217, b219, hA, hK, h⟩
            refine R.step (d := 73) (Φ := fun v w => v = .slice p128 x126.1.length c129 ∧ H W0 (fun _ => False) w [DS encGMover p0_0 c0_0 a0.Movers, DS encGScore p0_1 c0_1 a0.Scores, DS encGShot p0_2 c0_2 a0.Shots, DS encGPickup p0_3 c0_3 a0.Pickups, DS encGMover p1_0 c1_0 a1.Movers, DS encGScore p1_1 c1_1 a1.Scores, DS encGShot p1_2 c1_2 a1.Shots, DS encGPickup p1_3 c1_3 a1.Pickups] [ASl 37 encGCorrection p121 c122 x119.1, ASl 37 encGCorrection p128 c129 x126.1, (bif (dn 10) then ABox b217 37 (encGCorrection.enc x213).toArray else (bif (dn 8) then ABox b217 37 #[.int .i64 0, .int .i64 0, .int .i64 0, .int .i64 0, .int .i64 0, .int .i64 0, .int .i64 0] else AEmp)), (bif (dn 11) then ABox b219 37 (encGCorrection.enc x215).toArray else (bif (dn 9) then ABox b219 37 #[.int .i64 0, .int .i64 0, .int .i64 0, .int .i64 0, .int .i64 0, .int .i64 0, .int .i64 0] else AEmp))]) ?_ hA rfl rfl ?_
            · exact R.mv rfl rfl (R.nil (fun a ha => ⟨_, ha.slots _ _ rfl, ⟨rfl, h⟩, ha.defers, ha.size⟩))
            · rintro a2 v w ht hdf ⟨rfl, h⟩
              exact ⟨b217, b219, hA.putS rfl ht hdf, Kn.put hK hA 4 rfl rfl rfl ht, h⟩
          · intro dn hn hcl haf a w
            rintro ⟨b217, b219, hA, hK, h⟩
            refine R.step (d := 74) (Φ := fun v w => v = .int .i64 s199 ∧ H W0 (fun _ => False) w [DS encGMover p0_0 c0_0 a0.Movers, DS encGScore p0_1 c0_1 a0.Scores, DS encGShot p0_2 c0_2 a0.Shots, DS encGPickup p0_3 c0_3 a0.Pickups, DS encGMover p1_0 c1_0 a1.Movers, DS encGScore p1_1 c1_1 a1.Scores, DS encGShot p1_2 c1_2 a1.Shots, DS encGPickup p1_3 c1_3 a1.Pickups] [ASl 37 encGCorrection p121 c122 x119.1, ASl 37 encGCorrection p128 c129 x126.1, (bif (dn 10) then ABox b217 37 (encGCorrection.enc x213).toArray else (bif (dn 8) then ABox b217 37 #[.int .i64 0, .int .i64 0, .int .i64 0, .int .i64 0, .int .i64 0, .int .i64 0, .int .i64 0] else AEmp)), (bif (dn 11) then ABox b219 37 (encGCorrection.enc x215).toArray else (bif (dn 9) then ABox b219 37 #[.int .i64 0, .int .i64 0, .int .i64 0, .int .i64 0, .int .i64 0, .int .i64 0, .int .i64 0] else AEmp))]) ?_ hA rfl rfl ?_
            · exact R.mv rfl rfl (R.nil (fun a ha => ⟨_, ha.slots _ _ rfl, ⟨rfl, h⟩, ha.defers, ha.size⟩))
            · rintro a2 v w ht hdf ⟨rfl, h⟩
              exact ⟨b217, b219, hA.putS rfl ht hdf, Kn.put hK hA 5 rfl rfl rfl ht, h⟩
          · intro dn hn hcl haf a w
            rintro ⟨b217, b219, hA, hK, h⟩
            have d4 : dn 4 = true := (afterB_at haf 0 rfl rfl)
            have d5 : dn 5 = true := (afterB_at haf 1 rfl rfl)
            refine R.step (d := 75) (Φ := fun v w => v = .pointer (some ((adr p128).add (s199.toNat * 7))) ∧ H W0 (fun _ => False) w [DS encGMover p0_0 c0_0 a0.Movers, DS encGScore p0_1 c0_1 a0.Scores, DS encGShot p0_2 c0_2 a0.Shots, DS encGPickup p0_3 c0_3 a0.Pickups, DS encGMover p1_0 c1_0 a1.Movers, DS encGScore p1_1 c1_1 a1.Scores, DS encGShot p1_2 c1_2 a1.Shots, DS encGPickup p1_3 c1_3 a1.Pickups] [ASl 37 encGCorrection p121 c122 x119.1, ASl 37 encGCorrection p128 c129 x126.1, (bif (dn 10) then ABox b217 37 (encGCorrection.enc x213).toArray else (bif (dn 8) then ABox b217 37 #[.int .i64 0, .int .i64 0, .int .i64 0, .int .i64 0, .int .i64 0, .int .i64 0, .int .i64 0] else AEmp)), (bif (dn 11) then ABox b219 37 (encGCorrection.enc x215).toArray else (bif (dn 9) then ABox b219 37 #[.int .i64 0, .int .i64 0, .int .i64 0, .int .i64 0, .int .i64 0, .int .i64 0, .int .i64 0] else AEmp))]) ?_ ((hA.add (hK.get 4 rfl d4)).add (hK.get 5 rfl d5)) rfl rfl ?_
            · exact R.ixS rfl ss29 rfl rfl (h.rL 1 rfl) e216 (R.nil (fun a ha => ⟨_, ha.slots _ _ rfl, ⟨rfl, h⟩, ha.defers, ha.size⟩))
            · rintro a2 v w ht hdf ⟨rfl, h⟩
              exact ⟨b217, b219, hA.putS rfl ht hdf, Kn.put hK hA 6 rfl rfl rfl ht, h⟩
          · intro dn hn hcl haf a w
            rintro ⟨b217, b219, hA, hK, h⟩
            have d6 : dn 6 = true := (afterB_at haf 0 rfl rfl)
            refine R.step (d := 76) (Φ := fun v w => v = vGCorrection x215 ∧ H W0 (fun _ => False) w [DS encGMover p0_0 c0_0 a0.Movers, DS encGScore p0_1 c0_1 a0.Scores, DS encGShot p0_2 c0_2 a0.Shots, DS encGPickup p0_3 c0_3 a0.Pickups, DS encGMover p1_0 c1_0 a1.Movers, DS encGScore p1_1 c1_1 a1.Scores, DS encGShot p1_2 c1_2 a1.Shots, DS encGPickup p1_3 c1_3 a1.Pickups] [ASl 37 encGCorrection p121 c122 x119.1, ASl 37 encGCorrection p128 c129 x126.1, (bif (dn 10) then ABox b217 37 (encGCorrection.enc x213).toArray else (bif (dn 8) then ABox b217 37 #[.int .i64 0, .int .i64 0, .int .i64 0, .int .i64 0, .int .i64 0, .int .i64 0, .int .i64 0] else AEmp)), (bif (dn 11) then ABox b219 37 (encGCorrection.enc x215).toArray else (bif (dn 9) then ABox b219 37 #[.int .i64 0, .int .i64 0, .int .i64 0, .int .i64 0, .int .i64 0, .int .i64 0, .int .i64 0] else AEmp))]) ?_ (hA.add (hK.get 6 rfl d6)) rfl rfl ?_
            · exact R.ldN (cs := [.int .i64 x215.Peer, .int .i64 x215.Before.X, .int .i64 x215.Before.Y, .int .i64 x215.After.X, .int .i64 x215.After.Y, .int .i64 x215.Health, .int .i64 x215.Points]) rfl sh37 rfl rfl (RdS.cells (h.rL 1 rfl) e216 0 rfl) (R.nil (fun a ha => ⟨_, ha.slots _ _ rfl, ⟨rfl, h⟩, ha.defers, ha.size⟩))
            · rintro a2 v w ht hdf ⟨rfl, h⟩
              exact ⟨b217, b219, hA.putS rfl ht hdf, Kn.put hK hA 7 rfl rfl rfl ht, h⟩
          · intro dn hn hcl haf a w
            rintro ⟨b217, b219, hA, hK, h⟩
            have f10 : dn 10 = false := (dnF (fun hm => (afterB_at (hcl 10 _ rfl hm) 0 rfl rfl)) hn)
            refine R.step (d := 14) (Φ := fun v w => ∃ b217, v = .pointer (some ⟨b217, 0, none⟩) ∧ H W0 (fun _ => False) w [DS encGMover p0_0 c0_0 a0.Movers, DS encGScore p0_1 c0_1 a0.Scores, DS encGShot p0_2 c0_2 a0.Shots, DS encGPickup p0_3 c0_3 a0.Pickups, DS encGMover p1_0 c1_0 a1.Movers, DS encGScore p1_1 c1_1 a1.Scores, DS encGShot p1_2 c1_2 a1.Shots, DS encGPickup p1_3 c1_3 a1.Pickups] [ASl 37 encGCorrection p121 c122 x119.1, ASl 37 encGCorrection p128 c129 x126.1, (bif (dn 10) then ABox b217 37 (encGCorrection.enc x213).toArray else (bif true then ABox b217 37 #[.int .i64 0, .int .i64 0, .int .i64 0, .int .i64 0, .int .i64 0, .int .i64 0, .int .i64 0] else AEmp)), (bif (dn 11) then ABox b219 37 (encGCorrection.enc x215).toArray else (bif (dn 9) then ABox b219 37 #[.int .i64 0, .int .i64 0, .int .i64 0, .int .i64 0, .int .i64 0, .int .i64 0, .int .i64 0] else AEmp))]) ?_ hA rfl rfl ?_
            · exact R.alloc rfl h zr37 (fun b217 w h => R.nil (fun a ha => ⟨_, ha.slots _ _ rfl, ⟨b217, rfl, (((h.sel [0, 1, 4, 3] rfl (by decide)).wT 2 rfl (b := true) rfl).wF 2 rfl f10)⟩, ha.defers, ha.size⟩))
            · rintro a2 v w ht hdf ⟨b217, rfl, h⟩
              exact ⟨b217, b219, hA.putS rfl ht hdf, Kn.put (Kn.sw (K' := [(0, 69, .slice p121 x119.1.length c122), (1, 70, .int .i64 s199), (2, 71, .pointer (some ((adr p121).add (s199.toNat * 7)))), (3, 72, vGCorrection x213), (4, 73, .slice p128 x126.1.length c129), (5, 74, .int .i64 s199), (6, 75, .pointer (some ((adr p128).add (s199.toNat * 7)))), (7, 76, vGCorrection x215), (8, 14, .pointer (some ⟨b217, 0, none⟩)), (9, 15, .pointer (some ⟨b219, 0, none⟩))]) hK ⟨⟨rfl, rfl, .inl rfl⟩, ⟨rfl, rfl, .inl rfl⟩, ⟨rfl, rfl, .inl rfl⟩, ⟨rfl, rfl, .inl rfl⟩, ⟨rfl, rfl, .inl rfl⟩, ⟨rfl, rfl, .inl rfl⟩, ⟨rfl, rfl, .inl rfl⟩, ⟨rfl, rfl, .inl rfl⟩, ⟨rfl, rfl, .inr hn⟩, ⟨rfl, rfl, .inl rfl⟩, trivial⟩) hA 8 rfl rfl rfl ht, h⟩
          · intro dn hn hcl haf a w
            rintro ⟨b217, b219, hA, hK, h⟩
            have f11 : dn 11 = false := (dnF (fun hm => (afterB_at (hcl 11 _ rfl hm) 0 rfl rfl)) hn)
            refine R.step (d := 15) (Φ := fun v w => ∃ b219, v = .pointer (some ⟨b219, 0, none⟩) ∧ H W0 (fun _ => False) w [DS encGMover p0_0 c0_0 a0.Movers, DS encGScore p0_1 c0_1 a0.Scores, DS encGShot p0_2 c0_2 a0.Shots, DS encGPickup p0_3 c0_3 a0.Pickups, DS encGMover p1_0 c1_0 a1.Movers, DS encGScore p1_1 c1_1 a1.Scores, DS encGShot p1_2 c1_2 a1.Shots, DS encGPickup p1_3 c1_3 a1.Pickups] [ASl 37 encGCorrection p121 c122 x119.1, ASl 37 encGCorrection p128 c129 x126.1, (bif (dn 10) then ABox b217 37 (encGCorrection.enc x213).toArray else (bif (dn 8) then ABox b217 37 #[.int .i64 0, .int .i64 0, .int .i64 0, .int .i64 0, .int .i64 0, .int .i64 0, .int .i64 0] else AEmp)), (bif (dn 11) then ABox b219 37 (encGCorrection.enc x215).toArray else (bif true then ABox b219 37 #[.int .i64 0, .int .i64 0, .int .i64 0, .int .i64 0, .int .i64 0, .int .i64 0, .int .i64 0] else AEmp))]) ?_ hA rfl rfl ?_
            · exact R.alloc rfl h zr37 (fun b219 w h => R.nil (fun a ha => ⟨_, ha.slots _ _ rfl, ⟨b219, rfl, (((h.sel [0, 1, 2, 4] rfl (by decide)).wT 3 rfl (b := true) rfl).wF 3 rfl f11)⟩, ha.defers, ha.size⟩))
            · rintro a2 v w ht hdf ⟨b219, rfl, h⟩
              exact ⟨b217, b219, hA.putS rfl ht hdf, Kn.put (Kn.sw (K' := [(0, 69, .slice p121 x119.1.length c122), (1, 70, .int .i64 s199), (2, 71, .pointer (some ((adr p121).add (s199.toNat * 7)))), (3, 72, vGCorrection x213), (4, 73, .slice p128 x126.1.length c129), (5, 74, .int .i64 s199), (6, 75, .pointer (some ((adr p128).add (s199.toNat * 7)))), (7, 76, vGCorrection x215), (8, 14, .pointer (some ⟨b217, 0, none⟩)), (9, 15, .pointer (some ⟨b219, 0, none⟩))]) hK ⟨⟨rfl, rfl, .inl rfl⟩, ⟨rfl, rfl, .inl rfl⟩, ⟨rfl, rfl, .inl rfl⟩, ⟨rfl, rfl, .inl rfl⟩, ⟨rfl, rfl, .inl rfl⟩, ⟨rfl, rfl, .inl rfl⟩, ⟨rfl, rfl, .inl rfl⟩, ⟨rfl, rfl, .inl rfl⟩, ⟨rfl, rfl, .inl rfl⟩, ⟨rfl, rfl, .inr hn⟩, trivial⟩) hA 9 rfl rfl rfl ht, h⟩
          · intro dn hn hcl haf a w
            rintro ⟨b217, b219, hA, hK, h⟩
            have d3 : dn 3 = true := (afterB_at haf 1 rfl rfl)
            have d8 : dn 8 = true := (afterB_at haf 0 rfl rfl)
            replace h := h.cF 2 rfl hn
            replace h := h.cT 2 rfl d8
            refine R.stepU (Φ := fun w => H W0 (fun _ => False) w [DS encGMover p0_0 c0_0 a0.Movers, DS encGScore p0_1 c0_1 a0.Scores, DS encGShot p0_2 c0_2 a0.Shots, DS encGPickup p0_3 c0_3 a0.Pickups, DS encGMover p1_0 c1_0 a1.Movers, DS encGScore p1_1 c1_1 a1.Scores, DS encGShot p1_2 c1_2 a1.Shots, DS encGPickup p1_3 c1_3 a1.Pickups] [ASl 37 encGCorrection p121 c122 x119.1, ASl 37 encGCorrection p128 c129 x126.1, (bif true then ABox b217 37 (encGCorrection.enc x213).toArray else (bif (dn 8) then ABox b217 37 #[.int .i64 0, .int .i64 0, .int .i64 0, .int .i64 0, .int .i64 0, .int .i64 0, .int .i64 0] else AEmp)), (bif (dn 11) then ABox b219 37 (encGCorrection.enc x215).toArray else (bif (dn 9) then ABox b219 37 #[.int .i64 0, .int .i64 0, .int .i64 0, .int .i64 0, .int .i64 0, .int .i64 0, .int .i64 0] else AEmp))]) ?_ ((hA.add (hK.get 3 rfl d3)).add (hK.get 8 rfl d8)) rfl ?_
            · exact R.stB (ds := [.int .i64 x213.Peer, .int .i64 x213.Before.X, .int .i64 x213.Before.Y, .int .i64 x213.After.X, .int .i64 x213.After.Y, .int .i64 x213.Health, .int .i64 x213.Points]) 2 h rfl sz37 rfl rfl rfl rfl rfl (fun w h => R.nil (fun a ha => ⟨(h.wT 2 rfl (b := true) rfl), ha.defers⟩))
            · rintro a2 w ht hdf h
              exact ⟨b217, b219, hA.same ht hdf, Kn.none hK rfl ht, h⟩
          · intro dn hn hcl haf a w
            rintro ⟨b217, b219, hA, hK, h⟩
            have d7 : dn 7 = true := (afterB_at haf 1 rfl rfl)
            have d9 : dn 9 = true := (afterB_at haf 0 rfl rfl)
            replace h := h.cF 3 rfl hn
            replace h := h.cT 3 rfl d9
            refine R.stepU (Φ := fun w => H W0 (fun _ => False) w [DS encGMover p0_0 c0_0 a0.Movers, DS encGScore p0_1 c0_1 a0.Scores, DS encGShot p0_2 c0_2 a0.Shots, DS encGPickup p0_3 c0_3 a0.Pickups, DS encGMover p1_0 c1_0 a1.Movers, DS encGScore p1_1 c1_1 a1.Scores, DS encGShot p1_2 c1_2 a1.Shots, DS encGPickup p1_3 c1_3 a1.Pickups] [ASl 37 encGCorrection p121 c122 x119.1, ASl 37 encGCorrection p128 c129 x126.1, (bif (dn 10) then ABox b217 37 (encGCorrection.enc x213).toArray else (bif (dn 8) then ABox b217 37 #[.int .i64 0, .int .i64 0, .int .i64 0, .int .i64 0, .int .i64 0, .int .i64 0, .int .i64 0] else AEmp)), (bif true then ABox b219 37 (encGCorrection.enc x215).toArray else (bif (dn 9) then ABox b219 37 #[.int .i64 0, .int .i64 0, .int .i64 0, .int .i64 0, .int .i64 0, .int .i64 0, .int .i64 0] else AEmp))]) ?_ ((hA.add (hK.get 7 rfl d7)).add (hK.get 9 rfl d9)) rfl ?_
            · exact R.stB (ds := [.int .i64 x215.Peer, .int .i64 x215.Before.X, .int .i64 x215.Before.Y, .int .i64 x215.After.X, .int .i64 x215.After.Y, .int .i64 x215.Health, .int .i64 x215.Points]) 3 h rfl sz37 rfl rfl rfl rfl rfl (fun w h => R.nil (fun a ha => ⟨(h.wT 3 rfl (b := true) rfl), ha.defers⟩))
            · rintro a2 w ht hdf h
              exact ⟨b217, b219, hA.same ht hdf, Kn.none hK rfl ht, h⟩
          · rintro a w ⟨b217, b219, hA, hK, h⟩
            replace h : H W0 (fun _ => False) w [DS encGMover p0_0 c0_0 a0.Movers, DS encGScore p0_1 c0_1 a0.Scores, DS encGShot p0_2 c0_2 a0.Shots, DS encGPickup p0_3 c0_3 a0.Pickups, DS encGMover p1_0 c1_0 a1.Movers, DS encGScore p1_1 c1_1 a1.Scores, DS encGShot p1_2 c1_2 a1.Shots, DS encGPickup p1_3 c1_3 a1.Pickups] [ASl 37 encGCorrection p121 c122 x119.1, ASl 37 encGCorrection p128 c129 x126.1, ABox b217 37 (encGCorrection.enc x213).toArray, ABox b219 37 (encGCorrection.enc x215).toArray] := h
            refine Go1.use (k206 _ _ ?_) ((hA.add (hK.get 8 rfl rfl)).add (hK.get 9 rfl rfl))
            refine T.seq fun Kk221 k221 => ?_
            obtain ⟨y223, F, E222⟩ := Option.bind_eq_some_iff.1 F
            refine T.cut (fun a w => Agr 128 [(5, .bool x115), (6, .slice p121 x119.1.length c122), (8, .slice p128 x126.1.length c129), (13, .int .i64 s199), (14, .pointer (some ⟨b217, 0, none⟩)), (111, .bool y223)] a ∧ H W0 (fun _ => False) w [DS encGMover p0_0 c0_0 a0.Movers, DS encGScore p0_1 c0_1 a0.Scores, DS encGShot p0_2 c0_2 a0.Shots, DS encGPickup p0_3 c0_3 a0.Pickups, DS encGMover p1_0 c1_0 a1.Movers, DS encGScore p1_1 c1_1 a1.Scores, DS encGShot p1_2 c1_2 a1.Shots, DS encGPickup p1_3 c1_3 a1.Pickups] [ASl 37 encGCorrection p121 c122 x119.1, ASl 37 encGCorrection p128 c129 x126.1, ABox b217 37 (encGCorrection.enc x213).toArray]) ?_ ?_
            · refine T.region ?_
              refine R.fldB rfl fo37_0 rfl (R.ld rfl sh3 rfl (h.box 2 0 rfl rfl) (R.fldB rfl fo37_0 rfl (R.ld rfl sh3 rfl (h.box 3 0 rfl rfl) (R.ib rfl rfl rfl rfl (R.mv rfl rfl (?_))))))
              refine bsplit (x213.Peer != x215.Peer) (fun c224 => ?_) (fun c224 => ?_)
              · replace F := (ifT c224).symm.trans F
                obtain rfl := Option.some.inj F
                refine R.not_ rfl rfl rfl c224 (R.not_ rfl rfl rfl c224 (R.not_ rfl rfl rfl c224 (R.not_ rfl rfl rfl c224 (R.not_ rfl rfl rfl c224 (R.pT rfl rfl c224 rfl (R.mv rfl rfl (R.not_ rfl rfl rfl rfl (R.not_ rfl rfl rfl rfl (R.not_ rfl rfl rfl rfl (R.not_ rfl rfl rfl rfl (R.not_ rfl rfl rfl rfl (R.pT rfl rfl rfl rfl (R.mv rfl rfl (R.not_ rfl rfl rfl rfl (R.not_ rfl rfl rfl rfl (R.not_ rfl rfl rfl rfl (R.not_ rfl rfl rfl rfl (R.not_ rfl rfl rfl rfl (R.not_ rfl rfl rfl rfl (R.pT rfl rfl rfl rfl (R.mv rfl rfl (R.not_ rfl rfl rfl rfl (R.not_ rfl rfl rfl rfl (R.not_ rfl rfl rfl rfl (R.not_ rfl rfl rfl rfl (R.not_ rfl rfl rfl rfl (R.not_ rfl rfl rfl rfl (R.pT rfl rfl rfl rfl (R.nil (fun a ha => ⟨ha.sub ⟨rfl, rfl, rfl, rfl, rfl, rfl, trivial⟩, (h.sel [0, 1, 2] rfl (by decide))⟩))))))))))))))))))))))))))))))
              · replace F := (ifF c224).symm.trans F
                obtain ⟨x225, e226, F⟩ := Option.bind_eq_some_iff.1 F
                refine R.iff rfl rfl c224 (R.fldB rfl fo37_1 rfl (R.iff rfl rfl c224 (R.ldN (cs := [.int .i64 x213.Before.X, .int .i64 x213.Before.Y]) rfl sh35 rfl rfl (h.boxN 2 rfl rfl) (R.iff rfl rfl c224 (R.fldB rfl fo37_2 rfl (R.iff rfl rfl c224 (R.ldN (cs := [.int .i64 x215.After.X, .int .i64 x215.After.Y]) rfl sh35 rfl rfl (h.boxN 3 rfl rfl) (R.iff rfl rfl c224 (R.neS rfl eg35 rfl rfl (eq35 _ _ _ _ ) (R.re (congrArg Value.bool (Option.some.inj e226)) (R.pF rfl rfl c224 rfl (R.mv rfl rfl (?_)))))))))))))
                refine bsplit x225 (fun c227 => ?_) (fun c227 => ?_)
                · replace F := (ifT c227).symm.trans F
                  obtain rfl := Option.some.inj F
                  refine R.not_ rfl rfl rfl c227 (R.not_ rfl rfl rfl c227 (R.not_ rfl rfl rfl c227 (R.not_ rfl rfl rfl c227 (R.not_ rfl rfl rfl c227 (R.pT rfl rfl c227 rfl (R.mv rfl rfl (R.not_ rfl rfl rfl rfl (R.not_ rfl rfl rfl rfl (R.not_ rfl rfl rfl rfl (R.not_ rfl rfl rfl rfl (R.not_ rfl rfl rfl rfl (R.not_ rfl rfl rfl rfl (R.pT rfl rfl rfl rfl (R.mv rfl rfl (R.not_ rfl rfl rfl rfl (R.not_ rfl rfl rfl rfl (R.not_ rfl rfl rfl rfl (R.not_ rfl rfl rfl rfl (R.not_ rfl rfl rfl rfl (R.not_ rfl rfl rfl rfl (R.pT rfl rfl rfl rfl (R.nil (fun a ha => ⟨ha.sub ⟨rfl, rfl, rfl, rfl, rfl, rfl, trivial⟩, (h.sel [0, 1, 2] rfl (by decide))⟩)))))))))))))))))))))))
                · replace F := (ifF c227).symm.trans F
                  obtain ⟨x228, e229, F⟩ := Option.bind_eq_some_iff.1 F
                  refine R.iff rfl rfl c227 (R.fldB rfl fo37_2 rfl (R.iff rfl rfl c227 (R.ldN (cs := [.int .i64 x213.After.X, .int .i64 x213.After.Y]) rfl sh35 rfl rfl (h.boxN 2 rfl rfl) (R.iff rfl rfl c227 (R.fldB rfl fo37_1 rfl (R.iff rfl rfl c227 (R.ldN (cs := [.int .i64 x215.Before.X, .int .i64 x215.Before.Y]) rfl sh35 rfl rfl (h.boxN 3 rfl rfl) (R.iff rfl rfl c227 (R.neS rfl eg35 rfl rfl (eq35 _ _ _ _ ) (R.re (congrArg Value.bool (Option.some.inj e229)) (R.pF rfl rfl c227 rfl (R.mv rfl rfl (?_)))))))))))))
                  refine bsplit x228 (fun c230 => ?_) (fun c230 => ?_)
                  · replace F := (ifT c230).symm.trans F
                    obtain rfl := Option.some.inj F
                    refine R.not_ rfl rfl rfl c230 (R.not_ rfl rfl rfl c230 (R.not_ rfl rfl rfl c230 (R.not_ rfl rfl rfl c230 (R.not_ rfl rfl rfl c230 (R.not_ rfl rfl rfl c230 (R.pT rfl rfl c230 rfl (R.mv rfl rfl (R.not_ rfl rfl rfl rfl (R.not_ rfl rfl rfl rfl (R.not_ rfl rfl rfl rfl (R.not_ rfl rfl rfl rfl (R.not_ rfl rfl rfl rfl (R.not_ rfl rfl rfl rfl (R.pT rfl rfl rfl rfl (R.nil (fun a ha => ⟨ha.sub ⟨rfl, rfl, rfl, rfl, rfl, rfl, trivial⟩, (h.sel [0, 1, 2] rfl (by decide))⟩))))))))))))))))
                  · replace F := (ifF c230).symm.trans F
                    refine R.iff rfl rfl c230 (R.fldB rfl fo37_3 rfl (R.iff rfl rfl c230 (R.ld rfl sh3 rfl (h.box 2 5 rfl rfl) (R.iff rfl rfl c230 (R.fldB rfl fo37_3 rfl (R.iff rfl rfl c230 (R.ld rfl sh3 rfl (h.box 3 5 rfl rfl) (R.iff rfl rfl c230 (R.neg rfl rfl (R.iff rfl rfl c230 (R.ib rfl rfl rfl rfl (R.pF rfl rfl c230 rfl (R.mv rfl rfl (?_))))))))))))))
                    refine bsplit (x213.Health != (W (0 - x215.Health))) (fun c231 => ?_) (fun c231 => ?_)
                    · replace F := (ifT c231).symm.trans F
                      obtain rfl := Option.some.inj F
                      refine R.not_ rfl rfl rfl c231 (R.not_ rfl rfl rfl c231 (R.not_ rfl rfl rfl c231 (R.not_ rfl rfl rfl c231 (R.not_ rfl rfl rfl c231 (R.not_ rfl rfl rfl c231 (R.pT rfl rfl c231 rfl (R.nil (fun a ha => ⟨ha.sub ⟨rfl, rfl, rfl, rfl, rfl, rfl, trivial⟩, (h.sel [0, 1, 2] rfl (by decide))⟩))))))))
                    · replace F := (ifF c231).symm.trans F
                      obtain rfl := Option.some.inj F
                      refine R.iff rfl rfl c231 (R.fldB rfl fo37_4 rfl (R.iff rfl rfl c231 (R.ld rfl sh3 rfl (h.box 2 6 rfl rfl) (R.iff rfl rfl c231 (R.fldB rfl fo37_4 rfl (R.iff rfl rfl c231 (R.ld rfl sh3 rfl (h.box 3 6 rfl rfl) (R.iff rfl rfl c231 (R.neg rfl rfl (R.iff rfl rfl c231 (R.ib rfl rfl rfl rfl (R.pF rfl rfl c231 rfl (R.nil (fun a ha => ⟨ha.sub ⟨rfl, rfl, rfl, rfl, rfl, rfl, trivial⟩, (h.sel [0, 1, 2] rfl (by decide))⟩))))))))))))))
            · clear F
              rintro a w ⟨ha, h⟩
              refine T.use ?_ ha
              have F := E222
              refine T.cond rfl (fun c232 => ?_) (fun c232 => ?_)
              · replace F := (ifT c232).symm.trans F
                refine T.seq fun Kk233 k233 => ?_
                refine T.region ?_
                refine R.as rfl rfl (R.nil (k233 _ _ ?_))
                obtain rfl := Option.some.inj F
                replace F := congrArg some (c2 _ rfl)
                obtain rfl := Option.some.inj F
                replace F := elimR E152
                obtain rfl := Option.some.inj F
                refine T.ret (retG (vs := [.bool false]) [.tmp 4] rfl ⟨rfl, trivial⟩ ⟨rfl, h.fr0⟩)
              · replace F := (ifF c232).symm.trans F
                refine T.skip (k221 _ _ ?_)
                obtain ⟨y235, F, E234⟩ := Option.bind_eq_some_iff.1 F
                refine T.cut (fun a w => Agr 128 [(5, .bool x115), (6, .slice p121 x119.1.length c122), (8, .slice p128 x126.1.length c129), (13, .int .i64 s199), (126, .bool y235)] a ∧ H W0 (fun _ => False) w [DS encGMover p0_0 c0_0 a0.Movers, DS encGScore p0_1 c0_1 a0.Scores, DS encGShot p0_2 c0_2 a0.Shots, DS encGPickup p0_3 c0_3 a0.Pickups, DS encGMover p1_0 c1_0 a1.Movers, DS encGScore p1_1 c1_1 a1.Scores, DS encGShot p1_2 c1_2 a1.Shots, DS encGPickup p1_3 c1_3 a1.Pickups] [ASl 37 encGCorrection p121 c122 x119.1, ASl 37 encGCorrection p128 c129 x126.1]) ?_ ?_
                · refine T.region ?_
                  obtain ⟨x236, e237, F⟩ := Option.bind_eq_some_iff.1 F
                  refine R.fldB rfl fo37_1 rfl (R.ldN (cs := [.int .i64 x213.Before.X, .int .i64 x213.Before.Y]) rfl sh35 rfl rfl (h.boxN 2 rfl rfl) (R.fldB rfl fo37_2 rfl (R.ldN (cs := [.int .i64 x213.After.X, .int .i64 x213.After.Y]) rfl sh35 rfl rfl (h.boxN 2 rfl rfl) (R.eqS rfl eg35 rfl rfl (eq35 _ _ _ _ ) (R.re (congrArg Value.bool (Option.some.inj e237)) (R.mv rfl rfl (?_)))))))
                  refine bsplit x236 (fun c238 => ?_) (fun c238 => ?_)
                  · replace F := (ifT c238).symm.trans F
                    refine R.iff rfl rfl c238 (R.fldB rfl fo37_3 rfl (R.iff rfl rfl c238 (R.ld rfl sh3 rfl (h.box 2 5 rfl rfl) (R.iff rfl rfl c238 (R.ib rfl rfl rfl rfl (R.pT rfl rfl c238 rfl (R.mv rfl rfl (?_))))))))
                    refine bsplit (x213.Health == 0) (fun c239 => ?_) (fun c239 => ?_)
                    · replace F := (ifT c239).symm.trans F
                      obtain rfl := Option.some.inj F
                      refine R.iff rfl rfl c239 (R.fldB rfl fo37_4 rfl (R.iff rfl rfl c239 (R.ld rfl sh3 rfl (h.box 2 6 rfl rfl) (R.iff rfl rfl c239 (R.ib rfl rfl rfl rfl (R.pT rfl rfl c239 rfl (R.nil (fun a ha => ⟨ha.sub ⟨rfl, rfl, rfl, rfl, rfl, trivial⟩, (h.sel [0, 1] rfl (by decide))⟩))))))))
                    · replace F := (ifF c239).symm.trans F
                      obtain rfl := Option.some.inj F
                      refine R.not_ rfl rfl rfl c239 (R.not_ rfl rfl rfl c239 (R.not_ rfl rfl rfl c239 (R.pF rfl rfl c239 rfl (R.nil (fun a ha => ⟨ha.sub ⟨rfl, rfl, rfl, rfl, rfl, trivial⟩, (h.sel [0, 1] rfl (by decide))⟩)))))
                  · replace F := (ifF c238).symm.trans F
                    obtain rfl := Option.some.inj F
                    refine R.not_ rfl rfl rfl c238 (R.not_ rfl rfl rfl c238 (R.not_ rfl rfl rfl c238 (R.pF rfl rfl c238 rfl (R.mv rfl rfl (R.not_ rfl rfl rfl rfl (R.not_ rfl rfl rfl rfl (R.not_ rfl rfl rfl rfl (R.pF rfl rfl rfl rfl (R.nil (fun a ha => ⟨ha.sub ⟨rfl, rfl, rfl, rfl, rfl, trivial⟩, (h.sel [0, 1] rfl (by decide))⟩))))))))))
                · clear F
                  rintro a w ⟨ha, h⟩
                  refine T.use ?_ ha
                  have F := E234
                  refine T.cond rfl (fun c240 => ?_) (fun c240 => ?_)
                  · replace F := (ifT c240).symm.trans F
                    refine T.seq fun Kk241 k241 => ?_
                    refine T.region ?_
                    refine R.as rfl rfl (R.nil (k241 _ _ ?_))
                    obtain rfl := Option.some.inj F
                    replace F := congrArg some (c2 _ rfl)
                    obtain rfl := Option.some.inj F
                    replace F := elimR E152
                    obtain rfl := Option.some.inj F
                    refine T.ret (retG (vs := [.bool false]) [.tmp 4] rfl ⟨rfl, trivial⟩ ⟨rfl, h.fr0⟩)
                  · replace F := (ifF c240).symm.trans F
                    refine T.skip (k205 _ _ ?_)
                    refine T.region ?_
                    obtain rfl := Option.some.inj F
                    refine R.mv rfl rfl (R.ib rfl rfl rfl rfl (R.as rfl rfl (R.nil (fun a ha => ⟨_, E200, ha.sub ⟨rfl, rfl, rfl, rfl, trivial⟩, h⟩))))
        · replace F := (ifF c204).symm.trans F
          obtain rfl := Option.some.inj F
          replace F := congrArg some (c2 _ rfl)
          obtain rfl := Option.some.inj F
          refine T.exit (fun a ha => ⟨_, rfl, ha.sub ⟨rfl, trivial⟩, (h.sel [] rfl (by decide))⟩)
      · clear F
        rintro a w ⟨y154, rfl, ha, h⟩
        refine T.use ?_ ha
        have F := elimL E152
        refine T.seq fun Kk242 k242 => ?_
        refine T.region ?_
        refine R.mv rfl rfl (R.as rfl rfl (R.nil (k242 _ _ ?_)))
        obtain rfl := Option.some.inj F
        refine T.ret (retG (vs := [.bool x115]) [.tmp 4] rfl ⟨rfl, trivial⟩ ⟨rfl, h.fr0⟩)
attribute [irreducible] echelonlaw23_ViewTurns

/-! echelon/echelonref23.seat: function 82 -/
noncomputable def echelonref23_seat (a0 : Int) : Option (Bool) :=
  (if decide (a0 ≥ 0) then some (decide (a0 ≤ 5)) else some false).bind fun (y103 : Bool) => some y103
theorem echelonref23_seat.ok {a0 : Int} {r : Bool} {W0 : World} (F : echelonref23_seat a0 = some r) (hg : Gl W0) :
    Calls Tryd.prog 82 [(.int .i64 a0 : Value)].toArray W0 fun e w' => ∃ v, e = .returned v ∧ (v = .bool r ∧ Fr0 W0 w') := by
  unfold echelonref23_seat at F
  refine calls_body 9 Tryd.func82 rfl rfl rfl ?_
  have h := H.nil W0
  refine T.seq fun Kk101 k101 => ?_
  refine T.region ?_
  refine R.as rfl rfl (R.nil (k101 _ _ ?_))
  obtain ⟨y103, F, E102⟩ := Option.bind_eq_some_iff.1 F
  refine T.cut (fun a w => Agr 9 [(2, .bool y103)] a ∧ H W0 (fun _ => False) w [] []) ?_ ?_
  · refine T.region ?_
    refine R.mv rfl rfl (R.ib rfl rfl rfl rfl (R.mv rfl rfl (?_)))
    refine bsplit (decide (a0 ≥ 0)) (fun c104 => ?_) (fun c104 => ?_)
    · replace F := (ifT c104).symm.trans F
      obtain rfl := Option.some.inj F
      refine R.iff rfl rfl c104 (R.mv rfl rfl (R.iff rfl rfl c104 (R.ib rfl rfl rfl rfl (R.pT rfl rfl c104 rfl (R.as rfl rfl (R.nil (fun a ha => ⟨ha.sub ⟨rfl, trivial⟩, h⟩)))))))
    · replace F := (ifF c104).symm.trans F
      obtain rfl := Option.some.inj F
      refine R.not_ rfl rfl rfl c104 (R.not_ rfl rfl rfl c104 (R.pF rfl rfl c104 rfl (R.as rfl rfl (R.nil (fun a ha => ⟨ha.sub ⟨rfl, trivial⟩, h⟩)))))
  · clear F
    rintro a w ⟨ha, h⟩
    refine T.use ?_ ha
    have F := E102
    obtain rfl := Option.some.inj F
    refine T.ret (retG (vs := [.bool y103]) [.tmp 2] rfl ⟨rfl, trivial⟩ ⟨rfl, h.fr0⟩)
attribute [irreducible] echelonref23_seat

/-! echelon/echelonref23.letter: function 61 -/
noncomputable def echelonref23_letter (a0 : Int) : Option (Str) :=
  (sub ([65, 66, 67, 68, 69, 70]) a0 (W (a0 + 1))).bind fun (x103 : Str) => some x103
theorem echelonref23_letter.ok {a0 : Int} {r : Str} {W0 : World} (F : echelonref23_letter a0 = some r) (hg : Gl W0) :
    Calls Tryd.prog 61 [(.int .i64 a0 : Value)].toArray W0 fun e w' => ∃ v, e = .returned v ∧ (v = vS r ∧ Fr0 W0 w') := by
  unfold echelonref23_letter at F
  refine calls_body 7 Tryd.func61 rfl rfl rfl ?_
  have h := H.nil W0
  refine T.seq fun Kk101 k101 => ?_
  refine T.region ?_
  refine R.as rfl rfl (R.nil (k101 _ _ ?_))
  refine T.seq fun Kk102 k102 => ?_
  refine T.region ?_
  obtain ⟨x103, e104, F⟩ := Option.bind_eq_some_iff.1 F
  refine R.mv rfl rfl (R.mv rfl rfl (R.ib rfl rfl rfl rfl (R.ssub rfl u9 rfl rfl rfl e104 (R.as rfl rfl (R.nil (k102 _ _ ?_))))))
  obtain rfl := Option.some.inj F
  refine T.ret (retG (vs := [vS x103]) [.tmp 2] rfl ⟨rfl, trivial⟩ ⟨rfl, h.fr0⟩)
attribute [irreducible] echelonref23_letter

/-! echelon/echelonref23.kind: function 83 -/
noncomputable def echelonref23_kind (a0 : Int) : Option (Bool) :=
  (if decide (a0 ≥ 1) then some (decide (a0 ≤ 3)) else some false).bind fun (y103 : Bool) => some y103
theorem echelonref23_kind.ok {a0 : Int} {r : Bool} {W0 : World} (F : echelonref23_kind a0 = some r) (hg : Gl W0) :
    Calls Tryd.prog 83 [(.int .i64 a0 : Value)].toArray W0 fun e w' => ∃ v, e = .returned v ∧ (v = .bool r ∧ Fr0 W0 w') := by
  unfold echelonref23_kind at F
  refine calls_body 9 Tryd.func83 rfl rfl rfl ?_
  have h := H.nil W0
  refine T.seq fun Kk101 k101 => ?_
  refine T.region ?_
  refine R.as rfl rfl (R.nil (k101 _ _ ?_))
  obtain ⟨y103, F, E102⟩ := Option.bind_eq_some_iff.1 F
  refine T.cut (fun a w => Agr 9 [(2, .bool y103)] a ∧ H W0 (fun _ => False) w [] []) ?_ ?_
  · refine T.region ?_
    refine R.mv rfl rfl (R.ib rfl rfl rfl rfl (R.mv rfl rfl (?_)))
    refine bsplit (decide (a0 ≥ 1)) (fun c104 => ?_) (fun c104 => ?_)
    · replace F := (ifT c104).symm.trans F
      obtain rfl := Option.some.inj F
      refine R.iff rfl rfl c104 (R.mv rfl rfl (R.iff rfl rfl c104 (R.ib rfl rfl rfl rfl (R.pT rfl rfl c104 rfl (R.as rfl rfl (R.nil (fun a ha => ⟨ha.sub ⟨rfl, trivial⟩, h⟩)))))))
    · replace F := (ifF c104).symm.trans F
      obtain rfl := Option.some.inj F
      refine R.not_ rfl rfl rfl c104 (R.not_ rfl rfl rfl c104 (R.pF rfl rfl c104 rfl (R.as rfl rfl (R.nil (fun a ha => ⟨ha.sub ⟨rfl, trivial⟩, h⟩)))))
  · clear F
    rintro a w ⟨ha, h⟩
    refine T.use ?_ ha
    have F := E102
    obtain rfl := Option.some.inj F
    refine T.ret (retG (vs := [.bool y103]) [.tmp 2] rfl ⟨rfl, trivial⟩ ⟨rfl, h.fr0⟩)
attribute [irreducible] echelonref23_kind

/-! echelon/echelonref23.thing: function 84 -/
noncomputable def echelonref23_thing (a0 : Int) : Option (Str) :=
  if a0 == 1 then some ([104, 101, 97, 108]) else if a0 == 2 then some ([99, 104, 97, 114, 103, 101]) else some ([112, 114, 105, 122, 101])
theorem echelonref23_thing.ok {a0 : Int} {r : Str} {W0 : World} (F : echelonref23_thing a0 = some r) (hg : Gl W0) :
    Calls Tryd.prog 84 [(.int .i64 a0 : Value)].toArray W0 fun e w' => ∃ v, e = .returned v ∧ (v = vS r ∧ Fr0 W0 w') := by
  unfold echelonref23_thing at F
  refine calls_body 8 Tryd.func84 rfl rfl rfl ?_
  have h := H.nil W0
  refine T.seq fun Kk101 k101 => ?_
  refine T.region ?_
  refine R.as rfl rfl (R.nil (k101 _ _ ?_))
  refine T.seq fun Kk102 k102 => ?_
  refine T.seq fun Kk103 k103 => ?_
  refine T.region ?_
  refine R.mv rfl rfl (R.nil (k103 _ _ ?_))
  refine T.block ?_
  refine T.seq fun Kk104 k104 => ?_
  refine T.region ?_
  refine R.ib rfl rfl rfl rfl (R.as rfl rfl (R.nil (k104 _ _ ?_)))
  refine T.cond rfl (fun c105 => ?_) (fun c105 => ?_)
  · replace F := (ifT c105).symm.trans F
    refine T.seq fun Kk106 k106 => ?_
    refine T.region ?_
    refine R.as rfl rfl (R.nil (k106 _ _ ?_))
    obtain rfl := Option.some.inj F
    refine T.ret (retG (vs := [vS ([104, 101, 97, 108])]) [.tmp 2] rfl ⟨rfl, trivial⟩ ⟨rfl, h.fr0⟩)
  · replace F := (ifF c105).symm.trans F
    refine T.seq fun Kk107 k107 => ?_
    refine T.region ?_
    refine R.ib rfl rfl rfl rfl (R.as rfl rfl (R.nil (k107 _ _ ?_)))
    refine T.cond rfl (fun c108 => ?_) (fun c108 => ?_)
    · replace F := (ifT c108).symm.trans F
      refine T.seq fun Kk109 k109 => ?_
      refine T.region ?_
      refine R.as rfl rfl (R.nil (k109 _ _ ?_))
      obtain rfl := Option.some.inj F
      refine T.ret (retG (vs := [vS ([99, 104, 97, 114, 103, 101])]) [.tmp 2] rfl ⟨rfl, trivial⟩ ⟨rfl, h.fr0⟩)
    · replace F := (ifF c108).symm.trans F
      refine T.skip (k102 _ _ ?_)
      refine T.seq fun Kk110 k110 => ?_
      refine T.region ?_
      refine R.as rfl rfl (R.nil (k110 _ _ ?_))
      obtain rfl := Option.some.inj F
      refine T.ret (retG (vs := [vS ([112, 114, 105, 122, 101])]) [.tmp 2] rfl ⟨rfl, trivial⟩ ⟨rfl, h.fr0⟩)
attribute [irreducible] echelonref23_thing

/-! echelon/echelonref23.line: function 51 -/
noncomputable def echelonref23_line (a0 : GNote) : Option (Str × Bool) :=
  (echelonref23_seat a0.A).bind fun x105 => (if x105 then (echelonref23_seat a0.B).bind fun x111 => some x111 else some false).bind fun (y109 : Bool) => (if a0.Kind == 1 then some x105 else some false).bind fun (y116 : Bool) => if y116 then (echelonref23_letter a0.A).bind fun x120 => (cat x120 ([32, 102, 105, 114, 101, 100, 32])).bind fun (x122 : Str) => (lib_Itoa a0.B).bind fun x124 => (cat x122 x124).bind fun (x126 : Str) => some (x126, true) else (if a0.Kind == 2 then some y109 else some false).bind fun (y129 : Bool) => if y129 then (echelonref23_letter a0.A).bind fun x133 => (cat x133 ([32, 104, 105, 116, 32, 98, 121, 32])).bind fun (x135 : Str) => (echelonref23_letter a0.B).bind fun x137 => (cat x135 x137).bind fun (x139 : Str) => some (x139, true) else (if a0.Kind == 3 then some y109 else some false).bind fun (y142 : Bool) => if y142 then (echelonref23_letter a0.A).bind fun x146 => (cat x146 ([32, 111, 117, 116, 32, 98, 121, 32])).bind fun (x148 : Str) => (echelonref23_letter a0.B).bind fun x150 => (cat x148 x150).bind fun (x152 : Str) => some (x152, true) else (if a0.Kind == 4 then some x105 else some false).bind fun (y155 : Bool) => if y155 then (echelonref23_letter a0.A).bind fun x159 => (cat x159 ([32, 98, 97, 99, 107])).bind fun (x162 : Str) => some (x162, true) else (if a0.Kind == 5 then if x105 then (echelonref23_kind a0.B).bind fun x168 => some x168 else some false else some false).bind fun (y165 : Bool) => if y165 then (echelonref23_letter a0.A).bind fun x173 => (cat x173 ([32, 116, 111, 111, 107, 32])).bind fun (x175 : Str) => (echelonref23_thing a0.B).bind fun x177 => (cat x175 x177).bind fun (x179 : Str) => some (x179, true) else (if a0.Kind == 6 then (echelonref23_kind a0.B).bind fun x184 => some x184 else some false).bind fun (y182 : Bool) => if y182 then (lib_Itoa a0.A).bind fun x189 => (cat ([115, 112, 111, 116, 32]) x189).bind fun (x191 : Str) => (cat x191 ([32])).bind fun (x193 : Str) => (echelonref23_thing a0.B).bind fun x195 => (cat x193 x195).bind fun (x197 : Str) => some (x197, true) else (if a0.Kind == 7 then some y109 else some false).bind fun (y200 : Bool) => if y200 then (echelonref23_letter a0.A).bind fun x204 => (cat x204 ([32, 98, 111, 117, 110, 99, 101, 115, 32])).bind fun (x206 : Str) => (echelonref23_letter a0.B).bind fun x208 => (cat x206 x208).bind fun (x210 : Str) => some (x210, true) else (if a0.Kind == 8 then some x105 else some false).bind fun (y213 : Bool) => if y213 then (echelonref23_letter a0.A).bind fun x217 => (cat x217 ([32, 115, 97, 121, 115, 32])).bind fun (x219 : Str) => (lib_Itoa a0.B).bind fun x221 => (cat x219 x221).bind fun (x223 : Str) => some (x223, true) else some ([], false)
theorem echelonref23_line.ok {a0 : GNote} {r : Str × Bool} {W0 : World} (F : echelonref23_line a0 = some r) (hg : Gl W0) :
    Calls Tryd.prog 51 [(vGNote a0 : Value)].toArray W0 fun e w' => ∃ v, e = .returned v ∧ (v = .tuple #[vS r.1, .bool r.2] ∧ Fr0 W0 w') := by
  unfold echelonref23_line at F
  refine calls_body 139 Tryd.func51 rfl rfl rfl ?_
  have h := H.nil W0
  refine T.seq fun Kk101 k101 => ?_
  refine T.region ?_
  refine R.box rfl h rfl (fun b102 w (h : H W0 (fun _ => False) w [] [ABox b102 83 (encGNote.enc a0).toArray]) => R.as rfl rfl (R.as rfl rfl (R.nil (k101 _ _ ?_))))
  refine T.seq fun Kk104 k104 => ?_
  refine T.region ?_
  obtain ⟨x105, e106, F⟩ := Option.bind_eq_some_iff.1 F
  refine R.fldB rfl fo83_1 rfl (R.ld rfl sh3 rfl (h.box 0 1 rfl rfl) (R.callC (fl := []) (cl := []) rfl cf82 rfl rfl (echelonref23_seat.ok e106 (hg.fr0 h.fr0)) (?_)))
  rintro _ w ⟨rfl, g107⟩
  replace h := h.same g107
  refine R.as rfl rfl (R.nil (k104 _ _ ?_))
  obtain ⟨y109, F, E108⟩ := Option.bind_eq_some_iff.1 F
  refine T.cut (fun a w => Agr 139 [(1, .pointer (some ⟨b102, 0, none⟩)), (4, .bool x105), (5, .bool y109)] a ∧ H W0 (fun _ => False) w [] [ABox b102 83 (encGNote.enc a0).toArray]) ?_ ?_
  · refine T.region ?_
    refine R.mv rfl rfl (R.mv rfl rfl (?_))
    refine bsplit x105 (fun c110 => ?_) (fun c110 => ?_)
    · replace F := (ifT c110).symm.trans F
      obtain ⟨x111, e112, F⟩ := Option.bind_eq_some_iff.1 F
      refine R.iff rfl rfl c110 (R.fldB rfl fo83_2 rfl (R.iff rfl rfl c110 (R.ld rfl sh3 rfl (h.box 0 2 rfl rfl) (R.iff rfl rfl c110 (R.callC (fl := []) (cl := []) rfl cf82 rfl rfl (echelonref23_seat.ok e112 (hg.fr0 h.fr0)) (?_))))))
      rintro _ w ⟨rfl, g113⟩
      replace h := h.same g113
      obtain rfl := Option.some.inj F
      refine R.pT rfl rfl c110 rfl (R.as rfl rfl (R.nil (fun a ha => ⟨ha.sub ⟨rfl, rfl, rfl, trivial⟩, h⟩)))
    · replace F := (ifF c110).symm.trans F
      obtain rfl := Option.some.inj F
      refine R.not_ rfl rfl rfl c110 (R.not_ rfl rfl rfl c110 (R.not_ rfl rfl rfl c110 (R.pF rfl rfl c110 rfl (R.as rfl rfl (R.nil (fun a ha => ⟨ha.sub ⟨rfl, rfl, rfl, trivial⟩, h⟩))))))
  · clear F
    rintro a w ⟨ha, h⟩
    refine T.use ?_ ha
    have F := E108
    refine T.seq fun Kk114 k114 => ?_
    refine T.block ?_
    obtain ⟨y116, F, E115⟩ := Option.bind_eq_some_iff.1 F
    refine T.cut (fun a w => Agr 139 [(1, .pointer (some ⟨b102, 0, none⟩)), (4, .bool x105), (5, .bool y109), (15, .bool y116)] a ∧ H W0 (fun _ => False) w [] [ABox b102 83 (encGNote.enc a0).toArray]) ?_ ?_
    · refine T.region ?_
      refine R.fldB rfl fo83_0 rfl (R.ld rfl sh3 rfl (h.box 0 0 rfl rfl) (R.ib rfl rfl rfl rfl (R.mv rfl rfl (?_))))
      refine bsplit (a0.Kind == 1) (fun c117 => ?_) (fun c117 => ?_)
      · replace F := (ifT c117).symm.trans F
        obtain rfl := Option.some.inj F
        refine R.iff rfl rfl c117 (R.mv rfl rfl (R.pT rfl rfl c117 rfl (R.as rfl rfl (R.nil (fun a ha => ⟨ha.sub ⟨rfl, rfl, rfl, rfl, trivial⟩, h⟩)))))
      · replace F := (ifF c117).symm.trans F
        obtain rfl := Option.some.inj F
        refine R.not_ rfl rfl rfl c117 (R.pF rfl rfl c117 rfl (R.as rfl rfl (R.nil (fun a ha => ⟨ha.sub ⟨rfl, rfl, rfl, rfl, trivial⟩, h⟩))))
    · clear F
      rintro a w ⟨ha, h⟩
      refine T.use ?_ ha
      have F := E115
      refine T.cond rfl (fun c118 => ?_) (fun c118 => ?_)
      · replace F := (ifT c118).symm.trans F
        refine T.seq fun Kk119 k119 => ?_
        refine T.regionD (C := fun w => H W0 (fun _ => False) w [] [ABox b102 83 (encGNote.enc a0).toArray]) mix (by kernel_rfl) (h.same (Fr.drewN w 1)) ?_
        obtain ⟨x120, e121, F⟩ := Option.bind_eq_some_iff.1 F
        obtain ⟨x122, e123, F⟩ := Option.bind_eq_some_iff.1 F
        obtain ⟨x124, e125, F⟩ := Option.bind_eq_some_iff.1 F
        obtain ⟨x126, e127, F⟩ := Option.bind_eq_some_iff.1 F
        refine RD.val rfl rfl (fun w (h : H W0 (fun _ => False) w [] [ABox b102 83 (encGNote.enc a0).toArray]) _ kk => R.fldB rfl fo83_1 rfl (R.nil kk)) (RD.val rfl rfl (fun w (h : H W0 (fun _ => False) w [] [ABox b102 83 (encGNote.enc a0).toArray]) _ kk => R.ld rfl sh3 rfl (h.box 0 1 rfl rfl) (R.nil kk)) (RD.callF rfl cf61 rfl (fun w (h : H W0 (fun _ => False) w [] [ABox b102 83 (encGNote.enc a0).toArray]) => (echelonref23_letter.ok e121 (hg.fr0 h.fr0)).mono (fun _ _ ⟨_, h1, h2, h3⟩ => ⟨by rw [h1, h2], h.same h3⟩)) (RD.val rfl rfl (fun w (h : H W0 (fun _ => False) w [] [ABox b102 83 (encGNote.enc a0).toArray]) _ kk => R.sadd rfl rfl rfl e123 (R.nil kk)) (RD.val rfl rfl (fun w (h : H W0 (fun _ => False) w [] [ABox b102 83 (encGNote.enc a0).toArray]) _ kk => R.fldB rfl fo83_2 rfl (R.nil kk)) (RD.val rfl rfl (fun w (h : H W0 (fun _ => False) w [] [ABox b102 83 (encGNote.enc a0).toArray]) _ kk => R.ld rfl sh3 rfl (h.box 0 2 rfl rfl) (R.nil kk)) (RD.callF rfl cf52 rfl (fun w (h : H W0 (fun _ => False) w [] [ABox b102 83 (encGNote.enc a0).toArray]) => (lib_Itoa.ok e125 (hg.fr0 h.fr0)).mono (fun _ _ ⟨_, h1, h2, h3⟩ => ⟨by rw [h1, h2], h.same h3⟩)) (RD.val rfl rfl (fun w (h : H W0 (fun _ => False) w [] [ABox b102 83 (encGNote.enc a0).toArray]) _ kk => R.sadd rfl rfl rfl e127 (R.nil kk)) (RD.val rfl rfl (fun w (h : H W0 (fun _ => False) w [] [ABox b102 83 (encGNote.enc a0).toArray]) _ kk => R.as rfl rfl (R.nil kk)) (RD.val rfl rfl (fun w (h : H W0 (fun _ => False) w [] [ABox b102 83 (encGNote.enc a0).toArray]) _ kk => R.as rfl rfl (R.nil kk)) (RD.nil (fun w (h : H W0 (fun _ => False) w [] [ABox b102 83 (encGNote.enc a0).toArray]) => k119 _ _ ?_)))))))))))
        obtain rfl := Option.some.inj F
        refine T.ret (retG (vs := [vS x126, .bool true]) [.tmp 2, .tmp 3] rfl ⟨rfl, rfl, trivial⟩ ⟨rfl, h.fr0⟩)
      · replace F := (ifF c118).symm.trans F
        obtain ⟨y129, F, E128⟩ := Option.bind_eq_some_iff.1 F
        refine T.cut (fun a w => Agr 139 [(1, .pointer (some ⟨b102, 0, none⟩)), (4, .bool x105), (5, .bool y109), (30, .bool y129)] a ∧ H W0 (fun _ => False) w [] [ABox b102 83 (encGNote.enc a0).toArray]) ?_ ?_
        · refine T.region ?_
          refine R.fldB rfl fo83_0 rfl (R.ld rfl sh3 rfl (h.box 0 0 rfl rfl) (R.ib rfl rfl rfl rfl (R.mv rfl rfl (?_))))
          refine bsplit (a0.Kind == 2) (fun c130 => ?_) (fun c130 => ?_)
          · replace F := (ifT c130).symm.trans F
            obtain rfl := Option.some.inj F
            refine R.iff rfl rfl c130 (R.mv rfl rfl (R.pT rfl rfl c130 rfl (R.as rfl rfl (R.nil (fun a ha => ⟨ha.sub ⟨rfl, rfl, rfl, rfl, trivial⟩, h⟩)))))
          · replace F := (ifF c130).symm.trans F
            obtain rfl := Option.some.inj F
            refine R.not_ rfl rfl rfl c130 (R.pF rfl rfl c130 rfl (R.as rfl rfl (R.nil (fun a ha => ⟨ha.sub ⟨rfl, rfl, rfl, rfl, trivial⟩, h⟩))))
        · clear F
          rintro a w ⟨ha, h⟩
          refine T.use ?_ ha
          have F := E128
          refine T.cond rfl (fun c131 => ?_) (fun c131 => ?_)
          · replace F := (ifT c131).symm.trans F
            refine T.seq fun Kk132 k132 => ?_
            refine T.regionD (C := fun w => H W0 (fun _ => False) w [] [ABox b102 83 (encGNote.enc a0).toArray]) mix (by kernel_rfl) (h.same (Fr.drewN w 1)) ?_
            obtain ⟨x133, e134, F⟩ := Option.bind_eq_some_iff.1 F
            obtain ⟨x135, e136, F⟩ := Option.bind_eq_some_iff.1 F
            obtain ⟨x137, e138, F⟩ := Option.bind_eq_some_iff.1 F
            obtain ⟨x139, e140, F⟩ := Option.bind_eq_some_iff.1 F
            refine RD.val rfl rfl (fun w (h : H W0 (fun _ => False) w [] [ABox b102 83 (encGNote.enc a0).toArray]) _ kk => R.fldB rfl fo83_1 rfl (R.nil kk)) (RD.val rfl rfl (fun w (h : H W0 (fun _ => False) w [] [ABox b102 83 (encGNote.enc a0).toArray]) _ kk => R.ld rfl sh3 rfl (h.box 0 1 rfl rfl) (R.nil kk)) (RD.callF rfl cf61 rfl (fun w (h : H W0 (fun _ => False) w [] [ABox b102 83 (encGNote.enc a0).toArray]) => (echelonref23_letter.ok e134 (hg.fr0 h.fr0)).mono (fun _ _ ⟨_, h1, h2, h3⟩ => ⟨by rw [h1, h2], h.same h3⟩)) (RD.val rfl rfl (fun w (h : H W0 (fun _ => False) w [] [ABox b102 83 (encGNote.enc a0).toArray]) _ kk => R.sadd rfl rfl rfl e136 (R.nil kk)) (RD.val rfl rfl (fun w (h : H W0 (fun _ => False) w [] [ABox b102 83 (encGNote.enc a0).toArray]) _ kk => R.fldB rfl fo83_2 rfl (R.nil kk)) (RD.val rfl rfl (fun w (h : H W0 (fun _ => False) w [] [ABox b102 83 (encGNote.enc a0).toArray]) _ kk => R.ld rfl sh3 rfl (h.box 0 2 rfl rfl) (R.nil kk)) (RD.callF rfl cf61 rfl (fun w (h : H W0 (fun _ => False) w [] [ABox b102 83 (encGNote.enc a0).toArray]) => (echelonref23_letter.ok e138 (hg.fr0 h.fr0)).mono (fun _ _ ⟨_, h1, h2, h3⟩ => ⟨by rw [h1, h2], h.same h3⟩)) (RD.val rfl rfl (fun w (h : H W0 (fun _ => False) w [] [ABox b102 83 (encGNote.enc a0).toArray]) _ kk => R.sadd rfl rfl rfl e140 (R.nil kk)) (RD.val rfl rfl (fun w (h : H W0 (fun _ => False) w [] [ABox b102 83 (encGNote.enc a0).toArray]) _ kk => R.as rfl rfl (R.nil kk)) (RD.val rfl rfl (fun w (h : H W0 (fun _ => False) w [] [ABox b102 83 (encGNote.enc a0).toArray]) _ kk => R.as rfl rfl (R.nil kk)) (RD.nil (fun w (h : H W0 (fun _ => False) w [] [ABox b102 83 (encGNote.enc a0).toArray]) => k132 _ _ ?_)))))))))))
            obtain rfl := Option.some.inj F
            refine T.ret (retG (vs := [vS x139, .bool true]) [.tmp 2, .tmp 3] rfl ⟨rfl, rfl, trivial⟩ ⟨rfl, h.fr0⟩)
          · replace F := (ifF c131).symm.trans F
            obtain ⟨y142, F, E141⟩ := Option.bind_eq_some_iff.1 F
            refine T.cut (fun a w => Agr 139 [(1, .pointer (some ⟨b102, 0, none⟩)), (4, .bool x105), (5, .bool y109), (45, .bool y142)] a ∧ H W0 (fun _ => False) w [] [ABox b102 83 (encGNote.enc a0).toArray]) ?_ ?_
            · refine T.region ?_
              refine R.fldB rfl fo83_0 rfl (R.ld rfl sh3 rfl (h.box 0 0 rfl rfl) (R.ib rfl rfl rfl rfl (R.mv rfl rfl (?_))))
              refine bsplit (a0.Kind == 3) (fun c143 => ?_) (fun c143 => ?_)
              · replace F := (ifT c143).symm.trans F
                obtain rfl := Option.some.inj F
                refine R.iff rfl rfl c143 (R.mv rfl rfl (R.pT rfl rfl c143 rfl (R.as rfl rfl (R.nil (fun a ha => ⟨ha.sub ⟨rfl, rfl, rfl, rfl, trivial⟩, h⟩)))))
              · replace F := (ifF c143).symm.trans F
                obtain rfl := Option.some.inj F
                refine R.not_ rfl rfl rfl c143 (R.pF rfl rfl c143 rfl (R.as rfl rfl (R.nil (fun a ha => ⟨ha.sub ⟨rfl, rfl, rfl, rfl, trivial⟩, h⟩))))
            · clear F
              rintro a w ⟨ha, h⟩
              refine T.use ?_ ha
              have F := E141
              refine T.cond rfl (fun c144 => ?_) (fun c144 => ?_)
              · replace F := (ifT c144).symm.trans F
                refine T.seq fun Kk145 k145 => ?_
                refine T.regionD (C := fun w => H W0 (fun _ => False) w [] [ABox b102 83 (encGNote.enc a0).toArray]) mix (by kernel_rfl) (h.same (Fr.drewN w 1)) ?_
                obtain ⟨x146, e147, F⟩ := Option.bind_eq_some_iff.1 F
                obtain ⟨x148, e149, F⟩ := Option.bind_eq_some_iff.1 F
                obtain ⟨x150, e151, F⟩ := Option.bind_eq_some_iff.1 F
                obtain ⟨x152, e153, F⟩ := Option.bind_eq_some_iff.1 F
                refine RD.val rfl rfl (fun w (h : H W0 (fun _ => False) w [] [ABox b102 83 (encGNote.enc a0).toArray]) _ kk => R.fldB rfl fo83_1 rfl (R.nil kk)) (RD.val rfl rfl (fun w (h : H W0 (fun _ => False) w [] [ABox b102 83 (encGNote.enc a0).toArray]) _ kk => R.ld rfl sh3 rfl (h.box 0 1 rfl rfl) (R.nil kk)) (RD.callF rfl cf61 rfl (fun w (h : H W0 (fun _ => False) w [] [ABox b102 83 (encGNote.enc a0).toArray]) => (echelonref23_letter.ok e147 (hg.fr0 h.fr0)).mono (fun _ _ ⟨_, h1, h2, h3⟩ => ⟨by rw [h1, h2], h.same h3⟩)) (RD.val rfl rfl (fun w (h : H W0 (fun _ => False) w [] [ABox b102 83 (encGNote.enc a0).toArray]) _ kk => R.sadd rfl rfl rfl e149 (R.nil kk)) (RD.val rfl rfl (fun w (h : H W0 (fun _ => False) w [] [ABox b102 83 (encGNote.enc a0).toArray]) _ kk => R.fldB rfl fo83_2 rfl (R.nil kk)) (RD.val rfl rfl (fun w (h : H W0 (fun _ => False) w [] [ABox b102 83 (encGNote.enc a0).toArray]) _ kk => R.ld rfl sh3 rfl (h.box 0 2 rfl rfl) (R.nil kk)) (RD.callF rfl cf61 rfl (fun w (h : H W0 (fun _ => False) w [] [ABox b102 83 (encGNote.enc a0).toArray]) => (echelonref23_letter.ok e151 (hg.fr0 h.fr0)).mono (fun _ _ ⟨_, h1, h2, h3⟩ => ⟨by rw [h1, h2], h.same h3⟩)) (RD.val rfl rfl (fun w (h : H W0 (fun _ => False) w [] [ABox b102 83 (encGNote.enc a0).toArray]) _ kk => R.sadd rfl rfl rfl e153 (R.nil kk)) (RD.val rfl rfl (fun w (h : H W0 (fun _ => False) w [] [ABox b102 83 (encGNote.enc a0).toArray]) _ kk => R.as rfl rfl (R.nil kk)) (RD.val rfl rfl (fun w (h : H W0 (fun _ => False) w [] [ABox b102 83 (encGNote.enc a0).toArray]) _ kk => R.as rfl rfl (R.nil kk)) (RD.nil (fun w (h : H W0 (fun _ => False) w [] [ABox b102 83 (encGNote.enc a0).toArray]) => k145 _ _ ?_)))))))))))
                obtain rfl := Option.some.inj F
                refine T.ret (retG (vs := [vS x152, .bool true]) [.tmp 2, .tmp 3] rfl ⟨rfl, rfl, trivial⟩ ⟨rfl, h.fr0⟩)
              · replace F := (ifF c144).symm.trans F
                obtain ⟨y155, F, E154⟩ := Option.bind_eq_some_iff.1 F
                refine T.cut (fun a w => Agr 139 [(1, .pointer (some ⟨b102, 0, none⟩)), (4, .bool x105), (5, .bool y109), (60, .bool y155)] a ∧ H W0 (fun _ => False) w [] [ABox b102 83 (encGNote.enc a0).toArray]) ?_ ?_
                · refine T.region ?_
                  refine R.fldB rfl fo83_0 rfl (R.ld rfl sh3 rfl (h.box 0 0 rfl rfl) (R.ib rfl rfl rfl rfl (R.mv rfl rfl (?_))))
                  refine bsplit (a0.Kind == 4) (fun c156 => ?_) (fun c156 => ?_)
                  · replace F := (ifT c156).symm.trans F
                    obtain rfl := Option.some.inj F
                    refine R.iff rfl rfl c156 (R.mv rfl rfl (R.pT rfl rfl c156 rfl (R.as rfl rfl (R.nil (fun a ha => ⟨ha.sub ⟨rfl, rfl, rfl, rfl, trivial⟩, h⟩)))))
                  · replace F := (ifF c156).symm.trans F
                    obtain rfl := Option.some.inj F
                    refine R.not_ rfl rfl rfl c156 (R.pF rfl rfl c156 rfl (R.as rfl rfl (R.nil (fun a ha => ⟨ha.sub ⟨rfl, rfl, rfl, rfl, trivial⟩, h⟩))))
                · clear F
                  rintro a w ⟨ha, h⟩
                  refine T.use ?_ ha
                  have F := E154
                  refine T.cond rfl (fun c157 => ?_) (fun c157 => ?_)
                  · replace F := (ifT c157).symm.trans F
                    refine T.seq fun Kk158 k158 => ?_
                    refine T.region ?_
                    obtain ⟨x159, e160, F⟩ := Option.bind_eq_some_iff.1 F
                    refine R.fldB rfl fo83_1 rfl (R.ld rfl sh3 rfl (h.box 0 1 rfl rfl) (R.callC (fl := []) (cl := []) rfl cf61 rfl rfl (echelonref23_letter.ok e160 (hg.fr0 h.fr0)) (?_)))
                    rintro _ w ⟨rfl, g161⟩
                    replace h := h.same g161
                    obtain ⟨x162, e163, F⟩ := Option.bind_eq_some_iff.1 F
                    refine R.sadd rfl rfl rfl e163 (R.as rfl rfl (R.as rfl rfl (R.nil (k158 _ _ ?_))))
                    obtain rfl := Option.some.inj F
                    refine T.ret (retG (vs := [vS x162, .bool true]) [.tmp 2, .tmp 3] rfl ⟨rfl, rfl, trivial⟩ ⟨rfl, h.fr0⟩)
                  · replace F := (ifF c157).symm.trans F
                    obtain ⟨y165, F, E164⟩ := Option.bind_eq_some_iff.1 F
                    refine T.cut (fun a w => Agr 139 [(1, .pointer (some ⟨b102, 0, none⟩)), (4, .bool x105), (5, .bool y109), (71, .bool y165)] a ∧ H W0 (fun _ => False) w [] [ABox b102 83 (encGNote.enc a0).toArray]) ?_ ?_
                    · refine T.region ?_
                      refine R.fldB rfl fo83_0 rfl (R.ld rfl sh3 rfl (h.box 0 0 rfl rfl) (R.ib rfl rfl rfl rfl (R.mv rfl rfl (?_))))
                      refine bsplit (a0.Kind == 5) (fun c166 => ?_) (fun c166 => ?_)
                      · replace F := (ifT c166).symm.trans F
                        refine R.iff rfl rfl c166 (R.mv rfl rfl (R.pT rfl rfl c166 rfl (R.mv rfl rfl (?_))))
                        refine bsplit x105 (fun c167 => ?_) (fun c167 => ?_)
                        · replace F := (ifT c167).symm.trans F
                          obtain ⟨x168, e169, F⟩ := Option.bind_eq_some_iff.1 F
                          refine R.iff rfl rfl c167 (R.fldB rfl fo83_2 rfl (R.iff rfl rfl c167 (R.ld rfl sh3 rfl (h.box 0 2 rfl rfl) (R.iff rfl rfl c167 (R.callC (fl := []) (cl := []) rfl cf83 rfl rfl (echelonref23_kind.ok e169 (hg.fr0 h.fr0)) (?_))))))
                          rintro _ w ⟨rfl, g170⟩
                          replace h := h.same g170
                          obtain rfl := Option.some.inj F
                          refine R.pT rfl rfl c167 rfl (R.as rfl rfl (R.nil (fun a ha => ⟨ha.sub ⟨rfl, rfl, rfl, rfl, trivial⟩, h⟩)))
                        · replace F := (ifF c167).symm.trans F
                          obtain rfl := Option.some.inj F
                          refine R.not_ rfl rfl rfl c167 (R.not_ rfl rfl rfl c167 (R.not_ rfl rfl rfl c167 (R.pF rfl rfl c167 rfl (R.as rfl rfl (R.nil (fun a ha => ⟨ha.sub ⟨rfl, rfl, rfl, rfl, trivial⟩, h⟩))))))
                      · replace F := (ifF c166).symm.trans F
                        obtain rfl := Option.some.inj F
                        refine R.not_ rfl rfl rfl c166 (R.pF rfl rfl c166 rfl (R.mv rfl rfl (R.not_ rfl rfl rfl rfl (R.not_ rfl rfl rfl rfl (R.not_ rfl rfl rfl rfl (R.pF rfl rfl rfl rfl (R.as rfl rfl (R.nil (fun a ha => ⟨ha.sub ⟨rfl, rfl, rfl, rfl, trivial⟩, h⟩)))))))))
                    · clear F
                      rintro a w ⟨ha, h⟩
                      refine T.use ?_ ha
                      have F := E164
                      refine T.cond rfl (fun c171 => ?_) (fun c171 => ?_)
                      · replace F := (ifT c171).symm.trans F
                        refine T.seq fun Kk172 k172 => ?_
                        refine T.regionD (C := fun w => H W0 (fun _ => False) w [] [ABox b102 83 (encGNote.enc a0).toArray]) mix (by kernel_rfl) (h.same (Fr.drewN w 1)) ?_
                        obtain ⟨x173, e174, F⟩ := Option.bind_eq_some_iff.1 F
                        obtain ⟨x175, e176, F⟩ := Option.bind_eq_some_iff.1 F
                        obtain ⟨x177, e178, F⟩ := Option.bind_eq_some_iff.1 F
                        obtain ⟨x179, e180, F⟩ := Option.bind_eq_some_iff.1 F
                        refine RD.val rfl rfl (fun w (h : H W0 (fun _ => False) w [] [ABox b102 83 (encGNote.enc a0).toArray]) _ kk => R.fldB rfl fo83_1 rfl (R.nil kk)) (RD.val rfl rfl (fun w (h : H W0 (fun _ => False) w [] [ABox b102 83 (encGNote.enc a0).toArray]) _ kk => R.ld rfl sh3 rfl (h.box 0 1 rfl rfl) (R.nil kk)) (RD.callF rfl cf61 rfl (fun w (h : H W0 (fun _ => False) w [] [ABox b102 83 (encGNote.enc a0).toArray]) => (echelonref23_letter.ok e174 (hg.fr0 h.fr0)).mono (fun _ _ ⟨_, h1, h2, h3⟩ => ⟨by rw [h1, h2], h.same h3⟩)) (RD.val rfl rfl (fun w (h : H W0 (fun _ => False) w [] [ABox b102 83 (encGNote.enc a0).toArray]) _ kk => R.sadd rfl rfl rfl e176 (R.nil kk)) (RD.val rfl rfl (fun w (h : H W0 (fun _ => False) w [] [ABox b102 83 (encGNote.enc a0).toArray]) _ kk => R.fldB rfl fo83_2 rfl (R.nil kk)) (RD.val rfl rfl (fun w (h : H W0 (fun _ => False) w [] [ABox b102 83 (encGNote.enc a0).toArray]) _ kk => R.ld rfl sh3 rfl (h.box 0 2 rfl rfl) (R.nil kk)) (RD.callF rfl cf84 rfl (fun w (h : H W0 (fun _ => False) w [] [ABox b102 83 (encGNote.enc a0).toArray]) => (echelonref23_thing.ok e178 (hg.fr0 h.fr0)).mono (fun _ _ ⟨_, h1, h2, h3⟩ => ⟨by rw [h1, h2], h.same h3⟩)) (RD.val rfl rfl (fun w (h : H W0 (fun _ => False) w [] [ABox b102 83 (encGNote.enc a0).toArray]) _ kk => R.sadd rfl rfl rfl e180 (R.nil kk)) (RD.val rfl rfl (fun w (h : H W0 (fun _ => False) w [] [ABox b102 83 (encGNote.enc a0).toArray]) _ kk => R.as rfl rfl (R.nil kk)) (RD.val rfl rfl (fun w (h : H W0 (fun _ => False) w [] [ABox b102 83 (encGNote.enc a0).toArray]) _ kk => R.as rfl rfl (R.nil kk)) (RD.nil (fun w (h : H W0 (fun _ => False) w [] [ABox b102 83 (encGNote.enc a0).toArray]) => k172 _ _ ?_)))))))))))
                        obtain rfl := Option.some.inj F
                        refine T.ret (retG (vs := [vS x179, .bool true]) [.tmp 2, .tmp 3] rfl ⟨rfl, rfl, trivial⟩ ⟨rfl, h.fr0⟩)
                      · replace F := (ifF c171).symm.trans F
                        obtain ⟨y182, F, E181⟩ := Option.bind_eq_some_iff.1 F
                        refine T.cut (fun a w => Agr 139 [(1, .pointer (some ⟨b102, 0, none⟩)), (4, .bool x105), (5, .bool y109), (91, .bool y182)] a ∧ H W0 (fun _ => False) w [] [ABox b102 83 (encGNote.enc a0).toArray]) ?_ ?_
                        · refine T.region ?_
                          refine R.fldB rfl fo83_0 rfl (R.ld rfl sh3 rfl (h.box 0 0 rfl rfl) (R.ib rfl rfl rfl rfl (R.mv rfl rfl (?_))))
                          refine bsplit (a0.Kind == 6) (fun c183 => ?_) (fun c183 => ?_)
                          · replace F := (ifT c183).symm.trans F
                            obtain ⟨x184, e185, F⟩ := Option.bind_eq_some_iff.1 F
                            refine R.iff rfl rfl c183 (R.fldB rfl fo83_2 rfl (R.iff rfl rfl c183 (R.ld rfl sh3 rfl (h.box 0 2 rfl rfl) (R.iff rfl rfl c183 (R.callC (fl := []) (cl := []) rfl cf83 rfl rfl (echelonref23_kind.ok e185 (hg.fr0 h.fr0)) (?_))))))
                            rintro _ w ⟨rfl, g186⟩
                            replace h := h.same g186
                            obtain rfl := Option.some.inj F
                            refine R.pT rfl rfl c183 rfl (R.as rfl rfl (R.nil (fun a ha => ⟨ha.sub ⟨rfl, rfl, rfl, rfl, trivial⟩, h⟩)))
                          · replace F := (ifF c183).symm.trans F
                            obtain rfl := Option.some.inj F
                            refine R.not_ rfl rfl rfl c183 (R.not_ rfl rfl rfl c183 (R.not_ rfl rfl rfl c183 (R.pF rfl rfl c183 rfl (R.as rfl rfl (R.nil (fun a ha => ⟨ha.sub ⟨rfl, rfl, rfl, rfl, trivial⟩, h⟩))))))
                        · clear F
                          rintro a w ⟨ha, h⟩
                          refine T.use ?_ ha
                          have F := E181
                          refine T.cond rfl (fun c187 => ?_) (fun c187 => ?_)
                          · replace F := (ifT c187).symm.trans F
                            refine T.seq fun Kk188 k188 => ?_
                            refine T.regionD (C := fun w => H W0 (fun _ => False) w [] [ABox b102 83 (encGNote.enc a0).toArray]) mix (by kernel_rfl) (h.same (Fr.drewN w 1)) ?_
                            obtain ⟨x189, e190, F⟩ := Option.bind_eq_some_iff.1 F
                            obtain ⟨x191, e192, F⟩ := Option.bind_eq_some_iff.1 F
                            obtain ⟨x193, e194, F⟩ := Option.bind_eq_some_iff.1 F
                            obtain ⟨x195, e196, F⟩ := Option.bind_eq_some_iff.1 F
                            obtain ⟨x197, e198, F⟩ := Option.bind_eq_some_iff.1 F
                            refine RD.val rfl rfl (fun w (h : H W0 (fun _ => False) w [] [ABox b102 83 (encGNote.enc a0).toArray]) _ kk => R.fldB rfl fo83_1 rfl (R.nil kk)) (RD.val rfl rfl (fun w (h : H W0 (fun _ => False) w [] [ABox b102 83 (encGNote.enc a0).toArray]) _ kk => R.ld rfl sh3 rfl (h.box 0 1 rfl rfl) (R.nil kk)) (RD.callF rfl cf52 rfl (fun w (h : H W0 (fun _ => False) w [] [ABox b102 83 (encGNote.enc a0).toArray]) => (lib_Itoa.ok e190 (hg.fr0 h.fr0)).mono (fun _ _ ⟨_, h1, h2, h3⟩ => ⟨by rw [h1, h2], h.same h3⟩)) (RD.val rfl rfl (fun w (h : H W0 (fun _ => False) w [] [ABox b102 83 (encGNote.enc a0).toArray]) _ kk => R.sadd rfl rfl rfl e192 (R.nil kk)) (RD.val rfl rfl (fun w (h : H W0 (fun _ => False) w [] [ABox b102 83 (encGNote.enc a0).toArray]) _ kk => R.sadd rfl rfl rfl e194 (R.nil kk)) (RD.val rfl rfl (fun w (h : H W0 (fun _ => False) w [] [ABox b102 83 (encGNote.enc a0).toArray]) _ kk => R.fldB rfl fo83_2 rfl (R.nil kk)) (RD.val rfl rfl (fun w (h : H W0 (fun _ => False) w [] [ABox b102 83 (encGNote.enc a0).toArray]) _ kk => R.ld rfl sh3 rfl (h.box 0 2 rfl rfl) (R.nil kk)) (RD.callF rfl cf84 rfl (fun w (h : H W0 (fun _ => False) w [] [ABox b102 83 (encGNote.enc a0).toArray]) => (echelonref23_thing.ok e196 (hg.fr0 h.fr0)).mono (fun _ _ ⟨_, h1, h2, h3⟩ => ⟨by rw [h1, h2], h.same h3⟩)) (RD.val rfl rfl (fun w (h : H W0 (fun _ => False) w [] [ABox b102 83 (encGNote.enc a0).toArray]) _ kk => R.sadd rfl rfl rfl e198 (R.nil kk)) (RD.val rfl rfl (fun w (h : H W0 (fun _ => False) w [] [ABox b102 83 (encGNote.enc a0).toArray]) _ kk => R.as rfl rfl (R.nil kk)) (RD.val rfl rfl (fun w (h : H W0 (fun _ => False) w [] [ABox b102 83 (encGNote.enc a0).toArray]) _ kk => R.as rfl rfl (R.nil kk)) (RD.nil (fun w (h : H W0 (fun _ => False) w [] [ABox b102 83 (encGNote.enc a0).toArray]) => k188 _ _ ?_))))))))))))
                            obtain rfl := Option.some.inj F
                            refine T.ret (retG (vs := [vS x197, .bool true]) [.tmp 2, .tmp 3] rfl ⟨rfl, rfl, trivial⟩ ⟨rfl, h.fr0⟩)
                          · replace F := (ifF c187).symm.trans F
                            obtain ⟨y200, F, E199⟩ := Option.bind_eq_some_iff.1 F
                            refine T.cut (fun a w => Agr 139 [(1, .pointer (some ⟨b102, 0, none⟩)), (4, .bool x105), (109, .bool y200)] a ∧ H W0 (fun _ => False) w [] [ABox b102 83 (encGNote.enc a0).toArray]) ?_ ?_
                            · refine T.region ?_
                              refine R.fldB rfl fo83_0 rfl (R.ld rfl sh3 rfl (h.box 0 0 rfl rfl) (R.ib rfl rfl rfl rfl (R.mv rfl rfl (?_))))
                              refine bsplit (a0.Kind == 7) (fun c201 => ?_) (fun c201 => ?_)
                              · replace F := (ifT c201).symm.trans F
                                obtain rfl := Option.some.inj F
                                refine R.iff rfl rfl c201 (R.mv rfl rfl (R.pT rfl rfl c201 rfl (R.as rfl rfl (R.nil (fun a ha => ⟨ha.sub ⟨rfl, rfl, rfl, trivial⟩, h⟩)))))
                              · replace F := (ifF c201).symm.trans F
                                obtain rfl := Option.some.inj F
                                refine R.not_ rfl rfl rfl c201 (R.pF rfl rfl c201 rfl (R.as rfl rfl (R.nil (fun a ha => ⟨ha.sub ⟨rfl, rfl, rfl, trivial⟩, h⟩))))
                            · clear F
                              rintro a w ⟨ha, h⟩
                              refine T.use ?_ ha
                              have F := E199
                              refine T.cond rfl (fun c202 => ?_) (fun c202 => ?_)
                              · replace F := (ifT c202).symm.trans F
                                refine T.seq fun Kk203 k203 => ?_
                                refine T.regionD (C := fun w => H W0 (fun _ => False) w [] [ABox b102 83 (encGNote.enc a0).toArray]) mix (by kernel_rfl) (h.same (Fr.drewN w 1)) ?_
                                obtain ⟨x204, e205, F⟩ := Option.bind_eq_some_iff.1 F
                                obtain ⟨x206, e207, F⟩ := Option.bind_eq_some_iff.1 F
                                obtain ⟨x208, e209, F⟩ := Option.bind_eq_some_iff.1 F
                                obtain ⟨x210, e211, F⟩ := Option.bind_eq_some_iff.1 F
                                refine RD.val rfl rfl (fun w (h : H W0 (fun _ => False) w [] [ABox b102 83 (encGNote.enc a0).toArray]) _ kk => R.fldB rfl fo83_1 rfl (R.nil kk)) (RD.val rfl rfl (fun w (h : H W0 (fun _ => False) w [] [ABox b102 83 (encGNote.enc a0).toArray]) _ kk => R.ld rfl sh3 rfl (h.box 0 1 rfl rfl) (R.nil kk)) (RD.callF rfl cf61 rfl (fun w (h : H W0 (fun _ => False) w [] [ABox b102 83 (encGNote.enc a0).toArray]) => (echelonref23_letter.ok e205 (hg.fr0 h.fr0)).mono (fun _ _ ⟨_, h1, h2, h3⟩ => ⟨by rw [h1, h2], h.same h3⟩)) (RD.val rfl rfl (fun w (h : H W0 (fun _ => False) w [] [ABox b102 83 (encGNote.enc a0).toArray]) _ kk => R.sadd rfl rfl rfl e207 (R.nil kk)) (RD.val rfl rfl (fun w (h : H W0 (fun _ => False) w [] [ABox b102 83 (encGNote.enc a0).toArray]) _ kk => R.fldB rfl fo83_2 rfl (R.nil kk)) (RD.val rfl rfl (fun w (h : H W0 (fun _ => False) w [] [ABox b102 83 (encGNote.enc a0).toArray]) _ kk => R.ld rfl sh3 rfl (h.box 0 2 rfl rfl) (R.nil kk)) (RD.callF rfl cf61 rfl (fun w (h : H W0 (fun _ => False) w [] [ABox b102 83 (encGNote.enc a0).toArray]) => (echelonref23_letter.ok e209 (hg.fr0 h.fr0)).mono (fun _ _ ⟨_, h1, h2, h3⟩ => ⟨by rw [h1, h2], h.same h3⟩)) (RD.val rfl rfl (fun w (h : H W0 (fun _ => False) w [] [ABox b102 83 (encGNote.enc a0).toArray]) _ kk => R.sadd rfl rfl rfl e211 (R.nil kk)) (RD.val rfl rfl (fun w (h : H W0 (fun _ => False) w [] [ABox b102 83 (encGNote.enc a0).toArray]) _ kk => R.as rfl rfl (R.nil kk)) (RD.val rfl rfl (fun w (h : H W0 (fun _ => False) w [] [ABox b102 83 (encGNote.enc a0).toArray]) _ kk => R.as rfl rfl (R.nil kk)) (RD.nil (fun w (h : H W0 (fun _ => False) w [] [ABox b102 83 (encGNote.enc a0).toArray]) => k203 _ _ ?_)))))))))))
                                obtain rfl := Option.some.inj F
                                refine T.ret (retG (vs := [vS x210, .bool true]) [.tmp 2, .tmp 3] rfl ⟨rfl, rfl, trivial⟩ ⟨rfl, h.fr0⟩)
                              · replace F := (ifF c202).symm.trans F
                                obtain ⟨y213, F, E212⟩ := Option.bind_eq_some_iff.1 F
                                refine T.cut (fun a w => Agr 139 [(1, .pointer (some ⟨b102, 0, none⟩)), (124, .bool y213)] a ∧ H W0 (fun _ => False) w [] [ABox b102 83 (encGNote.enc a0).toArray]) ?_ ?_
                                · refine T.region ?_
                                  refine R.fldB rfl fo83_0 rfl (R.ld rfl sh3 rfl (h.box 0 0 rfl rfl) (R.ib rfl rfl rfl rfl (R.mv rfl rfl (?_))))
                                  refine bsplit (a0.Kind == 8) (fun c214 => ?_) (fun c214 => ?_)
                                  · replace F := (ifT c214).symm.trans F
                                    obtain rfl := Option.some.inj F
                                    refine R.iff rfl rfl c214 (R.mv rfl rfl (R.pT rfl rfl c214 rfl (R.as rfl rfl (R.nil (fun a ha => ⟨ha.sub ⟨rfl, rfl, trivial⟩, h⟩)))))
                                  · replace F := (ifF c214).symm.trans F
                                    obtain rfl := Option.some.inj F
                                    refine R.not_ rfl rfl rfl c214 (R.pF rfl rfl c214 rfl (R.as rfl rfl (R.nil (fun a ha => ⟨ha.sub ⟨rfl, rfl, trivial⟩, h⟩))))
                                · clear F
                                  rintro a w ⟨ha, h⟩
                                  refine T.use ?_ ha
                                  have F := E212
                                  refine T.cond rfl (fun c215 => ?_) (fun c215 => ?_)
                                  · replace F := (ifT c215).symm.trans F
                                    refine T.seq fun Kk216 k216 => ?_
                                    refine T.regionD (C := fun w => H W0 (fun _ => False) w [] [ABox b102 83 (encGNote.enc a0).toArray]) mix (by kernel_rfl) (h.same (Fr.drewN w 1)) ?_
                                    obtain ⟨x217, e218, F⟩ := Option.bind_eq_some_iff.1 F
                                    obtain ⟨x219, e220, F⟩ := Option.bind_eq_some_iff.1 F
                                    obtain ⟨x221, e222, F⟩ := Option.bind_eq_some_iff.1 F
                                    obtain ⟨x223, e224, F⟩ := Option.bind_eq_some_iff.1 F
                                    refine RD.val rfl rfl (fun w (h : H W0 (fun _ => False) w [] [ABox b102 83 (encGNote.enc a0).toArray]) _ kk => R.fldB rfl fo83_1 rfl (R.nil kk)) (RD.val rfl rfl (fun w (h : H W0 (fun _ => False) w [] [ABox b102 83 (encGNote.enc a0).toArray]) _ kk => R.ld rfl sh3 rfl (h.box 0 1 rfl rfl) (R.nil kk)) (RD.callF rfl cf61 rfl (fun w (h : H W0 (fun _ => False) w [] [ABox b102 83 (encGNote.enc a0).toArray]) => (echelonref23_letter.ok e218 (hg.fr0 h.fr0)).mono (fun _ _ ⟨_, h1, h2, h3⟩ => ⟨by rw [h1, h2], h.same h3⟩)) (RD.val rfl rfl (fun w (h : H W0 (fun _ => False) w [] [ABox b102 83 (encGNote.enc a0).toArray]) _ kk => R.sadd rfl rfl rfl e220 (R.nil kk)) (RD.val rfl rfl (fun w (h : H W0 (fun _ => False) w [] [ABox b102 83 (encGNote.enc a0).toArray]) _ kk => R.fldB rfl fo83_2 rfl (R.nil kk)) (RD.val rfl rfl (fun w (h : H W0 (fun _ => False) w [] [ABox b102 83 (encGNote.enc a0).toArray]) _ kk => R.ld rfl sh3 rfl (h.box 0 2 rfl rfl) (R.nil kk)) (RD.callF rfl cf52 rfl (fun w (h : H W0 (fun _ => False) w [] [ABox b102 83 (encGNote.enc a0).toArray]) => (lib_Itoa.ok e222 (hg.fr0 h.fr0)).mono (fun _ _ ⟨_, h1, h2, h3⟩ => ⟨by rw [h1, h2], h.same h3⟩)) (RD.val rfl rfl (fun w (h : H W0 (fun _ => False) w [] [ABox b102 83 (encGNote.enc a0).toArray]) _ kk => R.sadd rfl rfl rfl e224 (R.nil kk)) (RD.val rfl rfl (fun w (h : H W0 (fun _ => False) w [] [ABox b102 83 (encGNote.enc a0).toArray]) _ kk => R.as rfl rfl (R.nil kk)) (RD.val rfl rfl (fun w (h : H W0 (fun _ => False) w [] [ABox b102 83 (encGNote.enc a0).toArray]) _ kk => R.as rfl rfl (R.nil kk)) (RD.nil (fun w (h : H W0 (fun _ => False) w [] [ABox b102 83 (encGNote.enc a0).toArray]) => k216 _ _ ?_)))))))))))
                                    obtain rfl := Option.some.inj F
                                    refine T.ret (retG (vs := [vS x223, .bool true]) [.tmp 2, .tmp 3] rfl ⟨rfl, rfl, trivial⟩ ⟨rfl, h.fr0⟩)
                                  · replace F := (ifF c215).symm.trans F
                                    refine T.skip (k114 _ _ ?_)
                                    refine T.seq fun Kk225 k225 => ?_
                                    refine T.region ?_
                                    refine R.as rfl rfl (R.as rfl rfl (R.nil (k225 _ _ ?_)))
                                    obtain rfl := Option.some.inj F
                                    refine T.ret (retG (vs := [vS ([]), .bool false]) [.tmp 2, .tmp 3] rfl ⟨rfl, rfl, trivial⟩ ⟨rfl, h.fr0⟩)
attribute [irreducible] echelonref23_line

end Go.Proofs.YtflmncjhonmmhaaDoor.Vw
