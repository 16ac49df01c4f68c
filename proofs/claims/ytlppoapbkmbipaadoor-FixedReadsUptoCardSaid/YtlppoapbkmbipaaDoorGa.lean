/- Walks of functions, written by my program gen.py out of Lean's print. -/
import Derived.Test.YtlppoapbkmbipaaDoorProg
import Derived.Test.YtlppoapbkmbipaaDoorAdp
namespace Go.Proofs.YtlppoapbkmbipaaDoor.Ga
open Go
set_option linter.unusedVariables false
set_option linter.unusedSimpArgs false
set_option maxRecDepth 4000
theorem cf12 : Callable Tryd.prog 12 := ⟨⟨_, Tryd.func12, rfl, by decide⟩⟩
theorem cf13 : Callable Tryd.prog 13 := ⟨⟨_, Tryd.func13, rfl, by decide⟩⟩
theorem cf14 : Callable Tryd.prog 14 := ⟨⟨_, Tryd.func14, rfl, by decide⟩⟩
theorem cf15 : Callable Tryd.prog 15 := ⟨⟨_, Tryd.func15, rfl, by decide⟩⟩
theorem cf16 : Callable Tryd.prog 16 := ⟨⟨_, Tryd.func16, rfl, by decide⟩⟩
theorem cf17 : Callable Tryd.prog 17 := ⟨⟨_, Tryd.func17, rfl, by decide⟩⟩
theorem cf18 : Callable Tryd.prog 18 := ⟨⟨_, Tryd.func18, rfl, by decide⟩⟩
theorem cf19 : Callable Tryd.prog 19 := ⟨⟨_, Tryd.func19, rfl, by decide⟩⟩
theorem cf20 : Callable Tryd.prog 20 := ⟨⟨_, Tryd.func20, rfl, by decide⟩⟩
theorem cf21 : Callable Tryd.prog 21 := ⟨⟨_, Tryd.func21, rfl, by decide⟩⟩
theorem cf22 : Callable Tryd.prog 22 := ⟨⟨_, Tryd.func22, rfl, by decide⟩⟩
theorem cf23 : Callable Tryd.prog 23 := ⟨⟨_, Tryd.func23, rfl, by decide⟩⟩
theorem cf24 : Callable Tryd.prog 24 := ⟨⟨_, Tryd.func24, rfl, by decide⟩⟩
theorem cf25 : Callable Tryd.prog 25 := ⟨⟨_, Tryd.func25, rfl, by decide⟩⟩
theorem cf26 : Callable Tryd.prog 26 := ⟨⟨_, Tryd.func26, rfl, by decide⟩⟩
theorem cf27 : Callable Tryd.prog 27 := ⟨⟨_, Tryd.func27, rfl, by decide⟩⟩
theorem cf28 : Callable Tryd.prog 28 := ⟨⟨_, Tryd.func28, rfl, by decide⟩⟩
theorem cf29 : Callable Tryd.prog 29 := ⟨⟨_, Tryd.func29, rfl, by decide⟩⟩
theorem cf30 : Callable Tryd.prog 30 := ⟨⟨_, Tryd.func30, rfl, by decide⟩⟩
theorem cf31 : Callable Tryd.prog 31 := ⟨⟨_, Tryd.func31, rfl, by decide⟩⟩
theorem cf32 : Callable Tryd.prog 32 := ⟨⟨_, Tryd.func32, rfl, by decide⟩⟩
theorem cf33 : Callable Tryd.prog 33 := ⟨⟨_, Tryd.func33, rfl, by decide⟩⟩
theorem cf34 : Callable Tryd.prog 34 := ⟨⟨_, Tryd.func34, rfl, by decide⟩⟩
theorem cf35 : Callable Tryd.prog 35 := ⟨⟨_, Tryd.func35, rfl, by decide⟩⟩
theorem cf36 : Callable Tryd.prog 36 := ⟨⟨_, Tryd.func36, rfl, by decide⟩⟩
theorem cf37 : Callable Tryd.prog 37 := ⟨⟨_, Tryd.func37, rfl, by decide⟩⟩
theorem cf38 : Callable Tryd.prog 38 := ⟨⟨_, Tryd.func38, rfl, by decide⟩⟩
theorem cf39 : Callable Tryd.prog 39 := ⟨⟨_, Tryd.func39, rfl, by decide⟩⟩
theorem cf40 : Callable Tryd.prog 40 := ⟨⟨_, Tryd.func40, rfl, by decide⟩⟩
theorem cf41 : Callable Tryd.prog 41 := ⟨⟨_, Tryd.func41, rfl, by decide⟩⟩
theorem cf42 : Callable Tryd.prog 42 := ⟨⟨_, Tryd.func42, rfl, by decide⟩⟩
theorem cf43 : Callable Tryd.prog 43 := ⟨⟨_, Tryd.func43, rfl, by decide⟩⟩
theorem cf44 : Callable Tryd.prog 44 := ⟨⟨_, Tryd.func44, rfl, by decide⟩⟩
theorem cf45 : Callable Tryd.prog 45 := ⟨⟨_, Tryd.func45, rfl, by decide⟩⟩
theorem cf46 : Callable Tryd.prog 46 := ⟨⟨_, Tryd.func46, rfl, by decide⟩⟩
theorem cf47 : Callable Tryd.prog 47 := ⟨⟨_, Tryd.func47, rfl, by decide⟩⟩
theorem cf48 : Callable Tryd.prog 48 := ⟨⟨_, Tryd.func48, rfl, by decide⟩⟩
theorem cf49 : Callable Tryd.prog 49 := ⟨⟨_, Tryd.func49, rfl, by decide⟩⟩
theorem cf50 : Callable Tryd.prog 50 := ⟨⟨_, Tryd.func50, rfl, by decide⟩⟩
theorem cf51 : Callable Tryd.prog 51 := ⟨⟨_, Tryd.func51, rfl, by decide⟩⟩
theorem cf52 : Callable Tryd.prog 52 := ⟨⟨_, Tryd.func52, rfl, by decide⟩⟩
theorem in5 : (Tryd.prog.info? 5).map (fun i => (i.zero, i.size)) = some (some (.int .u8 0), 1) := by kernel_rfl
theorem ss52 : slSz Tryd.prog 52 = some (5, 1) := by kernel_rfl
theorem u3 : Tryd.prog.underlying 3 = some (.int .i64) := by kernel_rfl
theorem u5 : Tryd.prog.underlying 5 = some (.int .u8) := by kernel_rfl
theorem u52 : Tryd.prog.underlying 52 = some (.slice 5) := by kernel_rfl
theorem u9 : Tryd.prog.underlying 9 = some (.string) := by kernel_rfl
theorem us21 : (Tryd.prog.underlying 21).isSome = true := by kernel_rfl
theorem us3 : (Tryd.prog.underlying 3).isSome = true := by kernel_rfl
theorem us5 : (Tryd.prog.underlying 5).isSome = true := by kernel_rfl

/-! echelon/fixed.Bound: function 23 -/
noncomputable def fixed_Bound (a0 : Int) : Option (Int) :=
  (some (imax (-2147483647) (imin a0 2147483647))).bind fun (x3 : Int) => some x3
theorem fixed_Bound.ok {a0 : Int} {r : Int} {W0 : World} (F : fixed_Bound a0 = some r) (hg : Gl W0) :
    Calls Tryd.prog 23 [(.int .i64 a0 : Value)].toArray W0 fun e w' => ∃ v, e = .returned v ∧ (v = .int .i64 r ∧ Fr0 W0 w') := by
  unfold fixed_Bound at F
  refine calls_body 6 Tryd.func23 rfl rfl rfl ?_
  have h := H.nil W0
  refine T.seq fun Kk1 k1 => ?_
  refine T.region ?_
  refine R.as rfl rfl (R.nil (k1 _ _ ?_))
  refine T.seq fun Kk2 k2 => ?_
  refine T.region ?_
  obtain ⟨x3, e4, F⟩ := Option.bind_eq_some_iff.1 F
  refine R.mv rfl rfl (R.mn rfl rfl rfl (R.mx rfl rfl rfl (R.as rfl rfl (R.re (congrArg (Value.int .i64) (Option.some.inj e4)) (R.nil (k2 _ _ ?_))))))
  obtain rfl := Option.some.inj F
  refine T.ret (ret1 rfl rfl ⟨rfl, h.fr0⟩)

/-! echelon/echelonref01.Bound: function 24 -/
noncomputable def echelonref01_Bound (a0 : Int) : Option (Int) :=
  if decide (a0 > 2147483647) then some 2147483647 else if decide (a0 < (-2147483647)) then some (-2147483647) else some a0
theorem echelonref01_Bound.ok {a0 : Int} {r : Int} {W0 : World} (F : echelonref01_Bound a0 = some r) (hg : Gl W0) :
    Calls Tryd.prog 24 [(.int .i64 a0 : Value)].toArray W0 fun e w' => ∃ v, e = .returned v ∧ (v = .int .i64 r ∧ Fr0 W0 w') := by
  unfold echelonref01_Bound at F
  refine calls_body 8 Tryd.func24 rfl rfl rfl ?_
  have h := H.nil W0
  refine T.seq fun Kk1 k1 => ?_
  refine T.region ?_
  refine R.as rfl rfl (R.nil (k1 _ _ ?_))
  refine T.seq fun Kk2 k2 => ?_
  refine T.seq fun Kk3 k3 => ?_
  refine T.region ?_
  refine R.mv rfl rfl (R.ib rfl rfl rfl rfl (R.nil (k3 _ _ ?_)))
  refine T.cond rfl (fun c4 => ?_) (fun c4 => ?_)
  · replace F := (ifT c4).symm.trans F
    refine T.seq fun Kk5 k5 => ?_
    refine T.region ?_
    refine R.as rfl rfl (R.nil (k5 _ _ ?_))
    obtain rfl := Option.some.inj F
    refine T.ret (ret1 rfl rfl ⟨rfl, h.fr0⟩)
  · replace F := (ifF c4).symm.trans F
    refine T.skip (k2 _ _ ?_)
    refine T.seq fun Kk6 k6 => ?_
    refine T.seq fun Kk7 k7 => ?_
    refine T.region ?_
    refine R.mv rfl rfl (R.ib rfl rfl rfl rfl (R.nil (k7 _ _ ?_)))
    refine T.cond rfl (fun c8 => ?_) (fun c8 => ?_)
    · replace F := (ifT c8).symm.trans F
      refine T.seq fun Kk9 k9 => ?_
      refine T.region ?_
      refine R.as rfl rfl (R.nil (k9 _ _ ?_))
      obtain rfl := Option.some.inj F
      refine T.ret (ret1 rfl rfl ⟨rfl, h.fr0⟩)
    · replace F := (ifF c8).symm.trans F
      refine T.skip (k6 _ _ ?_)
      refine T.seq fun Kk10 k10 => ?_
      refine T.region ?_
      refine R.mv rfl rfl (R.as rfl rfl (R.nil (k10 _ _ ?_)))
      obtain rfl := Option.some.inj F
      refine T.ret (ret1 rfl rfl ⟨rfl, h.fr0⟩)

/-! echelon/fixed.Of: function 25 -/
noncomputable def fixed_Of (a0 : Int) : Option (Int) :=
  (fixed_Bound a0).bind fun x3 => (fixed_Bound (W (x3 * 256))).bind fun x6 => some x6
theorem fixed_Of.ok {a0 : Int} {r : Int} {W0 : World} (F : fixed_Of a0 = some r) (hg : Gl W0) :
    Calls Tryd.prog 25 [(.int .i64 a0 : Value)].toArray W0 fun e w' => ∃ v, e = .returned v ∧ (v = .int .i64 r ∧ Fr0 W0 w') := by
  unfold fixed_Of at F
  refine calls_body 7 Tryd.func25 rfl rfl rfl ?_
  have h := H.nil W0
  refine T.seq fun Kk1 k1 => ?_
  refine T.region ?_
  refine R.as rfl rfl (R.nil (k1 _ _ ?_))
  refine T.seq fun Kk2 k2 => ?_
  refine T.region ?_
  obtain ⟨x3, e4, F⟩ := Option.bind_eq_some_iff.1 F
  refine R.mv rfl rfl (R.callF rfl cf23 rfl (fixed_Bound.ok e4 (hg.fr0 h.fr0)) (?_))
  rintro _ w ⟨rfl, f5⟩
  replace h := h.same f5
  obtain ⟨x6, e7, F⟩ := Option.bind_eq_some_iff.1 F
  refine R.ib rfl rfl rfl rfl (R.callF rfl cf23 rfl (fixed_Bound.ok e7 (hg.fr0 h.fr0)) (?_))
  rintro _ w ⟨rfl, f8⟩
  replace h := h.same f8
  refine R.as rfl rfl (R.nil (k2 _ _ ?_))
  obtain rfl := Option.some.inj F
  refine T.ret (ret1 rfl rfl ⟨rfl, h.fr0⟩)

/-! echelon/echelonref01.Of: function 26 -/
noncomputable def echelonref01_Of (a0 : Int) : Option (Int) :=
  if decide (a0 > 2147483647) then some 2147483647 else if decide (a0 < (-2147483647)) then some (-2147483647) else (echelonref01_Bound (W (256 * a0))).bind fun x11 => some x11
theorem echelonref01_Of.ok {a0 : Int} {r : Int} {W0 : World} (F : echelonref01_Of a0 = some r) (hg : Gl W0) :
    Calls Tryd.prog 26 [(.int .i64 a0 : Value)].toArray W0 fun e w' => ∃ v, e = .returned v ∧ (v = .int .i64 r ∧ Fr0 W0 w') := by
  unfold echelonref01_Of at F
  refine calls_body 10 Tryd.func26 rfl rfl rfl ?_
  have h := H.nil W0
  refine T.seq fun Kk1 k1 => ?_
  refine T.region ?_
  refine R.as rfl rfl (R.nil (k1 _ _ ?_))
  refine T.seq fun Kk2 k2 => ?_
  refine T.seq fun Kk3 k3 => ?_
  refine T.region ?_
  refine R.mv rfl rfl (R.ib rfl rfl rfl rfl (R.nil (k3 _ _ ?_)))
  refine T.cond rfl (fun c4 => ?_) (fun c4 => ?_)
  · replace F := (ifT c4).symm.trans F
    refine T.seq fun Kk5 k5 => ?_
    refine T.region ?_
    refine R.as rfl rfl (R.nil (k5 _ _ ?_))
    obtain rfl := Option.some.inj F
    refine T.ret (ret1 rfl rfl ⟨rfl, h.fr0⟩)
  · replace F := (ifF c4).symm.trans F
    refine T.skip (k2 _ _ ?_)
    refine T.seq fun Kk6 k6 => ?_
    refine T.seq fun Kk7 k7 => ?_
    refine T.region ?_
    refine R.mv rfl rfl (R.ib rfl rfl rfl rfl (R.nil (k7 _ _ ?_)))
    refine T.cond rfl (fun c8 => ?_) (fun c8 => ?_)
    · replace F := (ifT c8).symm.trans F
      refine T.seq fun Kk9 k9 => ?_
      refine T.region ?_
      refine R.as rfl rfl (R.nil (k9 _ _ ?_))
      obtain rfl := Option.some.inj F
      refine T.ret (ret1 rfl rfl ⟨rfl, h.fr0⟩)
    · replace F := (ifF c8).symm.trans F
      refine T.skip (k6 _ _ ?_)
      refine T.seq fun Kk10 k10 => ?_
      refine T.region ?_
      obtain ⟨x11, e12, F⟩ := Option.bind_eq_some_iff.1 F
      refine R.mv rfl rfl (R.ib rfl rfl rfl rfl (R.callF rfl cf24 rfl (echelonref01_Bound.ok e12 (hg.fr0 h.fr0)) (?_)))
      rintro _ w ⟨rfl, f13⟩
      replace h := h.same f13
      refine R.as rfl rfl (R.nil (k10 _ _ ?_))
      obtain rfl := Option.some.inj F
      refine T.ret (ret1 rfl rfl ⟨rfl, h.fr0⟩)

/-! echelon/fixed.Whole: function 27 -/
noncomputable def fixed_Whole (a0 : Int) : Option (Int) :=
  (fixed_Bound a0).bind fun x3 => some (ishr .i64 x3 8)
theorem fixed_Whole.ok {a0 : Int} {r : Int} {W0 : World} (F : fixed_Whole a0 = some r) (hg : Gl W0) :
    Calls Tryd.prog 27 [(.int .i64 a0 : Value)].toArray W0 fun e w' => ∃ v, e = .returned v ∧ (v = .int .i64 r ∧ Fr0 W0 w') := by
  unfold fixed_Whole at F
  refine calls_body 6 Tryd.func27 rfl rfl rfl ?_
  have h := H.nil W0
  refine T.seq fun Kk1 k1 => ?_
  refine T.region ?_
  refine R.as rfl rfl (R.nil (k1 _ _ ?_))
  refine T.seq fun Kk2 k2 => ?_
  refine T.region ?_
  obtain ⟨x3, e4, F⟩ := Option.bind_eq_some_iff.1 F
  refine R.mv rfl rfl (R.callF rfl cf23 rfl (fixed_Bound.ok e4 (hg.fr0 h.fr0)) (?_))
  rintro _ w ⟨rfl, f5⟩
  replace h := h.same f5
  refine R.shr rfl rfl rfl (by decide) (R.as rfl rfl (R.nil (k2 _ _ ?_)))
  obtain rfl := Option.some.inj F
  refine T.ret (ret1 rfl rfl ⟨rfl, h.fr0⟩)

/-! echelon/echelonref01.Whole: function 28 -/
noncomputable def echelonref01_Whole (a0 : Int) : Option (Int) :=
  (echelonref01_Bound a0).bind fun x3 => (if decide ((W ((W (Int.tdiv x3 256)) * 256)) > x3) then (some (W ((W (Int.tdiv x3 256)) - 1))).bind fun (x15 : Int) => some x15 else some (W (Int.tdiv x3 256))).bind fun (y8 : Int) => some y8
theorem echelonref01_Whole.ok {a0 : Int} {r : Int} {W0 : World} (F : echelonref01_Whole a0 = some r) (hg : Gl W0) :
    Calls Tryd.prog 28 [(.int .i64 a0 : Value)].toArray W0 fun e w' => ∃ v, e = .returned v ∧ (v = .int .i64 r ∧ Fr0 W0 w') := by
  unfold echelonref01_Whole at F
  refine calls_body 15 Tryd.func28 rfl rfl rfl ?_
  have h := H.nil W0
  refine T.seq fun Kk1 k1 => ?_
  refine T.region ?_
  refine R.as rfl rfl (R.nil (k1 _ _ ?_))
  refine T.seq fun Kk2 k2 => ?_
  refine T.region ?_
  obtain ⟨x3, e4, F⟩ := Option.bind_eq_some_iff.1 F
  refine R.mv rfl rfl (R.callF rfl cf24 rfl (echelonref01_Bound.ok e4 (hg.fr0 h.fr0)) (?_))
  rintro _ w ⟨rfl, f5⟩
  replace h := h.same f5
  refine R.as rfl rfl (R.nil (k2 _ _ ?_))
  refine T.seq fun Kk6 k6 => ?_
  refine T.region ?_
  refine R.mv rfl rfl (R.quo rfl rfl rfl (by decide) (R.as rfl rfl (R.nil (k6 _ _ ?_))))
  obtain ⟨y8, F, E7⟩ := Option.bind_eq_some_iff.1 F
  refine T.cut (fun a w => Agr 15 [(3, .int .i64 y8)] a ∧ H W0 (fun _ => False) w [] []) ?_ ?_
  · refine T.seq fun Kk13 k13 => ?_
    refine T.region ?_
    refine R.mv rfl rfl (R.ib rfl rfl rfl rfl (R.mv rfl rfl (R.ib rfl rfl rfl rfl (R.nil (k13 _ _ ?_)))))
    refine T.cond rfl (fun c14 => ?_) (fun c14 => ?_)
    · replace F := (ifT c14).symm.trans F
      refine T.region ?_
      obtain ⟨x15, e16, F⟩ := Option.bind_eq_some_iff.1 F
      obtain rfl := Option.some.inj F
      refine R.mv rfl rfl (R.ib rfl rfl rfl rfl (R.as rfl rfl (R.re (congrArg (Value.int .i64) (Option.some.inj e16)) (R.nil (fun a ha => ⟨ha.sub ⟨rfl, trivial⟩, h⟩)))))
    · replace F := (ifF c14).symm.trans F
      obtain rfl := Option.some.inj F
      refine T.skip (fun a ha => ⟨ha.sub ⟨rfl, trivial⟩, h⟩)
  · clear F
    rintro a w ⟨ha, h⟩
    refine T.use ?_ ha
    have F := E7
    refine T.seq fun Kk17 k17 => ?_
    refine T.region ?_
    refine R.mv rfl rfl (R.as rfl rfl (R.nil (k17 _ _ ?_)))
    obtain rfl := Option.some.inj F
    refine T.ret (ret1 rfl rfl ⟨rfl, h.fr0⟩)

/-! echelon/fixed.size: function 44 -/
noncomputable def fixed_size (a0 : Int) : Option (Int) :=
  some (imax a0 (W (0 - a0)))
theorem fixed_size.ok {a0 : Int} {r : Int} {W0 : World} (F : fixed_size a0 = some r) (hg : Gl W0) :
    Calls Tryd.prog 44 [(.int .i64 a0 : Value)].toArray W0 fun e w' => ∃ v, e = .returned v ∧ (v = .int .i64 r ∧ Fr0 W0 w') := by
  unfold fixed_size at F
  refine calls_body 7 Tryd.func44 rfl rfl rfl ?_
  have h := H.nil W0
  refine T.seq fun Kk1 k1 => ?_
  refine T.region ?_
  refine R.as rfl rfl (R.nil (k1 _ _ ?_))
  refine T.seq fun Kk2 k2 => ?_
  refine T.region ?_
  refine R.mv rfl rfl (R.mv rfl rfl (R.neg rfl rfl (R.mx rfl rfl rfl (R.as rfl rfl (R.nil (k2 _ _ ?_))))))
  obtain rfl := Option.some.inj F
  refine T.ret (ret1 rfl rfl ⟨rfl, h.fr0⟩)

/-! echelon/fixed.Abs: function 29 -/
noncomputable def fixed_Abs (a0 : Int) : Option (Int) :=
  (fixed_Bound a0).bind fun x3 => (fixed_size x3).bind fun x6 => some x6
theorem fixed_Abs.ok {a0 : Int} {r : Int} {W0 : World} (F : fixed_Abs a0 = some r) (hg : Gl W0) :
    Calls Tryd.prog 29 [(.int .i64 a0 : Value)].toArray W0 fun e w' => ∃ v, e = .returned v ∧ (v = .int .i64 r ∧ Fr0 W0 w') := by
  unfold fixed_Abs at F
  refine calls_body 6 Tryd.func29 rfl rfl rfl ?_
  have h := H.nil W0
  refine T.seq fun Kk1 k1 => ?_
  refine T.region ?_
  refine R.as rfl rfl (R.nil (k1 _ _ ?_))
  refine T.seq fun Kk2 k2 => ?_
  refine T.region ?_
  obtain ⟨x3, e4, F⟩ := Option.bind_eq_some_iff.1 F
  refine R.mv rfl rfl (R.callF rfl cf23 rfl (fixed_Bound.ok e4 (hg.fr0 h.fr0)) (?_))
  rintro _ w ⟨rfl, f5⟩
  replace h := h.same f5
  obtain ⟨x6, e7, F⟩ := Option.bind_eq_some_iff.1 F
  refine R.callF rfl cf44 rfl (fixed_size.ok e7 (hg.fr0 h.fr0)) (?_)
  rintro _ w ⟨rfl, f8⟩
  replace h := h.same f8
  refine R.as rfl rfl (R.nil (k2 _ _ ?_))
  obtain rfl := Option.some.inj F
  refine T.ret (ret1 rfl rfl ⟨rfl, h.fr0⟩)

/-! echelon/echelonref01.Abs: function 30 -/
noncomputable def echelonref01_Abs (a0 : Int) : Option (Int) :=
  (echelonref01_Bound a0).bind fun x3 => if decide (x3 < 0) then some (W (0 - x3)) else some x3
theorem echelonref01_Abs.ok {a0 : Int} {r : Int} {W0 : World} (F : echelonref01_Abs a0 = some r) (hg : Gl W0) :
    Calls Tryd.prog 30 [(.int .i64 a0 : Value)].toArray W0 fun e w' => ∃ v, e = .returned v ∧ (v = .int .i64 r ∧ Fr0 W0 w') := by
  unfold echelonref01_Abs at F
  refine calls_body 10 Tryd.func30 rfl rfl rfl ?_
  have h := H.nil W0
  refine T.seq fun Kk1 k1 => ?_
  refine T.region ?_
  refine R.as rfl rfl (R.nil (k1 _ _ ?_))
  refine T.seq fun Kk2 k2 => ?_
  refine T.region ?_
  obtain ⟨x3, e4, F⟩ := Option.bind_eq_some_iff.1 F
  refine R.mv rfl rfl (R.callF rfl cf24 rfl (echelonref01_Bound.ok e4 (hg.fr0 h.fr0)) (?_))
  rintro _ w ⟨rfl, f5⟩
  replace h := h.same f5
  refine R.as rfl rfl (R.nil (k2 _ _ ?_))
  refine T.seq fun Kk6 k6 => ?_
  refine T.seq fun Kk7 k7 => ?_
  refine T.region ?_
  refine R.mv rfl rfl (R.ib rfl rfl rfl rfl (R.nil (k7 _ _ ?_)))
  refine T.cond rfl (fun c8 => ?_) (fun c8 => ?_)
  · replace F := (ifT c8).symm.trans F
    refine T.seq fun Kk9 k9 => ?_
    refine T.region ?_
    refine R.mv rfl rfl (R.neg rfl rfl (R.as rfl rfl (R.nil (k9 _ _ ?_))))
    obtain rfl := Option.some.inj F
    refine T.ret (ret1 rfl rfl ⟨rfl, h.fr0⟩)
  · replace F := (ifF c8).symm.trans F
    refine T.skip (k6 _ _ ?_)
    refine T.seq fun Kk10 k10 => ?_
    refine T.region ?_
    refine R.mv rfl rfl (R.as rfl rfl (R.nil (k10 _ _ ?_)))
    obtain rfl := Option.some.inj F
    refine T.ret (ret1 rfl rfl ⟨rfl, h.fr0⟩)

/-! echelon/fixed.Add: function 15 -/
noncomputable def fixed_Add (a0 : Int) (a1 : Int) : Option (Int) :=
  (fixed_Bound a0).bind fun x3 => (fixed_Bound a1).bind fun x6 => (fixed_Bound (W (x3 + x6))).bind fun x9 => some x9
theorem fixed_Add.ok {a0 : Int} {a1 : Int} {r : Int} {W0 : World} (F : fixed_Add a0 a1 = some r) (hg : Gl W0) :
    Calls Tryd.prog 15 [(.int .i64 a0 : Value), (.int .i64 a1 : Value)].toArray W0 fun e w' => ∃ v, e = .returned v ∧ (v = .int .i64 r ∧ Fr0 W0 w') := by
  unfold fixed_Add at F
  refine calls_body 11 Tryd.func15 rfl rfl rfl ?_
  have h := H.nil W0
  refine T.seq fun Kk1 k1 => ?_
  refine T.region ?_
  refine R.as rfl rfl (R.nil (k1 _ _ ?_))
  refine T.seq fun Kk2 k2 => ?_
  refine T.region ?_
  obtain ⟨x3, e4, F⟩ := Option.bind_eq_some_iff.1 F
  refine R.mv rfl rfl (R.callF rfl cf23 rfl (fixed_Bound.ok e4 (hg.fr0 h.fr0)) (?_))
  rintro _ w ⟨rfl, f5⟩
  replace h := h.same f5
  obtain ⟨x6, e7, F⟩ := Option.bind_eq_some_iff.1 F
  refine R.mv rfl rfl (R.callF rfl cf23 rfl (fixed_Bound.ok e7 (hg.fr0 h.fr0)) (?_))
  rintro _ w ⟨rfl, f8⟩
  replace h := h.same f8
  obtain ⟨x9, e10, F⟩ := Option.bind_eq_some_iff.1 F
  refine R.ib rfl rfl rfl rfl (R.callF rfl cf23 rfl (fixed_Bound.ok e10 (hg.fr0 h.fr0)) (?_))
  rintro _ w ⟨rfl, f11⟩
  replace h := h.same f11
  refine R.as rfl rfl (R.nil (k2 _ _ ?_))
  obtain rfl := Option.some.inj F
  refine T.ret (ret1 rfl rfl ⟨rfl, h.fr0⟩)

/-! echelon/echelonref01.Add: function 16 -/
noncomputable def echelonref01_Add (a0 : Int) (a1 : Int) : Option (Int) :=
  (echelonref01_Bound a0).bind fun x3 => (echelonref01_Bound a1).bind fun x6 => (echelonref01_Bound (W (x3 + x6))).bind fun x9 => some x9
theorem echelonref01_Add.ok {a0 : Int} {a1 : Int} {r : Int} {W0 : World} (F : echelonref01_Add a0 a1 = some r) (hg : Gl W0) :
    Calls Tryd.prog 16 [(.int .i64 a0 : Value), (.int .i64 a1 : Value)].toArray W0 fun e w' => ∃ v, e = .returned v ∧ (v = .int .i64 r ∧ Fr0 W0 w') := by
  unfold echelonref01_Add at F
  refine calls_body 11 Tryd.func16 rfl rfl rfl ?_
  have h := H.nil W0
  refine T.seq fun Kk1 k1 => ?_
  refine T.region ?_
  refine R.as rfl rfl (R.nil (k1 _ _ ?_))
  refine T.seq fun Kk2 k2 => ?_
  refine T.region ?_
  obtain ⟨x3, e4, F⟩ := Option.bind_eq_some_iff.1 F
  refine R.mv rfl rfl (R.callF rfl cf24 rfl (echelonref01_Bound.ok e4 (hg.fr0 h.fr0)) (?_))
  rintro _ w ⟨rfl, f5⟩
  replace h := h.same f5
  obtain ⟨x6, e7, F⟩ := Option.bind_eq_some_iff.1 F
  refine R.mv rfl rfl (R.callF rfl cf24 rfl (echelonref01_Bound.ok e7 (hg.fr0 h.fr0)) (?_))
  rintro _ w ⟨rfl, f8⟩
  replace h := h.same f8
  obtain ⟨x9, e10, F⟩ := Option.bind_eq_some_iff.1 F
  refine R.ib rfl rfl rfl rfl (R.callF rfl cf24 rfl (echelonref01_Bound.ok e10 (hg.fr0 h.fr0)) (?_))
  rintro _ w ⟨rfl, f11⟩
  replace h := h.same f11
  refine R.as rfl rfl (R.nil (k2 _ _ ?_))
  obtain rfl := Option.some.inj F
  refine T.ret (ret1 rfl rfl ⟨rfl, h.fr0⟩)

/-! echelon/fixed.Sub: function 17 -/
noncomputable def fixed_Sub (a0 : Int) (a1 : Int) : Option (Int) :=
  (fixed_Bound a0).bind fun x3 => (fixed_Bound a1).bind fun x6 => (fixed_Bound (W (x3 - x6))).bind fun x9 => some x9
theorem fixed_Sub.ok {a0 : Int} {a1 : Int} {r : Int} {W0 : World} (F : fixed_Sub a0 a1 = some r) (hg : Gl W0) :
    Calls Tryd.prog 17 [(.int .i64 a0 : Value), (.int .i64 a1 : Value)].toArray W0 fun e w' => ∃ v, e = .returned v ∧ (v = .int .i64 r ∧ Fr0 W0 w') := by
  unfold fixed_Sub at F
  refine calls_body 11 Tryd.func17 rfl rfl rfl ?_
  have h := H.nil W0
  refine T.seq fun Kk1 k1 => ?_
  refine T.region ?_
  refine R.as rfl rfl (R.nil (k1 _ _ ?_))
  refine T.seq fun Kk2 k2 => ?_
  refine T.region ?_
  obtain ⟨x3, e4, F⟩ := Option.bind_eq_some_iff.1 F
  refine R.mv rfl rfl (R.callF rfl cf23 rfl (fixed_Bound.ok e4 (hg.fr0 h.fr0)) (?_))
  rintro _ w ⟨rfl, f5⟩
  replace h := h.same f5
  obtain ⟨x6, e7, F⟩ := Option.bind_eq_some_iff.1 F
  refine R.mv rfl rfl (R.callF rfl cf23 rfl (fixed_Bound.ok e7 (hg.fr0 h.fr0)) (?_))
  rintro _ w ⟨rfl, f8⟩
  replace h := h.same f8
  obtain ⟨x9, e10, F⟩ := Option.bind_eq_some_iff.1 F
  refine R.ib rfl rfl rfl rfl (R.callF rfl cf23 rfl (fixed_Bound.ok e10 (hg.fr0 h.fr0)) (?_))
  rintro _ w ⟨rfl, f11⟩
  replace h := h.same f11
  refine R.as rfl rfl (R.nil (k2 _ _ ?_))
  obtain rfl := Option.some.inj F
  refine T.ret (ret1 rfl rfl ⟨rfl, h.fr0⟩)

/-! echelon/echelonref01.Sub: function 18 -/
noncomputable def echelonref01_Sub (a0 : Int) (a1 : Int) : Option (Int) :=
  (echelonref01_Bound a0).bind fun x3 => (echelonref01_Bound a1).bind fun x6 => (echelonref01_Bound (W (x3 - x6))).bind fun x9 => some x9
theorem echelonref01_Sub.ok {a0 : Int} {a1 : Int} {r : Int} {W0 : World} (F : echelonref01_Sub a0 a1 = some r) (hg : Gl W0) :
    Calls Tryd.prog 18 [(.int .i64 a0 : Value), (.int .i64 a1 : Value)].toArray W0 fun e w' => ∃ v, e = .returned v ∧ (v = .int .i64 r ∧ Fr0 W0 w') := by
  unfold echelonref01_Sub at F
  refine calls_body 11 Tryd.func18 rfl rfl rfl ?_
  have h := H.nil W0
  refine T.seq fun Kk1 k1 => ?_
  refine T.region ?_
  refine R.as rfl rfl (R.nil (k1 _ _ ?_))
  refine T.seq fun Kk2 k2 => ?_
  refine T.region ?_
  obtain ⟨x3, e4, F⟩ := Option.bind_eq_some_iff.1 F
  refine R.mv rfl rfl (R.callF rfl cf24 rfl (echelonref01_Bound.ok e4 (hg.fr0 h.fr0)) (?_))
  rintro _ w ⟨rfl, f5⟩
  replace h := h.same f5
  obtain ⟨x6, e7, F⟩ := Option.bind_eq_some_iff.1 F
  refine R.mv rfl rfl (R.callF rfl cf24 rfl (echelonref01_Bound.ok e7 (hg.fr0 h.fr0)) (?_))
  rintro _ w ⟨rfl, f8⟩
  replace h := h.same f8
  obtain ⟨x9, e10, F⟩ := Option.bind_eq_some_iff.1 F
  refine R.ib rfl rfl rfl rfl (R.callF rfl cf24 rfl (echelonref01_Bound.ok e10 (hg.fr0 h.fr0)) (?_))
  rintro _ w ⟨rfl, f11⟩
  replace h := h.same f11
  refine R.as rfl rfl (R.nil (k2 _ _ ?_))
  obtain rfl := Option.some.inj F
  refine T.ret (ret1 rfl rfl ⟨rfl, h.fr0⟩)

/-! echelon/fixed.rounded: function 41 -/
noncomputable def fixed_rounded (a0 : Int) (a1 : Int) : Option (Int) :=
  (fixed_size a0).bind fun x3 => (must (a1 != 0)).bind fun _ => (some (W (Int.tdiv (W (x3 + (W (Int.tdiv a1 2)))) a1))).bind fun (x7 : Int) => (if (Int.tmod a1 2) == 1 then (fixed_size a0).bind fun x21 => (must ((W (2 * a1)) != 0)).bind fun _ => (some (W (Int.tdiv (W ((W (2 * x21)) + a1)) (W (2 * a1))))).bind fun (x25 : Int) => some x25 else some x7).bind fun (y10 : Int) => if decide (a0 < 0) then some (W (0 - y10)) else some y10
theorem fixed_rounded.ok {a0 : Int} {a1 : Int} {r : Int} {W0 : World} (F : fixed_rounded a0 a1 = some r) (hg : Gl W0) :
    Calls Tryd.prog 41 [(.int .i64 a0 : Value), (.int .i64 a1 : Value)].toArray W0 fun e w' => ∃ v, e = .returned v ∧ (v = .int .i64 r ∧ Fr0 W0 w') := by
  unfold fixed_rounded at F
  refine calls_body 29 Tryd.func41 rfl rfl rfl ?_
  have h := H.nil W0
  refine T.seq fun Kk1 k1 => ?_
  refine T.region ?_
  refine R.as rfl rfl (R.nil (k1 _ _ ?_))
  refine T.seq fun Kk2 k2 => ?_
  refine T.region ?_
  obtain ⟨x3, e4, F⟩ := Option.bind_eq_some_iff.1 F
  refine R.mv rfl rfl (R.callF rfl cf44 rfl (fixed_size.ok e4 (hg.fr0 h.fr0)) (?_))
  rintro _ w ⟨rfl, f5⟩
  replace h := h.same f5
  obtain ⟨_, e6, F⟩ := Option.bind_eq_some_iff.1 F
  obtain ⟨x7, e8, F⟩ := Option.bind_eq_some_iff.1 F
  refine R.mv rfl rfl (R.quo rfl rfl rfl (by decide) (R.ib rfl rfl rfl rfl (R.mv rfl rfl (R.quo rfl rfl rfl (must_ne e6) (R.as rfl rfl (R.re (congrArg (Value.int .i64) (Option.some.inj e8)) (R.nil (k2 _ _ ?_))))))))
  obtain ⟨y10, F, E9⟩ := Option.bind_eq_some_iff.1 F
  refine T.cut (fun a w => Agr 29 [(0, .int .i64 a0), (5, .int .i64 y10)] a ∧ H W0 (fun _ => False) w [] []) ?_ ?_
  · refine T.seq fun Kk19 k19 => ?_
    refine T.region ?_
    refine R.mv rfl rfl (R.rem rfl rfl rfl (by decide) (R.ib rfl rfl rfl rfl (R.nil (k19 _ _ ?_))))
    refine T.cond rfl (fun c20 => ?_) (fun c20 => ?_)
    · replace F := (ifT c20).symm.trans F
      refine T.region ?_
      obtain ⟨x21, e22, F⟩ := Option.bind_eq_some_iff.1 F
      refine R.mv rfl rfl (R.callF rfl cf44 rfl (fixed_size.ok e22 (hg.fr0 h.fr0)) (?_))
      rintro _ w ⟨rfl, f23⟩
      replace h := h.same f23
      obtain ⟨_, e24, F⟩ := Option.bind_eq_some_iff.1 F
      obtain ⟨x25, e26, F⟩ := Option.bind_eq_some_iff.1 F
      obtain rfl := Option.some.inj F
      refine R.ib rfl rfl rfl rfl (R.mv rfl rfl (R.ib rfl rfl rfl rfl (R.mv rfl rfl (R.ib rfl rfl rfl rfl (R.quo rfl rfl rfl (must_ne e24) (R.as rfl rfl (R.re (congrArg (Value.int .i64) (Option.some.inj e26)) (R.nil (fun a ha => ⟨ha.sub ⟨rfl, rfl, trivial⟩, h⟩)))))))))
    · replace F := (ifF c20).symm.trans F
      obtain rfl := Option.some.inj F
      refine T.skip (fun a ha => ⟨ha.sub ⟨rfl, rfl, trivial⟩, h⟩)
  · clear F
    rintro a w ⟨ha, h⟩
    refine T.use ?_ ha
    have F := E9
    refine T.seq fun Kk27 k27 => ?_
    refine T.seq fun Kk28 k28 => ?_
    refine T.region ?_
    refine R.mv rfl rfl (R.ib rfl rfl rfl rfl (R.nil (k28 _ _ ?_)))
    refine T.cond rfl (fun c29 => ?_) (fun c29 => ?_)
    · replace F := (ifT c29).symm.trans F
      refine T.seq fun Kk30 k30 => ?_
      refine T.region ?_
      refine R.mv rfl rfl (R.neg rfl rfl (R.as rfl rfl (R.nil (k30 _ _ ?_))))
      obtain rfl := Option.some.inj F
      refine T.ret (ret1 rfl rfl ⟨rfl, h.fr0⟩)
    · replace F := (ifF c29).symm.trans F
      refine T.skip (k27 _ _ ?_)
      refine T.seq fun Kk31 k31 => ?_
      refine T.region ?_
      refine R.mv rfl rfl (R.as rfl rfl (R.nil (k31 _ _ ?_)))
      obtain rfl := Option.some.inj F
      refine T.ret (ret1 rfl rfl ⟨rfl, h.fr0⟩)

/-! echelon/fixed.Mul: function 19 -/
noncomputable def fixed_Mul (a0 : Int) (a1 : Int) : Option (Int) :=
  (fixed_Bound a0).bind fun x3 => (fixed_Bound a1).bind fun x6 => (fixed_rounded (W (x3 * x6)) 256).bind fun x9 => (fixed_Bound x9).bind fun x12 => some x12
theorem fixed_Mul.ok {a0 : Int} {a1 : Int} {r : Int} {W0 : World} (F : fixed_Mul a0 a1 = some r) (hg : Gl W0) :
    Calls Tryd.prog 19 [(.int .i64 a0 : Value), (.int .i64 a1 : Value)].toArray W0 fun e w' => ∃ v, e = .returned v ∧ (v = .int .i64 r ∧ Fr0 W0 w') := by
  unfold fixed_Mul at F
  refine calls_body 12 Tryd.func19 rfl rfl rfl ?_
  have h := H.nil W0
  refine T.seq fun Kk1 k1 => ?_
  refine T.region ?_
  refine R.as rfl rfl (R.nil (k1 _ _ ?_))
  refine T.seq fun Kk2 k2 => ?_
  refine T.region ?_
  obtain ⟨x3, e4, F⟩ := Option.bind_eq_some_iff.1 F
  refine R.mv rfl rfl (R.callF rfl cf23 rfl (fixed_Bound.ok e4 (hg.fr0 h.fr0)) (?_))
  rintro _ w ⟨rfl, f5⟩
  replace h := h.same f5
  obtain ⟨x6, e7, F⟩ := Option.bind_eq_some_iff.1 F
  refine R.mv rfl rfl (R.callF rfl cf23 rfl (fixed_Bound.ok e7 (hg.fr0 h.fr0)) (?_))
  rintro _ w ⟨rfl, f8⟩
  replace h := h.same f8
  obtain ⟨x9, e10, F⟩ := Option.bind_eq_some_iff.1 F
  refine R.ib rfl rfl rfl rfl (R.callF rfl cf41 rfl (fixed_rounded.ok e10 (hg.fr0 h.fr0)) (?_))
  rintro _ w ⟨rfl, f11⟩
  replace h := h.same f11
  obtain ⟨x12, e13, F⟩ := Option.bind_eq_some_iff.1 F
  refine R.callF rfl cf23 rfl (fixed_Bound.ok e13 (hg.fr0 h.fr0)) (?_)
  rintro _ w ⟨rfl, f14⟩
  replace h := h.same f14
  refine R.as rfl rfl (R.nil (k2 _ _ ?_))
  obtain rfl := Option.some.inj F
  refine T.ret (ret1 rfl rfl ⟨rfl, h.fr0⟩)

/-! echelon/fixed.Root: function 21 -/
noncomputable def fixed_Root (a0 : Int) : Option (Int × Int) :=
  (fixed_Bound a0).bind fun x3 => if decide ((W (x3 * 256)) < 0) then some (0, 11) else (Loop.run (fun (s44 : Int × Int) => if decide (s44.1 < s44.2) then (some (W (Int.tdiv (W ((W (s44.1 + s44.2)) + 1)) 2))).bind fun (x51 : Int) => if decide ((W (x51 * x51)) ≤ (W (x3 * 256))) then some (.inl (x51, s44.2)) else some (.inl (s44.1, W (x51 - 1))) else some (.inr s44.1)) (0, 1048576)).bind fun (y12 : Int) => some (y12, 0)
theorem fixed_Root.ok {a0 : Int} {r : Int × Int} {W0 : World} (F : fixed_Root a0 = some r) (hg : Gl W0) :
    Calls Tryd.prog 21 [(.int .i64 a0 : Value)].toArray W0 fun e w' => ∃ v, e = .returned v ∧ (v = .tuple #[.int .i64 r.1, .int .i64 r.2] ∧ Fr0 W0 w') := by
  unfold fixed_Root at F
  refine calls_body 30 Tryd.func21 rfl rfl rfl ?_
  have h := H.nil W0
  refine T.seq fun Kk1 k1 => ?_
  refine T.region ?_
  refine R.as rfl rfl (R.as rfl rfl (R.nil (k1 _ _ ?_)))
  refine T.seq fun Kk2 k2 => ?_
  refine T.region ?_
  obtain ⟨x3, e4, F⟩ := Option.bind_eq_some_iff.1 F
  refine R.mv rfl rfl (R.callF rfl cf23 rfl (fixed_Bound.ok e4 (hg.fr0 h.fr0)) (?_))
  rintro _ w ⟨rfl, f5⟩
  replace h := h.same f5
  refine R.ib rfl rfl rfl rfl (R.as rfl rfl (R.nil (k2 _ _ ?_)))
  refine T.seq fun Kk6 k6 => ?_
  refine T.seq fun Kk7 k7 => ?_
  refine T.region ?_
  refine R.mv rfl rfl (R.ib rfl rfl rfl rfl (R.nil (k7 _ _ ?_)))
  refine T.cond rfl (fun c8 => ?_) (fun c8 => ?_)
  · replace F := (ifT c8).symm.trans F
    refine T.seq fun Kk9 k9 => ?_
    refine T.region ?_
    refine R.as rfl rfl (R.as rfl rfl (R.nil (k9 _ _ ?_)))
    obtain rfl := Option.some.inj F
    refine T.ret (ret2 rfl rfl rfl ⟨rfl, h.fr0⟩)
  · replace F := (ifF c8).symm.trans F
    refine T.skip (k6 _ _ ?_)
    refine T.seq fun Kk10 k10 => ?_
    refine T.region ?_
    refine R.as rfl rfl (R.as rfl rfl (R.nil (k10 _ _ ?_)))
    obtain ⟨y12, F, E11⟩ := Option.bind_eq_some_iff.1 F
    refine T.cut (fun a w => Agr 30 [(5, .int .i64 y12)] a ∧ H W0 (fun _ => False) w [] []) ?_ ?_
    · refine T.block ?_
      refine T.loop (fun (s44 : Int × Int) a w => Agr 30 [(4, .int .i64 (W (x3 * 256))), (5, .int .i64 s44.1), (6, .int .i64 s44.2)] a ∧ H W0 (fun _ => False) w [] []) F (fun a ha => ⟨ha.sub ⟨rfl, rfl, rfl, trivial⟩, h⟩) ?_
      clear h F
      intro s44 F a w
      rintro ⟨ha, h⟩
      refine T.use ?_ ha
      obtain ⟨x46, F, c1, c2⟩ := Loop.run_step F
      have E45 := F
      refine T.seq fun Kk47 k47 => ?_
      refine T.seq fun Kk48 k48 => ?_
      refine T.region ?_
      refine R.mv rfl rfl (R.mv rfl rfl (R.ib rfl rfl rfl rfl (R.nil (k48 _ _ ?_))))
      refine T.cond rfl (fun c49 => ?_) (fun c49 => ?_)
      · replace F := (ifT c49).symm.trans F
        refine T.skip (k47 _ _ ?_)
        refine T.block ?_
        refine T.seq fun Kk50 k50 => ?_
        refine T.region ?_
        obtain ⟨x51, e52, F⟩ := Option.bind_eq_some_iff.1 F
        refine R.mv rfl rfl (R.mv rfl rfl (R.ib rfl rfl rfl rfl (R.ib rfl rfl rfl rfl (R.quo rfl rfl rfl (by decide) (R.as rfl rfl (R.re (congrArg (Value.int .i64) (Option.some.inj e52)) (R.nil (k50 _ _ ?_))))))))
        refine T.seq fun Kk53 k53 => ?_
        refine T.region ?_
        refine R.mv rfl rfl (R.mv rfl rfl (R.ib rfl rfl rfl rfl (R.mv rfl rfl (R.ib rfl rfl rfl rfl (R.nil (k53 _ _ ?_))))))
        refine T.cond rfl (fun c54 => ?_) (fun c54 => ?_)
        · replace F := (ifT c54).symm.trans F
          refine T.region ?_
          obtain rfl := Option.some.inj F
          refine R.mv rfl rfl (R.as rfl rfl (R.nil (fun a ha => ⟨_, E45, ha.sub ⟨rfl, rfl, rfl, trivial⟩, h⟩)))
        · replace F := (ifF c54).symm.trans F
          refine T.region ?_
          obtain rfl := Option.some.inj F
          refine R.mv rfl rfl (R.ib rfl rfl rfl rfl (R.as rfl rfl (R.nil (fun a ha => ⟨_, E45, ha.sub ⟨rfl, rfl, rfl, trivial⟩, h⟩))))
      · replace F := (ifF c49).symm.trans F
        obtain rfl := Option.some.inj F
        replace F := congrArg some (c2 _ rfl)
        obtain rfl := Option.some.inj F
        refine T.exit (fun a ha => ⟨ha.sub ⟨rfl, trivial⟩, h⟩)
    · clear F
      rintro a w ⟨ha, h⟩
      refine T.use ?_ ha
      have F := E11
      refine T.seq fun Kk55 k55 => ?_
      refine T.region ?_
      refine R.mv rfl rfl (R.as rfl rfl (R.as rfl rfl (R.nil (k55 _ _ ?_))))
      obtain rfl := Option.some.inj F
      refine T.ret (ret2 rfl rfl rfl ⟨rfl, h.fr0⟩)

/-! echelon/fixed.Div: function 13 -/
noncomputable def fixed_Div (a0 : Int) (a1 : Int) : Option (Int × Int) :=
  (fixed_Bound a0).bind fun x3 => (fixed_Bound a1).bind fun x6 => if x6 == 0 then some (0, 10) else (if decide (x6 < 0) then some (W (0 - x3), W (0 - x6)) else some (x3, x6)).bind fun (y14 : Int × Int) => (fixed_rounded (W (y14.1 * 256)) y14.2).bind fun x20 => (fixed_Bound x20).bind fun x23 => some (x23, 0)
theorem fixed_Div.ok {a0 : Int} {a1 : Int} {r : Int × Int} {W0 : World} (F : fixed_Div a0 a1 = some r) (hg : Gl W0) :
    Calls Tryd.prog 13 [(.int .i64 a0 : Value), (.int .i64 a1 : Value)].toArray W0 fun e w' => ∃ v, e = .returned v ∧ (v = .tuple #[.int .i64 r.1, .int .i64 r.2] ∧ Fr0 W0 w') := by
  unfold fixed_Div at F
  refine calls_body 23 Tryd.func13 rfl rfl rfl ?_
  have h := H.nil W0
  refine T.seq fun Kk1 k1 => ?_
  refine T.region ?_
  refine R.as rfl rfl (R.as rfl rfl (R.nil (k1 _ _ ?_)))
  refine T.seq fun Kk2 k2 => ?_
  refine T.region ?_
  obtain ⟨x3, e4, F⟩ := Option.bind_eq_some_iff.1 F
  refine R.mv rfl rfl (R.callF rfl cf23 rfl (fixed_Bound.ok e4 (hg.fr0 h.fr0)) (?_))
  rintro _ w ⟨rfl, f5⟩
  replace h := h.same f5
  obtain ⟨x6, e7, F⟩ := Option.bind_eq_some_iff.1 F
  refine R.mv rfl rfl (R.callF rfl cf23 rfl (fixed_Bound.ok e7 (hg.fr0 h.fr0)) (?_))
  rintro _ w ⟨rfl, f8⟩
  replace h := h.same f8
  refine R.as rfl rfl (R.as rfl rfl (R.nil (k2 _ _ ?_)))
  refine T.seq fun Kk9 k9 => ?_
  refine T.seq fun Kk10 k10 => ?_
  refine T.region ?_
  refine R.mv rfl rfl (R.ib rfl rfl rfl rfl (R.nil (k10 _ _ ?_)))
  refine T.cond rfl (fun c11 => ?_) (fun c11 => ?_)
  · replace F := (ifT c11).symm.trans F
    refine T.seq fun Kk12 k12 => ?_
    refine T.region ?_
    refine R.as rfl rfl (R.as rfl rfl (R.nil (k12 _ _ ?_)))
    obtain rfl := Option.some.inj F
    refine T.ret (ret2 rfl rfl rfl ⟨rfl, h.fr0⟩)
  · replace F := (ifF c11).symm.trans F
    refine T.skip (k9 _ _ ?_)
    obtain ⟨y14, F, E13⟩ := Option.bind_eq_some_iff.1 F
    refine T.cut (fun a w => Agr 23 [(0, .int .i64 y14.1), (1, .int .i64 y14.2)] a ∧ H W0 (fun _ => False) w [] []) ?_ ?_
    · refine T.seq fun Kk17 k17 => ?_
      refine T.region ?_
      refine R.mv rfl rfl (R.ib rfl rfl rfl rfl (R.nil (k17 _ _ ?_)))
      refine T.cond rfl (fun c18 => ?_) (fun c18 => ?_)
      · replace F := (ifT c18).symm.trans F
        refine T.region ?_
        obtain rfl := Option.some.inj F
        refine R.mv rfl rfl (R.neg rfl rfl (R.mv rfl rfl (R.neg rfl rfl (R.as rfl rfl (R.as rfl rfl (R.nil (fun a ha => ⟨ha.sub ⟨rfl, rfl, trivial⟩, h⟩)))))))
      · replace F := (ifF c18).symm.trans F
        obtain rfl := Option.some.inj F
        refine T.skip (fun a ha => ⟨ha.sub ⟨rfl, rfl, trivial⟩, h⟩)
    · clear F
      rintro a w ⟨ha, h⟩
      refine T.use ?_ ha
      have F := E13
      refine T.seq fun Kk19 k19 => ?_
      refine T.region ?_
      obtain ⟨x20, e21, F⟩ := Option.bind_eq_some_iff.1 F
      refine R.mv rfl rfl (R.ib rfl rfl rfl rfl (R.mv rfl rfl (R.callF rfl cf41 rfl (fixed_rounded.ok e21 (hg.fr0 h.fr0)) (?_))))
      rintro _ w ⟨rfl, f22⟩
      replace h := h.same f22
      obtain ⟨x23, e24, F⟩ := Option.bind_eq_some_iff.1 F
      refine R.callF rfl cf23 rfl (fixed_Bound.ok e24 (hg.fr0 h.fr0)) (?_)
      rintro _ w ⟨rfl, f25⟩
      replace h := h.same f25
      refine R.as rfl rfl (R.as rfl rfl (R.nil (k19 _ _ ?_)))
      obtain rfl := Option.some.inj F
      refine T.ret (ret2 rfl rfl rfl ⟨rfl, h.fr0⟩)

/-! echelon/fixed.Blend: function 31 -/
noncomputable def fixed_Blend (a0 : Int) (a1 : Int) (a2 : Int) : Option (Int) :=
  (fixed_Bound a0).bind fun x3 => (fixed_Bound a1).bind fun x6 => (fixed_rounded (W ((W (x6 - x3)) * (imax 0 (imin a2 256)))) 256).bind fun x10 => some (W (x3 + x10))
theorem fixed_Blend.ok {a0 : Int} {a1 : Int} {a2 : Int} {r : Int} {W0 : World} (F : fixed_Blend a0 a1 a2 = some r) (hg : Gl W0) :
    Calls Tryd.prog 31 [(.int .i64 a0 : Value), (.int .i64 a1 : Value), (.int .i64 a2 : Value)].toArray W0 fun e w' => ∃ v, e = .returned v ∧ (v = .int .i64 r ∧ Fr0 W0 w') := by
  unfold fixed_Blend at F
  refine calls_body 21 Tryd.func31 rfl rfl rfl ?_
  have h := H.nil W0
  refine T.seq fun Kk1 k1 => ?_
  refine T.region ?_
  refine R.as rfl rfl (R.nil (k1 _ _ ?_))
  refine T.seq fun Kk2 k2 => ?_
  refine T.region ?_
  obtain ⟨x3, e4, F⟩ := Option.bind_eq_some_iff.1 F
  refine R.mv rfl rfl (R.callF rfl cf23 rfl (fixed_Bound.ok e4 (hg.fr0 h.fr0)) (?_))
  rintro _ w ⟨rfl, f5⟩
  replace h := h.same f5
  obtain ⟨x6, e7, F⟩ := Option.bind_eq_some_iff.1 F
  refine R.mv rfl rfl (R.callF rfl cf23 rfl (fixed_Bound.ok e7 (hg.fr0 h.fr0)) (?_))
  rintro _ w ⟨rfl, f8⟩
  replace h := h.same f8
  refine R.as rfl rfl (R.as rfl rfl (R.nil (k2 _ _ ?_)))
  refine T.seq fun Kk9 k9 => ?_
  refine T.region ?_
  obtain ⟨x10, e11, F⟩ := Option.bind_eq_some_iff.1 F
  refine R.mv rfl rfl (R.mv rfl rfl (R.mv rfl rfl (R.ib rfl rfl rfl rfl (R.mv rfl rfl (R.mn rfl rfl rfl (R.mx rfl rfl rfl (R.ib rfl rfl rfl rfl (R.callF rfl cf41 rfl (fixed_rounded.ok e11 (hg.fr0 h.fr0)) (?_)))))))))
  rintro _ w ⟨rfl, f12⟩
  replace h := h.same f12
  refine R.ib rfl rfl rfl rfl (R.as rfl rfl (R.nil (k9 _ _ ?_)))
  obtain rfl := Option.some.inj F
  refine T.ret (ret1 rfl rfl ⟨rfl, h.fr0⟩)

/-! echelon/fixed.Clamp: function 33 -/
noncomputable def fixed_Clamp (a0 : Int) (a1 : Int) (a2 : Int) : Option (Int) :=
  (fixed_Bound a0).bind fun x3 => (fixed_Bound a1).bind fun x6 => (fixed_Bound a2).bind fun x9 => some (imin (imax x3 x6) x9)
theorem fixed_Clamp.ok {a0 : Int} {a1 : Int} {a2 : Int} {r : Int} {W0 : World} (F : fixed_Clamp a0 a1 a2 = some r) (hg : Gl W0) :
    Calls Tryd.prog 33 [(.int .i64 a0 : Value), (.int .i64 a1 : Value), (.int .i64 a2 : Value)].toArray W0 fun e w' => ∃ v, e = .returned v ∧ (v = .int .i64 r ∧ Fr0 W0 w') := by
  unfold fixed_Clamp at F
  refine calls_body 15 Tryd.func33 rfl rfl rfl ?_
  have h := H.nil W0
  refine T.seq fun Kk1 k1 => ?_
  refine T.region ?_
  refine R.as rfl rfl (R.nil (k1 _ _ ?_))
  refine T.seq fun Kk2 k2 => ?_
  refine T.region ?_
  obtain ⟨x3, e4, F⟩ := Option.bind_eq_some_iff.1 F
  refine R.mv rfl rfl (R.callF rfl cf23 rfl (fixed_Bound.ok e4 (hg.fr0 h.fr0)) (?_))
  rintro _ w ⟨rfl, f5⟩
  replace h := h.same f5
  obtain ⟨x6, e7, F⟩ := Option.bind_eq_some_iff.1 F
  refine R.mv rfl rfl (R.callF rfl cf23 rfl (fixed_Bound.ok e7 (hg.fr0 h.fr0)) (?_))
  rintro _ w ⟨rfl, f8⟩
  replace h := h.same f8
  obtain ⟨x9, e10, F⟩ := Option.bind_eq_some_iff.1 F
  refine R.mx rfl rfl rfl (R.mv rfl rfl (R.callF rfl cf23 rfl (fixed_Bound.ok e10 (hg.fr0 h.fr0)) (?_)))
  rintro _ w ⟨rfl, f11⟩
  replace h := h.same f11
  refine R.mn rfl rfl rfl (R.as rfl rfl (R.nil (k2 _ _ ?_)))
  obtain rfl := Option.some.inj F
  refine T.ret (ret1 rfl rfl ⟨rfl, h.fr0⟩)

/-! echelon/echelonref01.Clamp: function 34 -/
noncomputable def echelonref01_Clamp (a0 : Int) (a1 : Int) (a2 : Int) : Option (Int) :=
  (echelonref01_Bound a0).bind fun x3 => (echelonref01_Bound a1).bind fun x7 => (echelonref01_Bound a2).bind fun x11 => (if decide (x3 < x7) then some x7 else some x3).bind fun (y15 : Int) => (if decide (y15 > x11) then some x11 else some y15).bind fun (y21 : Int) => some y21
theorem echelonref01_Clamp.ok {a0 : Int} {a1 : Int} {a2 : Int} {r : Int} {W0 : World} (F : echelonref01_Clamp a0 a1 a2 = some r) (hg : Gl W0) :
    Calls Tryd.prog 34 [(.int .i64 a0 : Value), (.int .i64 a1 : Value), (.int .i64 a2 : Value)].toArray W0 fun e w' => ∃ v, e = .returned v ∧ (v = .int .i64 r ∧ Fr0 W0 w') := by
  unfold echelonref01_Clamp at F
  refine calls_body 22 Tryd.func34 rfl rfl rfl ?_
  have h := H.nil W0
  refine T.seq fun Kk1 k1 => ?_
  refine T.region ?_
  refine R.as rfl rfl (R.nil (k1 _ _ ?_))
  refine T.seq fun Kk2 k2 => ?_
  refine T.region ?_
  obtain ⟨x3, e4, F⟩ := Option.bind_eq_some_iff.1 F
  refine R.mv rfl rfl (R.callF rfl cf24 rfl (echelonref01_Bound.ok e4 (hg.fr0 h.fr0)) (?_))
  rintro _ w ⟨rfl, f5⟩
  replace h := h.same f5
  refine R.as rfl rfl (R.nil (k2 _ _ ?_))
  refine T.seq fun Kk6 k6 => ?_
  refine T.region ?_
  obtain ⟨x7, e8, F⟩ := Option.bind_eq_some_iff.1 F
  refine R.mv rfl rfl (R.callF rfl cf24 rfl (echelonref01_Bound.ok e8 (hg.fr0 h.fr0)) (?_))
  rintro _ w ⟨rfl, f9⟩
  replace h := h.same f9
  refine R.as rfl rfl (R.nil (k6 _ _ ?_))
  refine T.seq fun Kk10 k10 => ?_
  refine T.region ?_
  obtain ⟨x11, e12, F⟩ := Option.bind_eq_some_iff.1 F
  refine R.mv rfl rfl (R.callF rfl cf24 rfl (echelonref01_Bound.ok e12 (hg.fr0 h.fr0)) (?_))
  rintro _ w ⟨rfl, f13⟩
  replace h := h.same f13
  refine R.as rfl rfl (R.nil (k10 _ _ ?_))
  obtain ⟨y15, F, E14⟩ := Option.bind_eq_some_iff.1 F
  refine T.cut (fun a w => Agr 22 [(0, .int .i64 y15), (2, .int .i64 x11)] a ∧ H W0 (fun _ => False) w [] []) ?_ ?_
  · refine T.seq fun Kk18 k18 => ?_
    refine T.region ?_
    refine R.mv rfl rfl (R.mv rfl rfl (R.ib rfl rfl rfl rfl (R.nil (k18 _ _ ?_))))
    refine T.cond rfl (fun c19 => ?_) (fun c19 => ?_)
    · replace F := (ifT c19).symm.trans F
      refine T.region ?_
      obtain rfl := Option.some.inj F
      refine R.mv rfl rfl (R.as rfl rfl (R.nil (fun a ha => ⟨ha.sub ⟨rfl, rfl, trivial⟩, h⟩)))
    · replace F := (ifF c19).symm.trans F
      obtain rfl := Option.some.inj F
      refine T.skip (fun a ha => ⟨ha.sub ⟨rfl, rfl, trivial⟩, h⟩)
  · clear F
    rintro a w ⟨ha, h⟩
    refine T.use ?_ ha
    have F := E14
    obtain ⟨y21, F, E20⟩ := Option.bind_eq_some_iff.1 F
    refine T.cut (fun a w => Agr 22 [(0, .int .i64 y21)] a ∧ H W0 (fun _ => False) w [] []) ?_ ?_
    · refine T.seq fun Kk24 k24 => ?_
      refine T.region ?_
      refine R.mv rfl rfl (R.mv rfl rfl (R.ib rfl rfl rfl rfl (R.nil (k24 _ _ ?_))))
      refine T.cond rfl (fun c25 => ?_) (fun c25 => ?_)
      · replace F := (ifT c25).symm.trans F
        refine T.region ?_
        obtain rfl := Option.some.inj F
        refine R.mv rfl rfl (R.as rfl rfl (R.nil (fun a ha => ⟨ha.sub ⟨rfl, trivial⟩, h⟩)))
      · replace F := (ifF c25).symm.trans F
        obtain rfl := Option.some.inj F
        refine T.skip (fun a ha => ⟨ha.sub ⟨rfl, trivial⟩, h⟩)
    · clear F
      rintro a w ⟨ha, h⟩
      refine T.use ?_ ha
      have F := E20
      refine T.seq fun Kk26 k26 => ?_
      refine T.region ?_
      refine R.mv rfl rfl (R.as rfl rfl (R.nil (k26 _ _ ?_)))
      obtain rfl := Option.some.inj F
      refine T.ret (ret1 rfl rfl ⟨rfl, h.fr0⟩)

/-! echelon/echelonref01.Square: function 43 -/
noncomputable def echelonref01_Square (a0 : Int) : Option (Int) :=
  (Loop.run (fun (s59 : Int × Int) => if decide (s59.2 > 0) then ((some ((decide ((W (s59.1 + s59.2)) ≤ 3037000499)) && (decide ((W ((W (s59.1 + s59.2)) * (W (s59.1 + s59.2)))) ≤ a0)))).bind fun (y73 : Bool) => if y73 then some (W (s59.1 + s59.2)) else some s59.1).bind fun (y66 : Int) => some (.inl (y66, W (Int.tdiv s59.2 2))) else some (.inr s59.1)) (0, 2147483648)).bind fun (y4 : Int) => some y4
theorem echelonref01_Square.ok {a0 : Int} {r : Int} {W0 : World} (F : echelonref01_Square a0 = some r) (hg : Gl W0) :
    Calls Tryd.prog 43 [(.int .i64 a0 : Value)].toArray W0 fun e w' => ∃ v, e = .returned v ∧ (v = .int .i64 r ∧ Fr0 W0 w') := by
  unfold echelonref01_Square at F
  refine calls_body 28 Tryd.func43 rfl rfl rfl ?_
  have h := H.nil W0
  refine T.seq fun Kk1 k1 => ?_
  refine T.region ?_
  refine R.as rfl rfl (R.nil (k1 _ _ ?_))
  refine T.seq fun Kk2 k2 => ?_
  refine T.region ?_
  refine R.as rfl rfl (R.nil (k2 _ _ ?_))
  obtain ⟨y4, F, E3⟩ := Option.bind_eq_some_iff.1 F
  refine T.cut (fun a w => Agr 28 [(3, .int .i64 y4)] a ∧ H W0 (fun _ => False) w [] []) ?_ ?_
  · refine T.seq fun Kk41 k41 => ?_
    refine T.region ?_
    refine R.as rfl rfl (R.nil (k41 _ _ ?_))
    refine T.block ?_
    refine T.loop (fun (s59 : Int × Int) a w => Agr 28 [(0, .int .i64 a0), (3, .int .i64 s59.1), (4, .int .i64 s59.2)] a ∧ H W0 (fun _ => False) w [] []) F (fun a ha => ⟨ha.sub ⟨rfl, rfl, rfl, trivial⟩, h⟩) ?_
    clear h F
    intro s59 F a w
    rintro ⟨ha, h⟩
    refine T.use ?_ ha
    obtain ⟨x61, F, c1, c2⟩ := Loop.run_step F
    have E60 := F
    refine T.seq fun Kk62 k62 => ?_
    refine T.seq fun Kk63 k63 => ?_
    refine T.region ?_
    refine R.mv rfl rfl (R.ib rfl rfl rfl rfl (R.nil (k63 _ _ ?_)))
    refine T.cond rfl (fun c64 => ?_) (fun c64 => ?_)
    · replace F := (ifT c64).symm.trans F
      refine T.skip (k62 _ _ ?_)
      obtain ⟨y66, F, E65⟩ := Option.bind_eq_some_iff.1 F
      refine T.cut (fun a w => Agr 28 [(0, .int .i64 a0), (3, .int .i64 y66), (4, .int .i64 s59.2)] a ∧ H W0 (fun _ => False) w [] []) ?_ ?_
      · refine T.block ?_
        obtain ⟨y73, F, E72⟩ := Option.bind_eq_some_iff.1 F
        refine T.cut (fun a w => Agr 28 [(0, .int .i64 a0), (3, .int .i64 s59.1), (4, .int .i64 s59.2), (23, .bool y73)] a ∧ H W0 (fun _ => False) w [] []) ?_ ?_
        · refine T.region ?_
          refine R.mv rfl rfl (R.mv rfl rfl (R.ib rfl rfl rfl rfl (R.ib rfl rfl rfl rfl (R.mv rfl rfl (?_)))))
          refine bsplit (decide ((W (s59.1 + s59.2)) ≤ 3037000499)) (fun c75 => ?_) (fun c75 => ?_)
          · replace F := (andT c75).symm.trans F
            obtain rfl := Option.some.inj F
            refine R.iff rfl rfl c75 (R.mv rfl rfl (R.iff rfl rfl c75 (R.mv rfl rfl (R.iff rfl rfl c75 (R.ib rfl rfl rfl rfl (R.iff rfl rfl c75 (R.mv rfl rfl (R.iff rfl rfl c75 (R.mv rfl rfl (R.iff rfl rfl c75 (R.ib rfl rfl rfl rfl (R.iff rfl rfl c75 (R.ib rfl rfl rfl rfl (R.iff rfl rfl c75 (R.mv rfl rfl (R.iff rfl rfl c75 (R.ib rfl rfl rfl rfl (R.pT rfl rfl c75 rfl (R.nil (fun a ha => ⟨ha.sub ⟨rfl, rfl, rfl, rfl, trivial⟩, h⟩))))))))))))))))))))
          · replace F := (andF c75).symm.trans F
            obtain rfl := Option.some.inj F
            refine R.not_ rfl rfl rfl c75 (R.not_ rfl rfl rfl c75 (R.not_ rfl rfl rfl c75 (R.not_ rfl rfl rfl c75 (R.not_ rfl rfl rfl c75 (R.not_ rfl rfl rfl c75 (R.not_ rfl rfl rfl c75 (R.not_ rfl rfl rfl c75 (R.not_ rfl rfl rfl c75 (R.pF rfl rfl c75 rfl (R.nil (fun a ha => ⟨ha.sub ⟨rfl, rfl, rfl, rfl, trivial⟩, h⟩)))))))))))
        · clear F
          rintro a w ⟨ha, h⟩
          refine T.use ?_ ha
          have F := E72
          refine T.cond rfl (fun c76 => ?_) (fun c76 => ?_)
          · replace F := (ifT c76).symm.trans F
            refine T.region ?_
            obtain rfl := Option.some.inj F
            refine R.mv rfl rfl (R.mv rfl rfl (R.ib rfl rfl rfl rfl (R.as rfl rfl (R.nil (fun a ha => ⟨ha.sub ⟨rfl, rfl, rfl, trivial⟩, h⟩)))))
          · replace F := (ifF c76).symm.trans F
            obtain rfl := Option.some.inj F
            refine T.skip (fun a ha => ⟨ha.sub ⟨rfl, rfl, rfl, trivial⟩, h⟩)
      · clear F
        rintro a w ⟨ha, h⟩
        refine T.use ?_ ha
        have F := E65
        refine T.region ?_
        obtain rfl := Option.some.inj F
        refine R.mv rfl rfl (R.quo rfl rfl rfl (by decide) (R.as rfl rfl (R.nil (fun a ha => ⟨_, E60, ha.sub ⟨rfl, rfl, rfl, trivial⟩, h⟩))))
    · replace F := (ifF c64).symm.trans F
      obtain rfl := Option.some.inj F
      replace F := congrArg some (c2 _ rfl)
      obtain rfl := Option.some.inj F
      refine T.exit (fun a ha => ⟨ha.sub ⟨rfl, trivial⟩, h⟩)
  · clear F
    rintro a w ⟨ha, h⟩
    refine T.use ?_ ha
    have F := E3
    refine T.seq fun Kk77 k77 => ?_
    refine T.region ?_
    refine R.mv rfl rfl (R.as rfl rfl (R.nil (k77 _ _ ?_)))
    obtain rfl := Option.some.inj F
    refine T.ret (ret1 rfl rfl ⟨rfl, h.fr0⟩)

/-! echelon/echelonref01.Root: function 22 -/
noncomputable def echelonref01_Root (a0 : Int) : Option (Int × Int) :=
  (echelonref01_Bound a0).bind fun x3 => if decide (x3 < 0) then some (0, 11) else (echelonref01_Square (W (256 * x3))).bind fun x11 => some (x11, 0)
theorem echelonref01_Root.ok {a0 : Int} {r : Int × Int} {W0 : World} (F : echelonref01_Root a0 = some r) (hg : Gl W0) :
    Calls Tryd.prog 22 [(.int .i64 a0 : Value)].toArray W0 fun e w' => ∃ v, e = .returned v ∧ (v = .tuple #[.int .i64 r.1, .int .i64 r.2] ∧ Fr0 W0 w') := by
  unfold echelonref01_Root at F
  refine calls_body 11 Tryd.func22 rfl rfl rfl ?_
  have h := H.nil W0
  refine T.seq fun Kk1 k1 => ?_
  refine T.region ?_
  refine R.as rfl rfl (R.as rfl rfl (R.nil (k1 _ _ ?_)))
  refine T.seq fun Kk2 k2 => ?_
  refine T.region ?_
  obtain ⟨x3, e4, F⟩ := Option.bind_eq_some_iff.1 F
  refine R.mv rfl rfl (R.callF rfl cf24 rfl (echelonref01_Bound.ok e4 (hg.fr0 h.fr0)) (?_))
  rintro _ w ⟨rfl, f5⟩
  replace h := h.same f5
  refine R.as rfl rfl (R.nil (k2 _ _ ?_))
  refine T.seq fun Kk6 k6 => ?_
  refine T.seq fun Kk7 k7 => ?_
  refine T.region ?_
  refine R.mv rfl rfl (R.ib rfl rfl rfl rfl (R.nil (k7 _ _ ?_)))
  refine T.cond rfl (fun c8 => ?_) (fun c8 => ?_)
  · replace F := (ifT c8).symm.trans F
    refine T.seq fun Kk9 k9 => ?_
    refine T.region ?_
    refine R.as rfl rfl (R.as rfl rfl (R.nil (k9 _ _ ?_)))
    obtain rfl := Option.some.inj F
    refine T.ret (ret2 rfl rfl rfl ⟨rfl, h.fr0⟩)
  · replace F := (ifF c8).symm.trans F
    refine T.skip (k6 _ _ ?_)
    refine T.seq fun Kk10 k10 => ?_
    refine T.region ?_
    obtain ⟨x11, e12, F⟩ := Option.bind_eq_some_iff.1 F
    refine R.mv rfl rfl (R.ib rfl rfl rfl rfl (R.callF rfl cf43 rfl (echelonref01_Square.ok e12 (hg.fr0 h.fr0)) (?_)))
    rintro _ w ⟨rfl, f13⟩
    replace h := h.same f13
    refine R.as rfl rfl (R.as rfl rfl (R.nil (k10 _ _ ?_)))
    obtain rfl := Option.some.inj F
    refine T.ret (ret2 rfl rfl rfl ⟨rfl, h.fr0⟩)

/-! echelon/echelonlaw01.inside: function 39 -/
noncomputable def echelonlaw01_inside (a0 : Int) : Option (Bool) :=
  (some ((decide (a0 > (-2147483647))) && (decide (a0 < 2147483647)))).bind fun (y3 : Bool) => some y3
theorem echelonlaw01_inside.ok {a0 : Int} {r : Bool} {W0 : World} (F : echelonlaw01_inside a0 = some r) (hg : Gl W0) :
    Calls Tryd.prog 39 [(.int .i64 a0 : Value)].toArray W0 fun e w' => ∃ v, e = .returned v ∧ (v = .bool r ∧ Fr0 W0 w') := by
  unfold echelonlaw01_inside at F
  refine calls_body 9 Tryd.func39 rfl rfl rfl ?_
  have h := H.nil W0
  refine T.seq fun Kk1 k1 => ?_
  refine T.region ?_
  refine R.as rfl rfl (R.nil (k1 _ _ ?_))
  obtain ⟨y3, F, E2⟩ := Option.bind_eq_some_iff.1 F
  refine T.cut (fun a w => Agr 9 [(2, .bool y3)] a ∧ H W0 (fun _ => False) w [] []) ?_ ?_
  · refine T.region ?_
    refine R.mv rfl rfl (R.ib rfl rfl rfl rfl (R.mv rfl rfl (?_)))
    refine bsplit (decide (a0 > (-2147483647))) (fun c5 => ?_) (fun c5 => ?_)
    · replace F := (andT c5).symm.trans F
      obtain rfl := Option.some.inj F
      refine R.iff rfl rfl c5 (R.mv rfl rfl (R.iff rfl rfl c5 (R.ib rfl rfl rfl rfl (R.pT rfl rfl c5 rfl (R.as rfl rfl (R.nil (fun a ha => ⟨ha.sub ⟨rfl, trivial⟩, h⟩)))))))
    · replace F := (andF c5).symm.trans F
      obtain rfl := Option.some.inj F
      refine R.not_ rfl rfl rfl c5 (R.not_ rfl rfl rfl c5 (R.pF rfl rfl c5 rfl (R.as rfl rfl (R.nil (fun a ha => ⟨ha.sub ⟨rfl, trivial⟩, h⟩)))))
  · clear F
    rintro a w ⟨ha, h⟩
    refine T.use ?_ ha
    have F := E2
    obtain rfl := Option.some.inj F
    refine T.ret (ret1 rfl rfl ⟨rfl, h.fr0⟩)

/-! echelon/echelonlaw01.size: function 40 -/
noncomputable def echelonlaw01_size (a0 : Int) : Option (Int) :=
  if decide (a0 < 0) then some (W (0 - a0)) else some a0
theorem echelonlaw01_size.ok {a0 : Int} {r : Int} {W0 : World} (F : echelonlaw01_size a0 = some r) (hg : Gl W0) :
    Calls Tryd.prog 40 [(.int .i64 a0 : Value)].toArray W0 fun e w' => ∃ v, e = .returned v ∧ (v = .int .i64 r ∧ Fr0 W0 w') := by
  unfold echelonlaw01_size at F
  refine calls_body 8 Tryd.func40 rfl rfl rfl ?_
  have h := H.nil W0
  refine T.seq fun Kk1 k1 => ?_
  refine T.region ?_
  refine R.as rfl rfl (R.nil (k1 _ _ ?_))
  refine T.seq fun Kk2 k2 => ?_
  refine T.seq fun Kk3 k3 => ?_
  refine T.region ?_
  refine R.mv rfl rfl (R.ib rfl rfl rfl rfl (R.nil (k3 _ _ ?_)))
  refine T.cond rfl (fun c4 => ?_) (fun c4 => ?_)
  · replace F := (ifT c4).symm.trans F
    refine T.seq fun Kk5 k5 => ?_
    refine T.region ?_
    refine R.mv rfl rfl (R.neg rfl rfl (R.as rfl rfl (R.nil (k5 _ _ ?_))))
    obtain rfl := Option.some.inj F
    refine T.ret (ret1 rfl rfl ⟨rfl, h.fr0⟩)
  · replace F := (ifF c4).symm.trans F
    refine T.skip (k2 _ _ ?_)
    refine T.seq fun Kk6 k6 => ?_
    refine T.region ?_
    refine R.mv rfl rfl (R.as rfl rfl (R.nil (k6 _ _ ?_)))
    obtain rfl := Option.some.inj F
    refine T.ret (ret1 rfl rfl ⟨rfl, h.fr0⟩)

/-! echelon/fixed.decimal: function 50 -/
noncomputable def fixed_decimal (a0 : Str) : Option (Int × Bool) :=
  (Loop.run (fun (s69 : Int × Nat) => if decide (s69.2 < a0.length) then (some ((rune a0 s69.2).1 : Int)).bind fun (x76 : Int) => (some ((decide (x76 < 48)) || ((decide (x76 > 57)) || (decide (s69.1 > 2147483647))))).bind fun (y80 : Bool) => if y80 then some (.inr (.inr (0, false))) else (some (W ((W (10 * s69.1)) + (W (W32 (x76 - 48)))))).bind fun (x87 : Int) => some (.inl (x87, s69.2 + (rune a0 s69.2).2)) else some (.inr (.inl s69.1))) (0, 0) : Option ((Int) ⊕ (Int × Bool))).bind fun y4 => Sum.elim (fun (y47 : Int) => some (y47, !(a0 == ([])))) (fun (z91 : Int × Bool) => some (z91.1, z91.2)) y4
theorem fixed_decimal.ok {a0 : Str} {r : Int × Bool} {W0 : World} (F : fixed_decimal a0 = some r) (hg : Gl W0) :
    Calls Tryd.prog 50 [(vS a0 : Value)].toArray W0 fun e w' => ∃ v, e = .returned v ∧ (v = .tuple #[.int .i64 r.1, .bool r.2] ∧ Fr0 W0 w') := by
  unfold fixed_decimal at F
  refine calls_body 31 Tryd.func50 rfl rfl rfl ?_
  have h := H.nil W0
  refine T.seq fun Kk1 k1 => ?_
  refine T.region ?_
  refine R.as rfl rfl (R.as rfl rfl (R.nil (k1 _ _ ?_)))
  refine T.seq fun Kk2 k2 => ?_
  refine T.region ?_
  refine R.as rfl rfl (R.nil (k2 _ _ ?_))
  obtain ⟨y4, F, E3⟩ := Option.bind_eq_some_iff.1 F
  refine T.cut (fun a w => ∃ y47, y4 = .inl y47 ∧ Agr 31 [(0, vS a0), (4, .int .i64 y47)] a ∧ H W0 (fun _ => False) w [] []) ?_ ?_
  · refine T.seq fun Kk48 k48 => ?_
    refine T.region ?_
    refine R.mv rfl rfl (R.rng rfl h u9 rfl (fun b49 w h => R.nil (k48 _ _ ?_)))
    refine T.block ?_
    refine T.loop (fun (s69 : Int × Nat) a w => Agr 31 [(0, vS a0), (4, .int .i64 s69.1), (8, .pointer (some ⟨b49, 0, none⟩))] a ∧ H W0 (fun _ => False) w [] [AIter b49 a0 s69.2]) F (fun a ha => ⟨ha.sub ⟨rfl, rfl, rfl, trivial⟩, h⟩) ?_
    clear h F
    intro s69 F a w
    rintro ⟨ha, h⟩
    refine T.use ?_ ha
    obtain ⟨x71, F, c1, c2⟩ := Loop.run_step F
    have E70 := F
    refine T.seq fun Kk72 k72 => ?_
    refine T.region ?_
    refine bsplit (decide (s69.2 < a0.length)) (fun c73 => ?_) (fun c73 => ?_)
    · replace F := (ifT c73).symm.trans F
      refine R.nxT 0 rfl h rfl rfl c73 (fun w h => R.ext rfl rfl rfl (R.nil (k72 _ _ ?_)))
      refine T.seq fun Kk74 k74 => ?_
      refine T.cT rfl rfl ?_
      refine T.skip (k74 _ _ ?_)
      refine T.block ?_
      refine T.seq fun Kk75 k75 => ?_
      refine T.region ?_
      obtain ⟨x76, e77, F⟩ := Option.bind_eq_some_iff.1 F
      refine R.ext rfl rfl rfl (R.as rfl rfl (R.re (congrArg (Value.int .i32) (Option.some.inj e77)) (R.nil (k75 _ _ ?_))))
      refine T.seq fun Kk78 k78 => ?_
      obtain ⟨y80, F, E79⟩ := Option.bind_eq_some_iff.1 F
      refine T.cut (fun a w => Agr 31 [(0, vS a0), (4, .int .i64 s69.1), (6, .int .i32 x76), (8, .pointer (some ⟨b49, 0, none⟩)), (21, .bool y80)] a ∧ H W0 (fun _ => False) w [] [AIter b49 a0 (s69.2 + (rune a0 s69.2).2)]) ?_ ?_
      · refine T.region ?_
        refine R.mv rfl rfl (R.ib rfl rfl rfl rfl (R.mv rfl rfl (?_)))
        refine bsplit (decide (x76 < 48)) (fun c83 => ?_) (fun c83 => ?_)
        · replace F := (orT c83).symm.trans F
          obtain rfl := Option.some.inj F
          refine R.not_ rfl rfl rfl c83 (R.not_ rfl rfl rfl c83 (R.pT rfl rfl c83 rfl (R.mv rfl rfl (R.not_ rfl rfl rfl rfl (R.not_ rfl rfl rfl rfl (R.pT rfl rfl rfl rfl (R.nil (fun a ha => ⟨ha.sub ⟨rfl, rfl, rfl, rfl, rfl, trivial⟩, h⟩))))))))
        · replace F := (orF c83).symm.trans F
          refine R.iff rfl rfl c83 (R.mv rfl rfl (R.iff rfl rfl c83 (R.ib rfl rfl rfl rfl (R.pF rfl rfl c83 rfl (R.mv rfl rfl (?_))))))
          refine bsplit (decide (x76 > 57)) (fun c84 => ?_) (fun c84 => ?_)
          · replace F := (orT c84).symm.trans F
            obtain rfl := Option.some.inj F
            refine R.not_ rfl rfl rfl c84 (R.not_ rfl rfl rfl c84 (R.pT rfl rfl c84 rfl (R.nil (fun a ha => ⟨ha.sub ⟨rfl, rfl, rfl, rfl, rfl, trivial⟩, h⟩))))
          · replace F := (orF c84).symm.trans F
            obtain rfl := Option.some.inj F
            refine R.iff rfl rfl c84 (R.mv rfl rfl (R.iff rfl rfl c84 (R.ib rfl rfl rfl rfl (R.pF rfl rfl c84 rfl (R.nil (fun a ha => ⟨ha.sub ⟨rfl, rfl, rfl, rfl, rfl, trivial⟩, h⟩))))))
      · clear F
        rintro a w ⟨ha, h⟩
        refine T.use ?_ ha
        have F := E79
        refine T.cond rfl (fun c85 => ?_) (fun c85 => ?_)
        · replace F := (ifT c85).symm.trans F
          refine T.seq fun Kk86 k86 => ?_
          refine T.region ?_
          refine R.as rfl rfl (R.as rfl rfl (R.nil (k86 _ _ ?_)))
          obtain rfl := Option.some.inj F
          replace F := congrArg some (c2 _ rfl)
          obtain rfl := Option.some.inj F
          replace F := E3
          obtain rfl := Option.some.inj F
          refine T.ret (ret2 rfl rfl rfl ⟨rfl, h.fr0⟩)
        · replace F := (ifF c85).symm.trans F
          refine T.skip (k78 _ _ ?_)
          refine T.region ?_
          obtain ⟨x87, e88, F⟩ := Option.bind_eq_some_iff.1 F
          obtain rfl := Option.some.inj F
          refine R.mv rfl rfl (R.ib rfl rfl rfl rfl (R.mv rfl rfl (R.ib rfl rfl rfl rfl (R.cvt rfl us21 u3 rfl (R.ib rfl rfl rfl rfl (R.as rfl rfl (R.re (congrArg (Value.int .i64) (Option.some.inj e88)) (R.nil (fun a ha => ⟨_, E70, ha.sub ⟨rfl, rfl, rfl, trivial⟩, h⟩)))))))))
    · replace F := (ifF c73).symm.trans F
      refine R.nxF 0 rfl h rfl rfl c73 (R.ext rfl rfl rfl (R.nil (k72 _ _ ?_)))
      refine T.seq fun Kk89 k89 => ?_
      refine T.cF rfl rfl ?_
      obtain rfl := Option.some.inj F
      replace F := congrArg some (c2 _ rfl)
      obtain rfl := Option.some.inj F
      refine T.exit (fun a ha => ⟨_, rfl, ha.sub ⟨rfl, rfl, trivial⟩, (h.sel [] rfl (by decide))⟩)
  · clear F
    rintro a w ⟨y47, rfl, ha, h⟩
    refine T.use ?_ ha
    have F := E3
    refine T.seq fun Kk90 k90 => ?_
    refine T.region ?_
    refine R.mv rfl rfl (R.mv rfl rfl (R.sb rfl rfl rfl rfl (R.as rfl rfl (R.as rfl rfl (R.nil (k90 _ _ ?_))))))
    obtain rfl := Option.some.inj F
    refine T.ret (ret2 rfl rfl rfl ⟨rfl, h.fr0⟩)

/-! echelon/fixed.Print: function 35 -/
noncomputable def fixed_Print (a0 : Int) : Option (Str) :=
  (fixed_Abs a0).bind fun x3 => (lib_Itoa (W (Int.tdiv x3 256))).bind fun x7 => (if decide ((Int.tmod x3 256) > 0) then (lib_Itoa (W ((Int.tmod x3 256) * 390625))).bind fun x36 => (lib_Repeat ([48]) (W (8 - (x36.length : Int)))).bind fun x40 => (cat x40 x36).bind fun (x43 : Str) => (lib_TrimRight x43 ([48])).bind fun x45 => (cat ([46]) x45).bind fun (x48 : Str) => (cat x7 x48).bind fun (x50 : Str) => some x50 else some x7).bind fun (y11 : Str) => (if decide (a0 < 0) then (cat ([45]) y11).bind fun (x60 : Str) => some x60 else some y11).bind fun (y53 : Str) => some y53
theorem fixed_Print.ok {a0 : Int} {r : Str} {W0 : World} (F : fixed_Print a0 = some r) (hg : Gl W0) :
    Calls Tryd.prog 35 [(.int .i64 a0 : Value)].toArray W0 fun e w' => ∃ v, e = .returned v ∧ (v = vS r ∧ Fr0 W0 w') := by
  unfold fixed_Print at F
  refine calls_body 35 Tryd.func35 rfl rfl rfl ?_
  have h := H.nil W0
  refine T.seq fun Kk1 k1 => ?_
  refine T.region ?_
  refine R.as rfl rfl (R.nil (k1 _ _ ?_))
  refine T.seq fun Kk2 k2 => ?_
  refine T.region ?_
  obtain ⟨x3, e4, F⟩ := Option.bind_eq_some_iff.1 F
  refine R.mv rfl rfl (R.callF rfl cf29 rfl (fixed_Abs.ok e4 (hg.fr0 h.fr0)) (?_))
  rintro _ w ⟨rfl, f5⟩
  replace h := h.same f5
  refine R.as rfl rfl (R.nil (k2 _ _ ?_))
  refine T.seq fun Kk6 k6 => ?_
  refine T.region ?_
  obtain ⟨x7, e8, F⟩ := Option.bind_eq_some_iff.1 F
  refine R.mv rfl rfl (R.quo rfl rfl rfl (by decide) (R.callF rfl cf45 rfl (lib_Itoa.ok e8 (hg.fr0 h.fr0)) (?_)))
  rintro _ w ⟨rfl, f9⟩
  replace h := h.same f9
  refine R.as rfl rfl (R.nil (k6 _ _ ?_))
  obtain ⟨y11, F, E10⟩ := Option.bind_eq_some_iff.1 F
  refine T.cut (fun a w => Agr 35 [(0, .int .i64 a0), (4, vS y11)] a ∧ H W0 (fun _ => False) w [] []) ?_ ?_
  · refine T.seq fun Kk32 k32 => ?_
    refine T.region ?_
    refine R.mv rfl rfl (R.rem rfl rfl rfl (by decide) (R.as rfl rfl (R.nil (k32 _ _ ?_))))
    refine T.seq fun Kk33 k33 => ?_
    refine T.region ?_
    refine R.mv rfl rfl (R.ib rfl rfl rfl rfl (R.nil (k33 _ _ ?_)))
    refine T.cond rfl (fun c34 => ?_) (fun c34 => ?_)
    · replace F := (ifT c34).symm.trans F
      refine T.seq fun Kk35 k35 => ?_
      refine T.region ?_
      obtain ⟨x36, e37, F⟩ := Option.bind_eq_some_iff.1 F
      refine R.mv rfl rfl (R.ib rfl rfl rfl rfl (R.callF rfl cf45 rfl (lib_Itoa.ok e37 (hg.fr0 h.fr0)) (?_)))
      rintro _ w ⟨rfl, f38⟩
      replace h := h.same f38
      refine R.as rfl rfl (R.nil (k35 _ _ ?_))
      refine T.seq fun Kk39 k39 => ?_
      refine T.region ?_
      obtain ⟨x40, e41, F⟩ := Option.bind_eq_some_iff.1 F
      refine R.mv rfl rfl (R.lenS rfl u9 rfl (R.ib rfl rfl rfl rfl (R.callF rfl cf46 rfl (lib_Repeat.ok e41 (hg.fr0 h.fr0)) (?_))))
      rintro _ w ⟨rfl, f42⟩
      replace h := h.same f42
      obtain ⟨x43, e44, F⟩ := Option.bind_eq_some_iff.1 F
      refine R.mv rfl rfl (R.sadd rfl rfl rfl e44 (R.as rfl rfl (R.nil (k39 _ _ ?_))))
      refine T.region ?_
      obtain ⟨x45, e46, F⟩ := Option.bind_eq_some_iff.1 F
      refine R.mv rfl rfl (R.mv rfl rfl (R.callF rfl cf47 rfl (lib_TrimRight.ok e46 (hg.fr0 h.fr0)) (?_)))
      rintro _ w ⟨rfl, f47⟩
      replace h := h.same f47
      obtain ⟨x48, e49, F⟩ := Option.bind_eq_some_iff.1 F
      obtain ⟨x50, e51, F⟩ := Option.bind_eq_some_iff.1 F
      obtain rfl := Option.some.inj F
      refine R.sadd rfl rfl rfl e49 (R.sadd rfl rfl rfl e51 (R.as rfl rfl (R.nil (fun a ha => ⟨ha.sub ⟨rfl, rfl, trivial⟩, h⟩))))
    · replace F := (ifF c34).symm.trans F
      obtain rfl := Option.some.inj F
      refine T.skip (fun a ha => ⟨ha.sub ⟨rfl, rfl, trivial⟩, h⟩)
  · clear F
    rintro a w ⟨ha, h⟩
    refine T.use ?_ ha
    have F := E10
    obtain ⟨y53, F, E52⟩ := Option.bind_eq_some_iff.1 F
    refine T.cut (fun a w => Agr 35 [(4, vS y53)] a ∧ H W0 (fun _ => False) w [] []) ?_ ?_
    · refine T.seq fun Kk58 k58 => ?_
      refine T.region ?_
      refine R.mv rfl rfl (R.ib rfl rfl rfl rfl (R.nil (k58 _ _ ?_)))
      refine T.cond rfl (fun c59 => ?_) (fun c59 => ?_)
      · replace F := (ifT c59).symm.trans F
        refine T.region ?_
        obtain ⟨x60, e61, F⟩ := Option.bind_eq_some_iff.1 F
        obtain rfl := Option.some.inj F
        refine R.mv rfl rfl (R.sadd rfl rfl rfl e61 (R.as rfl rfl (R.nil (fun a ha => ⟨ha.sub ⟨rfl, trivial⟩, h⟩))))
      · replace F := (ifF c59).symm.trans F
        obtain rfl := Option.some.inj F
        refine T.skip (fun a ha => ⟨ha.sub ⟨rfl, trivial⟩, h⟩)
    · clear F
      rintro a w ⟨ha, h⟩
      refine T.use ?_ ha
      have F := E52
      refine T.seq fun Kk62 k62 => ?_
      refine T.region ?_
      refine R.mv rfl rfl (R.as rfl rfl (R.nil (k62 _ _ ?_)))
      obtain rfl := Option.some.inj F
      refine T.ret (ret1 rfl rfl ⟨rfl, h.fr0⟩)

/-! echelon/fixed.Parse: function 36 -/
noncomputable def fixed_Parse (a0 : Str) : Option (Int × Int) :=
  (lib_CutPrefix a0 ([45])).bind fun x3 => (lib_Cut x3.1 ([46])).bind fun x7 => if decide ((x7.2.1.length : Int) > 8) then some (0, 12) else (fixed_decimal x7.1).bind fun x15 => (lib_Repeat ([48]) (W (8 - (x7.2.1.length : Int)))).bind fun x19 => (cat x7.2.1 x19).bind fun (x22 : Str) => (fixed_decimal x22).bind fun x24 => (some ((!x15.2) || (!x24.2))).bind fun (y29 : Bool) => if y29 then some (0, 12) else (some (W ((W (x15.1 * 256)) + (W (Int.tdiv x24.1 390625))))).bind fun (x35 : Int) => (if x3.2 then some (W (0 - x35)) else some x35).bind fun (y38 : Int) => ((fixed_Bound y38).bind fun x53 => if y38 != x53 then some true else (fixed_Print y38).bind fun x57 => some (!(x57 == a0))).bind fun (y45 : Bool) => if y45 then some (0, 12) else some (y38, 0)
theorem fixed_Parse.ok {a0 : Str} {r : Int × Int} {W0 : World} (F : fixed_Parse a0 = some r) (hg : Gl W0) :
    Calls Tryd.prog 36 [(vS a0 : Value)].toArray W0 fun e w' => ∃ v, e = .returned v ∧ (v = .tuple #[.int .i64 r.1, .int .i64 r.2] ∧ Fr0 W0 w') := by
  unfold fixed_Parse at F
  refine calls_body 67 Tryd.func36 rfl rfl rfl ?_
  have h := H.nil W0
  refine T.seq fun Kk1 k1 => ?_
  refine T.region ?_
  refine R.as rfl rfl (R.as rfl rfl (R.nil (k1 _ _ ?_)))
  refine T.seq fun Kk2 k2 => ?_
  refine T.region ?_
  obtain ⟨x3, e4, F⟩ := Option.bind_eq_some_iff.1 F
  refine R.mv rfl rfl (R.callF rfl cf48 rfl (lib_CutPrefix.ok e4 (hg.fr0 h.fr0)) (?_))
  rintro _ w ⟨rfl, f5⟩
  replace h := h.same f5
  refine R.mv rfl rfl (R.ext rfl rfl rfl (R.ext rfl rfl rfl (R.as rfl rfl (R.as rfl rfl (R.nil (k2 _ _ ?_))))))
  refine T.seq fun Kk6 k6 => ?_
  refine T.region ?_
  obtain ⟨x7, e8, F⟩ := Option.bind_eq_some_iff.1 F
  refine R.mv rfl rfl (R.callF rfl cf49 rfl (lib_Cut.ok e8 (hg.fr0 h.fr0)) (?_))
  rintro _ w ⟨rfl, f9⟩
  replace h := h.same f9
  refine R.mv rfl rfl (R.ext rfl rfl rfl (R.ext rfl rfl rfl (R.ext rfl rfl rfl (R.as rfl rfl (R.as rfl rfl (R.as rfl rfl (R.nil (k6 _ _ ?_))))))))
  refine T.seq fun Kk10 k10 => ?_
  refine T.seq fun Kk11 k11 => ?_
  refine T.region ?_
  refine R.mv rfl rfl (R.lenS rfl u9 rfl (R.ib rfl rfl rfl rfl (R.nil (k11 _ _ ?_))))
  refine T.cond rfl (fun c12 => ?_) (fun c12 => ?_)
  · replace F := (ifT c12).symm.trans F
    refine T.seq fun Kk13 k13 => ?_
    refine T.region ?_
    refine R.as rfl rfl (R.as rfl rfl (R.nil (k13 _ _ ?_)))
    obtain rfl := Option.some.inj F
    refine T.ret (ret2 rfl rfl rfl ⟨rfl, h.fr0⟩)
  · replace F := (ifF c12).symm.trans F
    refine T.skip (k10 _ _ ?_)
    refine T.seq fun Kk14 k14 => ?_
    refine T.region ?_
    obtain ⟨x15, e16, F⟩ := Option.bind_eq_some_iff.1 F
    refine R.mv rfl rfl (R.callF rfl cf50 rfl (fixed_decimal.ok e16 (hg.fr0 h.fr0)) (?_))
    rintro _ w ⟨rfl, f17⟩
    replace h := h.same f17
    refine R.mv rfl rfl (R.ext rfl rfl rfl (R.ext rfl rfl rfl (R.as rfl rfl (R.as rfl rfl (R.nil (k14 _ _ ?_))))))
    refine T.seq fun Kk18 k18 => ?_
    refine T.region ?_
    obtain ⟨x19, e20, F⟩ := Option.bind_eq_some_iff.1 F
    refine R.mv rfl rfl (R.mv rfl rfl (R.lenS rfl u9 rfl (R.ib rfl rfl rfl rfl (R.callF rfl cf46 rfl (lib_Repeat.ok e20 (hg.fr0 h.fr0)) (?_)))))
    rintro _ w ⟨rfl, f21⟩
    replace h := h.same f21
    obtain ⟨x22, e23, F⟩ := Option.bind_eq_some_iff.1 F
    obtain ⟨x24, e25, F⟩ := Option.bind_eq_some_iff.1 F
    refine R.sadd rfl rfl rfl e23 (R.callF rfl cf50 rfl (fixed_decimal.ok e25 (hg.fr0 h.fr0)) (?_))
    rintro _ w ⟨rfl, f26⟩
    replace h := h.same f26
    refine R.mv rfl rfl (R.ext rfl rfl rfl (R.ext rfl rfl rfl (R.as rfl rfl (R.as rfl rfl (R.nil (k18 _ _ ?_))))))
    refine T.seq fun Kk27 k27 => ?_
    obtain ⟨y29, F, E28⟩ := Option.bind_eq_some_iff.1 F
    refine T.cut (fun a w => Agr 67 [(0, vS a0), (5, .bool x3.2), (9, .int .i64 x15.1), (11, .int .i64 x24.1), (47, .bool y29)] a ∧ H W0 (fun _ => False) w [] []) ?_ ?_
    · refine T.region ?_
      refine R.mv rfl rfl (R.not rfl rfl (R.mv rfl rfl (?_)))
      refine bsplit (!x15.2) (fun c31 => ?_) (fun c31 => ?_)
      · replace F := (orT c31).symm.trans F
        obtain rfl := Option.some.inj F
        refine R.not_ rfl rfl rfl c31 (R.not_ rfl rfl rfl c31 (R.pT rfl rfl c31 rfl (R.nil (fun a ha => ⟨ha.sub ⟨rfl, rfl, rfl, rfl, rfl, trivial⟩, h⟩))))
      · replace F := (orF c31).symm.trans F
        obtain rfl := Option.some.inj F
        refine R.iff rfl rfl c31 (R.mv rfl rfl (R.iff rfl rfl c31 (R.not rfl rfl (R.pF rfl rfl c31 rfl (R.nil (fun a ha => ⟨ha.sub ⟨rfl, rfl, rfl, rfl, rfl, trivial⟩, h⟩))))))
    · clear F
      rintro a w ⟨ha, h⟩
      refine T.use ?_ ha
      have F := E28
      refine T.cond rfl (fun c32 => ?_) (fun c32 => ?_)
      · replace F := (ifT c32).symm.trans F
        refine T.seq fun Kk33 k33 => ?_
        refine T.region ?_
        refine R.as rfl rfl (R.as rfl rfl (R.nil (k33 _ _ ?_)))
        obtain rfl := Option.some.inj F
        refine T.ret (ret2 rfl rfl rfl ⟨rfl, h.fr0⟩)
      · replace F := (ifF c32).symm.trans F
        refine T.skip (k27 _ _ ?_)
        refine T.seq fun Kk34 k34 => ?_
        refine T.region ?_
        obtain ⟨x35, e36, F⟩ := Option.bind_eq_some_iff.1 F
        refine R.mv rfl rfl (R.ib rfl rfl rfl rfl (R.mv rfl rfl (R.quo rfl rfl rfl (by decide) (R.ib rfl rfl rfl rfl (R.as rfl rfl (R.re (congrArg (Value.int .i64) (Option.some.inj e36)) (R.nil (k34 _ _ ?_))))))))
        obtain ⟨y38, F, E37⟩ := Option.bind_eq_some_iff.1 F
        refine T.cut (fun a w => Agr 67 [(0, vS a0), (9, .int .i64 y38)] a ∧ H W0 (fun _ => False) w [] []) ?_ ?_
        · refine T.seq fun Kk41 k41 => ?_
          refine T.region ?_
          refine R.mv rfl rfl (R.nil (k41 _ _ ?_))
          refine T.cond rfl (fun c42 => ?_) (fun c42 => ?_)
          · replace F := (ifT c42).symm.trans F
            refine T.region ?_
            obtain rfl := Option.some.inj F
            refine R.mv rfl rfl (R.neg rfl rfl (R.as rfl rfl (R.nil (fun a ha => ⟨ha.sub ⟨rfl, rfl, trivial⟩, h⟩))))
          · replace F := (ifF c42).symm.trans F
            obtain rfl := Option.some.inj F
            refine T.skip (fun a ha => ⟨ha.sub ⟨rfl, rfl, trivial⟩, h⟩)
        · clear F
          rintro a w ⟨ha, h⟩
          refine T.use ?_ ha
          have F := E37
          refine T.seq fun Kk43 k43 => ?_
          obtain ⟨y45, F, E44⟩ := Option.bind_eq_some_iff.1 F
          refine T.cut (fun a w => Agr 67 [(9, .int .i64 y38), (65, .bool y45)] a ∧ H W0 (fun _ => False) w [] []) ?_ ?_
          · refine T.region ?_
            obtain ⟨x53, e54, F⟩ := Option.bind_eq_some_iff.1 F
            refine R.mv rfl rfl (R.mv rfl rfl (R.callF rfl cf23 rfl (fixed_Bound.ok e54 (hg.fr0 h.fr0)) (?_)))
            rintro _ w ⟨rfl, f55⟩
            replace h := h.same f55
            refine R.ib rfl rfl rfl rfl (R.mv rfl rfl (?_))
            refine bsplit (y38 != x53) (fun c56 => ?_) (fun c56 => ?_)
            · replace F := (ifT c56).symm.trans F
              obtain rfl := Option.some.inj F
              refine R.not_ rfl rfl rfl c56 (R.not_ rfl rfl rfl c56 (R.not_ rfl rfl rfl c56 (R.not_ rfl rfl rfl c56 (R.pT rfl rfl c56 rfl (R.nil (fun a ha => ⟨ha.sub ⟨rfl, rfl, trivial⟩, h⟩))))))
            · replace F := (ifF c56).symm.trans F
              obtain ⟨x57, e58, F⟩ := Option.bind_eq_some_iff.1 F
              refine R.iff rfl rfl c56 (R.mv rfl rfl (R.iff rfl rfl c56 (R.callF rfl cf35 rfl (fixed_Print.ok e58 (hg.fr0 h.fr0)) (?_))))
              rintro _ w ⟨rfl, f59⟩
              replace h := h.same f59
              obtain rfl := Option.some.inj F
              refine R.iff rfl rfl c56 (R.mv rfl rfl (R.iff rfl rfl c56 (R.sb rfl rfl rfl rfl (R.pF rfl rfl c56 rfl (R.nil (fun a ha => ⟨ha.sub ⟨rfl, rfl, trivial⟩, h⟩))))))
          · clear F
            rintro a w ⟨ha, h⟩
            refine T.use ?_ ha
            have F := E44
            refine T.cond rfl (fun c60 => ?_) (fun c60 => ?_)
            · replace F := (ifT c60).symm.trans F
              refine T.seq fun Kk61 k61 => ?_
              refine T.region ?_
              refine R.as rfl rfl (R.as rfl rfl (R.nil (k61 _ _ ?_)))
              obtain rfl := Option.some.inj F
              refine T.ret (ret2 rfl rfl rfl ⟨rfl, h.fr0⟩)
            · replace F := (ifF c60).symm.trans F
              refine T.skip (k43 _ _ ?_)
              refine T.seq fun Kk62 k62 => ?_
              refine T.region ?_
              refine R.mv rfl rfl (R.as rfl rfl (R.as rfl rfl (R.nil (k62 _ _ ?_))))
              obtain rfl := Option.some.inj F
              refine T.ret (ret2 rfl rfl rfl ⟨rfl, h.fr0⟩)

/-! echelon/echelonref01.digits: function 51 -/
noncomputable def echelonref01_digits (a0 : Int) (a1 : Int) : Option (Str) :=
  (Loop.run (fun (s53 : Int × Int × Str) => (some ((decide (s53.1 > 0)) || (decide (s53.2.1 > 0)))).bind fun (y58 : Bool) => if y58 then (cat (text ([W8 (W (48 + (Int.tmod s53.1 10)))])) s53.2.2).bind fun (x66 : Str) => some (.inl (W (Int.tdiv s53.1 10), W (s53.2.1 - 1), x66)) else some (.inr s53.2.2)) (a0, a1, [])).bind fun (y4 : Str) => some y4
theorem echelonref01_digits.ok {a0 : Int} {a1 : Int} {r : Str} {W0 : World} (F : echelonref01_digits a0 a1 = some r) (hg : Gl W0) :
    Calls Tryd.prog 51 [(.int .i64 a0 : Value), (.int .i64 a1 : Value)].toArray W0 fun e w' => ∃ v, e = .returned v ∧ (v = vS r ∧ Fr0 W0 w') := by
  unfold echelonref01_digits at F
  refine calls_body 25 Tryd.func51 rfl rfl rfl ?_
  have h := H.nil W0
  refine T.seq fun Kk1 k1 => ?_
  refine T.region ?_
  refine R.as rfl rfl (R.nil (k1 _ _ ?_))
  refine T.seq fun Kk2 k2 => ?_
  refine T.region ?_
  refine R.as rfl rfl (R.nil (k2 _ _ ?_))
  obtain ⟨y4, F, E3⟩ := Option.bind_eq_some_iff.1 F
  refine T.cut (fun a w => Agr 25 [(5, vS y4)] a ∧ H W0 (fun _ => False) w [] []) ?_ ?_
  · refine T.block ?_
    refine T.loop (fun (s53 : Int × Int × Str) a w => Agr 25 [(0, .int .i64 s53.1), (1, .int .i64 s53.2.1), (5, vS s53.2.2)] a ∧ H W0 (fun _ => False) w [] []) F (fun a ha => ⟨ha.sub ⟨rfl, rfl, rfl, trivial⟩, h⟩) ?_
    clear h F
    intro s53 F a w
    rintro ⟨ha, h⟩
    refine T.use ?_ ha
    obtain ⟨x55, F, c1, c2⟩ := Loop.run_step F
    have E54 := F
    refine T.seq fun Kk56 k56 => ?_
    obtain ⟨y58, F, E57⟩ := Option.bind_eq_some_iff.1 F
    refine T.cut (fun a w => Agr 25 [(0, .int .i64 s53.1), (1, .int .i64 s53.2.1), (5, vS s53.2.2), (11, .bool y58)] a ∧ H W0 (fun _ => False) w [] []) ?_ ?_
    · refine T.region ?_
      refine R.mv rfl rfl (R.ib rfl rfl rfl rfl (R.mv rfl rfl (?_)))
      refine bsplit (decide (s53.1 > 0)) (fun c60 => ?_) (fun c60 => ?_)
      · replace F := (orT c60).symm.trans F
        obtain rfl := Option.some.inj F
        refine R.not_ rfl rfl rfl c60 (R.not_ rfl rfl rfl c60 (R.pT rfl rfl c60 rfl (R.nil (fun a ha => ⟨ha.sub ⟨rfl, rfl, rfl, rfl, trivial⟩, h⟩))))
      · replace F := (orF c60).symm.trans F
        obtain rfl := Option.some.inj F
        refine R.iff rfl rfl c60 (R.mv rfl rfl (R.iff rfl rfl c60 (R.ib rfl rfl rfl rfl (R.pF rfl rfl c60 rfl (R.nil (fun a ha => ⟨ha.sub ⟨rfl, rfl, rfl, rfl, trivial⟩, h⟩))))))
    · clear F
      rintro a w ⟨ha, h⟩
      refine T.use ?_ ha
      have F := E57
      refine T.cond rfl (fun c61 => ?_) (fun c61 => ?_)
      · replace F := (ifT c61).symm.trans F
        refine T.skip (k56 _ _ ?_)
        refine T.block ?_
        refine T.seq fun Kk62 k62 => ?_
        refine T.region ?_
        obtain ⟨x66, e67, F⟩ := Option.bind_eq_some_iff.1 F
        refine R.mv rfl rfl (R.rem rfl rfl rfl (by decide) (R.ib rfl rfl rfl rfl (R.cvt rfl us3 u5 rfl (R.lit1 (e := (encI .u8)) (xs := [W8 (W (48 + (Int.tmod s53.1 10)))]) rfl h u52 in5 rfl rfl rfl rfl rfl rfl rfl (fun p63 p64 w h => R.b2s 0 rfl h rfl ss52 u5 u9 rfl (R.mv rfl rfl (R.sadd rfl rfl rfl e67 (R.as rfl rfl (R.nil (k62 _ _ ?_))))))))))
        refine T.seq fun Kk68 k68 => ?_
        refine T.region ?_
        refine R.mv rfl rfl (R.quo rfl rfl rfl (by decide) (R.as rfl rfl (R.nil (k68 _ _ ?_))))
        refine T.region ?_
        obtain rfl := Option.some.inj F
        refine R.mv rfl rfl (R.ib rfl rfl rfl rfl (R.as rfl rfl (R.nil (fun a ha => ⟨_, E54, ha.sub ⟨rfl, rfl, rfl, trivial⟩, (h.sel [] rfl (by decide))⟩))))
      · replace F := (ifF c61).symm.trans F
        obtain rfl := Option.some.inj F
        replace F := congrArg some (c2 _ rfl)
        obtain rfl := Option.some.inj F
        refine T.exit (fun a ha => ⟨ha.sub ⟨rfl, trivial⟩, h⟩)
  · clear F
    rintro a w ⟨ha, h⟩
    refine T.use ?_ ha
    have F := E3
    refine T.seq fun Kk69 k69 => ?_
    refine T.region ?_
    refine R.mv rfl rfl (R.as rfl rfl (R.nil (k69 _ _ ?_)))
    obtain rfl := Option.some.inj F
    refine T.ret (ret1 rfl rfl ⟨rfl, h.fr0⟩)

/-! echelon/echelonref01.Print: function 37 -/
noncomputable def echelonref01_Print (a0 : Int) : Option (Str) :=
  (echelonref01_Abs a0).bind fun x3 => (echelonref01_digits (W (Int.tdiv x3 256)) 1).bind fun x7 => (echelonref01_digits (W ((Int.tmod x3 256) * 390625)) 8).bind fun x11 => (Loop.run (fun (s57 : Str) => (if decide ((s57.length : Int) > 0) then (getI s57 (W ((s57.length : Int) - 1))).bind fun (x67 : UInt8) => some ((x67.toNat : Int) == 48) else some false).bind fun (y62 : Bool) => if y62 then (sub s57 0 (W ((s57.length : Int) - 1))).bind fun (x70 : Str) => some (.inl x70) else some (.inr s57)) x11).bind fun (y15 : Str) => (if !(y15 == ([])) then (cat x7 ([46])).bind fun (x82 : Str) => (cat x82 y15).bind fun (x84 : Str) => some x84 else some x7).bind fun (y73 : Str) => ((echelonref01_Bound a0).bind fun x96 => if decide (x96 < 0) then (cat ([45]) y73).bind fun (x100 : Str) => some x100 else some y73).bind fun (y87 : Str) => some y87
theorem echelonref01_Print.ok {a0 : Int} {r : Str} {W0 : World} (F : echelonref01_Print a0 = some r) (hg : Gl W0) :
    Calls Tryd.prog 37 [(.int .i64 a0 : Value)].toArray W0 fun e w' => ∃ v, e = .returned v ∧ (v = vS r ∧ Fr0 W0 w') := by
  unfold echelonref01_Print at F
  refine calls_body 43 Tryd.func37 rfl rfl rfl ?_
  have h := H.nil W0
  refine T.seq fun Kk1 k1 => ?_
  refine T.region ?_
  refine R.as rfl rfl (R.nil (k1 _ _ ?_))
  refine T.seq fun Kk2 k2 => ?_
  refine T.region ?_
  obtain ⟨x3, e4, F⟩ := Option.bind_eq_some_iff.1 F
  refine R.mv rfl rfl (R.callF rfl cf30 rfl (echelonref01_Abs.ok e4 (hg.fr0 h.fr0)) (?_))
  rintro _ w ⟨rfl, f5⟩
  replace h := h.same f5
  refine R.as rfl rfl (R.nil (k2 _ _ ?_))
  refine T.seq fun Kk6 k6 => ?_
  refine T.region ?_
  obtain ⟨x7, e8, F⟩ := Option.bind_eq_some_iff.1 F
  refine R.mv rfl rfl (R.quo rfl rfl rfl (by decide) (R.callF rfl cf51 rfl (echelonref01_digits.ok e8 (hg.fr0 h.fr0)) (?_)))
  rintro _ w ⟨rfl, f9⟩
  replace h := h.same f9
  refine R.as rfl rfl (R.nil (k6 _ _ ?_))
  refine T.seq fun Kk10 k10 => ?_
  refine T.region ?_
  obtain ⟨x11, e12, F⟩ := Option.bind_eq_some_iff.1 F
  refine R.mv rfl rfl (R.rem rfl rfl rfl (by decide) (R.ib rfl rfl rfl rfl (R.callF rfl cf51 rfl (echelonref01_digits.ok e12 (hg.fr0 h.fr0)) (?_))))
  rintro _ w ⟨rfl, f13⟩
  replace h := h.same f13
  refine R.as rfl rfl (R.nil (k10 _ _ ?_))
  obtain ⟨y15, F, E14⟩ := Option.bind_eq_some_iff.1 F
  refine T.cut (fun a w => Agr 43 [(0, .int .i64 a0), (4, vS x7), (5, vS y15)] a ∧ H W0 (fun _ => False) w [] []) ?_ ?_
  · refine T.block ?_
    refine T.loop (fun (s57 : Str) a w => Agr 43 [(0, .int .i64 a0), (4, vS x7), (5, vS s57)] a ∧ H W0 (fun _ => False) w [] []) F (fun a ha => ⟨ha.sub ⟨rfl, rfl, rfl, trivial⟩, h⟩) ?_
    clear h F
    intro s57 F a w
    rintro ⟨ha, h⟩
    refine T.use ?_ ha
    obtain ⟨x59, F, c1, c2⟩ := Loop.run_step F
    have E58 := F
    refine T.seq fun Kk60 k60 => ?_
    obtain ⟨y62, F, E61⟩ := Option.bind_eq_some_iff.1 F
    refine T.cut (fun a w => Agr 43 [(0, .int .i64 a0), (4, vS x7), (5, vS s57), (25, .bool y62)] a ∧ H W0 (fun _ => False) w [] []) ?_ ?_
    · refine T.region ?_
      refine R.mv rfl rfl (R.lenS rfl u9 rfl (R.ib rfl rfl rfl rfl (R.mv rfl rfl (?_))))
      refine bsplit (decide ((s57.length : Int) > 0)) (fun c66 => ?_) (fun c66 => ?_)
      · replace F := (ifT c66).symm.trans F
        obtain ⟨x67, e68, F⟩ := Option.bind_eq_some_iff.1 F
        obtain rfl := Option.some.inj F
        refine R.iff rfl rfl c66 (R.mv rfl rfl (R.iff rfl rfl c66 (R.mv rfl rfl (R.iff rfl rfl c66 (R.lenS rfl u9 rfl (R.iff rfl rfl c66 (R.ib rfl rfl rfl rfl (R.iff rfl rfl c66 (R.idxS rfl u9 rfl rfl e68 (R.iff rfl rfl c66 (R.ib rfl rfl rfl rfl (R.pT rfl rfl c66 rfl (R.nil (fun a ha => ⟨ha.sub ⟨rfl, rfl, rfl, rfl, trivial⟩, h⟩))))))))))))))
      · replace F := (ifF c66).symm.trans F
        obtain rfl := Option.some.inj F
        refine R.not_ rfl rfl rfl c66 (R.not_ rfl rfl rfl c66 (R.not_ rfl rfl rfl c66 (R.not_ rfl rfl rfl c66 (R.not_ rfl rfl rfl c66 (R.not_ rfl rfl rfl c66 (R.pF rfl rfl c66 rfl (R.nil (fun a ha => ⟨ha.sub ⟨rfl, rfl, rfl, rfl, trivial⟩, h⟩))))))))
    · clear F
      rintro a w ⟨ha, h⟩
      refine T.use ?_ ha
      have F := E61
      refine T.cond rfl (fun c69 => ?_) (fun c69 => ?_)
      · replace F := (ifT c69).symm.trans F
        refine T.skip (k60 _ _ ?_)
        refine T.block ?_
        refine T.region ?_
        obtain ⟨x70, e71, F⟩ := Option.bind_eq_some_iff.1 F
        obtain rfl := Option.some.inj F
        refine R.mv rfl rfl (R.mv rfl rfl (R.lenS rfl u9 rfl (R.ib rfl rfl rfl rfl (R.ssubH rfl u9 rfl rfl e71 (R.as rfl rfl (R.nil (fun a ha => ⟨_, E58, ha.sub ⟨rfl, rfl, rfl, trivial⟩, h⟩)))))))
      · replace F := (ifF c69).symm.trans F
        obtain rfl := Option.some.inj F
        replace F := congrArg some (c2 _ rfl)
        obtain rfl := Option.some.inj F
        refine T.exit (fun a ha => ⟨ha.sub ⟨rfl, rfl, rfl, trivial⟩, h⟩)
  · clear F
    rintro a w ⟨ha, h⟩
    refine T.use ?_ ha
    have F := E14
    obtain ⟨y73, F, E72⟩ := Option.bind_eq_some_iff.1 F
    refine T.cut (fun a w => Agr 43 [(0, .int .i64 a0), (4, vS y73)] a ∧ H W0 (fun _ => False) w [] []) ?_ ?_
    · refine T.seq fun Kk80 k80 => ?_
      refine T.region ?_
      refine R.mv rfl rfl (R.sb rfl rfl rfl rfl (R.nil (k80 _ _ ?_)))
      refine T.cond rfl (fun c81 => ?_) (fun c81 => ?_)
      · replace F := (ifT c81).symm.trans F
        refine T.region ?_
        obtain ⟨x82, e83, F⟩ := Option.bind_eq_some_iff.1 F
        obtain ⟨x84, e85, F⟩ := Option.bind_eq_some_iff.1 F
        obtain rfl := Option.some.inj F
        refine R.mv rfl rfl (R.sadd rfl rfl rfl e83 (R.mv rfl rfl (R.sadd rfl rfl rfl e85 (R.as rfl rfl (R.nil (fun a ha => ⟨ha.sub ⟨rfl, rfl, trivial⟩, h⟩))))))
      · replace F := (ifF c81).symm.trans F
        obtain rfl := Option.some.inj F
        refine T.skip (fun a ha => ⟨ha.sub ⟨rfl, rfl, trivial⟩, h⟩)
    · clear F
      rintro a w ⟨ha, h⟩
      refine T.use ?_ ha
      have F := E72
      obtain ⟨y87, F, E86⟩ := Option.bind_eq_some_iff.1 F
      refine T.cut (fun a w => Agr 43 [(4, vS y87)] a ∧ H W0 (fun _ => False) w [] []) ?_ ?_
      · refine T.seq fun Kk95 k95 => ?_
        refine T.region ?_
        obtain ⟨x96, e97, F⟩ := Option.bind_eq_some_iff.1 F
        refine R.mv rfl rfl (R.callF rfl cf24 rfl (echelonref01_Bound.ok e97 (hg.fr0 h.fr0)) (?_))
        rintro _ w ⟨rfl, f98⟩
        replace h := h.same f98
        refine R.ib rfl rfl rfl rfl (R.nil (k95 _ _ ?_))
        refine T.cond rfl (fun c99 => ?_) (fun c99 => ?_)
        · replace F := (ifT c99).symm.trans F
          refine T.region ?_
          obtain ⟨x100, e101, F⟩ := Option.bind_eq_some_iff.1 F
          obtain rfl := Option.some.inj F
          refine R.mv rfl rfl (R.sadd rfl rfl rfl e101 (R.as rfl rfl (R.nil (fun a ha => ⟨ha.sub ⟨rfl, trivial⟩, h⟩))))
        · replace F := (ifF c99).symm.trans F
          obtain rfl := Option.some.inj F
          refine T.skip (fun a ha => ⟨ha.sub ⟨rfl, trivial⟩, h⟩)
      · clear F
        rintro a w ⟨ha, h⟩
        refine T.use ?_ ha
        have F := E86
        refine T.seq fun Kk102 k102 => ?_
        refine T.region ?_
        refine R.mv rfl rfl (R.as rfl rfl (R.nil (k102 _ _ ?_)))
        obtain rfl := Option.some.inj F
        refine T.ret (ret1 rfl rfl ⟨rfl, h.fr0⟩)

/-! echelon/echelonref01.value: function 52 -/
noncomputable def echelonref01_value (a0 : Str) : Option (Int) :=
  (Loop.run (fun (s288 : Int × Int × Int × Int) => if decide (s288.2.2.2 < (a0.length : Int)) then (((getI a0 s288.2.2.2).bind fun (x344 : UInt8) => some (((x344.toNat : Int) == 46) && (s288.2.2.1 == 0))).bind fun (y340 : Bool) => if y340 then some (.inl (s288.1, s288.2.1, 1)) else ((getI a0 s288.2.2.2).bind fun (x359 : UInt8) => if decide ((x359.toNat : Int) < 48) then some true else (getI a0 s288.2.2.2).bind fun (x362 : UInt8) => some ((decide ((x362.toNat : Int) > 57)) || ((decide (s288.2.2.1 > 8)) || (decide (s288.1 > 2147483647))))).bind fun (y351 : Bool) => if y351 then some (.inr (-1)) else if s288.2.2.1 == 0 then (getI a0 s288.2.2.2).bind fun (x370 : UInt8) => (some (W ((W ((W (10 * s288.1)) + (W (x370.toNat : Int)))) - 48))).bind fun (x372 : Int) => some (.inl (x372, s288.2.1, s288.2.2.1)) else (getI a0 s288.2.2.2).bind fun (x375 : UInt8) => (some (W ((W ((W (10 * s288.2.1)) + (W (x375.toNat : Int)))) - 48))).bind fun (x377 : Int) => some (.inl (s288.1, x377, W (s288.2.2.1 + 1))) : Option ((Int × Int × Int) ⊕ (Int))).bind fun y295 => Sum.elim (fun (y337 : Int × Int × Int) => some (.inl (y337.1, y337.2.1, y337.2.2, W (s288.2.2.2 + 1)))) (fun (z379 : Int) => some (.inr (.inr z379))) y295 else some (.inr (.inl (s288.1, s288.2.1, s288.2.2.1)))) (0, 0, 0, 0) : Option ((Int × Int × Int) ⊕ (Int))).bind fun y6 => Sum.elim (fun (y193 : Int × Int × Int) => (Loop.run (fun (s410 : Int × Int) => (some ((decide (s410.2 > 0)) && (decide (s410.2 < 9)))).bind fun (y415 : Bool) => if y415 then some (.inl (W (10 * s410.1), W (s410.2 + 1))) else some (.inr s410.1)) (y193.2.1, y193.2.2)).bind fun (y381 : Int) => (some ((decide (y193.1 > 8388607)) || ((Int.tmod y381 390625) != 0))).bind fun (y422 : Bool) => if y422 then some (-1) else (some (W ((W (256 * y193.1)) + (W (Int.tdiv y381 390625))))).bind fun (x428 : Int) => some x428) (fun (z430 : Int) => some z430) y6
theorem echelonref01_value.ok {a0 : Str} {r : Int} {W0 : World} (F : echelonref01_value a0 = some r) (hg : Gl W0) :
    Calls Tryd.prog 52 [(vS a0 : Value)].toArray W0 fun e w' => ∃ v, e = .returned v ∧ (v = .int .i64 r ∧ Fr0 W0 w') := by
  unfold echelonref01_value at F
  refine calls_body 81 Tryd.func52 rfl rfl rfl ?_
  have h := H.nil W0
  refine T.seq fun Kk1 k1 => ?_
  refine T.region ?_
  refine R.as rfl rfl (R.nil (k1 _ _ ?_))
  refine T.seq fun Kk2 k2 => ?_
  refine T.region ?_
  refine R.as rfl rfl (R.nil (k2 _ _ ?_))
  refine T.seq fun Kk3 k3 => ?_
  refine T.region ?_
  refine R.as rfl rfl (R.nil (k3 _ _ ?_))
  refine T.seq fun Kk4 k4 => ?_
  refine T.region ?_
  refine R.as rfl rfl (R.nil (k4 _ _ ?_))
  obtain ⟨y6, F, E5⟩ := Option.bind_eq_some_iff.1 F
  refine T.cut (fun a w => ∃ y193, y6 = .inl y193 ∧ Agr 81 [(3, .int .i64 y193.1), (4, .int .i64 y193.2.1), (5, .int .i64 y193.2.2)] a ∧ H W0 (fun _ => False) w [] []) ?_ ?_
  · refine T.seq fun Kk194 k194 => ?_
    refine T.region ?_
    refine R.as rfl rfl (R.nil (k194 _ _ ?_))
    refine T.block ?_
    refine T.loop (fun (s288 : Int × Int × Int × Int) a w => Agr 81 [(0, vS a0), (3, .int .i64 s288.1), (4, .int .i64 s288.2.1), (5, .int .i64 s288.2.2.1), (6, .int .i64 s288.2.2.2)] a ∧ H W0 (fun _ => False) w [] []) F (fun a ha => ⟨ha.sub ⟨rfl, rfl, rfl, rfl, rfl, trivial⟩, h⟩) ?_
    clear h F
    intro s288 F a w
    rintro ⟨ha, h⟩
    refine T.use ?_ ha
    obtain ⟨x290, F, c1, c2⟩ := Loop.run_step F
    have E289 := F
    refine T.seq fun Kk291 k291 => ?_
    refine T.seq fun Kk292 k292 => ?_
    refine T.region ?_
    refine R.mv rfl rfl (R.mv rfl rfl (R.lenS rfl u9 rfl (R.ib rfl rfl rfl rfl (R.nil (k292 _ _ ?_)))))
    refine T.cond rfl (fun c293 => ?_) (fun c293 => ?_)
    · replace F := (ifT c293).symm.trans F
      refine T.skip (k291 _ _ ?_)
      obtain ⟨y295, F, E294⟩ := Option.bind_eq_some_iff.1 F
      refine T.cut (fun a w => ∃ y337, y295 = .inl y337 ∧ Agr 81 [(0, vS a0), (3, .int .i64 y337.1), (4, .int .i64 y337.2.1), (5, .int .i64 y337.2.2), (6, .int .i64 s288.2.2.2)] a ∧ H W0 (fun _ => False) w [] []) ?_ ?_
      · refine T.block ?_
        refine T.seq fun Kk338 k338 => ?_
        obtain ⟨y340, F, E339⟩ := Option.bind_eq_some_iff.1 F
        refine T.cut (fun a w => Agr 81 [(0, vS a0), (3, .int .i64 s288.1), (4, .int .i64 s288.2.1), (5, .int .i64 s288.2.2.1), (6, .int .i64 s288.2.2.2), (20, .bool y340)] a ∧ H W0 (fun _ => False) w [] []) ?_ ?_
        · refine T.region ?_
          obtain ⟨x344, e345, F⟩ := Option.bind_eq_some_iff.1 F
          refine R.mv rfl rfl (R.mv rfl rfl (R.idxS rfl u9 rfl rfl e345 (R.ib rfl rfl rfl rfl (R.mv rfl rfl (?_)))))
          refine bsplit ((x344.toNat : Int) == 46) (fun c346 => ?_) (fun c346 => ?_)
          · replace F := (andT c346).symm.trans F
            obtain rfl := Option.some.inj F
            refine R.iff rfl rfl c346 (R.mv rfl rfl (R.iff rfl rfl c346 (R.ib rfl rfl rfl rfl (R.pT rfl rfl c346 rfl (R.nil (fun a ha => ⟨ha.sub ⟨rfl, rfl, rfl, rfl, rfl, rfl, trivial⟩, h⟩))))))
          · replace F := (andF c346).symm.trans F
            obtain rfl := Option.some.inj F
            refine R.not_ rfl rfl rfl c346 (R.not_ rfl rfl rfl c346 (R.pF rfl rfl c346 rfl (R.nil (fun a ha => ⟨ha.sub ⟨rfl, rfl, rfl, rfl, rfl, rfl, trivial⟩, h⟩))))
        · clear F
          rintro a w ⟨ha, h⟩
          refine T.use ?_ ha
          have F := E339
          refine T.cond rfl (fun c347 => ?_) (fun c347 => ?_)
          · replace F := (ifT c347).symm.trans F
            refine T.seq fun Kk348 k348 => ?_
            refine T.region ?_
            refine R.as rfl rfl (R.nil (k348 _ _ ?_))
            obtain rfl := Option.some.inj F
            refine T.exit (fun a ha => ⟨_, rfl, ha.sub ⟨rfl, rfl, rfl, rfl, rfl, trivial⟩, h⟩)
          · replace F := (ifF c347).symm.trans F
            refine T.skip (k338 _ _ ?_)
            refine T.seq fun Kk349 k349 => ?_
            obtain ⟨y351, F, E350⟩ := Option.bind_eq_some_iff.1 F
            refine T.cut (fun a w => Agr 81 [(0, vS a0), (3, .int .i64 s288.1), (4, .int .i64 s288.2.1), (5, .int .i64 s288.2.2.1), (6, .int .i64 s288.2.2.2), (38, .bool y351)] a ∧ H W0 (fun _ => False) w [] []) ?_ ?_
            · refine T.region ?_
              obtain ⟨x359, e360, F⟩ := Option.bind_eq_some_iff.1 F
              refine R.mv rfl rfl (R.mv rfl rfl (R.idxS rfl u9 rfl rfl e360 (R.ib rfl rfl rfl rfl (R.mv rfl rfl (?_)))))
              refine bsplit (decide ((x359.toNat : Int) < 48)) (fun c361 => ?_) (fun c361 => ?_)
              · replace F := (ifT c361).symm.trans F
                obtain rfl := Option.some.inj F
                refine R.not_ rfl rfl rfl c361 (R.not_ rfl rfl rfl c361 (R.not_ rfl rfl rfl c361 (R.not_ rfl rfl rfl c361 (R.pT rfl rfl c361 rfl (R.mv rfl rfl (R.not_ rfl rfl rfl rfl (R.not_ rfl rfl rfl rfl (R.pT rfl rfl rfl rfl (R.mv rfl rfl (R.not_ rfl rfl rfl rfl (R.not_ rfl rfl rfl rfl (R.pT rfl rfl rfl rfl (R.nil (fun a ha => ⟨ha.sub ⟨rfl, rfl, rfl, rfl, rfl, rfl, trivial⟩, h⟩))))))))))))))
              · replace F := (ifF c361).symm.trans F
                obtain ⟨x362, e363, F⟩ := Option.bind_eq_some_iff.1 F
                refine R.iff rfl rfl c361 (R.mv rfl rfl (R.iff rfl rfl c361 (R.mv rfl rfl (R.iff rfl rfl c361 (R.idxS rfl u9 rfl rfl e363 (R.iff rfl rfl c361 (R.ib rfl rfl rfl rfl (R.pF rfl rfl c361 rfl (R.mv rfl rfl (?_))))))))))
                refine bsplit (decide ((x362.toNat : Int) > 57)) (fun c364 => ?_) (fun c364 => ?_)
                · replace F := (orT c364).symm.trans F
                  obtain rfl := Option.some.inj F
                  refine R.not_ rfl rfl rfl c364 (R.not_ rfl rfl rfl c364 (R.pT rfl rfl c364 rfl (R.mv rfl rfl (R.not_ rfl rfl rfl rfl (R.not_ rfl rfl rfl rfl (R.pT rfl rfl rfl rfl (R.nil (fun a ha => ⟨ha.sub ⟨rfl, rfl, rfl, rfl, rfl, rfl, trivial⟩, h⟩))))))))
                · replace F := (orF c364).symm.trans F
                  refine R.iff rfl rfl c364 (R.mv rfl rfl (R.iff rfl rfl c364 (R.ib rfl rfl rfl rfl (R.pF rfl rfl c364 rfl (R.mv rfl rfl (?_))))))
                  refine bsplit (decide (s288.2.2.1 > 8)) (fun c365 => ?_) (fun c365 => ?_)
                  · replace F := (orT c365).symm.trans F
                    obtain rfl := Option.some.inj F
                    refine R.not_ rfl rfl rfl c365 (R.not_ rfl rfl rfl c365 (R.pT rfl rfl c365 rfl (R.nil (fun a ha => ⟨ha.sub ⟨rfl, rfl, rfl, rfl, rfl, rfl, trivial⟩, h⟩))))
                  · replace F := (orF c365).symm.trans F
                    obtain rfl := Option.some.inj F
                    refine R.iff rfl rfl c365 (R.mv rfl rfl (R.iff rfl rfl c365 (R.ib rfl rfl rfl rfl (R.pF rfl rfl c365 rfl (R.nil (fun a ha => ⟨ha.sub ⟨rfl, rfl, rfl, rfl, rfl, rfl, trivial⟩, h⟩))))))
            · clear F
              rintro a w ⟨ha, h⟩
              refine T.use ?_ ha
              have F := E350
              refine T.cond rfl (fun c366 => ?_) (fun c366 => ?_)
              · replace F := (ifT c366).symm.trans F
                refine T.seq fun Kk367 k367 => ?_
                refine T.region ?_
                refine R.as rfl rfl (R.nil (k367 _ _ ?_))
                obtain rfl := Option.some.inj F
                replace F := E294
                obtain rfl := Option.some.inj F
                replace F := congrArg some (c2 _ rfl)
                obtain rfl := Option.some.inj F
                replace F := E5
                obtain rfl := Option.some.inj F
                refine T.ret (ret1 rfl rfl ⟨rfl, h.fr0⟩)
              · replace F := (ifF c366).symm.trans F
                refine T.skip (k349 _ _ ?_)
                refine T.seq fun Kk368 k368 => ?_
                refine T.region ?_
                refine R.mv rfl rfl (R.ib rfl rfl rfl rfl (R.nil (k368 _ _ ?_)))
                refine T.cond rfl (fun c369 => ?_) (fun c369 => ?_)
                · replace F := (ifT c369).symm.trans F
                  refine T.region ?_
                  obtain ⟨x370, e371, F⟩ := Option.bind_eq_some_iff.1 F
                  obtain ⟨x372, e373, F⟩ := Option.bind_eq_some_iff.1 F
                  obtain rfl := Option.some.inj F
                  refine R.mv rfl rfl (R.ib rfl rfl rfl rfl (R.mv rfl rfl (R.mv rfl rfl (R.idxS rfl u9 rfl rfl e371 (R.cvt rfl us5 u3 rfl (R.ib rfl rfl rfl rfl (R.ib rfl rfl rfl rfl (R.as rfl rfl (R.re (congrArg (Value.int .i64) (Option.some.inj e373)) (R.nil (fun a ha => ⟨_, rfl, ha.sub ⟨rfl, rfl, rfl, rfl, rfl, trivial⟩, h⟩)))))))))))
                · replace F := (ifF c369).symm.trans F
                  refine T.seq fun Kk374 k374 => ?_
                  refine T.region ?_
                  obtain ⟨x375, e376, F⟩ := Option.bind_eq_some_iff.1 F
                  obtain ⟨x377, e378, F⟩ := Option.bind_eq_some_iff.1 F
                  refine R.mv rfl rfl (R.ib rfl rfl rfl rfl (R.mv rfl rfl (R.mv rfl rfl (R.idxS rfl u9 rfl rfl e376 (R.cvt rfl us5 u3 rfl (R.ib rfl rfl rfl rfl (R.ib rfl rfl rfl rfl (R.as rfl rfl (R.re (congrArg (Value.int .i64) (Option.some.inj e378)) (R.nil (k374 _ _ ?_)))))))))))
                  refine T.region ?_
                  obtain rfl := Option.some.inj F
                  refine R.mv rfl rfl (R.ib rfl rfl rfl rfl (R.as rfl rfl (R.nil (fun a ha => ⟨_, rfl, ha.sub ⟨rfl, rfl, rfl, rfl, rfl, trivial⟩, h⟩))))
      · clear F
        rintro a w ⟨y337, rfl, ha, h⟩
        refine T.use ?_ ha
        have F := E294
        refine T.region ?_
        obtain rfl := Option.some.inj F
        refine R.mv rfl rfl (R.ib rfl rfl rfl rfl (R.as rfl rfl (R.nil (fun a ha => ⟨_, E289, ha.sub ⟨rfl, rfl, rfl, rfl, rfl, trivial⟩, h⟩))))
    · replace F := (ifF c293).symm.trans F
      obtain rfl := Option.some.inj F
      replace F := congrArg some (c2 _ rfl)
      obtain rfl := Option.some.inj F
      refine T.exit (fun a ha => ⟨_, rfl, ha.sub ⟨rfl, rfl, rfl, trivial⟩, h⟩)
  · clear F
    rintro a w ⟨y193, rfl, ha, h⟩
    refine T.use ?_ ha
    have F := E5
    obtain ⟨y381, F, E380⟩ := Option.bind_eq_some_iff.1 F
    refine T.cut (fun a w => Agr 81 [(3, .int .i64 y193.1), (4, .int .i64 y381)] a ∧ H W0 (fun _ => False) w [] []) ?_ ?_
    · refine T.block ?_
      refine T.loop (fun (s410 : Int × Int) a w => Agr 81 [(3, .int .i64 y193.1), (4, .int .i64 s410.1), (5, .int .i64 s410.2)] a ∧ H W0 (fun _ => False) w [] []) F (fun a ha => ⟨ha.sub ⟨rfl, rfl, rfl, trivial⟩, h⟩) ?_
      clear h F
      intro s410 F a w
      rintro ⟨ha, h⟩
      refine T.use ?_ ha
      obtain ⟨x412, F, c1, c2⟩ := Loop.run_step F
      have E411 := F
      refine T.seq fun Kk413 k413 => ?_
      obtain ⟨y415, F, E414⟩ := Option.bind_eq_some_iff.1 F
      refine T.cut (fun a w => Agr 81 [(3, .int .i64 y193.1), (4, .int .i64 s410.1), (5, .int .i64 s410.2), (64, .bool y415)] a ∧ H W0 (fun _ => False) w [] []) ?_ ?_
      · refine T.region ?_
        refine R.mv rfl rfl (R.ib rfl rfl rfl rfl (R.mv rfl rfl (?_)))
        refine bsplit (decide (s410.2 > 0)) (fun c417 => ?_) (fun c417 => ?_)
        · replace F := (andT c417).symm.trans F
          obtain rfl := Option.some.inj F
          refine R.iff rfl rfl c417 (R.mv rfl rfl (R.iff rfl rfl c417 (R.ib rfl rfl rfl rfl (R.pT rfl rfl c417 rfl (R.nil (fun a ha => ⟨ha.sub ⟨rfl, rfl, rfl, rfl, trivial⟩, h⟩))))))
        · replace F := (andF c417).symm.trans F
          obtain rfl := Option.some.inj F
          refine R.not_ rfl rfl rfl c417 (R.not_ rfl rfl rfl c417 (R.pF rfl rfl c417 rfl (R.nil (fun a ha => ⟨ha.sub ⟨rfl, rfl, rfl, rfl, trivial⟩, h⟩))))
      · clear F
        rintro a w ⟨ha, h⟩
        refine T.use ?_ ha
        have F := E414
        refine T.cond rfl (fun c418 => ?_) (fun c418 => ?_)
        · replace F := (ifT c418).symm.trans F
          refine T.skip (k413 _ _ ?_)
          refine T.block ?_
          refine T.seq fun Kk419 k419 => ?_
          refine T.region ?_
          refine R.mv rfl rfl (R.ib rfl rfl rfl rfl (R.as rfl rfl (R.nil (k419 _ _ ?_))))
          refine T.region ?_
          obtain rfl := Option.some.inj F
          refine R.mv rfl rfl (R.ib rfl rfl rfl rfl (R.as rfl rfl (R.nil (fun a ha => ⟨_, E411, ha.sub ⟨rfl, rfl, rfl, trivial⟩, h⟩))))
        · replace F := (ifF c418).symm.trans F
          obtain rfl := Option.some.inj F
          replace F := congrArg some (c2 _ rfl)
          obtain rfl := Option.some.inj F
          refine T.exit (fun a ha => ⟨ha.sub ⟨rfl, rfl, trivial⟩, h⟩)
    · clear F
      rintro a w ⟨ha, h⟩
      refine T.use ?_ ha
      have F := E380
      refine T.seq fun Kk420 k420 => ?_
      obtain ⟨y422, F, E421⟩ := Option.bind_eq_some_iff.1 F
      refine T.cut (fun a w => Agr 81 [(3, .int .i64 y193.1), (4, .int .i64 y381), (75, .bool y422)] a ∧ H W0 (fun _ => False) w [] []) ?_ ?_
      · refine T.region ?_
        refine R.mv rfl rfl (R.ib rfl rfl rfl rfl (R.mv rfl rfl (?_)))
        refine bsplit (decide (y193.1 > 8388607)) (fun c424 => ?_) (fun c424 => ?_)
        · replace F := (orT c424).symm.trans F
          obtain rfl := Option.some.inj F
          refine R.not_ rfl rfl rfl c424 (R.not_ rfl rfl rfl c424 (R.not_ rfl rfl rfl c424 (R.pT rfl rfl c424 rfl (R.nil (fun a ha => ⟨ha.sub ⟨rfl, rfl, rfl, trivial⟩, h⟩)))))
        · replace F := (orF c424).symm.trans F
          obtain rfl := Option.some.inj F
          refine R.iff rfl rfl c424 (R.mv rfl rfl (R.iff rfl rfl c424 (R.rem rfl rfl rfl (by decide) (R.iff rfl rfl c424 (R.ib rfl rfl rfl rfl (R.pF rfl rfl c424 rfl (R.nil (fun a ha => ⟨ha.sub ⟨rfl, rfl, rfl, trivial⟩, h⟩))))))))
      · clear F
        rintro a w ⟨ha, h⟩
        refine T.use ?_ ha
        have F := E421
        refine T.cond rfl (fun c425 => ?_) (fun c425 => ?_)
        · replace F := (ifT c425).symm.trans F
          refine T.seq fun Kk426 k426 => ?_
          refine T.region ?_
          refine R.as rfl rfl (R.nil (k426 _ _ ?_))
          obtain rfl := Option.some.inj F
          refine T.ret (ret1 rfl rfl ⟨rfl, h.fr0⟩)
        · replace F := (ifF c425).symm.trans F
          refine T.skip (k420 _ _ ?_)
          refine T.seq fun Kk427 k427 => ?_
          refine T.region ?_
          obtain ⟨x428, e429, F⟩ := Option.bind_eq_some_iff.1 F
          refine R.mv rfl rfl (R.ib rfl rfl rfl rfl (R.mv rfl rfl (R.quo rfl rfl rfl (by decide) (R.ib rfl rfl rfl rfl (R.as rfl rfl (R.re (congrArg (Value.int .i64) (Option.some.inj e429)) (R.nil (k427 _ _ ?_))))))))
          obtain rfl := Option.some.inj F
          refine T.ret (ret1 rfl rfl ⟨rfl, h.fr0⟩)

/-! echelon/echelonref01.Parse: function 38 -/
noncomputable def echelonref01_Parse (a0 : Str) : Option (Int × Int) :=
  (if decide ((a0.length : Int) > 0) then (getI a0 0).bind fun (x8 : UInt8) => some ((x8.toNat : Int) == 45) else some false).bind fun (y3 : Bool) => (if y3 then (sub a0 1 (a0.length : Int)).bind fun (x18 : Str) => some x18 else some a0).bind fun (y11 : Str) => (echelonref01_value y11).bind fun x21 => (echelonref01_Print x21).bind fun x25 => (some ((decide (x21 < 0)) || ((!(x25 == y11)) || (y3 && (x21 == 0))))).bind fun (y30 : Bool) => if y30 then some (0, 12) else (if y3 then some (W (0 - x21)) else some x21).bind fun (y40 : Int) => some (y40, 0)
theorem echelonref01_Parse.ok {a0 : Str} {r : Int × Int} {W0 : World} (F : echelonref01_Parse a0 = some r) (hg : Gl W0) :
    Calls Tryd.prog 38 [(vS a0 : Value)].toArray W0 fun e w' => ∃ v, e = .returned v ∧ (v = .tuple #[.int .i64 r.1, .int .i64 r.2] ∧ Fr0 W0 w') := by
  unfold echelonref01_Parse at F
  refine calls_body 40 Tryd.func38 rfl rfl rfl ?_
  have h := H.nil W0
  refine T.seq fun Kk1 k1 => ?_
  refine T.region ?_
  refine R.as rfl rfl (R.as rfl rfl (R.nil (k1 _ _ ?_)))
  obtain ⟨y3, F, E2⟩ := Option.bind_eq_some_iff.1 F
  refine T.cut (fun a w => Agr 40 [(0, vS a0), (4, .bool y3)] a ∧ H W0 (fun _ => False) w [] []) ?_ ?_
  · refine T.region ?_
    refine R.mv rfl rfl (R.lenS rfl u9 rfl (R.ib rfl rfl rfl rfl (R.mv rfl rfl (?_))))
    refine bsplit (decide ((a0.length : Int) > 0)) (fun c7 => ?_) (fun c7 => ?_)
    · replace F := (ifT c7).symm.trans F
      obtain ⟨x8, e9, F⟩ := Option.bind_eq_some_iff.1 F
      obtain rfl := Option.some.inj F
      refine R.iff rfl rfl c7 (R.mv rfl rfl (R.iff rfl rfl c7 (R.idxS rfl u9 rfl rfl e9 (R.iff rfl rfl c7 (R.ib rfl rfl rfl rfl (R.pT rfl rfl c7 rfl (R.as rfl rfl (R.nil (fun a ha => ⟨ha.sub ⟨rfl, rfl, trivial⟩, h⟩)))))))))
    · replace F := (ifF c7).symm.trans F
      obtain rfl := Option.some.inj F
      refine R.not_ rfl rfl rfl c7 (R.not_ rfl rfl rfl c7 (R.not_ rfl rfl rfl c7 (R.pF rfl rfl c7 rfl (R.as rfl rfl (R.nil (fun a ha => ⟨ha.sub ⟨rfl, rfl, trivial⟩, h⟩))))))
  · clear F
    rintro a w ⟨ha, h⟩
    refine T.use ?_ ha
    have F := E2
    obtain ⟨y11, F, E10⟩ := Option.bind_eq_some_iff.1 F
    refine T.cut (fun a w => Agr 40 [(0, vS y11), (4, .bool y3)] a ∧ H W0 (fun _ => False) w [] []) ?_ ?_
    · refine T.seq fun Kk16 k16 => ?_
      refine T.region ?_
      refine R.mv rfl rfl (R.nil (k16 _ _ ?_))
      refine T.cond rfl (fun c17 => ?_) (fun c17 => ?_)
      · replace F := (ifT c17).symm.trans F
        refine T.region ?_
        obtain ⟨x18, e19, F⟩ := Option.bind_eq_some_iff.1 F
        obtain rfl := Option.some.inj F
        refine R.mv rfl rfl (R.ssubL rfl u9 rfl rfl e19 (R.as rfl rfl (R.nil (fun a ha => ⟨ha.sub ⟨rfl, rfl, trivial⟩, h⟩))))
      · replace F := (ifF c17).symm.trans F
        obtain rfl := Option.some.inj F
        refine T.skip (fun a ha => ⟨ha.sub ⟨rfl, rfl, trivial⟩, h⟩)
    · clear F
      rintro a w ⟨ha, h⟩
      refine T.use ?_ ha
      have F := E10
      refine T.seq fun Kk20 k20 => ?_
      refine T.region ?_
      obtain ⟨x21, e22, F⟩ := Option.bind_eq_some_iff.1 F
      refine R.mv rfl rfl (R.callF rfl cf52 rfl (echelonref01_value.ok e22 (hg.fr0 h.fr0)) (?_))
      rintro _ w ⟨rfl, f23⟩
      replace h := h.same f23
      refine R.as rfl rfl (R.nil (k20 _ _ ?_))
      refine T.seq fun Kk24 k24 => ?_
      refine T.region ?_
      obtain ⟨x25, e26, F⟩ := Option.bind_eq_some_iff.1 F
      refine R.mv rfl rfl (R.callF rfl cf37 rfl (echelonref01_Print.ok e26 (hg.fr0 h.fr0)) (?_))
      rintro _ w ⟨rfl, f27⟩
      replace h := h.same f27
      refine R.as rfl rfl (R.nil (k24 _ _ ?_))
      refine T.seq fun Kk28 k28 => ?_
      obtain ⟨y30, F, E29⟩ := Option.bind_eq_some_iff.1 F
      refine T.cut (fun a w => Agr 40 [(4, .bool y3), (5, .int .i64 x21), (35, .bool y30)] a ∧ H W0 (fun _ => False) w [] []) ?_ ?_
      · refine T.region ?_
        refine R.mv rfl rfl (R.ib rfl rfl rfl rfl (R.mv rfl rfl (?_)))
        refine bsplit (decide (x21 < 0)) (fun c34 => ?_) (fun c34 => ?_)
        · replace F := (orT c34).symm.trans F
          obtain rfl := Option.some.inj F
          refine R.not_ rfl rfl rfl c34 (R.not_ rfl rfl rfl c34 (R.not_ rfl rfl rfl c34 (R.pT rfl rfl c34 rfl (R.mv rfl rfl (R.not_ rfl rfl rfl rfl (R.not_ rfl rfl rfl rfl (R.offU rfl rfl rfl (R.offU rfl rfl rfl (R.not_ rfl rfl rfl rfl (R.pT rfl rfl rfl rfl (R.nil (fun a ha => ⟨ha.sub ⟨rfl, rfl, rfl, trivial⟩, h⟩))))))))))))
        · replace F := (orF c34).symm.trans F
          refine R.iff rfl rfl c34 (R.mv rfl rfl (R.iff rfl rfl c34 (R.mv rfl rfl (R.iff rfl rfl c34 (R.sb rfl rfl rfl rfl (R.pF rfl rfl c34 rfl (R.mv rfl rfl (?_))))))))
          refine bsplit (!(x25 == y11)) (fun c35 => ?_) (fun c35 => ?_)
          · replace F := (orT c35).symm.trans F
            obtain rfl := Option.some.inj F
            refine R.not_ rfl rfl rfl c35 (R.not_ rfl rfl rfl c35 (R.offU rfl rfl rfl (R.offU rfl rfl rfl (R.not_ rfl rfl rfl c35 (R.pT rfl rfl c35 rfl (R.nil (fun a ha => ⟨ha.sub ⟨rfl, rfl, rfl, trivial⟩, h⟩)))))))
          · replace F := (orF c35).symm.trans F
            refine R.iff rfl rfl c35 (R.mv rfl rfl (R.iff rfl rfl c35 (R.mv rfl rfl (?_))))
            refine bsplit y3 (fun c36 => ?_) (fun c36 => ?_)
            · replace F := (andT c36).symm.trans F
              obtain rfl := Option.some.inj F
              refine R.iff rfl rfl c36 (R.mv rfl rfl (R.iff rfl rfl c36 (R.ib rfl rfl rfl rfl (R.iff rfl rfl c35 (R.pT rfl rfl c36 rfl (R.pF rfl rfl c35 rfl (R.nil (fun a ha => ⟨ha.sub ⟨rfl, rfl, rfl, trivial⟩, h⟩))))))))
            · replace F := (andF c36).symm.trans F
              obtain rfl := Option.some.inj F
              refine R.not_ rfl rfl rfl c36 (R.not_ rfl rfl rfl c36 (R.iff rfl rfl c35 (R.pF rfl rfl c36 rfl (R.pF rfl rfl c35 rfl (R.nil (fun a ha => ⟨ha.sub ⟨rfl, rfl, rfl, trivial⟩, h⟩))))))
      · clear F
        rintro a w ⟨ha, h⟩
        refine T.use ?_ ha
        have F := E29
        refine T.cond rfl (fun c37 => ?_) (fun c37 => ?_)
        · replace F := (ifT c37).symm.trans F
          refine T.seq fun Kk38 k38 => ?_
          refine T.region ?_
          refine R.as rfl rfl (R.as rfl rfl (R.nil (k38 _ _ ?_)))
          obtain rfl := Option.some.inj F
          refine T.ret (ret2 rfl rfl rfl ⟨rfl, h.fr0⟩)
        · replace F := (ifF c37).symm.trans F
          refine T.skip (k28 _ _ ?_)
          obtain ⟨y40, F, E39⟩ := Option.bind_eq_some_iff.1 F
          refine T.cut (fun a w => Agr 40 [(5, .int .i64 y40)] a ∧ H W0 (fun _ => False) w [] []) ?_ ?_
          · refine T.seq fun Kk43 k43 => ?_
            refine T.region ?_
            refine R.mv rfl rfl (R.nil (k43 _ _ ?_))
            refine T.cond rfl (fun c44 => ?_) (fun c44 => ?_)
            · replace F := (ifT c44).symm.trans F
              refine T.region ?_
              obtain rfl := Option.some.inj F
              refine R.mv rfl rfl (R.neg rfl rfl (R.as rfl rfl (R.nil (fun a ha => ⟨ha.sub ⟨rfl, trivial⟩, h⟩))))
            · replace F := (ifF c44).symm.trans F
              obtain rfl := Option.some.inj F
              refine T.skip (fun a ha => ⟨ha.sub ⟨rfl, trivial⟩, h⟩)
          · clear F
            rintro a w ⟨ha, h⟩
            refine T.use ?_ ha
            have F := E39
            refine T.seq fun Kk45 k45 => ?_
            refine T.region ?_
            refine R.mv rfl rfl (R.as rfl rfl (R.as rfl rfl (R.nil (k45 _ _ ?_))))
            obtain rfl := Option.some.inj F
            refine T.ret (ret2 rfl rfl rfl ⟨rfl, h.fr0⟩)

/-! echelon/echelonlaw01.awake: function 12 -/
noncomputable def echelonlaw01_awake  : Option (Bool) :=
  (fixed_Div 256 768).bind fun x3 => (fixed_Root 512).bind fun x7 => (fixed_Parse ([49, 46, 53])).bind fun x11 => ((fixed_Bound 1099511627776).bind fun x27 => if x27 == 2147483647 then (fixed_Of 3).bind fun x31 => if x31 == 768 then (fixed_Whole (-1)).bind fun x35 => some (x35 == (-1)) else some false else some false).bind fun (y15 : Bool) => ((fixed_Add 1 2).bind fun x55 => if x55 == 3 then (fixed_Sub 1 2).bind fun x59 => if x59 == (-1) then (fixed_Mul 384 512).bind fun x63 => if x63 == 768 then (fixed_Abs (-5)).bind fun x67 => some (x67 == 5) else some false else some false else some false).bind fun (y39 : Bool) => (some ((x3.1 == 85) && ((x3.2 == 0) && ((x7.1 == 362) && ((x7.2 == 0) && ((x11.1 == 384) && (x11.2 == 0))))))).bind fun (y71 : Bool) => ((fixed_Clamp 5 10 20).bind fun x97 => if x97 == 10 then (fixed_Blend 0 100 128).bind fun x101 => if x101 == 50 then (fixed_Print (-1)).bind fun x105 => (some (x105 == ([45, 48, 46, 48, 48, 51, 57, 48, 54, 50, 53]))).bind fun (x108 : Bool) => some x108 else some false else some false).bind fun (y83 : Bool) => (some (y15 && (y39 && (y71 && y83)))).bind fun (y111 : Bool) => some y111
theorem echelonlaw01_awake.ok  {r : Bool} {W0 : World} (F : echelonlaw01_awake = some r) (hg : Gl W0) :
    Calls Tryd.prog 12 [].toArray W0 fun e w' => ∃ v, e = .returned v ∧ (v = .bool r ∧ Fr0 W0 w') := by
  unfold echelonlaw01_awake at F
  refine calls_body 89 Tryd.func12 rfl rfl rfl ?_
  have h := H.nil W0
  refine T.seq fun Kk1 k1 => ?_
  refine T.region ?_
  refine R.as rfl rfl (R.nil (k1 _ _ ?_))
  refine T.seq fun Kk2 k2 => ?_
  refine T.region ?_
  obtain ⟨x3, e4, F⟩ := Option.bind_eq_some_iff.1 F
  refine R.callF rfl cf13 rfl (fixed_Div.ok e4 (hg.fr0 h.fr0)) (?_)
  rintro _ w ⟨rfl, f5⟩
  replace h := h.same f5
  refine R.mv rfl rfl (R.ext rfl rfl rfl (R.ext rfl rfl rfl (R.as rfl rfl (R.as rfl rfl (R.nil (k2 _ _ ?_))))))
  refine T.seq fun Kk6 k6 => ?_
  refine T.region ?_
  obtain ⟨x7, e8, F⟩ := Option.bind_eq_some_iff.1 F
  refine R.callF rfl cf21 rfl (fixed_Root.ok e8 (hg.fr0 h.fr0)) (?_)
  rintro _ w ⟨rfl, f9⟩
  replace h := h.same f9
  refine R.mv rfl rfl (R.ext rfl rfl rfl (R.ext rfl rfl rfl (R.as rfl rfl (R.as rfl rfl (R.nil (k6 _ _ ?_))))))
  refine T.seq fun Kk10 k10 => ?_
  refine T.region ?_
  obtain ⟨x11, e12, F⟩ := Option.bind_eq_some_iff.1 F
  refine R.callF rfl cf36 rfl (fixed_Parse.ok e12 (hg.fr0 h.fr0)) (?_)
  rintro _ w ⟨rfl, f13⟩
  replace h := h.same f13
  refine R.mv rfl rfl (R.ext rfl rfl rfl (R.ext rfl rfl rfl (R.as rfl rfl (R.as rfl rfl (R.nil (k10 _ _ ?_))))))
  obtain ⟨y15, F, E14⟩ := Option.bind_eq_some_iff.1 F
  refine T.cut (fun a w => Agr 89 [(1, .int .i64 x3.1), (2, .int .i64 x3.2), (3, .int .i64 x7.1), (4, .int .i64 x7.2), (5, .int .i64 x11.1), (6, .int .i64 x11.2), (7, .bool y15)] a ∧ H W0 (fun _ => False) w [] []) ?_ ?_
  · refine T.region ?_
    obtain ⟨x27, e28, F⟩ := Option.bind_eq_some_iff.1 F
    refine R.callF rfl cf23 rfl (fixed_Bound.ok e28 (hg.fr0 h.fr0)) (?_)
    rintro _ w ⟨rfl, f29⟩
    replace h := h.same f29
    refine R.ib rfl rfl rfl rfl (R.mv rfl rfl (?_))
    refine bsplit (x27 == 2147483647) (fun c30 => ?_) (fun c30 => ?_)
    · replace F := (ifT c30).symm.trans F
      obtain ⟨x31, e32, F⟩ := Option.bind_eq_some_iff.1 F
      refine R.iff rfl rfl c30 (R.callF rfl cf25 rfl (fixed_Of.ok e32 (hg.fr0 h.fr0)) (?_))
      rintro _ w ⟨rfl, f33⟩
      replace h := h.same f33
      refine R.iff rfl rfl c30 (R.ib rfl rfl rfl rfl (R.pT rfl rfl c30 rfl (R.mv rfl rfl (?_))))
      refine bsplit (x31 == 768) (fun c34 => ?_) (fun c34 => ?_)
      · replace F := (ifT c34).symm.trans F
        obtain ⟨x35, e36, F⟩ := Option.bind_eq_some_iff.1 F
        refine R.iff rfl rfl c34 (R.callF rfl cf27 rfl (fixed_Whole.ok e36 (hg.fr0 h.fr0)) (?_))
        rintro _ w ⟨rfl, f37⟩
        replace h := h.same f37
        obtain rfl := Option.some.inj F
        refine R.iff rfl rfl c34 (R.ib rfl rfl rfl rfl (R.pT rfl rfl c34 rfl (R.as rfl rfl (R.nil (fun a ha => ⟨ha.sub ⟨rfl, rfl, rfl, rfl, rfl, rfl, rfl, trivial⟩, h⟩)))))
      · replace F := (ifF c34).symm.trans F
        obtain rfl := Option.some.inj F
        refine R.not_ rfl rfl rfl c34 (R.not_ rfl rfl rfl c34 (R.pF rfl rfl c34 rfl (R.as rfl rfl (R.nil (fun a ha => ⟨ha.sub ⟨rfl, rfl, rfl, rfl, rfl, rfl, rfl, trivial⟩, h⟩)))))
    · replace F := (ifF c30).symm.trans F
      obtain rfl := Option.some.inj F
      refine R.not_ rfl rfl rfl c30 (R.not_ rfl rfl rfl c30 (R.pF rfl rfl c30 rfl (R.mv rfl rfl (R.not_ rfl rfl rfl rfl (R.not_ rfl rfl rfl rfl (R.pF rfl rfl rfl rfl (R.as rfl rfl (R.nil (fun a ha => ⟨ha.sub ⟨rfl, rfl, rfl, rfl, rfl, rfl, rfl, trivial⟩, h⟩)))))))))
  · clear F
    rintro a w ⟨ha, h⟩
    refine T.use ?_ ha
    have F := E14
    obtain ⟨y39, F, E38⟩ := Option.bind_eq_some_iff.1 F
    refine T.cut (fun a w => Agr 89 [(1, .int .i64 x3.1), (2, .int .i64 x3.2), (3, .int .i64 x7.1), (4, .int .i64 x7.2), (5, .int .i64 x11.1), (6, .int .i64 x11.2), (7, .bool y15), (8, .bool y39)] a ∧ H W0 (fun _ => False) w [] []) ?_ ?_
    · refine T.region ?_
      obtain ⟨x55, e56, F⟩ := Option.bind_eq_some_iff.1 F
      refine R.callF rfl cf15 rfl (fixed_Add.ok e56 (hg.fr0 h.fr0)) (?_)
      rintro _ w ⟨rfl, f57⟩
      replace h := h.same f57
      refine R.ib rfl rfl rfl rfl (R.mv rfl rfl (?_))
      refine bsplit (x55 == 3) (fun c58 => ?_) (fun c58 => ?_)
      · replace F := (ifT c58).symm.trans F
        obtain ⟨x59, e60, F⟩ := Option.bind_eq_some_iff.1 F
        refine R.iff rfl rfl c58 (R.callF rfl cf17 rfl (fixed_Sub.ok e60 (hg.fr0 h.fr0)) (?_))
        rintro _ w ⟨rfl, f61⟩
        replace h := h.same f61
        refine R.iff rfl rfl c58 (R.ib rfl rfl rfl rfl (R.pT rfl rfl c58 rfl (R.mv rfl rfl (?_))))
        refine bsplit (x59 == (-1)) (fun c62 => ?_) (fun c62 => ?_)
        · replace F := (ifT c62).symm.trans F
          obtain ⟨x63, e64, F⟩ := Option.bind_eq_some_iff.1 F
          refine R.iff rfl rfl c62 (R.callF rfl cf19 rfl (fixed_Mul.ok e64 (hg.fr0 h.fr0)) (?_))
          rintro _ w ⟨rfl, f65⟩
          replace h := h.same f65
          refine R.iff rfl rfl c62 (R.ib rfl rfl rfl rfl (R.pT rfl rfl c62 rfl (R.mv rfl rfl (?_))))
          refine bsplit (x63 == 768) (fun c66 => ?_) (fun c66 => ?_)
          · replace F := (ifT c66).symm.trans F
            obtain ⟨x67, e68, F⟩ := Option.bind_eq_some_iff.1 F
            refine R.iff rfl rfl c66 (R.callF rfl cf29 rfl (fixed_Abs.ok e68 (hg.fr0 h.fr0)) (?_))
            rintro _ w ⟨rfl, f69⟩
            replace h := h.same f69
            obtain rfl := Option.some.inj F
            refine R.iff rfl rfl c66 (R.ib rfl rfl rfl rfl (R.pT rfl rfl c66 rfl (R.as rfl rfl (R.nil (fun a ha => ⟨ha.sub ⟨rfl, rfl, rfl, rfl, rfl, rfl, rfl, rfl, trivial⟩, h⟩)))))
          · replace F := (ifF c66).symm.trans F
            obtain rfl := Option.some.inj F
            refine R.not_ rfl rfl rfl c66 (R.not_ rfl rfl rfl c66 (R.pF rfl rfl c66 rfl (R.as rfl rfl (R.nil (fun a ha => ⟨ha.sub ⟨rfl, rfl, rfl, rfl, rfl, rfl, rfl, rfl, trivial⟩, h⟩)))))
        · replace F := (ifF c62).symm.trans F
          obtain rfl := Option.some.inj F
          refine R.not_ rfl rfl rfl c62 (R.not_ rfl rfl rfl c62 (R.pF rfl rfl c62 rfl (R.mv rfl rfl (R.not_ rfl rfl rfl rfl (R.not_ rfl rfl rfl rfl (R.pF rfl rfl rfl rfl (R.as rfl rfl (R.nil (fun a ha => ⟨ha.sub ⟨rfl, rfl, rfl, rfl, rfl, rfl, rfl, rfl, trivial⟩, h⟩)))))))))
      · replace F := (ifF c58).symm.trans F
        obtain rfl := Option.some.inj F
        refine R.not_ rfl rfl rfl c58 (R.not_ rfl rfl rfl c58 (R.pF rfl rfl c58 rfl (R.mv rfl rfl (R.not_ rfl rfl rfl rfl (R.not_ rfl rfl rfl rfl (R.pF rfl rfl rfl rfl (R.mv rfl rfl (R.not_ rfl rfl rfl rfl (R.not_ rfl rfl rfl rfl (R.pF rfl rfl rfl rfl (R.as rfl rfl (R.nil (fun a ha => ⟨ha.sub ⟨rfl, rfl, rfl, rfl, rfl, rfl, rfl, rfl, trivial⟩, h⟩)))))))))))))
    · clear F
      rintro a w ⟨ha, h⟩
      refine T.use ?_ ha
      have F := E38
      obtain ⟨y71, F, E70⟩ := Option.bind_eq_some_iff.1 F
      refine T.cut (fun a w => Agr 89 [(7, .bool y15), (8, .bool y39), (9, .bool y71)] a ∧ H W0 (fun _ => False) w [] []) ?_ ?_
      · refine T.region ?_
        refine R.mv rfl rfl (R.ib rfl rfl rfl rfl (R.mv rfl rfl (?_)))
        refine bsplit (x3.1 == 85) (fun c77 => ?_) (fun c77 => ?_)
        · replace F := (andT c77).symm.trans F
          refine R.iff rfl rfl c77 (R.mv rfl rfl (R.iff rfl rfl c77 (R.ib rfl rfl rfl rfl (R.pT rfl rfl c77 rfl (R.mv rfl rfl (?_))))))
          refine bsplit (x3.2 == 0) (fun c78 => ?_) (fun c78 => ?_)
          · replace F := (andT c78).symm.trans F
            refine R.iff rfl rfl c78 (R.mv rfl rfl (R.iff rfl rfl c78 (R.ib rfl rfl rfl rfl (R.pT rfl rfl c78 rfl (R.mv rfl rfl (?_))))))
            refine bsplit (x7.1 == 362) (fun c79 => ?_) (fun c79 => ?_)
            · replace F := (andT c79).symm.trans F
              refine R.iff rfl rfl c79 (R.mv rfl rfl (R.iff rfl rfl c79 (R.ib rfl rfl rfl rfl (R.pT rfl rfl c79 rfl (R.mv rfl rfl (?_))))))
              refine bsplit (x7.2 == 0) (fun c80 => ?_) (fun c80 => ?_)
              · replace F := (andT c80).symm.trans F
                refine R.iff rfl rfl c80 (R.mv rfl rfl (R.iff rfl rfl c80 (R.ib rfl rfl rfl rfl (R.pT rfl rfl c80 rfl (R.mv rfl rfl (?_))))))
                refine bsplit (x11.1 == 384) (fun c81 => ?_) (fun c81 => ?_)
                · replace F := (andT c81).symm.trans F
                  obtain rfl := Option.some.inj F
                  refine R.iff rfl rfl c81 (R.mv rfl rfl (R.iff rfl rfl c81 (R.ib rfl rfl rfl rfl (R.pT rfl rfl c81 rfl (R.as rfl rfl (R.nil (fun a ha => ⟨ha.sub ⟨rfl, rfl, rfl, trivial⟩, h⟩)))))))
                · replace F := (andF c81).symm.trans F
                  obtain rfl := Option.some.inj F
                  refine R.not_ rfl rfl rfl c81 (R.not_ rfl rfl rfl c81 (R.pF rfl rfl c81 rfl (R.as rfl rfl (R.nil (fun a ha => ⟨ha.sub ⟨rfl, rfl, rfl, trivial⟩, h⟩)))))
              · replace F := (andF c80).symm.trans F
                obtain rfl := Option.some.inj F
                refine R.not_ rfl rfl rfl c80 (R.not_ rfl rfl rfl c80 (R.pF rfl rfl c80 rfl (R.mv rfl rfl (R.not_ rfl rfl rfl rfl (R.not_ rfl rfl rfl rfl (R.pF rfl rfl rfl rfl (R.as rfl rfl (R.nil (fun a ha => ⟨ha.sub ⟨rfl, rfl, rfl, trivial⟩, h⟩)))))))))
            · replace F := (andF c79).symm.trans F
              obtain rfl := Option.some.inj F
              refine R.not_ rfl rfl rfl c79 (R.not_ rfl rfl rfl c79 (R.pF rfl rfl c79 rfl (R.mv rfl rfl (R.not_ rfl rfl rfl rfl (R.not_ rfl rfl rfl rfl (R.pF rfl rfl rfl rfl (R.mv rfl rfl (R.not_ rfl rfl rfl rfl (R.not_ rfl rfl rfl rfl (R.pF rfl rfl rfl rfl (R.as rfl rfl (R.nil (fun a ha => ⟨ha.sub ⟨rfl, rfl, rfl, trivial⟩, h⟩)))))))))))))
          · replace F := (andF c78).symm.trans F
            obtain rfl := Option.some.inj F
            refine R.not_ rfl rfl rfl c78 (R.not_ rfl rfl rfl c78 (R.pF rfl rfl c78 rfl (R.mv rfl rfl (R.not_ rfl rfl rfl rfl (R.not_ rfl rfl rfl rfl (R.pF rfl rfl rfl rfl (R.mv rfl rfl (R.not_ rfl rfl rfl rfl (R.not_ rfl rfl rfl rfl (R.pF rfl rfl rfl rfl (R.mv rfl rfl (R.not_ rfl rfl rfl rfl (R.not_ rfl rfl rfl rfl (R.pF rfl rfl rfl rfl (R.as rfl rfl (R.nil (fun a ha => ⟨ha.sub ⟨rfl, rfl, rfl, trivial⟩, h⟩)))))))))))))))))
        · replace F := (andF c77).symm.trans F
          obtain rfl := Option.some.inj F
          refine R.not_ rfl rfl rfl c77 (R.not_ rfl rfl rfl c77 (R.pF rfl rfl c77 rfl (R.mv rfl rfl (R.not_ rfl rfl rfl rfl (R.not_ rfl rfl rfl rfl (R.pF rfl rfl rfl rfl (R.mv rfl rfl (R.not_ rfl rfl rfl rfl (R.not_ rfl rfl rfl rfl (R.pF rfl rfl rfl rfl (R.mv rfl rfl (R.not_ rfl rfl rfl rfl (R.not_ rfl rfl rfl rfl (R.pF rfl rfl rfl rfl (R.mv rfl rfl (R.not_ rfl rfl rfl rfl (R.not_ rfl rfl rfl rfl (R.pF rfl rfl rfl rfl (R.as rfl rfl (R.nil (fun a ha => ⟨ha.sub ⟨rfl, rfl, rfl, trivial⟩, h⟩)))))))))))))))))))))
      · clear F
        rintro a w ⟨ha, h⟩
        refine T.use ?_ ha
        have F := E70
        obtain ⟨y83, F, E82⟩ := Option.bind_eq_some_iff.1 F
        refine T.cut (fun a w => Agr 89 [(7, .bool y15), (8, .bool y39), (9, .bool y71), (10, .bool y83)] a ∧ H W0 (fun _ => False) w [] []) ?_ ?_
        · refine T.region ?_
          obtain ⟨x97, e98, F⟩ := Option.bind_eq_some_iff.1 F
          refine R.callF rfl cf33 rfl (fixed_Clamp.ok e98 (hg.fr0 h.fr0)) (?_)
          rintro _ w ⟨rfl, f99⟩
          replace h := h.same f99
          refine R.ib rfl rfl rfl rfl (R.mv rfl rfl (?_))
          refine bsplit (x97 == 10) (fun c100 => ?_) (fun c100 => ?_)
          · replace F := (ifT c100).symm.trans F
            obtain ⟨x101, e102, F⟩ := Option.bind_eq_some_iff.1 F
            refine R.iff rfl rfl c100 (R.callF rfl cf31 rfl (fixed_Blend.ok e102 (hg.fr0 h.fr0)) (?_))
            rintro _ w ⟨rfl, f103⟩
            replace h := h.same f103
            refine R.iff rfl rfl c100 (R.ib rfl rfl rfl rfl (R.pT rfl rfl c100 rfl (R.mv rfl rfl (?_))))
            refine bsplit (x101 == 50) (fun c104 => ?_) (fun c104 => ?_)
            · replace F := (ifT c104).symm.trans F
              obtain ⟨x105, e106, F⟩ := Option.bind_eq_some_iff.1 F
              refine R.iff rfl rfl c104 (R.callF rfl cf35 rfl (fixed_Print.ok e106 (hg.fr0 h.fr0)) (?_))
              rintro _ w ⟨rfl, f107⟩
              replace h := h.same f107
              obtain ⟨x108, e109, F⟩ := Option.bind_eq_some_iff.1 F
              obtain rfl := Option.some.inj F
              refine R.iff rfl rfl c104 (R.sb rfl rfl rfl rfl (R.pT rfl rfl c104 rfl (R.as rfl rfl (R.re (congrArg Value.bool (Option.some.inj e109)) (R.nil (fun a ha => ⟨ha.sub ⟨rfl, rfl, rfl, rfl, trivial⟩, h⟩))))))
            · replace F := (ifF c104).symm.trans F
              obtain rfl := Option.some.inj F
              refine R.not_ rfl rfl rfl c104 (R.not_ rfl rfl rfl c104 (R.pF rfl rfl c104 rfl (R.as rfl rfl (R.nil (fun a ha => ⟨ha.sub ⟨rfl, rfl, rfl, rfl, trivial⟩, h⟩)))))
          · replace F := (ifF c100).symm.trans F
            obtain rfl := Option.some.inj F
            refine R.not_ rfl rfl rfl c100 (R.not_ rfl rfl rfl c100 (R.pF rfl rfl c100 rfl (R.mv rfl rfl (R.not_ rfl rfl rfl rfl (R.not_ rfl rfl rfl rfl (R.pF rfl rfl rfl rfl (R.as rfl rfl (R.nil (fun a ha => ⟨ha.sub ⟨rfl, rfl, rfl, rfl, trivial⟩, h⟩)))))))))
        · clear F
          rintro a w ⟨ha, h⟩
          refine T.use ?_ ha
          have F := E82
          obtain ⟨y111, F, E110⟩ := Option.bind_eq_some_iff.1 F
          refine T.cut (fun a w => Agr 89 [(0, .bool y111)] a ∧ H W0 (fun _ => False) w [] []) ?_ ?_
          · refine T.region ?_
            refine R.mv rfl rfl (R.mv rfl rfl (?_))
            refine bsplit y15 (fun c115 => ?_) (fun c115 => ?_)
            · replace F := (andT c115).symm.trans F
              refine R.iff rfl rfl c115 (R.mv rfl rfl (R.pT rfl rfl c115 rfl (R.mv rfl rfl (?_))))
              refine bsplit y39 (fun c116 => ?_) (fun c116 => ?_)
              · replace F := (andT c116).symm.trans F
                refine R.iff rfl rfl c116 (R.mv rfl rfl (R.pT rfl rfl c116 rfl (R.mv rfl rfl (?_))))
                refine bsplit y71 (fun c117 => ?_) (fun c117 => ?_)
                · replace F := (andT c117).symm.trans F
                  obtain rfl := Option.some.inj F
                  refine R.iff rfl rfl c117 (R.mv rfl rfl (R.pT rfl rfl c117 rfl (R.as rfl rfl (R.nil (fun a ha => ⟨ha.sub ⟨rfl, trivial⟩, h⟩)))))
                · replace F := (andF c117).symm.trans F
                  obtain rfl := Option.some.inj F
                  refine R.not_ rfl rfl rfl c117 (R.pF rfl rfl c117 rfl (R.as rfl rfl (R.nil (fun a ha => ⟨ha.sub ⟨rfl, trivial⟩, h⟩))))
              · replace F := (andF c116).symm.trans F
                obtain rfl := Option.some.inj F
                refine R.not_ rfl rfl rfl c116 (R.pF rfl rfl c116 rfl (R.mv rfl rfl (R.not_ rfl rfl rfl rfl (R.pF rfl rfl rfl rfl (R.as rfl rfl (R.nil (fun a ha => ⟨ha.sub ⟨rfl, trivial⟩, h⟩)))))))
            · replace F := (andF c115).symm.trans F
              obtain rfl := Option.some.inj F
              refine R.not_ rfl rfl rfl c115 (R.pF rfl rfl c115 rfl (R.mv rfl rfl (R.not_ rfl rfl rfl rfl (R.pF rfl rfl rfl rfl (R.mv rfl rfl (R.not_ rfl rfl rfl rfl (R.pF rfl rfl rfl rfl (R.as rfl rfl (R.nil (fun a ha => ⟨ha.sub ⟨rfl, trivial⟩, h⟩))))))))))
          · clear F
            rintro a w ⟨ha, h⟩
            refine T.use ?_ ha
            have F := E110
            obtain rfl := Option.some.inj F
            refine T.ret (ret1 rfl rfl ⟨rfl, h.fr0⟩)

/-! echelon/echelonref01.Near: function 42 -/
noncomputable def echelonref01_Near' (rec : Int → Int → Option (Int)) (a0 : Int) (a1 : Int) : Option (Int) :=
  if decide (a0 < 0) then (rec (W (0 - a0)) a1).bind fun x6 => some (W (0 - x6)) else (must (a1 != 0)).bind fun _ => (if decide ((W (2 * (W (a0 - (W ((W (Int.tdiv a0 a1)) * a1)))))) ≥ a1) then (some (W ((W (Int.tdiv a0 a1)) + 1))).bind fun (x19 : Int) => some x19 else some (W (Int.tdiv a0 a1))).bind fun (y12 : Int) => some y12
theorem echelonref01_Near'.ok {rec : Int → Int → Option (Int)} (hrec : ∀ {a0 : Int} {a1 : Int} {r : Int} {W0 : World}, rec a0 a1 = some r → Gl W0 → Calls Tryd.prog 42 [(.int .i64 a0 : Value), (.int .i64 a1 : Value)].toArray W0 fun e w' => ∃ v, e = .returned v ∧ (v = .int .i64 r ∧ Fr0 W0 w')) {a0 : Int} {a1 : Int} {r : Int} {W0 : World} (F : echelonref01_Near' rec a0 a1 = some r) (hg : Gl W0) :
    Calls Tryd.prog 42 [(.int .i64 a0 : Value), (.int .i64 a1 : Value)].toArray W0 fun e w' => ∃ v, e = .returned v ∧ (v = .int .i64 r ∧ Fr0 W0 w') := by
  unfold echelonref01_Near' at F
  refine calls_body 27 Tryd.func42 rfl rfl rfl ?_
  have h := H.nil W0
  refine T.seq fun Kk1 k1 => ?_
  refine T.region ?_
  refine R.as rfl rfl (R.nil (k1 _ _ ?_))
  refine T.seq fun Kk2 k2 => ?_
  refine T.seq fun Kk3 k3 => ?_
  refine T.region ?_
  refine R.mv rfl rfl (R.ib rfl rfl rfl rfl (R.nil (k3 _ _ ?_)))
  refine T.cond rfl (fun c4 => ?_) (fun c4 => ?_)
  · replace F := (ifT c4).symm.trans F
    refine T.seq fun Kk5 k5 => ?_
    refine T.region ?_
    obtain ⟨x6, e7, F⟩ := Option.bind_eq_some_iff.1 F
    refine R.mv rfl rfl (R.neg rfl rfl (R.mv rfl rfl (R.callF rfl cf42 rfl (hrec e7 (hg.fr0 h.fr0)) (?_))))
    rintro _ w ⟨rfl, f8⟩
    replace h := h.same f8
    refine R.neg rfl rfl (R.as rfl rfl (R.nil (k5 _ _ ?_)))
    obtain rfl := Option.some.inj F
    refine T.ret (ret1 rfl rfl ⟨rfl, h.fr0⟩)
  · replace F := (ifF c4).symm.trans F
    refine T.skip (k2 _ _ ?_)
    refine T.seq fun Kk9 k9 => ?_
    refine T.region ?_
    obtain ⟨_, e10, F⟩ := Option.bind_eq_some_iff.1 F
    refine R.mv rfl rfl (R.mv rfl rfl (R.quo rfl rfl rfl (must_ne e10) (R.as rfl rfl (R.nil (k9 _ _ ?_)))))
    obtain ⟨y12, F, E11⟩ := Option.bind_eq_some_iff.1 F
    refine T.cut (fun a w => Agr 27 [(5, .int .i64 y12)] a ∧ H W0 (fun _ => False) w [] []) ?_ ?_
    · refine T.seq fun Kk17 k17 => ?_
      refine T.region ?_
      refine R.mv rfl rfl (R.mv rfl rfl (R.mv rfl rfl (R.ib rfl rfl rfl rfl (R.ib rfl rfl rfl rfl (R.ib rfl rfl rfl rfl (R.mv rfl rfl (R.ib rfl rfl rfl rfl (R.nil (k17 _ _ ?_)))))))))
      refine T.cond rfl (fun c18 => ?_) (fun c18 => ?_)
      · replace F := (ifT c18).symm.trans F
        refine T.region ?_
        obtain ⟨x19, e20, F⟩ := Option.bind_eq_some_iff.1 F
        obtain rfl := Option.some.inj F
        refine R.mv rfl rfl (R.ib rfl rfl rfl rfl (R.as rfl rfl (R.re (congrArg (Value.int .i64) (Option.some.inj e20)) (R.nil (fun a ha => ⟨ha.sub ⟨rfl, trivial⟩, h⟩)))))
      · replace F := (ifF c18).symm.trans F
        obtain rfl := Option.some.inj F
        refine T.skip (fun a ha => ⟨ha.sub ⟨rfl, trivial⟩, h⟩)
    · clear F
      rintro a w ⟨ha, h⟩
      refine T.use ?_ ha
      have F := E11
      refine T.seq fun Kk21 k21 => ?_
      refine T.region ?_
      refine R.mv rfl rfl (R.as rfl rfl (R.nil (k21 _ _ ?_)))
      obtain rfl := Option.some.inj F
      refine T.ret (ret1 rfl rfl ⟨rfl, h.fr0⟩)
noncomputable def echelonref01_Near (a0 : Int) (a1 : Int) : Option (Int) := echelonref01_Near' (echelonref01_Near' (fun _ _ => none)) a0 a1
theorem echelonref01_Near.ok {a0 : Int} {a1 : Int} {r : Int} {W0 : World} (F : echelonref01_Near a0 a1 = some r) (hg : Gl W0) :
    Calls Tryd.prog 42 [(.int .i64 a0 : Value), (.int .i64 a1 : Value)].toArray W0 fun e w' => ∃ v, e = .returned v ∧ (v = .int .i64 r ∧ Fr0 W0 w') :=
  echelonref01_Near'.ok (fun F hg => echelonref01_Near'.ok (fun F hg => by cases F) F hg) F hg

/-! echelon/echelonref01.Mul: function 20 -/
noncomputable def echelonref01_Mul (a0 : Int) (a1 : Int) : Option (Int) :=
  (echelonref01_Bound a0).bind fun x3 => (echelonref01_Bound a1).bind fun x6 => (echelonref01_Near (W (x3 * x6)) 256).bind fun x9 => (echelonref01_Bound x9).bind fun x12 => some x12
theorem echelonref01_Mul.ok {a0 : Int} {a1 : Int} {r : Int} {W0 : World} (F : echelonref01_Mul a0 a1 = some r) (hg : Gl W0) :
    Calls Tryd.prog 20 [(.int .i64 a0 : Value), (.int .i64 a1 : Value)].toArray W0 fun e w' => ∃ v, e = .returned v ∧ (v = .int .i64 r ∧ Fr0 W0 w') := by
  unfold echelonref01_Mul at F
  refine calls_body 12 Tryd.func20 rfl rfl rfl ?_
  have h := H.nil W0
  refine T.seq fun Kk1 k1 => ?_
  refine T.region ?_
  refine R.as rfl rfl (R.nil (k1 _ _ ?_))
  refine T.seq fun Kk2 k2 => ?_
  refine T.region ?_
  obtain ⟨x3, e4, F⟩ := Option.bind_eq_some_iff.1 F
  refine R.mv rfl rfl (R.callF rfl cf24 rfl (echelonref01_Bound.ok e4 (hg.fr0 h.fr0)) (?_))
  rintro _ w ⟨rfl, f5⟩
  replace h := h.same f5
  obtain ⟨x6, e7, F⟩ := Option.bind_eq_some_iff.1 F
  refine R.mv rfl rfl (R.callF rfl cf24 rfl (echelonref01_Bound.ok e7 (hg.fr0 h.fr0)) (?_))
  rintro _ w ⟨rfl, f8⟩
  replace h := h.same f8
  obtain ⟨x9, e10, F⟩ := Option.bind_eq_some_iff.1 F
  refine R.ib rfl rfl rfl rfl (R.callF rfl cf42 rfl (echelonref01_Near.ok e10 (hg.fr0 h.fr0)) (?_))
  rintro _ w ⟨rfl, f11⟩
  replace h := h.same f11
  obtain ⟨x12, e13, F⟩ := Option.bind_eq_some_iff.1 F
  refine R.callF rfl cf24 rfl (echelonref01_Bound.ok e13 (hg.fr0 h.fr0)) (?_)
  rintro _ w ⟨rfl, f14⟩
  replace h := h.same f14
  refine R.as rfl rfl (R.nil (k2 _ _ ?_))
  obtain rfl := Option.some.inj F
  refine T.ret (ret1 rfl rfl ⟨rfl, h.fr0⟩)

/-! echelon/echelonref01.Div: function 14 -/
noncomputable def echelonref01_Div (a0 : Int) (a1 : Int) : Option (Int × Int) :=
  (echelonref01_Bound a0).bind fun x3 => (echelonref01_Bound a1).bind fun x7 => if x7 == 0 then some (0, 10) else (if decide (x7 < 0) then some (W (0 - x3), W (0 - x7)) else some (x3, x7)).bind fun (y15 : Int × Int) => (echelonref01_Near (W (256 * y15.1)) y15.2).bind fun x23 => (echelonref01_Bound x23).bind fun x26 => some (x26, 0)
theorem echelonref01_Div.ok {a0 : Int} {a1 : Int} {r : Int × Int} {W0 : World} (F : echelonref01_Div a0 a1 = some r) (hg : Gl W0) :
    Calls Tryd.prog 14 [(.int .i64 a0 : Value), (.int .i64 a1 : Value)].toArray W0 fun e w' => ∃ v, e = .returned v ∧ (v = .tuple #[.int .i64 r.1, .int .i64 r.2] ∧ Fr0 W0 w') := by
  unfold echelonref01_Div at F
  refine calls_body 23 Tryd.func14 rfl rfl rfl ?_
  have h := H.nil W0
  refine T.seq fun Kk1 k1 => ?_
  refine T.region ?_
  refine R.as rfl rfl (R.as rfl rfl (R.nil (k1 _ _ ?_)))
  refine T.seq fun Kk2 k2 => ?_
  refine T.region ?_
  obtain ⟨x3, e4, F⟩ := Option.bind_eq_some_iff.1 F
  refine R.mv rfl rfl (R.callF rfl cf24 rfl (echelonref01_Bound.ok e4 (hg.fr0 h.fr0)) (?_))
  rintro _ w ⟨rfl, f5⟩
  replace h := h.same f5
  refine R.as rfl rfl (R.nil (k2 _ _ ?_))
  refine T.seq fun Kk6 k6 => ?_
  refine T.region ?_
  obtain ⟨x7, e8, F⟩ := Option.bind_eq_some_iff.1 F
  refine R.mv rfl rfl (R.callF rfl cf24 rfl (echelonref01_Bound.ok e8 (hg.fr0 h.fr0)) (?_))
  rintro _ w ⟨rfl, f9⟩
  replace h := h.same f9
  refine R.as rfl rfl (R.nil (k6 _ _ ?_))
  refine T.seq fun Kk10 k10 => ?_
  refine T.seq fun Kk11 k11 => ?_
  refine T.region ?_
  refine R.mv rfl rfl (R.ib rfl rfl rfl rfl (R.nil (k11 _ _ ?_)))
  refine T.cond rfl (fun c12 => ?_) (fun c12 => ?_)
  · replace F := (ifT c12).symm.trans F
    refine T.seq fun Kk13 k13 => ?_
    refine T.region ?_
    refine R.as rfl rfl (R.as rfl rfl (R.nil (k13 _ _ ?_)))
    obtain rfl := Option.some.inj F
    refine T.ret (ret2 rfl rfl rfl ⟨rfl, h.fr0⟩)
  · replace F := (ifF c12).symm.trans F
    refine T.skip (k10 _ _ ?_)
    obtain ⟨y15, F, E14⟩ := Option.bind_eq_some_iff.1 F
    refine T.cut (fun a w => Agr 23 [(0, .int .i64 y15.1), (1, .int .i64 y15.2)] a ∧ H W0 (fun _ => False) w [] []) ?_ ?_
    · refine T.seq fun Kk19 k19 => ?_
      refine T.region ?_
      refine R.mv rfl rfl (R.ib rfl rfl rfl rfl (R.nil (k19 _ _ ?_)))
      refine T.cond rfl (fun c20 => ?_) (fun c20 => ?_)
      · replace F := (ifT c20).symm.trans F
        refine T.seq fun Kk21 k21 => ?_
        refine T.region ?_
        refine R.mv rfl rfl (R.neg rfl rfl (R.as rfl rfl (R.nil (k21 _ _ ?_))))
        refine T.region ?_
        obtain rfl := Option.some.inj F
        refine R.mv rfl rfl (R.neg rfl rfl (R.as rfl rfl (R.nil (fun a ha => ⟨ha.sub ⟨rfl, rfl, trivial⟩, h⟩))))
      · replace F := (ifF c20).symm.trans F
        obtain rfl := Option.some.inj F
        refine T.skip (fun a ha => ⟨ha.sub ⟨rfl, rfl, trivial⟩, h⟩)
    · clear F
      rintro a w ⟨ha, h⟩
      refine T.use ?_ ha
      have F := E14
      refine T.seq fun Kk22 k22 => ?_
      refine T.region ?_
      obtain ⟨x23, e24, F⟩ := Option.bind_eq_some_iff.1 F
      refine R.mv rfl rfl (R.ib rfl rfl rfl rfl (R.mv rfl rfl (R.callF rfl cf42 rfl (echelonref01_Near.ok e24 (hg.fr0 h.fr0)) (?_))))
      rintro _ w ⟨rfl, f25⟩
      replace h := h.same f25
      obtain ⟨x26, e27, F⟩ := Option.bind_eq_some_iff.1 F
      refine R.callF rfl cf24 rfl (echelonref01_Bound.ok e27 (hg.fr0 h.fr0)) (?_)
      rintro _ w ⟨rfl, f28⟩
      replace h := h.same f28
      refine R.as rfl rfl (R.as rfl rfl (R.nil (k22 _ _ ?_)))
      obtain rfl := Option.some.inj F
      refine T.ret (ret2 rfl rfl rfl ⟨rfl, h.fr0⟩)

/-! echelon/echelonref01.Blend: function 32 -/
noncomputable def echelonref01_Blend (a0 : Int) (a1 : Int) (a2 : Int) : Option (Int) :=
  (echelonref01_Bound a0).bind fun x3 => (echelonref01_Bound a1).bind fun x7 => (if decide (a2 < 0) then some 0 else some a2).bind fun (y11 : Int) => (if decide (y11 > 256) then some 256 else some y11).bind fun (y17 : Int) => (echelonref01_Near (W ((W (x7 - x3)) * y17)) 256).bind fun x23 => some (W (x3 + x23))
theorem echelonref01_Blend.ok {a0 : Int} {a1 : Int} {a2 : Int} {r : Int} {W0 : World} (F : echelonref01_Blend a0 a1 a2 = some r) (hg : Gl W0) :
    Calls Tryd.prog 32 [(.int .i64 a0 : Value), (.int .i64 a1 : Value), (.int .i64 a2 : Value)].toArray W0 fun e w' => ∃ v, e = .returned v ∧ (v = .int .i64 r ∧ Fr0 W0 w') := by
  unfold echelonref01_Blend at F
  refine calls_body 23 Tryd.func32 rfl rfl rfl ?_
  have h := H.nil W0
  refine T.seq fun Kk1 k1 => ?_
  refine T.region ?_
  refine R.as rfl rfl (R.nil (k1 _ _ ?_))
  refine T.seq fun Kk2 k2 => ?_
  refine T.region ?_
  obtain ⟨x3, e4, F⟩ := Option.bind_eq_some_iff.1 F
  refine R.mv rfl rfl (R.callF rfl cf24 rfl (echelonref01_Bound.ok e4 (hg.fr0 h.fr0)) (?_))
  rintro _ w ⟨rfl, f5⟩
  replace h := h.same f5
  refine R.as rfl rfl (R.nil (k2 _ _ ?_))
  refine T.seq fun Kk6 k6 => ?_
  refine T.region ?_
  obtain ⟨x7, e8, F⟩ := Option.bind_eq_some_iff.1 F
  refine R.mv rfl rfl (R.callF rfl cf24 rfl (echelonref01_Bound.ok e8 (hg.fr0 h.fr0)) (?_))
  rintro _ w ⟨rfl, f9⟩
  replace h := h.same f9
  refine R.as rfl rfl (R.nil (k6 _ _ ?_))
  obtain ⟨y11, F, E10⟩ := Option.bind_eq_some_iff.1 F
  refine T.cut (fun a w => Agr 23 [(0, .int .i64 x3), (1, .int .i64 x7), (2, .int .i64 y11)] a ∧ H W0 (fun _ => False) w [] []) ?_ ?_
  · refine T.seq fun Kk14 k14 => ?_
    refine T.region ?_
    refine R.mv rfl rfl (R.ib rfl rfl rfl rfl (R.nil (k14 _ _ ?_)))
    refine T.cond rfl (fun c15 => ?_) (fun c15 => ?_)
    · replace F := (ifT c15).symm.trans F
      refine T.region ?_
      obtain rfl := Option.some.inj F
      refine R.as rfl rfl (R.nil (fun a ha => ⟨ha.sub ⟨rfl, rfl, rfl, trivial⟩, h⟩))
    · replace F := (ifF c15).symm.trans F
      obtain rfl := Option.some.inj F
      refine T.skip (fun a ha => ⟨ha.sub ⟨rfl, rfl, rfl, trivial⟩, h⟩)
  · clear F
    rintro a w ⟨ha, h⟩
    refine T.use ?_ ha
    have F := E10
    obtain ⟨y17, F, E16⟩ := Option.bind_eq_some_iff.1 F
    refine T.cut (fun a w => Agr 23 [(0, .int .i64 x3), (1, .int .i64 x7), (2, .int .i64 y17)] a ∧ H W0 (fun _ => False) w [] []) ?_ ?_
    · refine T.seq fun Kk20 k20 => ?_
      refine T.region ?_
      refine R.mv rfl rfl (R.ib rfl rfl rfl rfl (R.nil (k20 _ _ ?_)))
      refine T.cond rfl (fun c21 => ?_) (fun c21 => ?_)
      · replace F := (ifT c21).symm.trans F
        refine T.region ?_
        obtain rfl := Option.some.inj F
        refine R.as rfl rfl (R.nil (fun a ha => ⟨ha.sub ⟨rfl, rfl, rfl, trivial⟩, h⟩))
      · replace F := (ifF c21).symm.trans F
        obtain rfl := Option.some.inj F
        refine T.skip (fun a ha => ⟨ha.sub ⟨rfl, rfl, rfl, trivial⟩, h⟩)
    · clear F
      rintro a w ⟨ha, h⟩
      refine T.use ?_ ha
      have F := E16
      refine T.seq fun Kk22 k22 => ?_
      refine T.region ?_
      obtain ⟨x23, e24, F⟩ := Option.bind_eq_some_iff.1 F
      refine R.mv rfl rfl (R.mv rfl rfl (R.mv rfl rfl (R.ib rfl rfl rfl rfl (R.mv rfl rfl (R.ib rfl rfl rfl rfl (R.callF rfl cf42 rfl (echelonref01_Near.ok e24 (hg.fr0 h.fr0)) (?_)))))))
      rintro _ w ⟨rfl, f25⟩
      replace h := h.same f25
      refine R.ib rfl rfl rfl rfl (R.as rfl rfl (R.nil (k22 _ _ ?_)))
      obtain rfl := Option.some.inj F
      refine T.ret (ret1 rfl rfl ⟨rfl, h.fr0⟩)

/-! echelon/echelonlaw01.FixedWorks: function 3 -/
noncomputable def echelonlaw01_FixedWorks (a0 : Int) (a1 : Int) : Option (Bool) :=
  (echelonlaw01_awake).bind fun x3 => (fixed_Div a0 a1).bind fun x7 => (echelonref01_Div a0 a1).bind fun x11 => ((fixed_Add a0 a1).bind fun x29 => (echelonref01_Add a0 a1).bind fun x32 => if x29 == x32 then (fixed_Sub a0 a1).bind fun x36 => (echelonref01_Sub a0 a1).bind fun x39 => some (x36 == x39) else some false).bind fun (y15 : Bool) => (if x3 then if y15 then (fixed_Mul a0 a1).bind fun x56 => (echelonref01_Mul a0 a1).bind fun x59 => some ((x56 == x59) && ((x7.1 == x11.1) && (x7.2 == x11.2))) else some false else some false).bind fun (y43 : Bool) => some y43
theorem echelonlaw01_FixedWorks.ok {a0 : Int} {a1 : Int} {r : Bool} {W0 : World} (F : echelonlaw01_FixedWorks a0 a1 = some r) (hg : Gl W0) :
    Calls Tryd.prog 3 [(.int .i64 a0 : Value), (.int .i64 a1 : Value)].toArray W0 fun e w' => ∃ v, e = .returned v ∧ (v = .bool r ∧ Fr0 W0 w') := by
  unfold echelonlaw01_FixedWorks at F
  refine calls_body 63 Tryd.func3 rfl rfl rfl ?_
  have h := H.nil W0
  refine T.seq fun Kk1 k1 => ?_
  refine T.region ?_
  refine R.as rfl rfl (R.nil (k1 _ _ ?_))
  refine T.seq fun Kk2 k2 => ?_
  refine T.region ?_
  obtain ⟨x3, e4, F⟩ := Option.bind_eq_some_iff.1 F
  refine R.callF rfl cf12 rfl (echelonlaw01_awake.ok e4 (hg.fr0 h.fr0)) (?_)
  rintro _ w ⟨rfl, f5⟩
  replace h := h.same f5
  refine R.as rfl rfl (R.nil (k2 _ _ ?_))
  refine T.seq fun Kk6 k6 => ?_
  refine T.region ?_
  obtain ⟨x7, e8, F⟩ := Option.bind_eq_some_iff.1 F
  refine R.mv rfl rfl (R.mv rfl rfl (R.callF rfl cf13 rfl (fixed_Div.ok e8 (hg.fr0 h.fr0)) (?_)))
  rintro _ w ⟨rfl, f9⟩
  replace h := h.same f9
  refine R.mv rfl rfl (R.ext rfl rfl rfl (R.ext rfl rfl rfl (R.as rfl rfl (R.as rfl rfl (R.nil (k6 _ _ ?_))))))
  refine T.seq fun Kk10 k10 => ?_
  refine T.region ?_
  obtain ⟨x11, e12, F⟩ := Option.bind_eq_some_iff.1 F
  refine R.mv rfl rfl (R.mv rfl rfl (R.callF rfl cf14 rfl (echelonref01_Div.ok e12 (hg.fr0 h.fr0)) (?_)))
  rintro _ w ⟨rfl, f13⟩
  replace h := h.same f13
  refine R.mv rfl rfl (R.ext rfl rfl rfl (R.ext rfl rfl rfl (R.as rfl rfl (R.as rfl rfl (R.nil (k10 _ _ ?_))))))
  obtain ⟨y15, F, E14⟩ := Option.bind_eq_some_iff.1 F
  refine T.cut (fun a w => Agr 63 [(0, .int .i64 a0), (1, .int .i64 a1), (5, .bool x3), (6, .int .i64 x7.1), (7, .int .i64 x7.2), (8, .int .i64 x11.1), (9, .int .i64 x11.2), (10, .bool y15)] a ∧ H W0 (fun _ => False) w [] []) ?_ ?_
  · refine T.region ?_
    obtain ⟨x29, e30, F⟩ := Option.bind_eq_some_iff.1 F
    refine R.mv rfl rfl (R.mv rfl rfl (R.callF rfl cf15 rfl (fixed_Add.ok e30 (hg.fr0 h.fr0)) (?_)))
    rintro _ w ⟨rfl, f31⟩
    replace h := h.same f31
    obtain ⟨x32, e33, F⟩ := Option.bind_eq_some_iff.1 F
    refine R.mv rfl rfl (R.mv rfl rfl (R.callF rfl cf16 rfl (echelonref01_Add.ok e33 (hg.fr0 h.fr0)) (?_)))
    rintro _ w ⟨rfl, f34⟩
    replace h := h.same f34
    refine R.ib rfl rfl rfl rfl (R.mv rfl rfl (?_))
    refine bsplit (x29 == x32) (fun c35 => ?_) (fun c35 => ?_)
    · replace F := (ifT c35).symm.trans F
      obtain ⟨x36, e37, F⟩ := Option.bind_eq_some_iff.1 F
      refine R.iff rfl rfl c35 (R.mv rfl rfl (R.iff rfl rfl c35 (R.mv rfl rfl (R.iff rfl rfl c35 (R.callF rfl cf17 rfl (fixed_Sub.ok e37 (hg.fr0 h.fr0)) (?_))))))
      rintro _ w ⟨rfl, f38⟩
      replace h := h.same f38
      obtain ⟨x39, e40, F⟩ := Option.bind_eq_some_iff.1 F
      refine R.iff rfl rfl c35 (R.mv rfl rfl (R.iff rfl rfl c35 (R.mv rfl rfl (R.iff rfl rfl c35 (R.callF rfl cf18 rfl (echelonref01_Sub.ok e40 (hg.fr0 h.fr0)) (?_))))))
      rintro _ w ⟨rfl, f41⟩
      replace h := h.same f41
      obtain rfl := Option.some.inj F
      refine R.iff rfl rfl c35 (R.ib rfl rfl rfl rfl (R.pT rfl rfl c35 rfl (R.as rfl rfl (R.nil (fun a ha => ⟨ha.sub ⟨rfl, rfl, rfl, rfl, rfl, rfl, rfl, rfl, trivial⟩, h⟩)))))
    · replace F := (ifF c35).symm.trans F
      obtain rfl := Option.some.inj F
      refine R.not_ rfl rfl rfl c35 (R.not_ rfl rfl rfl c35 (R.not_ rfl rfl rfl c35 (R.not_ rfl rfl rfl c35 (R.not_ rfl rfl rfl c35 (R.not_ rfl rfl rfl c35 (R.not_ rfl rfl rfl c35 (R.pF rfl rfl c35 rfl (R.as rfl rfl (R.nil (fun a ha => ⟨ha.sub ⟨rfl, rfl, rfl, rfl, rfl, rfl, rfl, rfl, trivial⟩, h⟩))))))))))
  · clear F
    rintro a w ⟨ha, h⟩
    refine T.use ?_ ha
    have F := E14
    obtain ⟨y43, F, E42⟩ := Option.bind_eq_some_iff.1 F
    refine T.cut (fun a w => Agr 63 [(4, .bool y43)] a ∧ H W0 (fun _ => False) w [] []) ?_ ?_
    · refine T.region ?_
      refine R.mv rfl rfl (R.mv rfl rfl (?_))
      refine bsplit x3 (fun c54 => ?_) (fun c54 => ?_)
      · replace F := (ifT c54).symm.trans F
        refine R.iff rfl rfl c54 (R.mv rfl rfl (R.pT rfl rfl c54 rfl (R.mv rfl rfl (?_))))
        refine bsplit y15 (fun c55 => ?_) (fun c55 => ?_)
        · replace F := (ifT c55).symm.trans F
          obtain ⟨x56, e57, F⟩ := Option.bind_eq_some_iff.1 F
          refine R.iff rfl rfl c55 (R.mv rfl rfl (R.iff rfl rfl c55 (R.mv rfl rfl (R.iff rfl rfl c55 (R.callF rfl cf19 rfl (fixed_Mul.ok e57 (hg.fr0 h.fr0)) (?_))))))
          rintro _ w ⟨rfl, f58⟩
          replace h := h.same f58
          obtain ⟨x59, e60, F⟩ := Option.bind_eq_some_iff.1 F
          refine R.iff rfl rfl c55 (R.mv rfl rfl (R.iff rfl rfl c55 (R.mv rfl rfl (R.iff rfl rfl c55 (R.callF rfl cf20 rfl (echelonref01_Mul.ok e60 (hg.fr0 h.fr0)) (?_))))))
          rintro _ w ⟨rfl, f61⟩
          replace h := h.same f61
          refine R.iff rfl rfl c55 (R.ib rfl rfl rfl rfl (R.pT rfl rfl c55 rfl (R.mv rfl rfl (?_))))
          refine bsplit (x56 == x59) (fun c62 => ?_) (fun c62 => ?_)
          · replace F := (andT c62).symm.trans F
            refine R.iff rfl rfl c62 (R.mv rfl rfl (R.iff rfl rfl c62 (R.mv rfl rfl (R.iff rfl rfl c62 (R.ib rfl rfl rfl rfl (R.pT rfl rfl c62 rfl (R.mv rfl rfl (?_))))))))
            refine bsplit (x7.1 == x11.1) (fun c63 => ?_) (fun c63 => ?_)
            · replace F := (andT c63).symm.trans F
              obtain rfl := Option.some.inj F
              refine R.iff rfl rfl c63 (R.mv rfl rfl (R.iff rfl rfl c63 (R.mv rfl rfl (R.iff rfl rfl c63 (R.ib rfl rfl rfl rfl (R.pT rfl rfl c63 rfl (R.as rfl rfl (R.nil (fun a ha => ⟨ha.sub ⟨rfl, trivial⟩, h⟩)))))))))
            · replace F := (andF c63).symm.trans F
              obtain rfl := Option.some.inj F
              refine R.not_ rfl rfl rfl c63 (R.not_ rfl rfl rfl c63 (R.not_ rfl rfl rfl c63 (R.pF rfl rfl c63 rfl (R.as rfl rfl (R.nil (fun a ha => ⟨ha.sub ⟨rfl, trivial⟩, h⟩))))))
          · replace F := (andF c62).symm.trans F
            obtain rfl := Option.some.inj F
            refine R.not_ rfl rfl rfl c62 (R.not_ rfl rfl rfl c62 (R.not_ rfl rfl rfl c62 (R.pF rfl rfl c62 rfl (R.mv rfl rfl (R.not_ rfl rfl rfl rfl (R.not_ rfl rfl rfl rfl (R.not_ rfl rfl rfl rfl (R.pF rfl rfl rfl rfl (R.as rfl rfl (R.nil (fun a ha => ⟨ha.sub ⟨rfl, trivial⟩, h⟩)))))))))))
        · replace F := (ifF c55).symm.trans F
          obtain rfl := Option.some.inj F
          refine R.not_ rfl rfl rfl c55 (R.not_ rfl rfl rfl c55 (R.not_ rfl rfl rfl c55 (R.not_ rfl rfl rfl c55 (R.not_ rfl rfl rfl c55 (R.not_ rfl rfl rfl c55 (R.not_ rfl rfl rfl c55 (R.pF rfl rfl c55 rfl (R.mv rfl rfl (R.not_ rfl rfl rfl rfl (R.not_ rfl rfl rfl rfl (R.not_ rfl rfl rfl rfl (R.pF rfl rfl rfl rfl (R.mv rfl rfl (R.not_ rfl rfl rfl rfl (R.not_ rfl rfl rfl rfl (R.not_ rfl rfl rfl rfl (R.pF rfl rfl rfl rfl (R.as rfl rfl (R.nil (fun a ha => ⟨ha.sub ⟨rfl, trivial⟩, h⟩))))))))))))))))))))
      · replace F := (ifF c54).symm.trans F
        obtain rfl := Option.some.inj F
        refine R.not_ rfl rfl rfl c54 (R.pF rfl rfl c54 rfl (R.mv rfl rfl (R.not_ rfl rfl rfl rfl (R.not_ rfl rfl rfl rfl (R.not_ rfl rfl rfl rfl (R.not_ rfl rfl rfl rfl (R.not_ rfl rfl rfl rfl (R.not_ rfl rfl rfl rfl (R.not_ rfl rfl rfl rfl (R.pF rfl rfl rfl rfl (R.mv rfl rfl (R.not_ rfl rfl rfl rfl (R.not_ rfl rfl rfl rfl (R.not_ rfl rfl rfl rfl (R.pF rfl rfl rfl rfl (R.mv rfl rfl (R.not_ rfl rfl rfl rfl (R.not_ rfl rfl rfl rfl (R.not_ rfl rfl rfl rfl (R.pF rfl rfl rfl rfl (R.as rfl rfl (R.nil (fun a ha => ⟨ha.sub ⟨rfl, trivial⟩, h⟩)))))))))))))))))))))))
    · clear F
      rintro a w ⟨ha, h⟩
      refine T.use ?_ ha
      have F := E42
      obtain rfl := Option.some.inj F
      refine T.ret (ret1 rfl rfl ⟨rfl, h.fr0⟩)

/-! echelon/echelonlaw01.FixedParts: function 4 -/
noncomputable def echelonlaw01_FixedParts (a0 : Int) : Option (Bool) :=
  (echelonlaw01_awake).bind fun x3 => (fixed_Root a0).bind fun x7 => (echelonref01_Root a0).bind fun x11 => ((fixed_Bound a0).bind fun x29 => (echelonref01_Bound a0).bind fun x32 => if x29 == x32 then (fixed_Of a0).bind fun x36 => (echelonref01_Of a0).bind fun x39 => some (x36 == x39) else some false).bind fun (y15 : Bool) => ((fixed_Whole a0).bind fun x57 => (echelonref01_Whole a0).bind fun x60 => if x57 == x60 then (fixed_Abs a0).bind fun x64 => (echelonref01_Abs a0).bind fun x67 => some (x64 == x67) else some false).bind fun (y43 : Bool) => (some (x3 && (y15 && (y43 && ((x7.1 == x11.1) && (x7.2 == x11.2)))))).bind fun (y71 : Bool) => some y71
theorem echelonlaw01_FixedParts.ok {a0 : Int} {r : Bool} {W0 : World} (F : echelonlaw01_FixedParts a0 = some r) (hg : Gl W0) :
    Calls Tryd.prog 4 [(.int .i64 a0 : Value)].toArray W0 fun e w' => ∃ v, e = .returned v ∧ (v = .bool r ∧ Fr0 W0 w') := by
  unfold echelonlaw01_FixedParts at F
  refine calls_body 62 Tryd.func4 rfl rfl rfl ?_
  have h := H.nil W0
  refine T.seq fun Kk1 k1 => ?_
  refine T.region ?_
  refine R.as rfl rfl (R.nil (k1 _ _ ?_))
  refine T.seq fun Kk2 k2 => ?_
  refine T.region ?_
  obtain ⟨x3, e4, F⟩ := Option.bind_eq_some_iff.1 F
  refine R.callF rfl cf12 rfl (echelonlaw01_awake.ok e4 (hg.fr0 h.fr0)) (?_)
  rintro _ w ⟨rfl, f5⟩
  replace h := h.same f5
  refine R.as rfl rfl (R.nil (k2 _ _ ?_))
  refine T.seq fun Kk6 k6 => ?_
  refine T.region ?_
  obtain ⟨x7, e8, F⟩ := Option.bind_eq_some_iff.1 F
  refine R.mv rfl rfl (R.callF rfl cf21 rfl (fixed_Root.ok e8 (hg.fr0 h.fr0)) (?_))
  rintro _ w ⟨rfl, f9⟩
  replace h := h.same f9
  refine R.mv rfl rfl (R.ext rfl rfl rfl (R.ext rfl rfl rfl (R.as rfl rfl (R.as rfl rfl (R.nil (k6 _ _ ?_))))))
  refine T.seq fun Kk10 k10 => ?_
  refine T.region ?_
  obtain ⟨x11, e12, F⟩ := Option.bind_eq_some_iff.1 F
  refine R.mv rfl rfl (R.callF rfl cf22 rfl (echelonref01_Root.ok e12 (hg.fr0 h.fr0)) (?_))
  rintro _ w ⟨rfl, f13⟩
  replace h := h.same f13
  refine R.mv rfl rfl (R.ext rfl rfl rfl (R.ext rfl rfl rfl (R.as rfl rfl (R.as rfl rfl (R.nil (k10 _ _ ?_))))))
  obtain ⟨y15, F, E14⟩ := Option.bind_eq_some_iff.1 F
  refine T.cut (fun a w => Agr 62 [(0, .int .i64 a0), (3, .bool x3), (4, .int .i64 x7.1), (5, .int .i64 x7.2), (6, .int .i64 x11.1), (7, .int .i64 x11.2), (8, .bool y15)] a ∧ H W0 (fun _ => False) w [] []) ?_ ?_
  · refine T.region ?_
    obtain ⟨x29, e30, F⟩ := Option.bind_eq_some_iff.1 F
    refine R.mv rfl rfl (R.callF rfl cf23 rfl (fixed_Bound.ok e30 (hg.fr0 h.fr0)) (?_))
    rintro _ w ⟨rfl, f31⟩
    replace h := h.same f31
    obtain ⟨x32, e33, F⟩ := Option.bind_eq_some_iff.1 F
    refine R.mv rfl rfl (R.callF rfl cf24 rfl (echelonref01_Bound.ok e33 (hg.fr0 h.fr0)) (?_))
    rintro _ w ⟨rfl, f34⟩
    replace h := h.same f34
    refine R.ib rfl rfl rfl rfl (R.mv rfl rfl (?_))
    refine bsplit (x29 == x32) (fun c35 => ?_) (fun c35 => ?_)
    · replace F := (ifT c35).symm.trans F
      obtain ⟨x36, e37, F⟩ := Option.bind_eq_some_iff.1 F
      refine R.iff rfl rfl c35 (R.mv rfl rfl (R.iff rfl rfl c35 (R.callF rfl cf25 rfl (fixed_Of.ok e37 (hg.fr0 h.fr0)) (?_))))
      rintro _ w ⟨rfl, f38⟩
      replace h := h.same f38
      obtain ⟨x39, e40, F⟩ := Option.bind_eq_some_iff.1 F
      refine R.iff rfl rfl c35 (R.mv rfl rfl (R.iff rfl rfl c35 (R.callF rfl cf26 rfl (echelonref01_Of.ok e40 (hg.fr0 h.fr0)) (?_))))
      rintro _ w ⟨rfl, f41⟩
      replace h := h.same f41
      obtain rfl := Option.some.inj F
      refine R.iff rfl rfl c35 (R.ib rfl rfl rfl rfl (R.pT rfl rfl c35 rfl (R.as rfl rfl (R.nil (fun a ha => ⟨ha.sub ⟨rfl, rfl, rfl, rfl, rfl, rfl, rfl, trivial⟩, h⟩)))))
    · replace F := (ifF c35).symm.trans F
      obtain rfl := Option.some.inj F
      refine R.not_ rfl rfl rfl c35 (R.not_ rfl rfl rfl c35 (R.not_ rfl rfl rfl c35 (R.not_ rfl rfl rfl c35 (R.not_ rfl rfl rfl c35 (R.pF rfl rfl c35 rfl (R.as rfl rfl (R.nil (fun a ha => ⟨ha.sub ⟨rfl, rfl, rfl, rfl, rfl, rfl, rfl, trivial⟩, h⟩))))))))
  · clear F
    rintro a w ⟨ha, h⟩
    refine T.use ?_ ha
    have F := E14
    obtain ⟨y43, F, E42⟩ := Option.bind_eq_some_iff.1 F
    refine T.cut (fun a w => Agr 62 [(3, .bool x3), (4, .int .i64 x7.1), (5, .int .i64 x7.2), (6, .int .i64 x11.1), (7, .int .i64 x11.2), (8, .bool y15), (9, .bool y43)] a ∧ H W0 (fun _ => False) w [] []) ?_ ?_
    · refine T.region ?_
      obtain ⟨x57, e58, F⟩ := Option.bind_eq_some_iff.1 F
      refine R.mv rfl rfl (R.callF rfl cf27 rfl (fixed_Whole.ok e58 (hg.fr0 h.fr0)) (?_))
      rintro _ w ⟨rfl, f59⟩
      replace h := h.same f59
      obtain ⟨x60, e61, F⟩ := Option.bind_eq_some_iff.1 F
      refine R.mv rfl rfl (R.callF rfl cf28 rfl (echelonref01_Whole.ok e61 (hg.fr0 h.fr0)) (?_))
      rintro _ w ⟨rfl, f62⟩
      replace h := h.same f62
      refine R.ib rfl rfl rfl rfl (R.mv rfl rfl (?_))
      refine bsplit (x57 == x60) (fun c63 => ?_) (fun c63 => ?_)
      · replace F := (ifT c63).symm.trans F
        obtain ⟨x64, e65, F⟩ := Option.bind_eq_some_iff.1 F
        refine R.iff rfl rfl c63 (R.mv rfl rfl (R.iff rfl rfl c63 (R.callF rfl cf29 rfl (fixed_Abs.ok e65 (hg.fr0 h.fr0)) (?_))))
        rintro _ w ⟨rfl, f66⟩
        replace h := h.same f66
        obtain ⟨x67, e68, F⟩ := Option.bind_eq_some_iff.1 F
        refine R.iff rfl rfl c63 (R.mv rfl rfl (R.iff rfl rfl c63 (R.callF rfl cf30 rfl (echelonref01_Abs.ok e68 (hg.fr0 h.fr0)) (?_))))
        rintro _ w ⟨rfl, f69⟩
        replace h := h.same f69
        obtain rfl := Option.some.inj F
        refine R.iff rfl rfl c63 (R.ib rfl rfl rfl rfl (R.pT rfl rfl c63 rfl (R.as rfl rfl (R.nil (fun a ha => ⟨ha.sub ⟨rfl, rfl, rfl, rfl, rfl, rfl, rfl, trivial⟩, h⟩)))))
      · replace F := (ifF c63).symm.trans F
        obtain rfl := Option.some.inj F
        refine R.not_ rfl rfl rfl c63 (R.not_ rfl rfl rfl c63 (R.not_ rfl rfl rfl c63 (R.not_ rfl rfl rfl c63 (R.not_ rfl rfl rfl c63 (R.pF rfl rfl c63 rfl (R.as rfl rfl (R.nil (fun a ha => ⟨ha.sub ⟨rfl, rfl, rfl, rfl, rfl, rfl, rfl, trivial⟩, h⟩))))))))
    · clear F
      rintro a w ⟨ha, h⟩
      refine T.use ?_ ha
      have F := E42
      obtain ⟨y71, F, E70⟩ := Option.bind_eq_some_iff.1 F
      refine T.cut (fun a w => Agr 62 [(2, .bool y71)] a ∧ H W0 (fun _ => False) w [] []) ?_ ?_
      · refine T.region ?_
        refine R.mv rfl rfl (R.mv rfl rfl (?_))
        refine bsplit x3 (fun c76 => ?_) (fun c76 => ?_)
        · replace F := (andT c76).symm.trans F
          refine R.iff rfl rfl c76 (R.mv rfl rfl (R.pT rfl rfl c76 rfl (R.mv rfl rfl (?_))))
          refine bsplit y15 (fun c77 => ?_) (fun c77 => ?_)
          · replace F := (andT c77).symm.trans F
            refine R.iff rfl rfl c77 (R.mv rfl rfl (R.pT rfl rfl c77 rfl (R.mv rfl rfl (?_))))
            refine bsplit y43 (fun c78 => ?_) (fun c78 => ?_)
            · replace F := (andT c78).symm.trans F
              refine R.iff rfl rfl c78 (R.mv rfl rfl (R.iff rfl rfl c78 (R.mv rfl rfl (R.iff rfl rfl c78 (R.ib rfl rfl rfl rfl (R.pT rfl rfl c78 rfl (R.mv rfl rfl (?_))))))))
              refine bsplit (x7.1 == x11.1) (fun c79 => ?_) (fun c79 => ?_)
              · replace F := (andT c79).symm.trans F
                obtain rfl := Option.some.inj F
                refine R.iff rfl rfl c79 (R.mv rfl rfl (R.iff rfl rfl c79 (R.mv rfl rfl (R.iff rfl rfl c79 (R.ib rfl rfl rfl rfl (R.pT rfl rfl c79 rfl (R.as rfl rfl (R.nil (fun a ha => ⟨ha.sub ⟨rfl, trivial⟩, h⟩)))))))))
              · replace F := (andF c79).symm.trans F
                obtain rfl := Option.some.inj F
                refine R.not_ rfl rfl rfl c79 (R.not_ rfl rfl rfl c79 (R.not_ rfl rfl rfl c79 (R.pF rfl rfl c79 rfl (R.as rfl rfl (R.nil (fun a ha => ⟨ha.sub ⟨rfl, trivial⟩, h⟩))))))
            · replace F := (andF c78).symm.trans F
              obtain rfl := Option.some.inj F
              refine R.not_ rfl rfl rfl c78 (R.not_ rfl rfl rfl c78 (R.not_ rfl rfl rfl c78 (R.pF rfl rfl c78 rfl (R.mv rfl rfl (R.not_ rfl rfl rfl rfl (R.not_ rfl rfl rfl rfl (R.not_ rfl rfl rfl rfl (R.pF rfl rfl rfl rfl (R.as rfl rfl (R.nil (fun a ha => ⟨ha.sub ⟨rfl, trivial⟩, h⟩)))))))))))
          · replace F := (andF c77).symm.trans F
            obtain rfl := Option.some.inj F
            refine R.not_ rfl rfl rfl c77 (R.pF rfl rfl c77 rfl (R.mv rfl rfl (R.not_ rfl rfl rfl rfl (R.not_ rfl rfl rfl rfl (R.not_ rfl rfl rfl rfl (R.pF rfl rfl rfl rfl (R.mv rfl rfl (R.not_ rfl rfl rfl rfl (R.not_ rfl rfl rfl rfl (R.not_ rfl rfl rfl rfl (R.pF rfl rfl rfl rfl (R.as rfl rfl (R.nil (fun a ha => ⟨ha.sub ⟨rfl, trivial⟩, h⟩))))))))))))))
        · replace F := (andF c76).symm.trans F
          obtain rfl := Option.some.inj F
          refine R.not_ rfl rfl rfl c76 (R.pF rfl rfl c76 rfl (R.mv rfl rfl (R.not_ rfl rfl rfl rfl (R.pF rfl rfl rfl rfl (R.mv rfl rfl (R.not_ rfl rfl rfl rfl (R.not_ rfl rfl rfl rfl (R.not_ rfl rfl rfl rfl (R.pF rfl rfl rfl rfl (R.mv rfl rfl (R.not_ rfl rfl rfl rfl (R.not_ rfl rfl rfl rfl (R.not_ rfl rfl rfl rfl (R.pF rfl rfl rfl rfl (R.as rfl rfl (R.nil (fun a ha => ⟨ha.sub ⟨rfl, trivial⟩, h⟩)))))))))))))))))
      · clear F
        rintro a w ⟨ha, h⟩
        refine T.use ?_ ha
        have F := E70
        obtain rfl := Option.some.inj F
        refine T.ret (ret1 rfl rfl ⟨rfl, h.fr0⟩)

/-! echelon/echelonlaw01.FixedBlends: function 5 -/
noncomputable def echelonlaw01_FixedBlends (a0 : Int) (a1 : Int) (a2 : Int) : Option (Bool) :=
  (echelonlaw01_awake).bind fun x3 => (if x3 then (fixed_Blend a0 a1 a2).bind fun x23 => (echelonref01_Blend a0 a1 a2).bind fun x26 => if x23 == x26 then (fixed_Clamp a2 a0 a1).bind fun x30 => (echelonref01_Clamp a2 a0 a1).bind fun x33 => some (x30 == x33) else some false else some false).bind fun (y7 : Bool) => some y7
theorem echelonlaw01_FixedBlends.ok {a0 : Int} {a1 : Int} {a2 : Int} {r : Bool} {W0 : World} (F : echelonlaw01_FixedBlends a0 a1 a2 = some r) (hg : Gl W0) :
    Calls Tryd.prog 5 [(.int .i64 a0 : Value), (.int .i64 a1 : Value), (.int .i64 a2 : Value)].toArray W0 fun e w' => ∃ v, e = .returned v ∧ (v = .bool r ∧ Fr0 W0 w') := by
  unfold echelonlaw01_FixedBlends at F
  refine calls_body 32 Tryd.func5 rfl rfl rfl ?_
  have h := H.nil W0
  refine T.seq fun Kk1 k1 => ?_
  refine T.region ?_
  refine R.as rfl rfl (R.nil (k1 _ _ ?_))
  refine T.seq fun Kk2 k2 => ?_
  refine T.region ?_
  obtain ⟨x3, e4, F⟩ := Option.bind_eq_some_iff.1 F
  refine R.callF rfl cf12 rfl (echelonlaw01_awake.ok e4 (hg.fr0 h.fr0)) (?_)
  rintro _ w ⟨rfl, f5⟩
  replace h := h.same f5
  refine R.as rfl rfl (R.nil (k2 _ _ ?_))
  obtain ⟨y7, F, E6⟩ := Option.bind_eq_some_iff.1 F
  refine T.cut (fun a w => Agr 32 [(6, .bool y7)] a ∧ H W0 (fun _ => False) w [] []) ?_ ?_
  · refine T.region ?_
    refine R.mv rfl rfl (R.mv rfl rfl (?_))
    refine bsplit x3 (fun c22 => ?_) (fun c22 => ?_)
    · replace F := (ifT c22).symm.trans F
      obtain ⟨x23, e24, F⟩ := Option.bind_eq_some_iff.1 F
      refine R.iff rfl rfl c22 (R.mv rfl rfl (R.iff rfl rfl c22 (R.mv rfl rfl (R.iff rfl rfl c22 (R.mv rfl rfl (R.iff rfl rfl c22 (R.callF rfl cf31 rfl (fixed_Blend.ok e24 (hg.fr0 h.fr0)) (?_))))))))
      rintro _ w ⟨rfl, f25⟩
      replace h := h.same f25
      obtain ⟨x26, e27, F⟩ := Option.bind_eq_some_iff.1 F
      refine R.iff rfl rfl c22 (R.mv rfl rfl (R.iff rfl rfl c22 (R.mv rfl rfl (R.iff rfl rfl c22 (R.mv rfl rfl (R.iff rfl rfl c22 (R.callF rfl cf32 rfl (echelonref01_Blend.ok e27 (hg.fr0 h.fr0)) (?_))))))))
      rintro _ w ⟨rfl, f28⟩
      replace h := h.same f28
      refine R.iff rfl rfl c22 (R.ib rfl rfl rfl rfl (R.pT rfl rfl c22 rfl (R.mv rfl rfl (?_))))
      refine bsplit (x23 == x26) (fun c29 => ?_) (fun c29 => ?_)
      · replace F := (ifT c29).symm.trans F
        obtain ⟨x30, e31, F⟩ := Option.bind_eq_some_iff.1 F
        refine R.iff rfl rfl c29 (R.mv rfl rfl (R.iff rfl rfl c29 (R.mv rfl rfl (R.iff rfl rfl c29 (R.mv rfl rfl (R.iff rfl rfl c29 (R.callF rfl cf33 rfl (fixed_Clamp.ok e31 (hg.fr0 h.fr0)) (?_))))))))
        rintro _ w ⟨rfl, f32⟩
        replace h := h.same f32
        obtain ⟨x33, e34, F⟩ := Option.bind_eq_some_iff.1 F
        refine R.iff rfl rfl c29 (R.mv rfl rfl (R.iff rfl rfl c29 (R.mv rfl rfl (R.iff rfl rfl c29 (R.mv rfl rfl (R.iff rfl rfl c29 (R.callF rfl cf34 rfl (echelonref01_Clamp.ok e34 (hg.fr0 h.fr0)) (?_))))))))
        rintro _ w ⟨rfl, f35⟩
        replace h := h.same f35
        obtain rfl := Option.some.inj F
        refine R.iff rfl rfl c29 (R.ib rfl rfl rfl rfl (R.pT rfl rfl c29 rfl (R.as rfl rfl (R.nil (fun a ha => ⟨ha.sub ⟨rfl, trivial⟩, h⟩)))))
      · replace F := (ifF c29).symm.trans F
        obtain rfl := Option.some.inj F
        refine R.not_ rfl rfl rfl c29 (R.not_ rfl rfl rfl c29 (R.not_ rfl rfl rfl c29 (R.not_ rfl rfl rfl c29 (R.not_ rfl rfl rfl c29 (R.not_ rfl rfl rfl c29 (R.not_ rfl rfl rfl c29 (R.not_ rfl rfl rfl c29 (R.not_ rfl rfl rfl c29 (R.pF rfl rfl c29 rfl (R.as rfl rfl (R.nil (fun a ha => ⟨ha.sub ⟨rfl, trivial⟩, h⟩))))))))))))
    · replace F := (ifF c22).symm.trans F
      obtain rfl := Option.some.inj F
      refine R.not_ rfl rfl rfl c22 (R.not_ rfl rfl rfl c22 (R.not_ rfl rfl rfl c22 (R.not_ rfl rfl rfl c22 (R.not_ rfl rfl rfl c22 (R.not_ rfl rfl rfl c22 (R.not_ rfl rfl rfl c22 (R.not_ rfl rfl rfl c22 (R.not_ rfl rfl rfl c22 (R.pF rfl rfl c22 rfl (R.mv rfl rfl (R.not_ rfl rfl rfl rfl (R.not_ rfl rfl rfl rfl (R.not_ rfl rfl rfl rfl (R.not_ rfl rfl rfl rfl (R.not_ rfl rfl rfl rfl (R.not_ rfl rfl rfl rfl (R.not_ rfl rfl rfl rfl (R.not_ rfl rfl rfl rfl (R.not_ rfl rfl rfl rfl (R.pF rfl rfl rfl rfl (R.as rfl rfl (R.nil (fun a ha => ⟨ha.sub ⟨rfl, trivial⟩, h⟩)))))))))))))))))))))))
  · clear F
    rintro a w ⟨ha, h⟩
    refine T.use ?_ ha
    have F := E6
    obtain rfl := Option.some.inj F
    refine T.ret (ret1 rfl rfl ⟨rfl, h.fr0⟩)

/-! echelon/echelonlaw01.FixedPrints: function 6 -/
noncomputable def echelonlaw01_FixedPrints (a0 : Int) : Option (Bool) :=
  (echelonlaw01_awake).bind fun x3 => (fixed_Print a0).bind fun x7 => (fixed_Parse x7).bind fun x11 => (if x3 then (echelonref01_Print a0).bind fun x26 => if x7 == x26 then (echelonref01_Bound a0).bind fun x30 => some ((x11.1 == x30) && (x11.2 == 0)) else some false else some false).bind fun (y15 : Bool) => some y15
theorem echelonlaw01_FixedPrints.ok {a0 : Int} {r : Bool} {W0 : World} (F : echelonlaw01_FixedPrints a0 = some r) (hg : Gl W0) :
    Calls Tryd.prog 6 [(.int .i64 a0 : Value)].toArray W0 fun e w' => ∃ v, e = .returned v ∧ (v = .bool r ∧ Fr0 W0 w') := by
  unfold echelonlaw01_FixedPrints at F
  refine calls_body 32 Tryd.func6 rfl rfl rfl ?_
  have h := H.nil W0
  refine T.seq fun Kk1 k1 => ?_
  refine T.region ?_
  refine R.as rfl rfl (R.nil (k1 _ _ ?_))
  refine T.seq fun Kk2 k2 => ?_
  refine T.region ?_
  obtain ⟨x3, e4, F⟩ := Option.bind_eq_some_iff.1 F
  refine R.callF rfl cf12 rfl (echelonlaw01_awake.ok e4 (hg.fr0 h.fr0)) (?_)
  rintro _ w ⟨rfl, f5⟩
  replace h := h.same f5
  refine R.as rfl rfl (R.nil (k2 _ _ ?_))
  refine T.seq fun Kk6 k6 => ?_
  refine T.region ?_
  obtain ⟨x7, e8, F⟩ := Option.bind_eq_some_iff.1 F
  refine R.mv rfl rfl (R.callF rfl cf35 rfl (fixed_Print.ok e8 (hg.fr0 h.fr0)) (?_))
  rintro _ w ⟨rfl, f9⟩
  replace h := h.same f9
  refine R.as rfl rfl (R.nil (k6 _ _ ?_))
  refine T.seq fun Kk10 k10 => ?_
  refine T.region ?_
  obtain ⟨x11, e12, F⟩ := Option.bind_eq_some_iff.1 F
  refine R.mv rfl rfl (R.callF rfl cf36 rfl (fixed_Parse.ok e12 (hg.fr0 h.fr0)) (?_))
  rintro _ w ⟨rfl, f13⟩
  replace h := h.same f13
  refine R.mv rfl rfl (R.ext rfl rfl rfl (R.ext rfl rfl rfl (R.as rfl rfl (R.as rfl rfl (R.nil (k10 _ _ ?_))))))
  obtain ⟨y15, F, E14⟩ := Option.bind_eq_some_iff.1 F
  refine T.cut (fun a w => Agr 32 [(2, .bool y15)] a ∧ H W0 (fun _ => False) w [] []) ?_ ?_
  · refine T.region ?_
    refine R.mv rfl rfl (R.mv rfl rfl (?_))
    refine bsplit x3 (fun c25 => ?_) (fun c25 => ?_)
    · replace F := (ifT c25).symm.trans F
      obtain ⟨x26, e27, F⟩ := Option.bind_eq_some_iff.1 F
      refine R.iff rfl rfl c25 (R.mv rfl rfl (R.iff rfl rfl c25 (R.mv rfl rfl (R.iff rfl rfl c25 (R.callF rfl cf37 rfl (echelonref01_Print.ok e27 (hg.fr0 h.fr0)) (?_))))))
      rintro _ w ⟨rfl, f28⟩
      replace h := h.same f28
      refine R.iff rfl rfl c25 (R.sb rfl rfl rfl rfl (R.pT rfl rfl c25 rfl (R.mv rfl rfl (?_))))
      refine bsplit (x7 == x26) (fun c29 => ?_) (fun c29 => ?_)
      · replace F := (ifT c29).symm.trans F
        obtain ⟨x30, e31, F⟩ := Option.bind_eq_some_iff.1 F
        refine R.iff rfl rfl c29 (R.mv rfl rfl (R.iff rfl rfl c29 (R.mv rfl rfl (R.iff rfl rfl c29 (R.callF rfl cf24 rfl (echelonref01_Bound.ok e31 (hg.fr0 h.fr0)) (?_))))))
        rintro _ w ⟨rfl, f32⟩
        replace h := h.same f32
        refine R.iff rfl rfl c29 (R.ib rfl rfl rfl rfl (R.pT rfl rfl c29 rfl (R.mv rfl rfl (?_))))
        refine bsplit (x11.1 == x30) (fun c33 => ?_) (fun c33 => ?_)
        · replace F := (andT c33).symm.trans F
          obtain rfl := Option.some.inj F
          refine R.iff rfl rfl c33 (R.mv rfl rfl (R.iff rfl rfl c33 (R.ib rfl rfl rfl rfl (R.pT rfl rfl c33 rfl (R.as rfl rfl (R.nil (fun a ha => ⟨ha.sub ⟨rfl, trivial⟩, h⟩)))))))
        · replace F := (andF c33).symm.trans F
          obtain rfl := Option.some.inj F
          refine R.not_ rfl rfl rfl c33 (R.not_ rfl rfl rfl c33 (R.pF rfl rfl c33 rfl (R.as rfl rfl (R.nil (fun a ha => ⟨ha.sub ⟨rfl, trivial⟩, h⟩)))))
      · replace F := (ifF c29).symm.trans F
        obtain rfl := Option.some.inj F
        refine R.not_ rfl rfl rfl c29 (R.not_ rfl rfl rfl c29 (R.not_ rfl rfl rfl c29 (R.not_ rfl rfl rfl c29 (R.pF rfl rfl c29 rfl (R.mv rfl rfl (R.not_ rfl rfl rfl rfl (R.not_ rfl rfl rfl rfl (R.pF rfl rfl rfl rfl (R.as rfl rfl (R.nil (fun a ha => ⟨ha.sub ⟨rfl, trivial⟩, h⟩)))))))))))
    · replace F := (ifF c25).symm.trans F
      obtain rfl := Option.some.inj F
      refine R.not_ rfl rfl rfl c25 (R.not_ rfl rfl rfl c25 (R.not_ rfl rfl rfl c25 (R.not_ rfl rfl rfl c25 (R.pF rfl rfl c25 rfl (R.mv rfl rfl (R.not_ rfl rfl rfl rfl (R.not_ rfl rfl rfl rfl (R.not_ rfl rfl rfl rfl (R.not_ rfl rfl rfl rfl (R.pF rfl rfl rfl rfl (R.mv rfl rfl (R.not_ rfl rfl rfl rfl (R.not_ rfl rfl rfl rfl (R.pF rfl rfl rfl rfl (R.as rfl rfl (R.nil (fun a ha => ⟨ha.sub ⟨rfl, trivial⟩, h⟩)))))))))))))))))
  · clear F
    rintro a w ⟨ha, h⟩
    refine T.use ?_ ha
    have F := E14
    obtain rfl := Option.some.inj F
    refine T.ret (ret1 rfl rfl ⟨rfl, h.fr0⟩)

/-! echelon/echelonlaw01.FixedReads: function 7 -/
noncomputable def echelonlaw01_FixedReads (a0 : Str) : Option (Bool) :=
  (echelonlaw01_awake).bind fun x3 => (fixed_Parse a0).bind fun x7 => (echelonref01_Parse a0).bind fun x11 => (if x3 then if x7.1 == x11.1 then if x7.2 == x11.2 then if x7.2 != 0 then some true else (fixed_Print x7.1).bind fun x27 => some (x27 == a0) else some false else some false else some false).bind fun (y15 : Bool) => some y15
theorem echelonlaw01_FixedReads.ok {a0 : Str} {r : Bool} {W0 : World} (F : echelonlaw01_FixedReads a0 = some r) (hg : Gl W0) :
    Calls Tryd.prog 7 [(vS a0 : Value)].toArray W0 fun e w' => ∃ v, e = .returned v ∧ (v = .bool r ∧ Fr0 W0 w') := by
  unfold echelonlaw01_FixedReads at F
  refine calls_body 40 Tryd.func7 rfl rfl rfl ?_
  have h := H.nil W0
  refine T.seq fun Kk1 k1 => ?_
  refine T.region ?_
  refine R.as rfl rfl (R.nil (k1 _ _ ?_))
  refine T.seq fun Kk2 k2 => ?_
  refine T.region ?_
  obtain ⟨x3, e4, F⟩ := Option.bind_eq_some_iff.1 F
  refine R.callF rfl cf12 rfl (echelonlaw01_awake.ok e4 (hg.fr0 h.fr0)) (?_)
  rintro _ w ⟨rfl, f5⟩
  replace h := h.same f5
  refine R.as rfl rfl (R.nil (k2 _ _ ?_))
  refine T.seq fun Kk6 k6 => ?_
  refine T.region ?_
  obtain ⟨x7, e8, F⟩ := Option.bind_eq_some_iff.1 F
  refine R.mv rfl rfl (R.callF rfl cf36 rfl (fixed_Parse.ok e8 (hg.fr0 h.fr0)) (?_))
  rintro _ w ⟨rfl, f9⟩
  replace h := h.same f9
  refine R.mv rfl rfl (R.ext rfl rfl rfl (R.ext rfl rfl rfl (R.as rfl rfl (R.as rfl rfl (R.nil (k6 _ _ ?_))))))
  refine T.seq fun Kk10 k10 => ?_
  refine T.region ?_
  obtain ⟨x11, e12, F⟩ := Option.bind_eq_some_iff.1 F
  refine R.mv rfl rfl (R.callF rfl cf38 rfl (echelonref01_Parse.ok e12 (hg.fr0 h.fr0)) (?_))
  rintro _ w ⟨rfl, f13⟩
  replace h := h.same f13
  refine R.mv rfl rfl (R.ext rfl rfl rfl (R.ext rfl rfl rfl (R.as rfl rfl (R.as rfl rfl (R.nil (k10 _ _ ?_))))))
  obtain ⟨y15, F, E14⟩ := Option.bind_eq_some_iff.1 F
  refine T.cut (fun a w => Agr 40 [(2, .bool y15)] a ∧ H W0 (fun _ => False) w [] []) ?_ ?_
  · refine T.region ?_
    refine R.mv rfl rfl (R.mv rfl rfl (?_))
    refine bsplit x3 (fun c23 => ?_) (fun c23 => ?_)
    · replace F := (ifT c23).symm.trans F
      refine R.iff rfl rfl c23 (R.mv rfl rfl (R.iff rfl rfl c23 (R.mv rfl rfl (R.iff rfl rfl c23 (R.ib rfl rfl rfl rfl (R.pT rfl rfl c23 rfl (R.mv rfl rfl (?_))))))))
      refine bsplit (x7.1 == x11.1) (fun c24 => ?_) (fun c24 => ?_)
      · replace F := (ifT c24).symm.trans F
        refine R.iff rfl rfl c24 (R.mv rfl rfl (R.iff rfl rfl c24 (R.mv rfl rfl (R.iff rfl rfl c24 (R.ib rfl rfl rfl rfl (R.pT rfl rfl c24 rfl (R.mv rfl rfl (?_))))))))
        refine bsplit (x7.2 == x11.2) (fun c25 => ?_) (fun c25 => ?_)
        · replace F := (ifT c25).symm.trans F
          refine R.iff rfl rfl c25 (R.mv rfl rfl (R.iff rfl rfl c25 (R.ib rfl rfl rfl rfl (R.iff rfl rfl c25 (R.mv rfl rfl (?_))))))
          refine bsplit (x7.2 != 0) (fun c26 => ?_) (fun c26 => ?_)
          · replace F := (ifT c26).symm.trans F
            obtain rfl := Option.some.inj F
            refine R.not_ rfl rfl rfl c26 (R.not_ rfl rfl rfl c26 (R.not_ rfl rfl rfl c26 (R.not_ rfl rfl rfl c26 (R.iff rfl rfl c25 (R.pT rfl rfl c26 rfl (R.pT rfl rfl c25 rfl (R.as rfl rfl (R.nil (fun a ha => ⟨ha.sub ⟨rfl, trivial⟩, h⟩)))))))))
          · replace F := (ifF c26).symm.trans F
            obtain ⟨x27, e28, F⟩ := Option.bind_eq_some_iff.1 F
            refine R.iff rfl rfl c26 (R.mv rfl rfl (R.iff rfl rfl c26 (R.callF rfl cf35 rfl (fixed_Print.ok e28 (hg.fr0 h.fr0)) (?_))))
            rintro _ w ⟨rfl, f29⟩
            replace h := h.same f29
            obtain rfl := Option.some.inj F
            refine R.iff rfl rfl c26 (R.mv rfl rfl (R.iff rfl rfl c26 (R.sb rfl rfl rfl rfl (R.iff rfl rfl c25 (R.pF rfl rfl c26 rfl (R.pT rfl rfl c25 rfl (R.as rfl rfl (R.nil (fun a ha => ⟨ha.sub ⟨rfl, trivial⟩, h⟩)))))))))
        · replace F := (ifF c25).symm.trans F
          obtain rfl := Option.some.inj F
          refine R.not_ rfl rfl rfl c25 (R.not_ rfl rfl rfl c25 (R.not_ rfl rfl rfl c25 (R.offU rfl rfl rfl (R.offU rfl rfl rfl (R.offU rfl rfl rfl (R.offU rfl rfl rfl (R.not_ rfl rfl rfl c25 (R.pF rfl rfl c25 rfl (R.as rfl rfl (R.nil (fun a ha => ⟨ha.sub ⟨rfl, trivial⟩, h⟩)))))))))))
      · replace F := (ifF c24).symm.trans F
        obtain rfl := Option.some.inj F
        refine R.not_ rfl rfl rfl c24 (R.not_ rfl rfl rfl c24 (R.not_ rfl rfl rfl c24 (R.pF rfl rfl c24 rfl (R.mv rfl rfl (R.not_ rfl rfl rfl rfl (R.not_ rfl rfl rfl rfl (R.not_ rfl rfl rfl rfl (R.offU rfl rfl rfl (R.offU rfl rfl rfl (R.offU rfl rfl rfl (R.offU rfl rfl rfl (R.not_ rfl rfl rfl rfl (R.pF rfl rfl rfl rfl (R.as rfl rfl (R.nil (fun a ha => ⟨ha.sub ⟨rfl, trivial⟩, h⟩))))))))))))))))
    · replace F := (ifF c23).symm.trans F
      obtain rfl := Option.some.inj F
      refine R.not_ rfl rfl rfl c23 (R.not_ rfl rfl rfl c23 (R.not_ rfl rfl rfl c23 (R.pF rfl rfl c23 rfl (R.mv rfl rfl (R.not_ rfl rfl rfl rfl (R.not_ rfl rfl rfl rfl (R.not_ rfl rfl rfl rfl (R.pF rfl rfl rfl rfl (R.mv rfl rfl (R.not_ rfl rfl rfl rfl (R.not_ rfl rfl rfl rfl (R.not_ rfl rfl rfl rfl (R.offU rfl rfl rfl (R.offU rfl rfl rfl (R.offU rfl rfl rfl (R.offU rfl rfl rfl (R.not_ rfl rfl rfl rfl (R.pF rfl rfl rfl rfl (R.as rfl rfl (R.nil (fun a ha => ⟨ha.sub ⟨rfl, trivial⟩, h⟩)))))))))))))))))))))
  · clear F
    rintro a w ⟨ha, h⟩
    refine T.use ?_ ha
    have F := E14
    obtain rfl := Option.some.inj F
    refine T.ret (ret1 rfl rfl ⟨rfl, h.fr0⟩)

/-! echelon/echelonlaw01.FixedSums: function 8 -/
noncomputable def echelonlaw01_FixedSums (a0 : Int) (a1 : Int) (a2 : Int) : Option (Bool) :=
  (echelonlaw01_awake).bind fun x3 => (fixed_Bound a0).bind fun x7 => (fixed_Bound a1).bind fun x11 => (fixed_Bound a2).bind fun x15 => (fixed_Add x7 x11).bind fun x19 => (fixed_Mul x7 x11).bind fun x23 => (fixed_Div x7 256).bind fun x27 => ((fixed_Add x11 x7).bind fun x45 => if x19 == x45 then (fixed_Mul x11 x7).bind fun x49 => if x23 == x49 then (fixed_Mul x7 256).bind fun x53 => some ((x53 == x7) && ((x27.1 == x7) && (x27.2 == 0))) else some false else some false).bind fun (y31 : Bool) => ((echelonlaw01_inside x19).bind fun x67 => if !x67 then some true else (fixed_Sub x19 x11).bind fun x71 => some (x71 == x7)).bind fun (y59 : Bool) => (if decide (x7 > x11) then some true else (fixed_Add x7 x15).bind fun x92 => (fixed_Add x11 x15).bind fun x95 => if decide (x92 ≤ x95) then if decide (x15 < 0) then some true else (fixed_Mul x7 x15).bind fun x100 => (fixed_Mul x11 x15).bind fun x103 => some (decide (x100 ≤ x103)) else some false).bind fun (y75 : Bool) => (some ((decide (x19 ≥ (-2147483647))) && ((decide (x19 ≤ 2147483647)) && ((decide (x7 ≥ (-2147483647))) && (decide (x7 ≤ 2147483647)))))).bind fun (y107 : Bool) => (some (x3 && (y31 && (y59 && (y75 && y107))))).bind fun (y115 : Bool) => some y115
theorem echelonlaw01_FixedSums.ok {a0 : Int} {a1 : Int} {a2 : Int} {r : Bool} {W0 : World} (F : echelonlaw01_FixedSums a0 a1 a2 = some r) (hg : Gl W0) :
    Calls Tryd.prog 8 [(.int .i64 a0 : Value), (.int .i64 a1 : Value), (.int .i64 a2 : Value)].toArray W0 fun e w' => ∃ v, e = .returned v ∧ (v = .bool r ∧ Fr0 W0 w') := by
  unfold echelonlaw01_FixedSums at F
  refine calls_body 126 Tryd.func8 rfl rfl rfl ?_
  have h := H.nil W0
  refine T.seq fun Kk1 k1 => ?_
  refine T.region ?_
  refine R.as rfl rfl (R.nil (k1 _ _ ?_))
  refine T.seq fun Kk2 k2 => ?_
  refine T.region ?_
  obtain ⟨x3, e4, F⟩ := Option.bind_eq_some_iff.1 F
  refine R.callF rfl cf12 rfl (echelonlaw01_awake.ok e4 (hg.fr0 h.fr0)) (?_)
  rintro _ w ⟨rfl, f5⟩
  replace h := h.same f5
  refine R.as rfl rfl (R.nil (k2 _ _ ?_))
  refine T.seq fun Kk6 k6 => ?_
  refine T.region ?_
  obtain ⟨x7, e8, F⟩ := Option.bind_eq_some_iff.1 F
  refine R.mv rfl rfl (R.callF rfl cf23 rfl (fixed_Bound.ok e8 (hg.fr0 h.fr0)) (?_))
  rintro _ w ⟨rfl, f9⟩
  replace h := h.same f9
  refine R.as rfl rfl (R.nil (k6 _ _ ?_))
  refine T.seq fun Kk10 k10 => ?_
  refine T.region ?_
  obtain ⟨x11, e12, F⟩ := Option.bind_eq_some_iff.1 F
  refine R.mv rfl rfl (R.callF rfl cf23 rfl (fixed_Bound.ok e12 (hg.fr0 h.fr0)) (?_))
  rintro _ w ⟨rfl, f13⟩
  replace h := h.same f13
  refine R.as rfl rfl (R.nil (k10 _ _ ?_))
  refine T.seq fun Kk14 k14 => ?_
  refine T.region ?_
  obtain ⟨x15, e16, F⟩ := Option.bind_eq_some_iff.1 F
  refine R.mv rfl rfl (R.callF rfl cf23 rfl (fixed_Bound.ok e16 (hg.fr0 h.fr0)) (?_))
  rintro _ w ⟨rfl, f17⟩
  replace h := h.same f17
  refine R.as rfl rfl (R.nil (k14 _ _ ?_))
  refine T.seq fun Kk18 k18 => ?_
  refine T.region ?_
  obtain ⟨x19, e20, F⟩ := Option.bind_eq_some_iff.1 F
  refine R.mv rfl rfl (R.mv rfl rfl (R.callF rfl cf15 rfl (fixed_Add.ok e20 (hg.fr0 h.fr0)) (?_)))
  rintro _ w ⟨rfl, f21⟩
  replace h := h.same f21
  refine R.as rfl rfl (R.nil (k18 _ _ ?_))
  refine T.seq fun Kk22 k22 => ?_
  refine T.region ?_
  obtain ⟨x23, e24, F⟩ := Option.bind_eq_some_iff.1 F
  refine R.mv rfl rfl (R.mv rfl rfl (R.callF rfl cf19 rfl (fixed_Mul.ok e24 (hg.fr0 h.fr0)) (?_)))
  rintro _ w ⟨rfl, f25⟩
  replace h := h.same f25
  refine R.as rfl rfl (R.nil (k22 _ _ ?_))
  refine T.seq fun Kk26 k26 => ?_
  refine T.region ?_
  obtain ⟨x27, e28, F⟩ := Option.bind_eq_some_iff.1 F
  refine R.mv rfl rfl (R.callF rfl cf13 rfl (fixed_Div.ok e28 (hg.fr0 h.fr0)) (?_))
  rintro _ w ⟨rfl, f29⟩
  replace h := h.same f29
  refine R.mv rfl rfl (R.ext rfl rfl rfl (R.ext rfl rfl rfl (R.as rfl rfl (R.as rfl rfl (R.nil (k26 _ _ ?_))))))
  obtain ⟨y31, F, E30⟩ := Option.bind_eq_some_iff.1 F
  refine T.cut (fun a w => Agr 126 [(7, .bool x3), (8, .int .i64 x7), (9, .int .i64 x11), (10, .int .i64 x15), (11, .int .i64 x19), (15, .bool y31)] a ∧ H W0 (fun _ => False) w [] []) ?_ ?_
  · refine T.region ?_
    obtain ⟨x45, e46, F⟩ := Option.bind_eq_some_iff.1 F
    refine R.mv rfl rfl (R.mv rfl rfl (R.mv rfl rfl (R.callF rfl cf15 rfl (fixed_Add.ok e46 (hg.fr0 h.fr0)) (?_))))
    rintro _ w ⟨rfl, f47⟩
    replace h := h.same f47
    refine R.ib rfl rfl rfl rfl (R.mv rfl rfl (?_))
    refine bsplit (x19 == x45) (fun c48 => ?_) (fun c48 => ?_)
    · replace F := (ifT c48).symm.trans F
      obtain ⟨x49, e50, F⟩ := Option.bind_eq_some_iff.1 F
      refine R.iff rfl rfl c48 (R.mv rfl rfl (R.iff rfl rfl c48 (R.mv rfl rfl (R.iff rfl rfl c48 (R.mv rfl rfl (R.iff rfl rfl c48 (R.callF rfl cf19 rfl (fixed_Mul.ok e50 (hg.fr0 h.fr0)) (?_))))))))
      rintro _ w ⟨rfl, f51⟩
      replace h := h.same f51
      refine R.iff rfl rfl c48 (R.ib rfl rfl rfl rfl (R.pT rfl rfl c48 rfl (R.mv rfl rfl (?_))))
      refine bsplit (x23 == x49) (fun c52 => ?_) (fun c52 => ?_)
      · replace F := (ifT c52).symm.trans F
        obtain ⟨x53, e54, F⟩ := Option.bind_eq_some_iff.1 F
        refine R.iff rfl rfl c52 (R.mv rfl rfl (R.iff rfl rfl c52 (R.callF rfl cf19 rfl (fixed_Mul.ok e54 (hg.fr0 h.fr0)) (?_))))
        rintro _ w ⟨rfl, f55⟩
        replace h := h.same f55
        refine R.iff rfl rfl c52 (R.mv rfl rfl (R.iff rfl rfl c52 (R.ib rfl rfl rfl rfl (R.pT rfl rfl c52 rfl (R.mv rfl rfl (?_))))))
        refine bsplit (x53 == x7) (fun c56 => ?_) (fun c56 => ?_)
        · replace F := (andT c56).symm.trans F
          refine R.iff rfl rfl c56 (R.mv rfl rfl (R.iff rfl rfl c56 (R.mv rfl rfl (R.iff rfl rfl c56 (R.ib rfl rfl rfl rfl (R.pT rfl rfl c56 rfl (R.mv rfl rfl (?_))))))))
          refine bsplit (x27.1 == x7) (fun c57 => ?_) (fun c57 => ?_)
          · replace F := (andT c57).symm.trans F
            obtain rfl := Option.some.inj F
            refine R.iff rfl rfl c57 (R.mv rfl rfl (R.iff rfl rfl c57 (R.ib rfl rfl rfl rfl (R.pT rfl rfl c57 rfl (R.as rfl rfl (R.nil (fun a ha => ⟨ha.sub ⟨rfl, rfl, rfl, rfl, rfl, rfl, trivial⟩, h⟩)))))))
          · replace F := (andF c57).symm.trans F
            obtain rfl := Option.some.inj F
            refine R.not_ rfl rfl rfl c57 (R.not_ rfl rfl rfl c57 (R.pF rfl rfl c57 rfl (R.as rfl rfl (R.nil (fun a ha => ⟨ha.sub ⟨rfl, rfl, rfl, rfl, rfl, rfl, trivial⟩, h⟩)))))
        · replace F := (andF c56).symm.trans F
          obtain rfl := Option.some.inj F
          refine R.not_ rfl rfl rfl c56 (R.not_ rfl rfl rfl c56 (R.not_ rfl rfl rfl c56 (R.pF rfl rfl c56 rfl (R.mv rfl rfl (R.not_ rfl rfl rfl rfl (R.not_ rfl rfl rfl rfl (R.pF rfl rfl rfl rfl (R.as rfl rfl (R.nil (fun a ha => ⟨ha.sub ⟨rfl, rfl, rfl, rfl, rfl, rfl, trivial⟩, h⟩))))))))))
      · replace F := (ifF c52).symm.trans F
        obtain rfl := Option.some.inj F
        refine R.not_ rfl rfl rfl c52 (R.not_ rfl rfl rfl c52 (R.not_ rfl rfl rfl c52 (R.not_ rfl rfl rfl c52 (R.pF rfl rfl c52 rfl (R.mv rfl rfl (R.not_ rfl rfl rfl rfl (R.not_ rfl rfl rfl rfl (R.not_ rfl rfl rfl rfl (R.pF rfl rfl rfl rfl (R.mv rfl rfl (R.not_ rfl rfl rfl rfl (R.not_ rfl rfl rfl rfl (R.pF rfl rfl rfl rfl (R.as rfl rfl (R.nil (fun a ha => ⟨ha.sub ⟨rfl, rfl, rfl, rfl, rfl, rfl, trivial⟩, h⟩))))))))))))))))
    · replace F := (ifF c48).symm.trans F
      obtain rfl := Option.some.inj F
      refine R.not_ rfl rfl rfl c48 (R.not_ rfl rfl rfl c48 (R.not_ rfl rfl rfl c48 (R.not_ rfl rfl rfl c48 (R.not_ rfl rfl rfl c48 (R.pF rfl rfl c48 rfl (R.mv rfl rfl (R.not_ rfl rfl rfl rfl (R.not_ rfl rfl rfl rfl (R.not_ rfl rfl rfl rfl (R.not_ rfl rfl rfl rfl (R.pF rfl rfl rfl rfl (R.mv rfl rfl (R.not_ rfl rfl rfl rfl (R.not_ rfl rfl rfl rfl (R.not_ rfl rfl rfl rfl (R.pF rfl rfl rfl rfl (R.mv rfl rfl (R.not_ rfl rfl rfl rfl (R.not_ rfl rfl rfl rfl (R.pF rfl rfl rfl rfl (R.as rfl rfl (R.nil (fun a ha => ⟨ha.sub ⟨rfl, rfl, rfl, rfl, rfl, rfl, trivial⟩, h⟩)))))))))))))))))))))))
  · clear F
    rintro a w ⟨ha, h⟩
    refine T.use ?_ ha
    have F := E30
    obtain ⟨y59, F, E58⟩ := Option.bind_eq_some_iff.1 F
    refine T.cut (fun a w => Agr 126 [(7, .bool x3), (8, .int .i64 x7), (9, .int .i64 x11), (10, .int .i64 x15), (11, .int .i64 x19), (15, .bool y31), (16, .bool y59)] a ∧ H W0 (fun _ => False) w [] []) ?_ ?_
    · refine T.region ?_
      obtain ⟨x67, e68, F⟩ := Option.bind_eq_some_iff.1 F
      refine R.mv rfl rfl (R.callF rfl cf39 rfl (echelonlaw01_inside.ok e68 (hg.fr0 h.fr0)) (?_))
      rintro _ w ⟨rfl, f69⟩
      replace h := h.same f69
      refine R.not rfl rfl (R.mv rfl rfl (?_))
      refine bsplit (!x67) (fun c70 => ?_) (fun c70 => ?_)
      · replace F := (ifT c70).symm.trans F
        obtain rfl := Option.some.inj F
        refine R.not_ rfl rfl rfl c70 (R.not_ rfl rfl rfl c70 (R.not_ rfl rfl rfl c70 (R.not_ rfl rfl rfl c70 (R.not_ rfl rfl rfl c70 (R.pT rfl rfl c70 rfl (R.as rfl rfl (R.nil (fun a ha => ⟨ha.sub ⟨rfl, rfl, rfl, rfl, rfl, rfl, rfl, trivial⟩, h⟩))))))))
      · replace F := (ifF c70).symm.trans F
        obtain ⟨x71, e72, F⟩ := Option.bind_eq_some_iff.1 F
        refine R.iff rfl rfl c70 (R.mv rfl rfl (R.iff rfl rfl c70 (R.mv rfl rfl (R.iff rfl rfl c70 (R.callF rfl cf17 rfl (fixed_Sub.ok e72 (hg.fr0 h.fr0)) (?_))))))
        rintro _ w ⟨rfl, f73⟩
        replace h := h.same f73
        obtain rfl := Option.some.inj F
        refine R.iff rfl rfl c70 (R.mv rfl rfl (R.iff rfl rfl c70 (R.ib rfl rfl rfl rfl (R.pF rfl rfl c70 rfl (R.as rfl rfl (R.nil (fun a ha => ⟨ha.sub ⟨rfl, rfl, rfl, rfl, rfl, rfl, rfl, trivial⟩, h⟩)))))))
    · clear F
      rintro a w ⟨ha, h⟩
      refine T.use ?_ ha
      have F := E58
      obtain ⟨y75, F, E74⟩ := Option.bind_eq_some_iff.1 F
      refine T.cut (fun a w => Agr 126 [(7, .bool x3), (8, .int .i64 x7), (11, .int .i64 x19), (15, .bool y31), (16, .bool y59), (17, .bool y75)] a ∧ H W0 (fun _ => False) w [] []) ?_ ?_
      · refine T.region ?_
        refine R.mv rfl rfl (R.mv rfl rfl (R.ib rfl rfl rfl rfl (R.mv rfl rfl (?_))))
        refine bsplit (decide (x7 > x11)) (fun c91 => ?_) (fun c91 => ?_)
        · replace F := (ifT c91).symm.trans F
          obtain rfl := Option.some.inj F
          refine R.not_ rfl rfl rfl c91 (R.not_ rfl rfl rfl c91 (R.not_ rfl rfl rfl c91 (R.not_ rfl rfl rfl c91 (R.not_ rfl rfl rfl c91 (R.not_ rfl rfl rfl c91 (R.not_ rfl rfl rfl c91 (R.not_ rfl rfl rfl c91 (R.offU rfl rfl rfl (R.offU rfl rfl rfl (R.offU rfl rfl rfl (R.offU rfl rfl rfl (R.offU rfl rfl rfl (R.offU rfl rfl rfl (R.offU rfl rfl rfl (R.offU rfl rfl rfl (R.offU rfl rfl rfl (R.offU rfl rfl rfl (R.offU rfl rfl rfl (R.not_ rfl rfl rfl c91 (R.pT rfl rfl c91 rfl (R.as rfl rfl (R.nil (fun a ha => ⟨ha.sub ⟨rfl, rfl, rfl, rfl, rfl, rfl, trivial⟩, h⟩)))))))))))))))))))))))
        · replace F := (ifF c91).symm.trans F
          obtain ⟨x92, e93, F⟩ := Option.bind_eq_some_iff.1 F
          refine R.iff rfl rfl c91 (R.mv rfl rfl (R.iff rfl rfl c91 (R.mv rfl rfl (R.iff rfl rfl c91 (R.callF rfl cf15 rfl (fixed_Add.ok e93 (hg.fr0 h.fr0)) (?_))))))
          rintro _ w ⟨rfl, f94⟩
          replace h := h.same f94
          obtain ⟨x95, e96, F⟩ := Option.bind_eq_some_iff.1 F
          refine R.iff rfl rfl c91 (R.mv rfl rfl (R.iff rfl rfl c91 (R.mv rfl rfl (R.iff rfl rfl c91 (R.callF rfl cf15 rfl (fixed_Add.ok e96 (hg.fr0 h.fr0)) (?_))))))
          rintro _ w ⟨rfl, f97⟩
          replace h := h.same f97
          refine R.iff rfl rfl c91 (R.ib rfl rfl rfl rfl (R.iff rfl rfl c91 (R.mv rfl rfl (?_))))
          refine bsplit (decide (x92 ≤ x95)) (fun c98 => ?_) (fun c98 => ?_)
          · replace F := (ifT c98).symm.trans F
            refine R.iff rfl rfl c98 (R.mv rfl rfl (R.iff rfl rfl c98 (R.ib rfl rfl rfl rfl (R.iff rfl rfl c98 (R.mv rfl rfl (?_))))))
            refine bsplit (decide (x15 < 0)) (fun c99 => ?_) (fun c99 => ?_)
            · replace F := (ifT c99).symm.trans F
              obtain rfl := Option.some.inj F
              refine R.not_ rfl rfl rfl c99 (R.not_ rfl rfl rfl c99 (R.not_ rfl rfl rfl c99 (R.not_ rfl rfl rfl c99 (R.not_ rfl rfl rfl c99 (R.not_ rfl rfl rfl c99 (R.not_ rfl rfl rfl c99 (R.iff rfl rfl c98 (R.pT rfl rfl c99 rfl (R.iff rfl rfl c91 (R.pT rfl rfl c98 rfl (R.pF rfl rfl c91 rfl (R.as rfl rfl (R.nil (fun a ha => ⟨ha.sub ⟨rfl, rfl, rfl, rfl, rfl, rfl, trivial⟩, h⟩))))))))))))))
            · replace F := (ifF c99).symm.trans F
              obtain ⟨x100, e101, F⟩ := Option.bind_eq_some_iff.1 F
              refine R.iff rfl rfl c99 (R.mv rfl rfl (R.iff rfl rfl c99 (R.mv rfl rfl (R.iff rfl rfl c99 (R.callF rfl cf19 rfl (fixed_Mul.ok e101 (hg.fr0 h.fr0)) (?_))))))
              rintro _ w ⟨rfl, f102⟩
              replace h := h.same f102
              obtain ⟨x103, e104, F⟩ := Option.bind_eq_some_iff.1 F
              refine R.iff rfl rfl c99 (R.mv rfl rfl (R.iff rfl rfl c99 (R.mv rfl rfl (R.iff rfl rfl c99 (R.callF rfl cf19 rfl (fixed_Mul.ok e104 (hg.fr0 h.fr0)) (?_))))))
              rintro _ w ⟨rfl, f105⟩
              replace h := h.same f105
              obtain rfl := Option.some.inj F
              refine R.iff rfl rfl c99 (R.ib rfl rfl rfl rfl (R.iff rfl rfl c98 (R.pF rfl rfl c99 rfl (R.iff rfl rfl c91 (R.pT rfl rfl c98 rfl (R.pF rfl rfl c91 rfl (R.as rfl rfl (R.nil (fun a ha => ⟨ha.sub ⟨rfl, rfl, rfl, rfl, rfl, rfl, trivial⟩, h⟩)))))))))
          · replace F := (ifF c98).symm.trans F
            obtain rfl := Option.some.inj F
            refine R.not_ rfl rfl rfl c98 (R.not_ rfl rfl rfl c98 (R.not_ rfl rfl rfl c98 (R.offU rfl rfl rfl (R.offU rfl rfl rfl (R.offU rfl rfl rfl (R.offU rfl rfl rfl (R.offU rfl rfl rfl (R.offU rfl rfl rfl (R.offU rfl rfl rfl (R.not_ rfl rfl rfl c98 (R.iff rfl rfl c91 (R.pF rfl rfl c98 rfl (R.pF rfl rfl c91 rfl (R.as rfl rfl (R.nil (fun a ha => ⟨ha.sub ⟨rfl, rfl, rfl, rfl, rfl, rfl, trivial⟩, h⟩))))))))))))))))
      · clear F
        rintro a w ⟨ha, h⟩
        refine T.use ?_ ha
        have F := E74
        obtain ⟨y107, F, E106⟩ := Option.bind_eq_some_iff.1 F
        refine T.cut (fun a w => Agr 126 [(7, .bool x3), (15, .bool y31), (16, .bool y59), (17, .bool y75), (18, .bool y107)] a ∧ H W0 (fun _ => False) w [] []) ?_ ?_
        · refine T.region ?_
          refine R.mv rfl rfl (R.ib rfl rfl rfl rfl (R.mv rfl rfl (?_)))
          refine bsplit (decide (x19 ≥ (-2147483647))) (fun c111 => ?_) (fun c111 => ?_)
          · replace F := (andT c111).symm.trans F
            refine R.iff rfl rfl c111 (R.mv rfl rfl (R.iff rfl rfl c111 (R.ib rfl rfl rfl rfl (R.pT rfl rfl c111 rfl (R.mv rfl rfl (?_))))))
            refine bsplit (decide (x19 ≤ 2147483647)) (fun c112 => ?_) (fun c112 => ?_)
            · replace F := (andT c112).symm.trans F
              refine R.iff rfl rfl c112 (R.mv rfl rfl (R.iff rfl rfl c112 (R.ib rfl rfl rfl rfl (R.pT rfl rfl c112 rfl (R.mv rfl rfl (?_))))))
              refine bsplit (decide (x7 ≥ (-2147483647))) (fun c113 => ?_) (fun c113 => ?_)
              · replace F := (andT c113).symm.trans F
                obtain rfl := Option.some.inj F
                refine R.iff rfl rfl c113 (R.mv rfl rfl (R.iff rfl rfl c113 (R.ib rfl rfl rfl rfl (R.pT rfl rfl c113 rfl (R.as rfl rfl (R.nil (fun a ha => ⟨ha.sub ⟨rfl, rfl, rfl, rfl, rfl, trivial⟩, h⟩)))))))
              · replace F := (andF c113).symm.trans F
                obtain rfl := Option.some.inj F
                refine R.not_ rfl rfl rfl c113 (R.not_ rfl rfl rfl c113 (R.pF rfl rfl c113 rfl (R.as rfl rfl (R.nil (fun a ha => ⟨ha.sub ⟨rfl, rfl, rfl, rfl, rfl, trivial⟩, h⟩)))))
            · replace F := (andF c112).symm.trans F
              obtain rfl := Option.some.inj F
              refine R.not_ rfl rfl rfl c112 (R.not_ rfl rfl rfl c112 (R.pF rfl rfl c112 rfl (R.mv rfl rfl (R.not_ rfl rfl rfl rfl (R.not_ rfl rfl rfl rfl (R.pF rfl rfl rfl rfl (R.as rfl rfl (R.nil (fun a ha => ⟨ha.sub ⟨rfl, rfl, rfl, rfl, rfl, trivial⟩, h⟩)))))))))
          · replace F := (andF c111).symm.trans F
            obtain rfl := Option.some.inj F
            refine R.not_ rfl rfl rfl c111 (R.not_ rfl rfl rfl c111 (R.pF rfl rfl c111 rfl (R.mv rfl rfl (R.not_ rfl rfl rfl rfl (R.not_ rfl rfl rfl rfl (R.pF rfl rfl rfl rfl (R.mv rfl rfl (R.not_ rfl rfl rfl rfl (R.not_ rfl rfl rfl rfl (R.pF rfl rfl rfl rfl (R.as rfl rfl (R.nil (fun a ha => ⟨ha.sub ⟨rfl, rfl, rfl, rfl, rfl, trivial⟩, h⟩)))))))))))))
        · clear F
          rintro a w ⟨ha, h⟩
          refine T.use ?_ ha
          have F := E106
          obtain ⟨y115, F, E114⟩ := Option.bind_eq_some_iff.1 F
          refine T.cut (fun a w => Agr 126 [(6, .bool y115)] a ∧ H W0 (fun _ => False) w [] []) ?_ ?_
          · refine T.region ?_
            refine R.mv rfl rfl (R.mv rfl rfl (?_))
            refine bsplit x3 (fun c120 => ?_) (fun c120 => ?_)
            · replace F := (andT c120).symm.trans F
              refine R.iff rfl rfl c120 (R.mv rfl rfl (R.pT rfl rfl c120 rfl (R.mv rfl rfl (?_))))
              refine bsplit y31 (fun c121 => ?_) (fun c121 => ?_)
              · replace F := (andT c121).symm.trans F
                refine R.iff rfl rfl c121 (R.mv rfl rfl (R.pT rfl rfl c121 rfl (R.mv rfl rfl (?_))))
                refine bsplit y59 (fun c122 => ?_) (fun c122 => ?_)
                · replace F := (andT c122).symm.trans F
                  refine R.iff rfl rfl c122 (R.mv rfl rfl (R.pT rfl rfl c122 rfl (R.mv rfl rfl (?_))))
                  refine bsplit y75 (fun c123 => ?_) (fun c123 => ?_)
                  · replace F := (andT c123).symm.trans F
                    obtain rfl := Option.some.inj F
                    refine R.iff rfl rfl c123 (R.mv rfl rfl (R.pT rfl rfl c123 rfl (R.as rfl rfl (R.nil (fun a ha => ⟨ha.sub ⟨rfl, trivial⟩, h⟩)))))
                  · replace F := (andF c123).symm.trans F
                    obtain rfl := Option.some.inj F
                    refine R.not_ rfl rfl rfl c123 (R.pF rfl rfl c123 rfl (R.as rfl rfl (R.nil (fun a ha => ⟨ha.sub ⟨rfl, trivial⟩, h⟩))))
                · replace F := (andF c122).symm.trans F
                  obtain rfl := Option.some.inj F
                  refine R.not_ rfl rfl rfl c122 (R.pF rfl rfl c122 rfl (R.mv rfl rfl (R.not_ rfl rfl rfl rfl (R.pF rfl rfl rfl rfl (R.as rfl rfl (R.nil (fun a ha => ⟨ha.sub ⟨rfl, trivial⟩, h⟩)))))))
              · replace F := (andF c121).symm.trans F
                obtain rfl := Option.some.inj F
                refine R.not_ rfl rfl rfl c121 (R.pF rfl rfl c121 rfl (R.mv rfl rfl (R.not_ rfl rfl rfl rfl (R.pF rfl rfl rfl rfl (R.mv rfl rfl (R.not_ rfl rfl rfl rfl (R.pF rfl rfl rfl rfl (R.as rfl rfl (R.nil (fun a ha => ⟨ha.sub ⟨rfl, trivial⟩, h⟩))))))))))
            · replace F := (andF c120).symm.trans F
              obtain rfl := Option.some.inj F
              refine R.not_ rfl rfl rfl c120 (R.pF rfl rfl c120 rfl (R.mv rfl rfl (R.not_ rfl rfl rfl rfl (R.pF rfl rfl rfl rfl (R.mv rfl rfl (R.not_ rfl rfl rfl rfl (R.pF rfl rfl rfl rfl (R.mv rfl rfl (R.not_ rfl rfl rfl rfl (R.pF rfl rfl rfl rfl (R.as rfl rfl (R.nil (fun a ha => ⟨ha.sub ⟨rfl, trivial⟩, h⟩)))))))))))))
          · clear F
            rintro a w ⟨ha, h⟩
            refine T.use ?_ ha
            have F := E114
            obtain rfl := Option.some.inj F
            refine T.ret (ret1 rfl rfl ⟨rfl, h.fr0⟩)

/-! echelon/echelonlaw01.FixedNear: function 9 -/
noncomputable def echelonlaw01_FixedNear (a0 : Int) (a1 : Int) : Option (Bool) :=
  (echelonlaw01_awake).bind fun x3 => (fixed_Bound a0).bind fun x7 => (fixed_Bound a1).bind fun x11 => (fixed_Mul x7 x11).bind fun x15 => (fixed_Div x7 x11).bind fun x19 => ((echelonlaw01_inside x15).bind fun x31 => if !x31 then some true else (echelonlaw01_size (W ((W (256 * x15)) - (W (x7 * x11))))).bind fun x35 => some (decide (x35 ≤ 128))).bind fun (y23 : Bool) => (if x19.2 == 0 then (echelonlaw01_inside x19.1).bind fun x54 => if !x54 then some true else (echelonlaw01_size (W ((W (x19.1 * x11)) - (W (256 * x7))))).bind fun x58 => (echelonlaw01_size x11).bind fun x61 => (some (decide ((W (2 * x58)) ≤ x61))).bind fun (x64 : Bool) => some x64 else some false).bind fun (y39 : Bool) => (if x11 == 0 then some ((x19.2 == 10) && (x19.1 == 0)) else some y39).bind fun (y67 : Bool) => (fixed_Root x7).bind fun x75 => (if x75.2 == 0 then if decide (x75.1 ≥ 0) then if decide ((W (x75.1 * x75.1)) ≤ (W (256 * x7))) then (some (decide ((W ((W (x75.1 + 1)) * (W (x75.1 + 1)))) > (W (256 * x7))))).bind fun (x88 : Bool) => some x88 else some false else some false else some false).bind fun (y79 : Bool) => (if decide (x7 < 0) then some ((x75.2 == 11) && (x75.1 == 0)) else some y79).bind fun (y91 : Bool) => (some (x3 && (y23 && (y67 && y91)))).bind fun (y99 : Bool) => some y99
theorem echelonlaw01_FixedNear.ok {a0 : Int} {a1 : Int} {r : Bool} {W0 : World} (F : echelonlaw01_FixedNear a0 a1 = some r) (hg : Gl W0) :
    Calls Tryd.prog 9 [(.int .i64 a0 : Value), (.int .i64 a1 : Value)].toArray W0 fun e w' => ∃ v, e = .returned v ∧ (v = .bool r ∧ Fr0 W0 w') := by
  unfold echelonlaw01_FixedNear at F
  refine calls_body 118 Tryd.func9 rfl rfl rfl ?_
  have h := H.nil W0
  refine T.seq fun Kk1 k1 => ?_
  refine T.region ?_
  refine R.as rfl rfl (R.nil (k1 _ _ ?_))
  refine T.seq fun Kk2 k2 => ?_
  refine T.region ?_
  obtain ⟨x3, e4, F⟩ := Option.bind_eq_some_iff.1 F
  refine R.callF rfl cf12 rfl (echelonlaw01_awake.ok e4 (hg.fr0 h.fr0)) (?_)
  rintro _ w ⟨rfl, f5⟩
  replace h := h.same f5
  refine R.as rfl rfl (R.nil (k2 _ _ ?_))
  refine T.seq fun Kk6 k6 => ?_
  refine T.region ?_
  obtain ⟨x7, e8, F⟩ := Option.bind_eq_some_iff.1 F
  refine R.mv rfl rfl (R.callF rfl cf23 rfl (fixed_Bound.ok e8 (hg.fr0 h.fr0)) (?_))
  rintro _ w ⟨rfl, f9⟩
  replace h := h.same f9
  refine R.as rfl rfl (R.nil (k6 _ _ ?_))
  refine T.seq fun Kk10 k10 => ?_
  refine T.region ?_
  obtain ⟨x11, e12, F⟩ := Option.bind_eq_some_iff.1 F
  refine R.mv rfl rfl (R.callF rfl cf23 rfl (fixed_Bound.ok e12 (hg.fr0 h.fr0)) (?_))
  rintro _ w ⟨rfl, f13⟩
  replace h := h.same f13
  refine R.as rfl rfl (R.nil (k10 _ _ ?_))
  refine T.seq fun Kk14 k14 => ?_
  refine T.region ?_
  obtain ⟨x15, e16, F⟩ := Option.bind_eq_some_iff.1 F
  refine R.mv rfl rfl (R.mv rfl rfl (R.callF rfl cf19 rfl (fixed_Mul.ok e16 (hg.fr0 h.fr0)) (?_)))
  rintro _ w ⟨rfl, f17⟩
  replace h := h.same f17
  refine R.as rfl rfl (R.nil (k14 _ _ ?_))
  refine T.seq fun Kk18 k18 => ?_
  refine T.region ?_
  obtain ⟨x19, e20, F⟩ := Option.bind_eq_some_iff.1 F
  refine R.mv rfl rfl (R.mv rfl rfl (R.callF rfl cf13 rfl (fixed_Div.ok e20 (hg.fr0 h.fr0)) (?_)))
  rintro _ w ⟨rfl, f21⟩
  replace h := h.same f21
  refine R.mv rfl rfl (R.ext rfl rfl rfl (R.ext rfl rfl rfl (R.as rfl rfl (R.as rfl rfl (R.nil (k18 _ _ ?_))))))
  obtain ⟨y23, F, E22⟩ := Option.bind_eq_some_iff.1 F
  refine T.cut (fun a w => Agr 118 [(5, .bool x3), (6, .int .i64 x7), (7, .int .i64 x11), (9, .int .i64 x19.1), (10, .int .i64 x19.2), (11, .bool y23)] a ∧ H W0 (fun _ => False) w [] []) ?_ ?_
  · refine T.region ?_
    obtain ⟨x31, e32, F⟩ := Option.bind_eq_some_iff.1 F
    refine R.mv rfl rfl (R.callF rfl cf39 rfl (echelonlaw01_inside.ok e32 (hg.fr0 h.fr0)) (?_))
    rintro _ w ⟨rfl, f33⟩
    replace h := h.same f33
    refine R.not rfl rfl (R.mv rfl rfl (?_))
    refine bsplit (!x31) (fun c34 => ?_) (fun c34 => ?_)
    · replace F := (ifT c34).symm.trans F
      obtain rfl := Option.some.inj F
      refine R.not_ rfl rfl rfl c34 (R.not_ rfl rfl rfl c34 (R.not_ rfl rfl rfl c34 (R.not_ rfl rfl rfl c34 (R.not_ rfl rfl rfl c34 (R.not_ rfl rfl rfl c34 (R.not_ rfl rfl rfl c34 (R.not_ rfl rfl rfl c34 (R.pT rfl rfl c34 rfl (R.as rfl rfl (R.nil (fun a ha => ⟨ha.sub ⟨rfl, rfl, rfl, rfl, rfl, rfl, trivial⟩, h⟩)))))))))))
    · replace F := (ifF c34).symm.trans F
      obtain ⟨x35, e36, F⟩ := Option.bind_eq_some_iff.1 F
      refine R.iff rfl rfl c34 (R.mv rfl rfl (R.iff rfl rfl c34 (R.ib rfl rfl rfl rfl (R.iff rfl rfl c34 (R.mv rfl rfl (R.iff rfl rfl c34 (R.mv rfl rfl (R.iff rfl rfl c34 (R.ib rfl rfl rfl rfl (R.iff rfl rfl c34 (R.ib rfl rfl rfl rfl (R.iff rfl rfl c34 (R.callF rfl cf40 rfl (echelonlaw01_size.ok e36 (hg.fr0 h.fr0)) (?_))))))))))))))
      rintro _ w ⟨rfl, f37⟩
      replace h := h.same f37
      obtain rfl := Option.some.inj F
      refine R.iff rfl rfl c34 (R.ib rfl rfl rfl rfl (R.pF rfl rfl c34 rfl (R.as rfl rfl (R.nil (fun a ha => ⟨ha.sub ⟨rfl, rfl, rfl, rfl, rfl, rfl, trivial⟩, h⟩)))))
  · clear F
    rintro a w ⟨ha, h⟩
    refine T.use ?_ ha
    have F := E22
    obtain ⟨y39, F, E38⟩ := Option.bind_eq_some_iff.1 F
    refine T.cut (fun a w => Agr 118 [(5, .bool x3), (6, .int .i64 x7), (7, .int .i64 x11), (9, .int .i64 x19.1), (10, .int .i64 x19.2), (11, .bool y23), (12, .bool y39)] a ∧ H W0 (fun _ => False) w [] []) ?_ ?_
    · refine T.region ?_
      refine R.mv rfl rfl (R.ib rfl rfl rfl rfl (R.mv rfl rfl (?_)))
      refine bsplit (x19.2 == 0) (fun c53 => ?_) (fun c53 => ?_)
      · replace F := (ifT c53).symm.trans F
        obtain ⟨x54, e55, F⟩ := Option.bind_eq_some_iff.1 F
        refine R.iff rfl rfl c53 (R.mv rfl rfl (R.iff rfl rfl c53 (R.callF rfl cf39 rfl (echelonlaw01_inside.ok e55 (hg.fr0 h.fr0)) (?_))))
        rintro _ w ⟨rfl, f56⟩
        replace h := h.same f56
        refine R.iff rfl rfl c53 (R.not rfl rfl (R.iff rfl rfl c53 (R.mv rfl rfl (?_))))
        refine bsplit (!x54) (fun c57 => ?_) (fun c57 => ?_)
        · replace F := (ifT c57).symm.trans F
          obtain rfl := Option.some.inj F
          refine R.not_ rfl rfl rfl c57 (R.not_ rfl rfl rfl c57 (R.not_ rfl rfl rfl c57 (R.not_ rfl rfl rfl c57 (R.not_ rfl rfl rfl c57 (R.not_ rfl rfl rfl c57 (R.not_ rfl rfl rfl c57 (R.not_ rfl rfl rfl c57 (R.not_ rfl rfl rfl c57 (R.not_ rfl rfl rfl c57 (R.not_ rfl rfl rfl c57 (R.iff rfl rfl c53 (R.pT rfl rfl c57 rfl (R.pT rfl rfl c53 rfl (R.as rfl rfl (R.nil (fun a ha => ⟨ha.sub ⟨rfl, rfl, rfl, rfl, rfl, rfl, rfl, trivial⟩, h⟩))))))))))))))))
        · replace F := (ifF c57).symm.trans F
          obtain ⟨x58, e59, F⟩ := Option.bind_eq_some_iff.1 F
          refine R.iff rfl rfl c57 (R.mv rfl rfl (R.iff rfl rfl c57 (R.mv rfl rfl (R.iff rfl rfl c57 (R.ib rfl rfl rfl rfl (R.iff rfl rfl c57 (R.mv rfl rfl (R.iff rfl rfl c57 (R.ib rfl rfl rfl rfl (R.iff rfl rfl c57 (R.ib rfl rfl rfl rfl (R.iff rfl rfl c57 (R.callF rfl cf40 rfl (echelonlaw01_size.ok e59 (hg.fr0 h.fr0)) (?_))))))))))))))
          rintro _ w ⟨rfl, f60⟩
          replace h := h.same f60
          obtain ⟨x61, e62, F⟩ := Option.bind_eq_some_iff.1 F
          refine R.iff rfl rfl c57 (R.ib rfl rfl rfl rfl (R.iff rfl rfl c57 (R.mv rfl rfl (R.iff rfl rfl c57 (R.callF rfl cf40 rfl (echelonlaw01_size.ok e62 (hg.fr0 h.fr0)) (?_))))))
          rintro _ w ⟨rfl, f63⟩
          replace h := h.same f63
          obtain ⟨x64, e65, F⟩ := Option.bind_eq_some_iff.1 F
          obtain rfl := Option.some.inj F
          refine R.iff rfl rfl c57 (R.ib rfl rfl rfl rfl (R.iff rfl rfl c53 (R.pF rfl rfl c57 rfl (R.pT rfl rfl c53 rfl (R.as rfl rfl (R.re (congrArg Value.bool (Option.some.inj e65)) (R.nil (fun a ha => ⟨ha.sub ⟨rfl, rfl, rfl, rfl, rfl, rfl, rfl, trivial⟩, h⟩))))))))
      · replace F := (ifF c53).symm.trans F
        obtain rfl := Option.some.inj F
        refine R.not_ rfl rfl rfl c53 (R.not_ rfl rfl rfl c53 (R.not_ rfl rfl rfl c53 (R.not_ rfl rfl rfl c53 (R.offU rfl rfl rfl (R.offU rfl rfl rfl (R.offU rfl rfl rfl (R.offU rfl rfl rfl (R.offU rfl rfl rfl (R.offU rfl rfl rfl (R.offU rfl rfl rfl (R.offU rfl rfl rfl (R.offU rfl rfl rfl (R.offU rfl rfl rfl (R.offU rfl rfl rfl (R.not_ rfl rfl rfl c53 (R.pF rfl rfl c53 rfl (R.as rfl rfl (R.nil (fun a ha => ⟨ha.sub ⟨rfl, rfl, rfl, rfl, rfl, rfl, rfl, trivial⟩, h⟩)))))))))))))))))))
    · clear F
      rintro a w ⟨ha, h⟩
      refine T.use ?_ ha
      have F := E38
      obtain ⟨y67, F, E66⟩ := Option.bind_eq_some_iff.1 F
      refine T.cut (fun a w => Agr 118 [(5, .bool x3), (6, .int .i64 x7), (11, .bool y23), (12, .bool y67)] a ∧ H W0 (fun _ => False) w [] []) ?_ ?_
      · refine T.seq fun Kk71 k71 => ?_
        refine T.region ?_
        refine R.mv rfl rfl (R.ib rfl rfl rfl rfl (R.nil (k71 _ _ ?_)))
        refine T.cond rfl (fun c72 => ?_) (fun c72 => ?_)
        · replace F := (ifT c72).symm.trans F
          refine T.region ?_
          refine R.mv rfl rfl (R.ib rfl rfl rfl rfl (R.mv rfl rfl (?_)))
          refine bsplit (x19.2 == 10) (fun c73 => ?_) (fun c73 => ?_)
          · replace F := (andT c73).symm.trans F
            obtain rfl := Option.some.inj F
            refine R.iff rfl rfl c73 (R.mv rfl rfl (R.iff rfl rfl c73 (R.ib rfl rfl rfl rfl (R.pT rfl rfl c73 rfl (R.as rfl rfl (R.nil (fun a ha => ⟨ha.sub ⟨rfl, rfl, rfl, rfl, trivial⟩, h⟩)))))))
          · replace F := (andF c73).symm.trans F
            obtain rfl := Option.some.inj F
            refine R.not_ rfl rfl rfl c73 (R.not_ rfl rfl rfl c73 (R.pF rfl rfl c73 rfl (R.as rfl rfl (R.nil (fun a ha => ⟨ha.sub ⟨rfl, rfl, rfl, rfl, trivial⟩, h⟩)))))
        · replace F := (ifF c72).symm.trans F
          obtain rfl := Option.some.inj F
          refine T.skip (fun a ha => ⟨ha.sub ⟨rfl, rfl, rfl, rfl, trivial⟩, h⟩)
      · clear F
        rintro a w ⟨ha, h⟩
        refine T.use ?_ ha
        have F := E66
        refine T.seq fun Kk74 k74 => ?_
        refine T.region ?_
        obtain ⟨x75, e76, F⟩ := Option.bind_eq_some_iff.1 F
        refine R.mv rfl rfl (R.callF rfl cf21 rfl (fixed_Root.ok e76 (hg.fr0 h.fr0)) (?_))
        rintro _ w ⟨rfl, f77⟩
        replace h := h.same f77
        refine R.mv rfl rfl (R.ext rfl rfl rfl (R.ext rfl rfl rfl (R.as rfl rfl (R.as rfl rfl (R.nil (k74 _ _ ?_))))))
        obtain ⟨y79, F, E78⟩ := Option.bind_eq_some_iff.1 F
        refine T.cut (fun a w => Agr 118 [(5, .bool x3), (6, .int .i64 x7), (11, .bool y23), (12, .bool y67), (13, .int .i64 x75.1), (14, .int .i64 x75.2), (15, .bool y79)] a ∧ H W0 (fun _ => False) w [] []) ?_ ?_
        · refine T.region ?_
          refine R.mv rfl rfl (R.ib rfl rfl rfl rfl (R.mv rfl rfl (?_)))
          refine bsplit (x75.2 == 0) (fun c85 => ?_) (fun c85 => ?_)
          · replace F := (ifT c85).symm.trans F
            refine R.iff rfl rfl c85 (R.mv rfl rfl (R.iff rfl rfl c85 (R.ib rfl rfl rfl rfl (R.pT rfl rfl c85 rfl (R.mv rfl rfl (?_))))))
            refine bsplit (decide (x75.1 ≥ 0)) (fun c86 => ?_) (fun c86 => ?_)
            · replace F := (ifT c86).symm.trans F
              refine R.iff rfl rfl c86 (R.mv rfl rfl (R.iff rfl rfl c86 (R.mv rfl rfl (R.iff rfl rfl c86 (R.ib rfl rfl rfl rfl (R.iff rfl rfl c86 (R.mv rfl rfl (R.iff rfl rfl c86 (R.ib rfl rfl rfl rfl (R.iff rfl rfl c86 (R.ib rfl rfl rfl rfl (R.pT rfl rfl c86 rfl (R.mv rfl rfl (?_))))))))))))))
              refine bsplit (decide ((W (x75.1 * x75.1)) ≤ (W (256 * x7)))) (fun c87 => ?_) (fun c87 => ?_)
              · replace F := (ifT c87).symm.trans F
                obtain ⟨x88, e89, F⟩ := Option.bind_eq_some_iff.1 F
                obtain rfl := Option.some.inj F
                refine R.iff rfl rfl c87 (R.mv rfl rfl (R.iff rfl rfl c87 (R.ib rfl rfl rfl rfl (R.iff rfl rfl c87 (R.mv rfl rfl (R.iff rfl rfl c87 (R.ib rfl rfl rfl rfl (R.iff rfl rfl c87 (R.ib rfl rfl rfl rfl (R.iff rfl rfl c87 (R.mv rfl rfl (R.iff rfl rfl c87 (R.ib rfl rfl rfl rfl (R.iff rfl rfl c87 (R.ib rfl rfl rfl rfl (R.pT rfl rfl c87 rfl (R.as rfl rfl (R.re (congrArg Value.bool (Option.some.inj e89)) (R.nil (fun a ha => ⟨ha.sub ⟨rfl, rfl, rfl, rfl, rfl, rfl, rfl, trivial⟩, h⟩))))))))))))))))))))
              · replace F := (ifF c87).symm.trans F
                obtain rfl := Option.some.inj F
                refine R.not_ rfl rfl rfl c87 (R.not_ rfl rfl rfl c87 (R.not_ rfl rfl rfl c87 (R.not_ rfl rfl rfl c87 (R.not_ rfl rfl rfl c87 (R.not_ rfl rfl rfl c87 (R.not_ rfl rfl rfl c87 (R.not_ rfl rfl rfl c87 (R.pF rfl rfl c87 rfl (R.as rfl rfl (R.nil (fun a ha => ⟨ha.sub ⟨rfl, rfl, rfl, rfl, rfl, rfl, rfl, trivial⟩, h⟩)))))))))))
            · replace F := (ifF c86).symm.trans F
              obtain rfl := Option.some.inj F
              refine R.not_ rfl rfl rfl c86 (R.not_ rfl rfl rfl c86 (R.not_ rfl rfl rfl c86 (R.not_ rfl rfl rfl c86 (R.not_ rfl rfl rfl c86 (R.not_ rfl rfl rfl c86 (R.pF rfl rfl c86 rfl (R.mv rfl rfl (R.not_ rfl rfl rfl rfl (R.not_ rfl rfl rfl rfl (R.not_ rfl rfl rfl rfl (R.not_ rfl rfl rfl rfl (R.not_ rfl rfl rfl rfl (R.not_ rfl rfl rfl rfl (R.not_ rfl rfl rfl rfl (R.not_ rfl rfl rfl rfl (R.pF rfl rfl rfl rfl (R.as rfl rfl (R.nil (fun a ha => ⟨ha.sub ⟨rfl, rfl, rfl, rfl, rfl, rfl, rfl, trivial⟩, h⟩)))))))))))))))))))
          · replace F := (ifF c85).symm.trans F
            obtain rfl := Option.some.inj F
            refine R.not_ rfl rfl rfl c85 (R.not_ rfl rfl rfl c85 (R.pF rfl rfl c85 rfl (R.mv rfl rfl (R.not_ rfl rfl rfl rfl (R.not_ rfl rfl rfl rfl (R.not_ rfl rfl rfl rfl (R.not_ rfl rfl rfl rfl (R.not_ rfl rfl rfl rfl (R.not_ rfl rfl rfl rfl (R.pF rfl rfl rfl rfl (R.mv rfl rfl (R.not_ rfl rfl rfl rfl (R.not_ rfl rfl rfl rfl (R.not_ rfl rfl rfl rfl (R.not_ rfl rfl rfl rfl (R.not_ rfl rfl rfl rfl (R.not_ rfl rfl rfl rfl (R.not_ rfl rfl rfl rfl (R.not_ rfl rfl rfl rfl (R.pF rfl rfl rfl rfl (R.as rfl rfl (R.nil (fun a ha => ⟨ha.sub ⟨rfl, rfl, rfl, rfl, rfl, rfl, rfl, trivial⟩, h⟩)))))))))))))))))))))))
        · clear F
          rintro a w ⟨ha, h⟩
          refine T.use ?_ ha
          have F := E78
          obtain ⟨y91, F, E90⟩ := Option.bind_eq_some_iff.1 F
          refine T.cut (fun a w => Agr 118 [(5, .bool x3), (11, .bool y23), (12, .bool y67), (15, .bool y91)] a ∧ H W0 (fun _ => False) w [] []) ?_ ?_
          · refine T.seq fun Kk95 k95 => ?_
            refine T.region ?_
            refine R.mv rfl rfl (R.ib rfl rfl rfl rfl (R.nil (k95 _ _ ?_)))
            refine T.cond rfl (fun c96 => ?_) (fun c96 => ?_)
            · replace F := (ifT c96).symm.trans F
              refine T.region ?_
              refine R.mv rfl rfl (R.ib rfl rfl rfl rfl (R.mv rfl rfl (?_)))
              refine bsplit (x75.2 == 11) (fun c97 => ?_) (fun c97 => ?_)
              · replace F := (andT c97).symm.trans F
                obtain rfl := Option.some.inj F
                refine R.iff rfl rfl c97 (R.mv rfl rfl (R.iff rfl rfl c97 (R.ib rfl rfl rfl rfl (R.pT rfl rfl c97 rfl (R.as rfl rfl (R.nil (fun a ha => ⟨ha.sub ⟨rfl, rfl, rfl, rfl, trivial⟩, h⟩)))))))
              · replace F := (andF c97).symm.trans F
                obtain rfl := Option.some.inj F
                refine R.not_ rfl rfl rfl c97 (R.not_ rfl rfl rfl c97 (R.pF rfl rfl c97 rfl (R.as rfl rfl (R.nil (fun a ha => ⟨ha.sub ⟨rfl, rfl, rfl, rfl, trivial⟩, h⟩)))))
            · replace F := (ifF c96).symm.trans F
              obtain rfl := Option.some.inj F
              refine T.skip (fun a ha => ⟨ha.sub ⟨rfl, rfl, rfl, rfl, trivial⟩, h⟩)
          · clear F
            rintro a w ⟨ha, h⟩
            refine T.use ?_ ha
            have F := E90
            obtain ⟨y99, F, E98⟩ := Option.bind_eq_some_iff.1 F
            refine T.cut (fun a w => Agr 118 [(4, .bool y99)] a ∧ H W0 (fun _ => False) w [] []) ?_ ?_
            · refine T.region ?_
              refine R.mv rfl rfl (R.mv rfl rfl (?_))
              refine bsplit x3 (fun c103 => ?_) (fun c103 => ?_)
              · replace F := (andT c103).symm.trans F
                refine R.iff rfl rfl c103 (R.mv rfl rfl (R.pT rfl rfl c103 rfl (R.mv rfl rfl (?_))))
                refine bsplit y23 (fun c104 => ?_) (fun c104 => ?_)
                · replace F := (andT c104).symm.trans F
                  refine R.iff rfl rfl c104 (R.mv rfl rfl (R.pT rfl rfl c104 rfl (R.mv rfl rfl (?_))))
                  refine bsplit y67 (fun c105 => ?_) (fun c105 => ?_)
                  · replace F := (andT c105).symm.trans F
                    obtain rfl := Option.some.inj F
                    refine R.iff rfl rfl c105 (R.mv rfl rfl (R.pT rfl rfl c105 rfl (R.as rfl rfl (R.nil (fun a ha => ⟨ha.sub ⟨rfl, trivial⟩, h⟩)))))
                  · replace F := (andF c105).symm.trans F
                    obtain rfl := Option.some.inj F
                    refine R.not_ rfl rfl rfl c105 (R.pF rfl rfl c105 rfl (R.as rfl rfl (R.nil (fun a ha => ⟨ha.sub ⟨rfl, trivial⟩, h⟩))))
                · replace F := (andF c104).symm.trans F
                  obtain rfl := Option.some.inj F
                  refine R.not_ rfl rfl rfl c104 (R.pF rfl rfl c104 rfl (R.mv rfl rfl (R.not_ rfl rfl rfl rfl (R.pF rfl rfl rfl rfl (R.as rfl rfl (R.nil (fun a ha => ⟨ha.sub ⟨rfl, trivial⟩, h⟩)))))))
              · replace F := (andF c103).symm.trans F
                obtain rfl := Option.some.inj F
                refine R.not_ rfl rfl rfl c103 (R.pF rfl rfl c103 rfl (R.mv rfl rfl (R.not_ rfl rfl rfl rfl (R.pF rfl rfl rfl rfl (R.mv rfl rfl (R.not_ rfl rfl rfl rfl (R.pF rfl rfl rfl rfl (R.as rfl rfl (R.nil (fun a ha => ⟨ha.sub ⟨rfl, trivial⟩, h⟩))))))))))
            · clear F
              rintro a w ⟨ha, h⟩
              refine T.use ?_ ha
              have F := E98
              obtain rfl := Option.some.inj F
              refine T.ret (ret1 rfl rfl ⟨rfl, h.fr0⟩)

/-! echelon/echelonlaw01.FixedBetween: function 10 -/
noncomputable def echelonlaw01_FixedBetween (a0 : Int) (a1 : Int) (a2 : Int) (a3 : Int) : Option (Bool) :=
  (echelonlaw01_awake).bind fun x3 => (fixed_Bound a0).bind fun x7 => (fixed_Bound a1).bind fun x11 => (if decide (a2 > a3) then some (a3, a2) else some (a2, a3)).bind fun (y15 : Int × Int) => (fixed_Blend x7 x11 y15.1).bind fun x25 => (fixed_Blend x7 x11 y15.2).bind fun x29 => ((fixed_Blend x7 x11 0).bind fun x41 => if x41 == x7 then (fixed_Blend x7 x11 256).bind fun x45 => some (x45 == x11) else some false).bind fun (y33 : Bool) => (some ((decide (x7 ≤ x25)) && ((decide (x25 ≤ x29)) && (decide (x29 ≤ x11))))).bind fun (y49 : Bool) => (if decide (x7 > x11) then some ((decide (x7 ≥ x25)) && ((decide (x25 ≥ x29)) && (decide (x29 ≥ x11)))) else some y49).bind fun (y55 : Bool) => (fixed_Clamp y15.1 x7 x11).bind fun x65 => ((fixed_Clamp x65 x7 x11).bind fun x78 => if x78 == x65 then if decide (x7 > x11) then some ((x65 == x11) || ((decide (x7 ≤ x65)) && (decide (x65 ≤ x11)))) else some ((decide (x7 ≤ x65)) && (decide (x65 ≤ x11))) else some false).bind fun (y69 : Bool) => (some (x3 && (y33 && (y55 && y69)))).bind fun (y87 : Bool) => some y87
theorem echelonlaw01_FixedBetween.ok {a0 : Int} {a1 : Int} {a2 : Int} {a3 : Int} {r : Bool} {W0 : World} (F : echelonlaw01_FixedBetween a0 a1 a2 a3 = some r) (hg : Gl W0) :
    Calls Tryd.prog 10 [(.int .i64 a0 : Value), (.int .i64 a1 : Value), (.int .i64 a2 : Value), (.int .i64 a3 : Value)].toArray W0 fun e w' => ∃ v, e = .returned v ∧ (v = .bool r ∧ Fr0 W0 w') := by
  unfold echelonlaw01_FixedBetween at F
  refine calls_body 119 Tryd.func10 rfl rfl rfl ?_
  have h := H.nil W0
  refine T.seq fun Kk1 k1 => ?_
  refine T.region ?_
  refine R.as rfl rfl (R.nil (k1 _ _ ?_))
  refine T.seq fun Kk2 k2 => ?_
  refine T.region ?_
  obtain ⟨x3, e4, F⟩ := Option.bind_eq_some_iff.1 F
  refine R.callF rfl cf12 rfl (echelonlaw01_awake.ok e4 (hg.fr0 h.fr0)) (?_)
  rintro _ w ⟨rfl, f5⟩
  replace h := h.same f5
  refine R.as rfl rfl (R.nil (k2 _ _ ?_))
  refine T.seq fun Kk6 k6 => ?_
  refine T.region ?_
  obtain ⟨x7, e8, F⟩ := Option.bind_eq_some_iff.1 F
  refine R.mv rfl rfl (R.callF rfl cf23 rfl (fixed_Bound.ok e8 (hg.fr0 h.fr0)) (?_))
  rintro _ w ⟨rfl, f9⟩
  replace h := h.same f9
  refine R.as rfl rfl (R.nil (k6 _ _ ?_))
  refine T.seq fun Kk10 k10 => ?_
  refine T.region ?_
  obtain ⟨x11, e12, F⟩ := Option.bind_eq_some_iff.1 F
  refine R.mv rfl rfl (R.callF rfl cf23 rfl (fixed_Bound.ok e12 (hg.fr0 h.fr0)) (?_))
  rintro _ w ⟨rfl, f13⟩
  replace h := h.same f13
  refine R.as rfl rfl (R.nil (k10 _ _ ?_))
  obtain ⟨y15, F, E14⟩ := Option.bind_eq_some_iff.1 F
  refine T.cut (fun a w => Agr 119 [(2, .int .i64 y15.1), (3, .int .i64 y15.2), (9, .bool x3), (10, .int .i64 x7), (11, .int .i64 x11)] a ∧ H W0 (fun _ => False) w [] []) ?_ ?_
  · refine T.seq fun Kk20 k20 => ?_
    refine T.region ?_
    refine R.mv rfl rfl (R.mv rfl rfl (R.ib rfl rfl rfl rfl (R.nil (k20 _ _ ?_))))
    refine T.cond rfl (fun c21 => ?_) (fun c21 => ?_)
    · replace F := (ifT c21).symm.trans F
      refine T.seq fun Kk22 k22 => ?_
      refine T.region ?_
      refine R.mv rfl rfl (R.as rfl rfl (R.nil (k22 _ _ ?_)))
      refine T.seq fun Kk23 k23 => ?_
      refine T.region ?_
      refine R.mv rfl rfl (R.as rfl rfl (R.nil (k23 _ _ ?_)))
      refine T.region ?_
      obtain rfl := Option.some.inj F
      refine R.mv rfl rfl (R.as rfl rfl (R.nil (fun a ha => ⟨ha.sub ⟨rfl, rfl, rfl, rfl, rfl, trivial⟩, h⟩)))
    · replace F := (ifF c21).symm.trans F
      obtain rfl := Option.some.inj F
      refine T.skip (fun a ha => ⟨ha.sub ⟨rfl, rfl, rfl, rfl, rfl, trivial⟩, h⟩)
  · clear F
    rintro a w ⟨ha, h⟩
    refine T.use ?_ ha
    have F := E14
    refine T.seq fun Kk24 k24 => ?_
    refine T.region ?_
    obtain ⟨x25, e26, F⟩ := Option.bind_eq_some_iff.1 F
    refine R.mv rfl rfl (R.mv rfl rfl (R.mv rfl rfl (R.callF rfl cf31 rfl (fixed_Blend.ok e26 (hg.fr0 h.fr0)) (?_))))
    rintro _ w ⟨rfl, f27⟩
    replace h := h.same f27
    refine R.as rfl rfl (R.nil (k24 _ _ ?_))
    refine T.seq fun Kk28 k28 => ?_
    refine T.region ?_
    obtain ⟨x29, e30, F⟩ := Option.bind_eq_some_iff.1 F
    refine R.mv rfl rfl (R.mv rfl rfl (R.mv rfl rfl (R.callF rfl cf31 rfl (fixed_Blend.ok e30 (hg.fr0 h.fr0)) (?_))))
    rintro _ w ⟨rfl, f31⟩
    replace h := h.same f31
    refine R.as rfl rfl (R.nil (k28 _ _ ?_))
    obtain ⟨y33, F, E32⟩ := Option.bind_eq_some_iff.1 F
    refine T.cut (fun a w => Agr 119 [(2, .int .i64 y15.1), (9, .bool x3), (10, .int .i64 x7), (11, .int .i64 x11), (13, .int .i64 x25), (14, .int .i64 x29), (15, .bool y33)] a ∧ H W0 (fun _ => False) w [] []) ?_ ?_
    · refine T.region ?_
      obtain ⟨x41, e42, F⟩ := Option.bind_eq_some_iff.1 F
      refine R.mv rfl rfl (R.mv rfl rfl (R.callF rfl cf31 rfl (fixed_Blend.ok e42 (hg.fr0 h.fr0)) (?_)))
      rintro _ w ⟨rfl, f43⟩
      replace h := h.same f43
      refine R.mv rfl rfl (R.ib rfl rfl rfl rfl (R.mv rfl rfl (?_)))
      refine bsplit (x41 == x7) (fun c44 => ?_) (fun c44 => ?_)
      · replace F := (ifT c44).symm.trans F
        obtain ⟨x45, e46, F⟩ := Option.bind_eq_some_iff.1 F
        refine R.iff rfl rfl c44 (R.mv rfl rfl (R.iff rfl rfl c44 (R.mv rfl rfl (R.iff rfl rfl c44 (R.callF rfl cf31 rfl (fixed_Blend.ok e46 (hg.fr0 h.fr0)) (?_))))))
        rintro _ w ⟨rfl, f47⟩
        replace h := h.same f47
        obtain rfl := Option.some.inj F
        refine R.iff rfl rfl c44 (R.mv rfl rfl (R.iff rfl rfl c44 (R.ib rfl rfl rfl rfl (R.pT rfl rfl c44 rfl (R.as rfl rfl (R.nil (fun a ha => ⟨ha.sub ⟨rfl, rfl, rfl, rfl, rfl, rfl, rfl, trivial⟩, h⟩)))))))
      · replace F := (ifF c44).symm.trans F
        obtain rfl := Option.some.inj F
        refine R.not_ rfl rfl rfl c44 (R.not_ rfl rfl rfl c44 (R.not_ rfl rfl rfl c44 (R.not_ rfl rfl rfl c44 (R.not_ rfl rfl rfl c44 (R.pF rfl rfl c44 rfl (R.as rfl rfl (R.nil (fun a ha => ⟨ha.sub ⟨rfl, rfl, rfl, rfl, rfl, rfl, rfl, trivial⟩, h⟩))))))))
    · clear F
      rintro a w ⟨ha, h⟩
      refine T.use ?_ ha
      have F := E32
      obtain ⟨y49, F, E48⟩ := Option.bind_eq_some_iff.1 F
      refine T.cut (fun a w => Agr 119 [(2, .int .i64 y15.1), (9, .bool x3), (10, .int .i64 x7), (11, .int .i64 x11), (13, .int .i64 x25), (14, .int .i64 x29), (15, .bool y33), (16, .bool y49)] a ∧ H W0 (fun _ => False) w [] []) ?_ ?_
      · refine T.region ?_
        refine R.mv rfl rfl (R.mv rfl rfl (R.ib rfl rfl rfl rfl (R.mv rfl rfl (?_))))
        refine bsplit (decide (x7 ≤ x25)) (fun c52 => ?_) (fun c52 => ?_)
        · replace F := (andT c52).symm.trans F
          refine R.iff rfl rfl c52 (R.mv rfl rfl (R.iff rfl rfl c52 (R.mv rfl rfl (R.iff rfl rfl c52 (R.ib rfl rfl rfl rfl (R.pT rfl rfl c52 rfl (R.mv rfl rfl (?_))))))))
          refine bsplit (decide (x25 ≤ x29)) (fun c53 => ?_) (fun c53 => ?_)
          · replace F := (andT c53).symm.trans F
            obtain rfl := Option.some.inj F
            refine R.iff rfl rfl c53 (R.mv rfl rfl (R.iff rfl rfl c53 (R.mv rfl rfl (R.iff rfl rfl c53 (R.ib rfl rfl rfl rfl (R.pT rfl rfl c53 rfl (R.as rfl rfl (R.nil (fun a ha => ⟨ha.sub ⟨rfl, rfl, rfl, rfl, rfl, rfl, rfl, rfl, trivial⟩, h⟩)))))))))
          · replace F := (andF c53).symm.trans F
            obtain rfl := Option.some.inj F
            refine R.not_ rfl rfl rfl c53 (R.not_ rfl rfl rfl c53 (R.not_ rfl rfl rfl c53 (R.pF rfl rfl c53 rfl (R.as rfl rfl (R.nil (fun a ha => ⟨ha.sub ⟨rfl, rfl, rfl, rfl, rfl, rfl, rfl, rfl, trivial⟩, h⟩))))))
        · replace F := (andF c52).symm.trans F
          obtain rfl := Option.some.inj F
          refine R.not_ rfl rfl rfl c52 (R.not_ rfl rfl rfl c52 (R.not_ rfl rfl rfl c52 (R.pF rfl rfl c52 rfl (R.mv rfl rfl (R.not_ rfl rfl rfl rfl (R.not_ rfl rfl rfl rfl (R.not_ rfl rfl rfl rfl (R.pF rfl rfl rfl rfl (R.as rfl rfl (R.nil (fun a ha => ⟨ha.sub ⟨rfl, rfl, rfl, rfl, rfl, rfl, rfl, rfl, trivial⟩, h⟩)))))))))))
      · clear F
        rintro a w ⟨ha, h⟩
        refine T.use ?_ ha
        have F := E48
        obtain ⟨y55, F, E54⟩ := Option.bind_eq_some_iff.1 F
        refine T.cut (fun a w => Agr 119 [(2, .int .i64 y15.1), (9, .bool x3), (10, .int .i64 x7), (11, .int .i64 x11), (15, .bool y33), (16, .bool y55)] a ∧ H W0 (fun _ => False) w [] []) ?_ ?_
        · refine T.seq fun Kk60 k60 => ?_
          refine T.region ?_
          refine R.mv rfl rfl (R.mv rfl rfl (R.ib rfl rfl rfl rfl (R.nil (k60 _ _ ?_))))
          refine T.cond rfl (fun c61 => ?_) (fun c61 => ?_)
          · replace F := (ifT c61).symm.trans F
            refine T.region ?_
            refine R.mv rfl rfl (R.mv rfl rfl (R.ib rfl rfl rfl rfl (R.mv rfl rfl (?_))))
            refine bsplit (decide (x7 ≥ x25)) (fun c62 => ?_) (fun c62 => ?_)
            · replace F := (andT c62).symm.trans F
              refine R.iff rfl rfl c62 (R.mv rfl rfl (R.iff rfl rfl c62 (R.mv rfl rfl (R.iff rfl rfl c62 (R.ib rfl rfl rfl rfl (R.pT rfl rfl c62 rfl (R.mv rfl rfl (?_))))))))
              refine bsplit (decide (x25 ≥ x29)) (fun c63 => ?_) (fun c63 => ?_)
              · replace F := (andT c63).symm.trans F
                obtain rfl := Option.some.inj F
                refine R.iff rfl rfl c63 (R.mv rfl rfl (R.iff rfl rfl c63 (R.mv rfl rfl (R.iff rfl rfl c63 (R.ib rfl rfl rfl rfl (R.pT rfl rfl c63 rfl (R.as rfl rfl (R.nil (fun a ha => ⟨ha.sub ⟨rfl, rfl, rfl, rfl, rfl, rfl, trivial⟩, h⟩)))))))))
              · replace F := (andF c63).symm.trans F
                obtain rfl := Option.some.inj F
                refine R.not_ rfl rfl rfl c63 (R.not_ rfl rfl rfl c63 (R.not_ rfl rfl rfl c63 (R.pF rfl rfl c63 rfl (R.as rfl rfl (R.nil (fun a ha => ⟨ha.sub ⟨rfl, rfl, rfl, rfl, rfl, rfl, trivial⟩, h⟩))))))
            · replace F := (andF c62).symm.trans F
              obtain rfl := Option.some.inj F
              refine R.not_ rfl rfl rfl c62 (R.not_ rfl rfl rfl c62 (R.not_ rfl rfl rfl c62 (R.pF rfl rfl c62 rfl (R.mv rfl rfl (R.not_ rfl rfl rfl rfl (R.not_ rfl rfl rfl rfl (R.not_ rfl rfl rfl rfl (R.pF rfl rfl rfl rfl (R.as rfl rfl (R.nil (fun a ha => ⟨ha.sub ⟨rfl, rfl, rfl, rfl, rfl, rfl, trivial⟩, h⟩)))))))))))
          · replace F := (ifF c61).symm.trans F
            obtain rfl := Option.some.inj F
            refine T.skip (fun a ha => ⟨ha.sub ⟨rfl, rfl, rfl, rfl, rfl, rfl, trivial⟩, h⟩)
        · clear F
          rintro a w ⟨ha, h⟩
          refine T.use ?_ ha
          have F := E54
          refine T.seq fun Kk64 k64 => ?_
          refine T.region ?_
          obtain ⟨x65, e66, F⟩ := Option.bind_eq_some_iff.1 F
          refine R.mv rfl rfl (R.mv rfl rfl (R.mv rfl rfl (R.callF rfl cf33 rfl (fixed_Clamp.ok e66 (hg.fr0 h.fr0)) (?_))))
          rintro _ w ⟨rfl, f67⟩
          replace h := h.same f67
          refine R.as rfl rfl (R.nil (k64 _ _ ?_))
          obtain ⟨y69, F, E68⟩ := Option.bind_eq_some_iff.1 F
          refine T.cut (fun a w => Agr 119 [(9, .bool x3), (15, .bool y33), (16, .bool y55), (18, .bool y69)] a ∧ H W0 (fun _ => False) w [] []) ?_ ?_
          · refine T.region ?_
            obtain ⟨x78, e79, F⟩ := Option.bind_eq_some_iff.1 F
            refine R.mv rfl rfl (R.mv rfl rfl (R.mv rfl rfl (R.callF rfl cf33 rfl (fixed_Clamp.ok e79 (hg.fr0 h.fr0)) (?_))))
            rintro _ w ⟨rfl, f80⟩
            replace h := h.same f80
            refine R.mv rfl rfl (R.ib rfl rfl rfl rfl (R.mv rfl rfl (?_)))
            refine bsplit (x78 == x65) (fun c81 => ?_) (fun c81 => ?_)
            · replace F := (ifT c81).symm.trans F
              refine R.iff rfl rfl c81 (R.mv rfl rfl (R.iff rfl rfl c81 (R.mv rfl rfl (R.iff rfl rfl c81 (R.ib rfl rfl rfl rfl (R.iff rfl rfl c81 (R.mv rfl rfl (?_))))))))
              refine bsplit (decide (x7 > x11)) (fun c82 => ?_) (fun c82 => ?_)
              · replace F := (ifT c82).symm.trans F
                refine R.iff rfl rfl c82 (R.mv rfl rfl (R.iff rfl rfl c82 (R.mv rfl rfl (R.iff rfl rfl c82 (R.ib rfl rfl rfl rfl (R.iff rfl rfl c81 (R.pT rfl rfl c82 rfl (R.iff rfl rfl c81 (R.mv rfl rfl (?_))))))))))
                refine bsplit (x65 == x11) (fun c83 => ?_) (fun c83 => ?_)
                · replace F := (orT c83).symm.trans F
                  obtain rfl := Option.some.inj F
                  refine R.not_ rfl rfl rfl c83 (R.not_ rfl rfl rfl c83 (R.not_ rfl rfl rfl c83 (R.not_ rfl rfl rfl c83 (R.offU rfl rfl rfl (R.offU rfl rfl rfl (R.offU rfl rfl rfl (R.not_ rfl rfl rfl c83 (R.iff rfl rfl c81 (R.pT rfl rfl c83 rfl (R.pT rfl rfl c81 rfl (R.as rfl rfl (R.nil (fun a ha => ⟨ha.sub ⟨rfl, rfl, rfl, rfl, trivial⟩, h⟩)))))))))))))
                · replace F := (orF c83).symm.trans F
                  refine R.iff rfl rfl c83 (R.mv rfl rfl (R.iff rfl rfl c83 (R.mv rfl rfl (R.iff rfl rfl c83 (R.ib rfl rfl rfl rfl (R.iff rfl rfl c83 (R.mv rfl rfl (?_))))))))
                  refine bsplit (decide (x7 ≤ x65)) (fun c84 => ?_) (fun c84 => ?_)
                  · replace F := (andT c84).symm.trans F
                    obtain rfl := Option.some.inj F
                    refine R.iff rfl rfl c84 (R.mv rfl rfl (R.iff rfl rfl c84 (R.mv rfl rfl (R.iff rfl rfl c84 (R.ib rfl rfl rfl rfl (R.iff rfl rfl c83 (R.pT rfl rfl c84 rfl (R.iff rfl rfl c81 (R.pF rfl rfl c83 rfl (R.pT rfl rfl c81 rfl (R.as rfl rfl (R.nil (fun a ha => ⟨ha.sub ⟨rfl, rfl, rfl, rfl, trivial⟩, h⟩)))))))))))))
                  · replace F := (andF c84).symm.trans F
                    obtain rfl := Option.some.inj F
                    refine R.not_ rfl rfl rfl c84 (R.not_ rfl rfl rfl c84 (R.not_ rfl rfl rfl c84 (R.iff rfl rfl c83 (R.pF rfl rfl c84 rfl (R.iff rfl rfl c81 (R.pF rfl rfl c83 rfl (R.pT rfl rfl c81 rfl (R.as rfl rfl (R.nil (fun a ha => ⟨ha.sub ⟨rfl, rfl, rfl, rfl, trivial⟩, h⟩))))))))))
              · replace F := (ifF c82).symm.trans F
                refine R.not_ rfl rfl rfl c82 (R.not_ rfl rfl rfl c82 (R.not_ rfl rfl rfl c82 (R.iff rfl rfl c81 (R.pF rfl rfl c82 rfl (R.iff rfl rfl c81 (R.mv rfl rfl (R.iff rfl rfl rfl (R.mv rfl rfl (R.iff rfl rfl rfl (R.mv rfl rfl (R.iff rfl rfl rfl (R.ib rfl rfl rfl rfl (R.iff rfl rfl rfl (R.mv rfl rfl (?_)))))))))))))))
                refine bsplit (decide (x7 ≤ x65)) (fun c85 => ?_) (fun c85 => ?_)
                · replace F := (andT c85).symm.trans F
                  obtain rfl := Option.some.inj F
                  refine R.iff rfl rfl c85 (R.mv rfl rfl (R.iff rfl rfl c85 (R.mv rfl rfl (R.iff rfl rfl c85 (R.ib rfl rfl rfl rfl (R.iff rfl rfl rfl (R.pT rfl rfl c85 rfl (R.iff rfl rfl c81 (R.pF rfl rfl rfl rfl (R.pT rfl rfl c81 rfl (R.as rfl rfl (R.nil (fun a ha => ⟨ha.sub ⟨rfl, rfl, rfl, rfl, trivial⟩, h⟩)))))))))))))
                · replace F := (andF c85).symm.trans F
                  obtain rfl := Option.some.inj F
                  refine R.not_ rfl rfl rfl c85 (R.not_ rfl rfl rfl c85 (R.not_ rfl rfl rfl c85 (R.iff rfl rfl rfl (R.pF rfl rfl c85 rfl (R.iff rfl rfl c81 (R.pF rfl rfl rfl rfl (R.pT rfl rfl c81 rfl (R.as rfl rfl (R.nil (fun a ha => ⟨ha.sub ⟨rfl, rfl, rfl, rfl, trivial⟩, h⟩))))))))))
            · replace F := (ifF c81).symm.trans F
              obtain rfl := Option.some.inj F
              refine R.not_ rfl rfl rfl c81 (R.not_ rfl rfl rfl c81 (R.not_ rfl rfl rfl c81 (R.not_ rfl rfl rfl c81 (R.offU rfl rfl rfl (R.offU rfl rfl rfl (R.offU rfl rfl rfl (R.not_ rfl rfl rfl c81 (R.not_ rfl rfl rfl c81 (R.offU rfl rfl rfl (R.offU rfl rfl rfl (R.offU rfl rfl rfl (R.offU rfl rfl rfl (R.offU rfl rfl rfl (R.offU rfl rfl rfl (R.offU rfl rfl rfl (R.offU rfl rfl rfl (R.not_ rfl rfl rfl c81 (R.pF rfl rfl c81 rfl (R.as rfl rfl (R.nil (fun a ha => ⟨ha.sub ⟨rfl, rfl, rfl, rfl, trivial⟩, h⟩)))))))))))))))))))))
          · clear F
            rintro a w ⟨ha, h⟩
            refine T.use ?_ ha
            have F := E68
            obtain ⟨y87, F, E86⟩ := Option.bind_eq_some_iff.1 F
            refine T.cut (fun a w => Agr 119 [(8, .bool y87)] a ∧ H W0 (fun _ => False) w [] []) ?_ ?_
            · refine T.region ?_
              refine R.mv rfl rfl (R.mv rfl rfl (?_))
              refine bsplit x3 (fun c91 => ?_) (fun c91 => ?_)
              · replace F := (andT c91).symm.trans F
                refine R.iff rfl rfl c91 (R.mv rfl rfl (R.pT rfl rfl c91 rfl (R.mv rfl rfl (?_))))
                refine bsplit y33 (fun c92 => ?_) (fun c92 => ?_)
                · replace F := (andT c92).symm.trans F
                  refine R.iff rfl rfl c92 (R.mv rfl rfl (R.pT rfl rfl c92 rfl (R.mv rfl rfl (?_))))
                  refine bsplit y55 (fun c93 => ?_) (fun c93 => ?_)
                  · replace F := (andT c93).symm.trans F
                    obtain rfl := Option.some.inj F
                    refine R.iff rfl rfl c93 (R.mv rfl rfl (R.pT rfl rfl c93 rfl (R.as rfl rfl (R.nil (fun a ha => ⟨ha.sub ⟨rfl, trivial⟩, h⟩)))))
                  · replace F := (andF c93).symm.trans F
                    obtain rfl := Option.some.inj F
                    refine R.not_ rfl rfl rfl c93 (R.pF rfl rfl c93 rfl (R.as rfl rfl (R.nil (fun a ha => ⟨ha.sub ⟨rfl, trivial⟩, h⟩))))
                · replace F := (andF c92).symm.trans F
                  obtain rfl := Option.some.inj F
                  refine R.not_ rfl rfl rfl c92 (R.pF rfl rfl c92 rfl (R.mv rfl rfl (R.not_ rfl rfl rfl rfl (R.pF rfl rfl rfl rfl (R.as rfl rfl (R.nil (fun a ha => ⟨ha.sub ⟨rfl, trivial⟩, h⟩)))))))
              · replace F := (andF c91).symm.trans F
                obtain rfl := Option.some.inj F
                refine R.not_ rfl rfl rfl c91 (R.pF rfl rfl c91 rfl (R.mv rfl rfl (R.not_ rfl rfl rfl rfl (R.pF rfl rfl rfl rfl (R.mv rfl rfl (R.not_ rfl rfl rfl rfl (R.pF rfl rfl rfl rfl (R.as rfl rfl (R.nil (fun a ha => ⟨ha.sub ⟨rfl, trivial⟩, h⟩))))))))))
            · clear F
              rintro a w ⟨ha, h⟩
              refine T.use ?_ ha
              have F := E86
              obtain rfl := Option.some.inj F
              refine T.ret (ret1 rfl rfl ⟨rfl, h.fr0⟩)

/-! echelon/echelonlaw01.FixedSigns: function 11 -/
noncomputable def echelonlaw01_FixedSigns (a0 : Int) (a1 : Int) : Option (Bool) :=
  (echelonlaw01_awake).bind fun x3 => (fixed_Bound a0).bind fun x7 => (fixed_Bound a1).bind fun x11 => (fixed_Div x7 x11).bind fun x15 => (fixed_Div (W (0 - x7)) x11).bind fun x19 => (fixed_Print x7).bind fun x23 => (fixed_Print (W (0 - x7))).bind fun x27 => (if decide (x7 ≤ 0) then some true else (cat ([45]) x23).bind fun (x36 : Str) => some (x27 == x36)).bind fun (y31 : Bool) => ((fixed_Add (W (0 - x7)) (W (0 - x11))).bind fun x62 => (fixed_Add x7 x11).bind fun x65 => if x62 == (W (0 - x65)) then (fixed_Mul (W (0 - x7)) x11).bind fun x69 => (fixed_Mul x7 x11).bind fun x72 => if x69 == (W (0 - x72)) then (fixed_Sub x11 x7).bind fun x76 => (fixed_Sub x7 x11).bind fun x79 => some ((x76 == (W (0 - x79))) && ((x15.2 == x19.2) && (x19.1 == (W (0 - x15.1))))) else some false else some false).bind fun (y39 : Bool) => (fixed_Whole x7).bind fun x85 => ((fixed_Of x85).bind fun x112 => if decide (x112 ≤ x7) then (fixed_Of x85).bind fun x116 => if decide ((W (x7 - x116)) < 256) then some true else (fixed_Of x85).bind fun x120 => if decide (x7 < x120) then (fixed_Of x85).bind fun x124 => some (x124 == (-2147483647)) else some false else (fixed_Of x85).bind fun x127 => if decide (x7 < x127) then (fixed_Of x85).bind fun x131 => some (x131 == (-2147483647)) else some false).bind fun (y89 : Bool) => (if x3 then if y39 then if y31 then if y89 then (fixed_Abs (W (0 - x7))).bind fun x150 => (fixed_Abs x7).bind fun x153 => some (x150 == x153) else some false else some false else some false else some false).bind fun (y135 : Bool) => some y135
theorem echelonlaw01_FixedSigns.ok {a0 : Int} {a1 : Int} {r : Bool} {W0 : World} (F : echelonlaw01_FixedSigns a0 a1 = some r) (hg : Gl W0) :
    Calls Tryd.prog 11 [(.int .i64 a0 : Value), (.int .i64 a1 : Value)].toArray W0 fun e w' => ∃ v, e = .returned v ∧ (v = .bool r ∧ Fr0 W0 w') := by
  unfold echelonlaw01_FixedSigns at F
  refine calls_body 133 Tryd.func11 rfl rfl rfl ?_
  have h := H.nil W0
  refine T.seq fun Kk1 k1 => ?_
  refine T.region ?_
  refine R.as rfl rfl (R.nil (k1 _ _ ?_))
  refine T.seq fun Kk2 k2 => ?_
  refine T.region ?_
  obtain ⟨x3, e4, F⟩ := Option.bind_eq_some_iff.1 F
  refine R.callF rfl cf12 rfl (echelonlaw01_awake.ok e4 (hg.fr0 h.fr0)) (?_)
  rintro _ w ⟨rfl, f5⟩
  replace h := h.same f5
  refine R.as rfl rfl (R.nil (k2 _ _ ?_))
  refine T.seq fun Kk6 k6 => ?_
  refine T.region ?_
  obtain ⟨x7, e8, F⟩ := Option.bind_eq_some_iff.1 F
  refine R.mv rfl rfl (R.callF rfl cf23 rfl (fixed_Bound.ok e8 (hg.fr0 h.fr0)) (?_))
  rintro _ w ⟨rfl, f9⟩
  replace h := h.same f9
  refine R.as rfl rfl (R.nil (k6 _ _ ?_))
  refine T.seq fun Kk10 k10 => ?_
  refine T.region ?_
  obtain ⟨x11, e12, F⟩ := Option.bind_eq_some_iff.1 F
  refine R.mv rfl rfl (R.callF rfl cf23 rfl (fixed_Bound.ok e12 (hg.fr0 h.fr0)) (?_))
  rintro _ w ⟨rfl, f13⟩
  replace h := h.same f13
  refine R.as rfl rfl (R.nil (k10 _ _ ?_))
  refine T.seq fun Kk14 k14 => ?_
  refine T.region ?_
  obtain ⟨x15, e16, F⟩ := Option.bind_eq_some_iff.1 F
  refine R.mv rfl rfl (R.mv rfl rfl (R.callF rfl cf13 rfl (fixed_Div.ok e16 (hg.fr0 h.fr0)) (?_)))
  rintro _ w ⟨rfl, f17⟩
  replace h := h.same f17
  refine R.mv rfl rfl (R.ext rfl rfl rfl (R.ext rfl rfl rfl (R.as rfl rfl (R.as rfl rfl (R.nil (k14 _ _ ?_))))))
  refine T.seq fun Kk18 k18 => ?_
  refine T.region ?_
  obtain ⟨x19, e20, F⟩ := Option.bind_eq_some_iff.1 F
  refine R.mv rfl rfl (R.neg rfl rfl (R.mv rfl rfl (R.callF rfl cf13 rfl (fixed_Div.ok e20 (hg.fr0 h.fr0)) (?_))))
  rintro _ w ⟨rfl, f21⟩
  replace h := h.same f21
  refine R.mv rfl rfl (R.ext rfl rfl rfl (R.ext rfl rfl rfl (R.as rfl rfl (R.as rfl rfl (R.nil (k18 _ _ ?_))))))
  refine T.seq fun Kk22 k22 => ?_
  refine T.region ?_
  obtain ⟨x23, e24, F⟩ := Option.bind_eq_some_iff.1 F
  refine R.mv rfl rfl (R.callF rfl cf35 rfl (fixed_Print.ok e24 (hg.fr0 h.fr0)) (?_))
  rintro _ w ⟨rfl, f25⟩
  replace h := h.same f25
  refine R.as rfl rfl (R.nil (k22 _ _ ?_))
  refine T.seq fun Kk26 k26 => ?_
  refine T.region ?_
  obtain ⟨x27, e28, F⟩ := Option.bind_eq_some_iff.1 F
  refine R.mv rfl rfl (R.neg rfl rfl (R.callF rfl cf35 rfl (fixed_Print.ok e28 (hg.fr0 h.fr0)) (?_)))
  rintro _ w ⟨rfl, f29⟩
  replace h := h.same f29
  refine R.as rfl rfl (R.nil (k26 _ _ ?_))
  obtain ⟨y31, F, E30⟩ := Option.bind_eq_some_iff.1 F
  refine T.cut (fun a w => Agr 133 [(5, .bool x3), (6, .int .i64 x7), (7, .int .i64 x11), (8, .int .i64 x15.1), (9, .int .i64 x15.2), (10, .int .i64 x19.1), (11, .int .i64 x19.2), (14, .bool y31)] a ∧ H W0 (fun _ => False) w [] []) ?_ ?_
  · refine T.region ?_
    refine R.mv rfl rfl (R.ib rfl rfl rfl rfl (R.mv rfl rfl (?_)))
    refine bsplit (decide (x7 ≤ 0)) (fun c35 => ?_) (fun c35 => ?_)
    · replace F := (ifT c35).symm.trans F
      obtain rfl := Option.some.inj F
      refine R.not_ rfl rfl rfl c35 (R.not_ rfl rfl rfl c35 (R.not_ rfl rfl rfl c35 (R.not_ rfl rfl rfl c35 (R.pT rfl rfl c35 rfl (R.as rfl rfl (R.nil (fun a ha => ⟨ha.sub ⟨rfl, rfl, rfl, rfl, rfl, rfl, rfl, rfl, trivial⟩, h⟩)))))))
    · replace F := (ifF c35).symm.trans F
      obtain ⟨x36, e37, F⟩ := Option.bind_eq_some_iff.1 F
      obtain rfl := Option.some.inj F
      refine R.iff rfl rfl c35 (R.mv rfl rfl (R.iff rfl rfl c35 (R.mv rfl rfl (R.iff rfl rfl c35 (R.sadd rfl rfl rfl e37 (R.iff rfl rfl c35 (R.sb rfl rfl rfl rfl (R.pF rfl rfl c35 rfl (R.as rfl rfl (R.nil (fun a ha => ⟨ha.sub ⟨rfl, rfl, rfl, rfl, rfl, rfl, rfl, rfl, trivial⟩, h⟩)))))))))))
  · clear F
    rintro a w ⟨ha, h⟩
    refine T.use ?_ ha
    have F := E30
    obtain ⟨y39, F, E38⟩ := Option.bind_eq_some_iff.1 F
    refine T.cut (fun a w => Agr 133 [(5, .bool x3), (6, .int .i64 x7), (14, .bool y31), (15, .bool y39)] a ∧ H W0 (fun _ => False) w [] []) ?_ ?_
    · refine T.region ?_
      obtain ⟨x62, e63, F⟩ := Option.bind_eq_some_iff.1 F
      refine R.mv rfl rfl (R.neg rfl rfl (R.mv rfl rfl (R.neg rfl rfl (R.callF rfl cf15 rfl (fixed_Add.ok e63 (hg.fr0 h.fr0)) (?_)))))
      rintro _ w ⟨rfl, f64⟩
      replace h := h.same f64
      obtain ⟨x65, e66, F⟩ := Option.bind_eq_some_iff.1 F
      refine R.mv rfl rfl (R.mv rfl rfl (R.callF rfl cf15 rfl (fixed_Add.ok e66 (hg.fr0 h.fr0)) (?_)))
      rintro _ w ⟨rfl, f67⟩
      replace h := h.same f67
      refine R.neg rfl rfl (R.ib rfl rfl rfl rfl (R.mv rfl rfl (?_)))
      refine bsplit (x62 == (W (0 - x65))) (fun c68 => ?_) (fun c68 => ?_)
      · replace F := (ifT c68).symm.trans F
        obtain ⟨x69, e70, F⟩ := Option.bind_eq_some_iff.1 F
        refine R.iff rfl rfl c68 (R.mv rfl rfl (R.iff rfl rfl c68 (R.neg rfl rfl (R.iff rfl rfl c68 (R.mv rfl rfl (R.iff rfl rfl c68 (R.callF rfl cf19 rfl (fixed_Mul.ok e70 (hg.fr0 h.fr0)) (?_))))))))
        rintro _ w ⟨rfl, f71⟩
        replace h := h.same f71
        obtain ⟨x72, e73, F⟩ := Option.bind_eq_some_iff.1 F
        refine R.iff rfl rfl c68 (R.mv rfl rfl (R.iff rfl rfl c68 (R.mv rfl rfl (R.iff rfl rfl c68 (R.callF rfl cf19 rfl (fixed_Mul.ok e73 (hg.fr0 h.fr0)) (?_))))))
        rintro _ w ⟨rfl, f74⟩
        replace h := h.same f74
        refine R.iff rfl rfl c68 (R.neg rfl rfl (R.iff rfl rfl c68 (R.ib rfl rfl rfl rfl (R.pT rfl rfl c68 rfl (R.mv rfl rfl (?_))))))
        refine bsplit (x69 == (W (0 - x72))) (fun c75 => ?_) (fun c75 => ?_)
        · replace F := (ifT c75).symm.trans F
          obtain ⟨x76, e77, F⟩ := Option.bind_eq_some_iff.1 F
          refine R.iff rfl rfl c75 (R.mv rfl rfl (R.iff rfl rfl c75 (R.mv rfl rfl (R.iff rfl rfl c75 (R.callF rfl cf17 rfl (fixed_Sub.ok e77 (hg.fr0 h.fr0)) (?_))))))
          rintro _ w ⟨rfl, f78⟩
          replace h := h.same f78
          obtain ⟨x79, e80, F⟩ := Option.bind_eq_some_iff.1 F
          refine R.iff rfl rfl c75 (R.mv rfl rfl (R.iff rfl rfl c75 (R.mv rfl rfl (R.iff rfl rfl c75 (R.callF rfl cf17 rfl (fixed_Sub.ok e80 (hg.fr0 h.fr0)) (?_))))))
          rintro _ w ⟨rfl, f81⟩
          replace h := h.same f81
          refine R.iff rfl rfl c75 (R.neg rfl rfl (R.iff rfl rfl c75 (R.ib rfl rfl rfl rfl (R.pT rfl rfl c75 rfl (R.mv rfl rfl (?_))))))
          refine bsplit (x76 == (W (0 - x79))) (fun c82 => ?_) (fun c82 => ?_)
          · replace F := (andT c82).symm.trans F
            refine R.iff rfl rfl c82 (R.mv rfl rfl (R.iff rfl rfl c82 (R.mv rfl rfl (R.iff rfl rfl c82 (R.ib rfl rfl rfl rfl (R.pT rfl rfl c82 rfl (R.mv rfl rfl (?_))))))))
            refine bsplit (x15.2 == x19.2) (fun c83 => ?_) (fun c83 => ?_)
            · replace F := (andT c83).symm.trans F
              obtain rfl := Option.some.inj F
              refine R.iff rfl rfl c83 (R.mv rfl rfl (R.iff rfl rfl c83 (R.mv rfl rfl (R.iff rfl rfl c83 (R.neg rfl rfl (R.iff rfl rfl c83 (R.ib rfl rfl rfl rfl (R.pT rfl rfl c83 rfl (R.as rfl rfl (R.nil (fun a ha => ⟨ha.sub ⟨rfl, rfl, rfl, rfl, trivial⟩, h⟩)))))))))))
            · replace F := (andF c83).symm.trans F
              obtain rfl := Option.some.inj F
              refine R.not_ rfl rfl rfl c83 (R.not_ rfl rfl rfl c83 (R.not_ rfl rfl rfl c83 (R.not_ rfl rfl rfl c83 (R.pF rfl rfl c83 rfl (R.as rfl rfl (R.nil (fun a ha => ⟨ha.sub ⟨rfl, rfl, rfl, rfl, trivial⟩, h⟩)))))))
          · replace F := (andF c82).symm.trans F
            obtain rfl := Option.some.inj F
            refine R.not_ rfl rfl rfl c82 (R.not_ rfl rfl rfl c82 (R.not_ rfl rfl rfl c82 (R.pF rfl rfl c82 rfl (R.mv rfl rfl (R.not_ rfl rfl rfl rfl (R.not_ rfl rfl rfl rfl (R.not_ rfl rfl rfl rfl (R.not_ rfl rfl rfl rfl (R.pF rfl rfl rfl rfl (R.as rfl rfl (R.nil (fun a ha => ⟨ha.sub ⟨rfl, rfl, rfl, rfl, trivial⟩, h⟩))))))))))))
        · replace F := (ifF c75).symm.trans F
          obtain rfl := Option.some.inj F
          refine R.not_ rfl rfl rfl c75 (R.not_ rfl rfl rfl c75 (R.not_ rfl rfl rfl c75 (R.not_ rfl rfl rfl c75 (R.not_ rfl rfl rfl c75 (R.not_ rfl rfl rfl c75 (R.not_ rfl rfl rfl c75 (R.not_ rfl rfl rfl c75 (R.pF rfl rfl c75 rfl (R.mv rfl rfl (R.not_ rfl rfl rfl rfl (R.not_ rfl rfl rfl rfl (R.not_ rfl rfl rfl rfl (R.pF rfl rfl rfl rfl (R.mv rfl rfl (R.not_ rfl rfl rfl rfl (R.not_ rfl rfl rfl rfl (R.not_ rfl rfl rfl rfl (R.not_ rfl rfl rfl rfl (R.pF rfl rfl rfl rfl (R.as rfl rfl (R.nil (fun a ha => ⟨ha.sub ⟨rfl, rfl, rfl, rfl, trivial⟩, h⟩))))))))))))))))))))))
      · replace F := (ifF c68).symm.trans F
        obtain rfl := Option.some.inj F
        refine R.not_ rfl rfl rfl c68 (R.not_ rfl rfl rfl c68 (R.not_ rfl rfl rfl c68 (R.not_ rfl rfl rfl c68 (R.not_ rfl rfl rfl c68 (R.not_ rfl rfl rfl c68 (R.not_ rfl rfl rfl c68 (R.not_ rfl rfl rfl c68 (R.not_ rfl rfl rfl c68 (R.pF rfl rfl c68 rfl (R.mv rfl rfl (R.not_ rfl rfl rfl rfl (R.not_ rfl rfl rfl rfl (R.not_ rfl rfl rfl rfl (R.not_ rfl rfl rfl rfl (R.not_ rfl rfl rfl rfl (R.not_ rfl rfl rfl rfl (R.not_ rfl rfl rfl rfl (R.not_ rfl rfl rfl rfl (R.pF rfl rfl rfl rfl (R.mv rfl rfl (R.not_ rfl rfl rfl rfl (R.not_ rfl rfl rfl rfl (R.not_ rfl rfl rfl rfl (R.pF rfl rfl rfl rfl (R.mv rfl rfl (R.not_ rfl rfl rfl rfl (R.not_ rfl rfl rfl rfl (R.not_ rfl rfl rfl rfl (R.not_ rfl rfl rfl rfl (R.pF rfl rfl rfl rfl (R.as rfl rfl (R.nil (fun a ha => ⟨ha.sub ⟨rfl, rfl, rfl, rfl, trivial⟩, h⟩)))))))))))))))))))))))))))))))))
    · clear F
      rintro a w ⟨ha, h⟩
      refine T.use ?_ ha
      have F := E38
      refine T.seq fun Kk84 k84 => ?_
      refine T.region ?_
      obtain ⟨x85, e86, F⟩ := Option.bind_eq_some_iff.1 F
      refine R.mv rfl rfl (R.callF rfl cf27 rfl (fixed_Whole.ok e86 (hg.fr0 h.fr0)) (?_))
      rintro _ w ⟨rfl, f87⟩
      replace h := h.same f87
      refine R.as rfl rfl (R.nil (k84 _ _ ?_))
      obtain ⟨y89, F, E88⟩ := Option.bind_eq_some_iff.1 F
      refine T.cut (fun a w => Agr 133 [(5, .bool x3), (6, .int .i64 x7), (14, .bool y31), (15, .bool y39), (17, .bool y89)] a ∧ H W0 (fun _ => False) w [] []) ?_ ?_
      · refine T.region ?_
        obtain ⟨x112, e113, F⟩ := Option.bind_eq_some_iff.1 F
        refine R.mv rfl rfl (R.callF rfl cf25 rfl (fixed_Of.ok e113 (hg.fr0 h.fr0)) (?_))
        rintro _ w ⟨rfl, f114⟩
        replace h := h.same f114
        refine R.mv rfl rfl (R.ib rfl rfl rfl rfl (R.mv rfl rfl (?_)))
        refine bsplit (decide (x112 ≤ x7)) (fun c115 => ?_) (fun c115 => ?_)
        · replace F := (ifT c115).symm.trans F
          obtain ⟨x116, e117, F⟩ := Option.bind_eq_some_iff.1 F
          refine R.iff rfl rfl c115 (R.mv rfl rfl (R.iff rfl rfl c115 (R.mv rfl rfl (R.iff rfl rfl c115 (R.callF rfl cf25 rfl (fixed_Of.ok e117 (hg.fr0 h.fr0)) (?_))))))
          rintro _ w ⟨rfl, f118⟩
          replace h := h.same f118
          refine R.iff rfl rfl c115 (R.ib rfl rfl rfl rfl (R.iff rfl rfl c115 (R.ib rfl rfl rfl rfl (R.pT rfl rfl c115 rfl (R.mv rfl rfl (?_))))))
          refine bsplit (decide ((W (x7 - x116)) < 256)) (fun c119 => ?_) (fun c119 => ?_)
          · replace F := (ifT c119).symm.trans F
            obtain rfl := Option.some.inj F
            refine R.not_ rfl rfl rfl c119 (R.not_ rfl rfl rfl c119 (R.not_ rfl rfl rfl c119 (R.not_ rfl rfl rfl c119 (R.not_ rfl rfl rfl c119 (R.offU rfl rfl rfl (R.offU rfl rfl rfl (R.offU rfl rfl rfl (R.not_ rfl rfl rfl c119 (R.pT rfl rfl c119 rfl (R.as rfl rfl (R.nil (fun a ha => ⟨ha.sub ⟨rfl, rfl, rfl, rfl, rfl, trivial⟩, h⟩))))))))))))
          · replace F := (ifF c119).symm.trans F
            obtain ⟨x120, e121, F⟩ := Option.bind_eq_some_iff.1 F
            refine R.iff rfl rfl c119 (R.mv rfl rfl (R.iff rfl rfl c119 (R.mv rfl rfl (R.iff rfl rfl c119 (R.callF rfl cf25 rfl (fixed_Of.ok e121 (hg.fr0 h.fr0)) (?_))))))
            rintro _ w ⟨rfl, f122⟩
            replace h := h.same f122
            refine R.iff rfl rfl c119 (R.ib rfl rfl rfl rfl (R.iff rfl rfl c119 (R.mv rfl rfl (?_))))
            refine bsplit (decide (x7 < x120)) (fun c123 => ?_) (fun c123 => ?_)
            · replace F := (ifT c123).symm.trans F
              obtain ⟨x124, e125, F⟩ := Option.bind_eq_some_iff.1 F
              refine R.iff rfl rfl c123 (R.mv rfl rfl (R.iff rfl rfl c123 (R.callF rfl cf25 rfl (fixed_Of.ok e125 (hg.fr0 h.fr0)) (?_))))
              rintro _ w ⟨rfl, f126⟩
              replace h := h.same f126
              obtain rfl := Option.some.inj F
              refine R.iff rfl rfl c123 (R.ib rfl rfl rfl rfl (R.iff rfl rfl c119 (R.pT rfl rfl c123 rfl (R.pF rfl rfl c119 rfl (R.as rfl rfl (R.nil (fun a ha => ⟨ha.sub ⟨rfl, rfl, rfl, rfl, rfl, trivial⟩, h⟩)))))))
            · replace F := (ifF c123).symm.trans F
              obtain rfl := Option.some.inj F
              refine R.not_ rfl rfl rfl c123 (R.not_ rfl rfl rfl c123 (R.not_ rfl rfl rfl c123 (R.iff rfl rfl c119 (R.pF rfl rfl c123 rfl (R.pF rfl rfl c119 rfl (R.as rfl rfl (R.nil (fun a ha => ⟨ha.sub ⟨rfl, rfl, rfl, rfl, rfl, trivial⟩, h⟩))))))))
        · replace F := (ifF c115).symm.trans F
          obtain ⟨x127, e128, F⟩ := Option.bind_eq_some_iff.1 F
          refine R.not_ rfl rfl rfl c115 (R.not_ rfl rfl rfl c115 (R.not_ rfl rfl rfl c115 (R.not_ rfl rfl rfl c115 (R.not_ rfl rfl rfl c115 (R.pF rfl rfl c115 rfl (R.mv rfl rfl (R.iff rfl rfl rfl (R.mv rfl rfl (R.iff rfl rfl rfl (R.mv rfl rfl (R.iff rfl rfl rfl (R.callF rfl cf25 rfl (fixed_Of.ok e128 (hg.fr0 h.fr0)) (?_)))))))))))))
          rintro _ w ⟨rfl, f129⟩
          replace h := h.same f129
          refine R.iff rfl rfl rfl (R.ib rfl rfl rfl rfl (R.iff rfl rfl rfl (R.mv rfl rfl (?_))))
          refine bsplit (decide (x7 < x127)) (fun c130 => ?_) (fun c130 => ?_)
          · replace F := (ifT c130).symm.trans F
            obtain ⟨x131, e132, F⟩ := Option.bind_eq_some_iff.1 F
            refine R.iff rfl rfl c130 (R.mv rfl rfl (R.iff rfl rfl c130 (R.callF rfl cf25 rfl (fixed_Of.ok e132 (hg.fr0 h.fr0)) (?_))))
            rintro _ w ⟨rfl, f133⟩
            replace h := h.same f133
            obtain rfl := Option.some.inj F
            refine R.iff rfl rfl c130 (R.ib rfl rfl rfl rfl (R.iff rfl rfl rfl (R.pT rfl rfl c130 rfl (R.pF rfl rfl rfl rfl (R.as rfl rfl (R.nil (fun a ha => ⟨ha.sub ⟨rfl, rfl, rfl, rfl, rfl, trivial⟩, h⟩)))))))
          · replace F := (ifF c130).symm.trans F
            obtain rfl := Option.some.inj F
            refine R.not_ rfl rfl rfl c130 (R.not_ rfl rfl rfl c130 (R.not_ rfl rfl rfl c130 (R.iff rfl rfl rfl (R.pF rfl rfl c130 rfl (R.pF rfl rfl rfl rfl (R.as rfl rfl (R.nil (fun a ha => ⟨ha.sub ⟨rfl, rfl, rfl, rfl, rfl, trivial⟩, h⟩))))))))
      · clear F
        rintro a w ⟨ha, h⟩
        refine T.use ?_ ha
        have F := E88
        obtain ⟨y135, F, E134⟩ := Option.bind_eq_some_iff.1 F
        refine T.cut (fun a w => Agr 133 [(4, .bool y135)] a ∧ H W0 (fun _ => False) w [] []) ?_ ?_
        · refine T.region ?_
          refine R.mv rfl rfl (R.mv rfl rfl (?_))
          refine bsplit x3 (fun c146 => ?_) (fun c146 => ?_)
          · replace F := (ifT c146).symm.trans F
            refine R.iff rfl rfl c146 (R.mv rfl rfl (R.pT rfl rfl c146 rfl (R.mv rfl rfl (?_))))
            refine bsplit y39 (fun c147 => ?_) (fun c147 => ?_)
            · replace F := (ifT c147).symm.trans F
              refine R.iff rfl rfl c147 (R.mv rfl rfl (R.pT rfl rfl c147 rfl (R.mv rfl rfl (?_))))
              refine bsplit y31 (fun c148 => ?_) (fun c148 => ?_)
              · replace F := (ifT c148).symm.trans F
                refine R.iff rfl rfl c148 (R.mv rfl rfl (R.pT rfl rfl c148 rfl (R.mv rfl rfl (?_))))
                refine bsplit y89 (fun c149 => ?_) (fun c149 => ?_)
                · replace F := (ifT c149).symm.trans F
                  obtain ⟨x150, e151, F⟩ := Option.bind_eq_some_iff.1 F
                  refine R.iff rfl rfl c149 (R.mv rfl rfl (R.iff rfl rfl c149 (R.neg rfl rfl (R.iff rfl rfl c149 (R.callF rfl cf29 rfl (fixed_Abs.ok e151 (hg.fr0 h.fr0)) (?_))))))
                  rintro _ w ⟨rfl, f152⟩
                  replace h := h.same f152
                  obtain ⟨x153, e154, F⟩ := Option.bind_eq_some_iff.1 F
                  refine R.iff rfl rfl c149 (R.mv rfl rfl (R.iff rfl rfl c149 (R.callF rfl cf29 rfl (fixed_Abs.ok e154 (hg.fr0 h.fr0)) (?_))))
                  rintro _ w ⟨rfl, f155⟩
                  replace h := h.same f155
                  obtain rfl := Option.some.inj F
                  refine R.iff rfl rfl c149 (R.ib rfl rfl rfl rfl (R.pT rfl rfl c149 rfl (R.as rfl rfl (R.nil (fun a ha => ⟨ha.sub ⟨rfl, trivial⟩, h⟩)))))
                · replace F := (ifF c149).symm.trans F
                  obtain rfl := Option.some.inj F
                  refine R.not_ rfl rfl rfl c149 (R.not_ rfl rfl rfl c149 (R.not_ rfl rfl rfl c149 (R.not_ rfl rfl rfl c149 (R.not_ rfl rfl rfl c149 (R.not_ rfl rfl rfl c149 (R.pF rfl rfl c149 rfl (R.as rfl rfl (R.nil (fun a ha => ⟨ha.sub ⟨rfl, trivial⟩, h⟩)))))))))
              · replace F := (ifF c148).symm.trans F
                obtain rfl := Option.some.inj F
                refine R.not_ rfl rfl rfl c148 (R.pF rfl rfl c148 rfl (R.mv rfl rfl (R.not_ rfl rfl rfl rfl (R.not_ rfl rfl rfl rfl (R.not_ rfl rfl rfl rfl (R.not_ rfl rfl rfl rfl (R.not_ rfl rfl rfl rfl (R.not_ rfl rfl rfl rfl (R.pF rfl rfl rfl rfl (R.as rfl rfl (R.nil (fun a ha => ⟨ha.sub ⟨rfl, trivial⟩, h⟩))))))))))))
            · replace F := (ifF c147).symm.trans F
              obtain rfl := Option.some.inj F
              refine R.not_ rfl rfl rfl c147 (R.pF rfl rfl c147 rfl (R.mv rfl rfl (R.not_ rfl rfl rfl rfl (R.pF rfl rfl rfl rfl (R.mv rfl rfl (R.not_ rfl rfl rfl rfl (R.not_ rfl rfl rfl rfl (R.not_ rfl rfl rfl rfl (R.not_ rfl rfl rfl rfl (R.not_ rfl rfl rfl rfl (R.not_ rfl rfl rfl rfl (R.pF rfl rfl rfl rfl (R.as rfl rfl (R.nil (fun a ha => ⟨ha.sub ⟨rfl, trivial⟩, h⟩)))))))))))))))
          · replace F := (ifF c146).symm.trans F
            obtain rfl := Option.some.inj F
            refine R.not_ rfl rfl rfl c146 (R.pF rfl rfl c146 rfl (R.mv rfl rfl (R.not_ rfl rfl rfl rfl (R.pF rfl rfl rfl rfl (R.mv rfl rfl (R.not_ rfl rfl rfl rfl (R.pF rfl rfl rfl rfl (R.mv rfl rfl (R.not_ rfl rfl rfl rfl (R.not_ rfl rfl rfl rfl (R.not_ rfl rfl rfl rfl (R.not_ rfl rfl rfl rfl (R.not_ rfl rfl rfl rfl (R.not_ rfl rfl rfl rfl (R.pF rfl rfl rfl rfl (R.as rfl rfl (R.nil (fun a ha => ⟨ha.sub ⟨rfl, trivial⟩, h⟩))))))))))))))))))
        · clear F
          rintro a w ⟨ha, h⟩
          refine T.use ?_ ha
          have F := E134
          obtain rfl := Option.some.inj F
          refine T.ret (ret1 rfl rfl ⟨rfl, h.fr0⟩)

end Go.Proofs.YtlppoapbkmbipaaDoor.Ga
