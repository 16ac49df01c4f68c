/- Walks of functions, written by my program gen.py out of Lean's print. -/
import Derived.Test.YtneahkibnaoiiaaDoorProg
import Derived.Test.YtneahkibnaoiiaaDoorDgAdp
namespace Go.Proofs.YtneahkibnaoiiaaDoor.Dg
open Go
set_option linter.unusedVariables false
set_option linter.unusedSimpArgs false
set_option maxRecDepth 4000
theorem al131 : ((Tryd.prog.info? 131).bind (·.zero)).map (·.cells) = some ((encI .u8).flat (List.replicate 24 (0 : Int))).toArray := by kernel_rfl
theorem al152 : ((Tryd.prog.info? 152).bind (·.zero)).map (·.cells) = some ((encI .u8).flat (List.replicate 65 (0 : Int))).toArray := by kernel_rfl
theorem ar101 : arSz Tryd.prog 101 = some (3, 1) := by kernel_rfl
theorem ar152 : arSz Tryd.prog 152 = some (65, 1) := by kernel_rfl
theorem ar170 : arSz Tryd.prog 170 = some (32, 1) := by kernel_rfl
theorem ar171 : arSz Tryd.prog 171 = some (64, 1) := by kernel_rfl
theorem cf112 : Callable Tryd.prog 112 := ⟨⟨_, Tryd.func112, rfl, by decide⟩⟩
theorem cf113 : Callable Tryd.prog 113 := ⟨⟨_, Tryd.func113, rfl, by decide⟩⟩
theorem cf125 : Callable Tryd.prog 125 := ⟨⟨_, Tryd.func125, rfl, by decide⟩⟩
theorem cf22 : Callable Tryd.prog 22 := ⟨⟨_, Tryd.func22, rfl, by decide⟩⟩
theorem cf23 : Callable Tryd.prog 23 := ⟨⟨_, Tryd.func23, rfl, by decide⟩⟩
theorem cf24 : Callable Tryd.prog 24 := ⟨⟨_, Tryd.func24, rfl, by decide⟩⟩
theorem cf25 : Callable Tryd.prog 25 := ⟨⟨_, Tryd.func25, rfl, by decide⟩⟩
theorem cf26 : Callable Tryd.prog 26 := ⟨⟨_, Tryd.func26, rfl, by decide⟩⟩
theorem cf27 : Callable Tryd.prog 27 := ⟨⟨_, Tryd.func27, rfl, by decide⟩⟩
theorem cf28 : Callable Tryd.prog 28 := ⟨⟨_, Tryd.func28, rfl, by decide⟩⟩
theorem cf29 : Callable Tryd.prog 29 := ⟨⟨_, Tryd.func29, rfl, by decide⟩⟩
theorem cf30 : Callable Tryd.prog 30 := ⟨⟨_, Tryd.func30, rfl, by decide⟩⟩
theorem cf47 : Callable Tryd.prog 47 := ⟨⟨_, Tryd.func47, rfl, by decide⟩⟩
theorem cf48 : Callable Tryd.prog 48 := ⟨⟨_, Tryd.func48, rfl, by decide⟩⟩
theorem cf49 : Callable Tryd.prog 49 := ⟨⟨_, Tryd.func49, rfl, by decide⟩⟩
theorem cf74 : Callable Tryd.prog 74 := ⟨⟨_, Tryd.func74, rfl, by decide⟩⟩
theorem cf75 : Callable Tryd.prog 75 := ⟨⟨_, Tryd.func75, rfl, by decide⟩⟩
theorem cf76 : Callable Tryd.prog 76 := ⟨⟨_, Tryd.func76, rfl, by decide⟩⟩
theorem cf88 : Callable Tryd.prog 88 := ⟨⟨_, Tryd.func88, rfl, by decide⟩⟩
theorem cf97 : Callable Tryd.prog 97 := ⟨⟨_, Tryd.func97, rfl, by decide⟩⟩
theorem in5 : (Tryd.prog.info? 5).map (fun i => (i.zero, i.size)) = some (some (.int .u8 0), 1) := by kernel_rfl
theorem sh100 : shapeOf Tryd.prog 100 = some (true, 2) := by kernel_rfl
theorem sh3 : shapeOf Tryd.prog 3 = some (false, 1) := by kernel_rfl
theorem sh47 : shapeOf Tryd.prog 47 = some (false, 1) := by kernel_rfl
theorem sh5 : shapeOf Tryd.prog 5 = some (false, 1) := by kernel_rfl
theorem ss58 : slSz Tryd.prog 58 = some (5, 1) := by kernel_rfl
theorem sz5 : (Tryd.prog.info? 5).map (·.size) = some 1 := by kernel_rfl
theorem u113 : Tryd.prog.underlying 113 = some (.int .u64) := by kernel_rfl
theorem u126 : Tryd.prog.underlying 126 = some (.int .i64) := by kernel_rfl
theorem u3 : Tryd.prog.underlying 3 = some (.int .i64) := by kernel_rfl
theorem u4 : Tryd.prog.underlying 4 = some (.bool) := by kernel_rfl
theorem u47 : Tryd.prog.underlying 47 = some (.int .u64) := by kernel_rfl
theorem u5 : Tryd.prog.underlying 5 = some (.int .u8) := by kernel_rfl
theorem u58 : Tryd.prog.underlying 58 = some (.slice 5) := by kernel_rfl
theorem u9 : Tryd.prog.underlying 9 = some (.string) := by kernel_rfl
theorem ua100 : Tryd.prog.underlying 100 = some (.array 2 47) := by kernel_rfl
theorem ui89 : Tryd.prog.underlying 89 = some (.interface (Tryd.prog.methodsAt 89)) := by kernel_rfl
theorem us3 : (Tryd.prog.underlying 3).isSome = true := by kernel_rfl
theorem us47 : (Tryd.prog.underlying 47).isSome = true := by kernel_rfl
theorem us5 : (Tryd.prog.underlying 5).isSome = true := by kernel_rfl

/-! internal/strconv.isPowerOfTwo: function 112 -/
noncomputable def internal_strconv_isPowerOfTwo (a0 : Int) : Option (Bool) :=
  (some ((iand .i64 a0 (W (a0 - 1))) == 0)).bind fun (x3 : Bool) => some x3
theorem internal_strconv_isPowerOfTwo.ok {a0 : Int} {r : Bool} {W0 : World} (F : internal_strconv_isPowerOfTwo a0 = some r) (hg : Gl W0) :
    Calls Tryd.prog 112 [(.int .i64 a0 : Value)].toArray W0 fun e w' => ∃ v, e = .returned v ∧ (v = .bool r ∧ Fr0 W0 w') := by
  unfold internal_strconv_isPowerOfTwo at F
  refine calls_body 8 Tryd.func112 rfl rfl rfl ?_
  have h := H.nil W0
  refine T.seq fun Kk1 k1 => ?_
  refine T.region ?_
  refine R.as rfl rfl (R.nil (k1 _ _ ?_))
  refine T.seq fun Kk2 k2 => ?_
  refine T.region ?_
  obtain ⟨x3, e4, F⟩ := Option.bind_eq_some_iff.1 F
  refine R.mv rfl rfl (R.mv rfl rfl (R.ib rfl rfl rfl rfl (R.ib rfl rfl rfl rfl (R.ib rfl rfl rfl rfl (R.as rfl rfl (R.re (congrArg Value.bool (Option.some.inj e4)) (R.nil (k2 _ _ ?_))))))))
  obtain rfl := Option.some.inj F
  refine T.ret (ret1 rfl rfl ⟨rfl, h.fr0⟩)

/-! math/bits.TrailingZeros32: function 124 -/
noncomputable def bits_TrailingZeros32 (a0 : Int) : Option (Int) :=
  if a0 == 0 then some 32 else (getI tab6 (ishr .u32 (WU32 ((iand .u32 a0 (WU32 (0 - a0))) * 125613361)) 27)).bind fun (x7 : Int) => some (W x7)
theorem bits_TrailingZeros32.ok {a0 : Int} {r : Int} {W0 : World} (F : bits_TrailingZeros32 a0 = some r) (hg : Gl W0) :
    Calls Tryd.prog 124 [(.int .u32 a0 : Value)].toArray W0 fun e w' => ∃ v, e = .returned v ∧ (v = .int .i64 r ∧ Fr0 W0 w') := by
  unfold bits_TrailingZeros32 at F
  refine calls_body 14 Tryd.func124 rfl rfl rfl ?_
  have h := H.nil W0
  refine T.seq fun Kk1 k1 => ?_
  refine T.region ?_
  refine R.as rfl rfl (R.nil (k1 _ _ ?_))
  refine T.seq fun Kk2 k2 => ?_
  refine T.seq fun Kk3 k3 => ?_
  refine T.region ?_
  refine R.mv rfl rfl (R.ib rfl rfl rfl rfl (R.nil (k3 _ _ ?_)))
  refine T.cond rfl (fun c4 => ?_) (fun c4 => ?_)
  · replace F := (ifT c4).symm.trans F
    refine T.seq fun Kk5 k5 => ?_
    refine T.region ?_
    refine R.as rfl rfl (R.nil (k5 _ _ ?_))
    obtain rfl := Option.some.inj F
    refine T.ret (ret1 rfl rfl ⟨rfl, h.fr0⟩)
  · replace F := (ifF c4).symm.trans F
    refine T.skip (k2 _ _ ?_)
    refine T.seq fun Kk6 k6 => ?_
    refine T.region ?_
    obtain ⟨x7, e8, F⟩ := Option.bind_eq_some_iff.1 F
    refine R.mv rfl rfl (R.mv rfl rfl (R.neg rfl rfl (R.ib rfl rfl rfl rfl (R.ib rfl rfl rfl rfl (R.shr rfl rfl rfl (by decide) (R.ia (zs := tab6) rfl ar170 rfl rfl rfl e8 (R.ld rfl sh5 rfl (((hg.fr0 h.fr0).t6).at e8) (R.cvt rfl us5 u3 rfl (R.as rfl rfl (R.nil (k6 _ _ ?_)))))))))))
    obtain rfl := Option.some.inj F
    refine T.ret (ret1 rfl rfl ⟨rfl, h.fr0⟩)

/-! math/bits.TrailingZeros64: function 125 -/
noncomputable def bits_TrailingZeros64 (a0 : Int) : Option (Int) :=
  if a0 == 0 then some 64 else (getI tab7 (ishr .u64 (WU ((iand .u64 a0 (WU (0 - a0))) * 285870213051353865)) 58)).bind fun (x7 : Int) => some (W x7)
theorem bits_TrailingZeros64.ok {a0 : Int} {r : Int} {W0 : World} (F : bits_TrailingZeros64 a0 = some r) (hg : Gl W0) :
    Calls Tryd.prog 125 [(.int .u64 a0 : Value)].toArray W0 fun e w' => ∃ v, e = .returned v ∧ (v = .int .i64 r ∧ Fr0 W0 w') := by
  unfold bits_TrailingZeros64 at F
  refine calls_body 14 Tryd.func125 rfl rfl rfl ?_
  have h := H.nil W0
  refine T.seq fun Kk1 k1 => ?_
  refine T.region ?_
  refine R.as rfl rfl (R.nil (k1 _ _ ?_))
  refine T.seq fun Kk2 k2 => ?_
  refine T.seq fun Kk3 k3 => ?_
  refine T.region ?_
  refine R.mv rfl rfl (R.ib rfl rfl rfl rfl (R.nil (k3 _ _ ?_)))
  refine T.cond rfl (fun c4 => ?_) (fun c4 => ?_)
  · replace F := (ifT c4).symm.trans F
    refine T.seq fun Kk5 k5 => ?_
    refine T.region ?_
    refine R.as rfl rfl (R.nil (k5 _ _ ?_))
    obtain rfl := Option.some.inj F
    refine T.ret (ret1 rfl rfl ⟨rfl, h.fr0⟩)
  · replace F := (ifF c4).symm.trans F
    refine T.skip (k2 _ _ ?_)
    refine T.seq fun Kk6 k6 => ?_
    refine T.region ?_
    obtain ⟨x7, e8, F⟩ := Option.bind_eq_some_iff.1 F
    refine R.mv rfl rfl (R.mv rfl rfl (R.neg rfl rfl (R.ib rfl rfl rfl rfl (R.ib rfl rfl rfl rfl (R.shr rfl rfl rfl (by decide) (R.ia (zs := tab7) rfl ar171 rfl rfl rfl e8 (R.ld rfl sh5 rfl (((hg.fr0 h.fr0).t7).at e8) (R.cvt rfl us5 u3 rfl (R.as rfl rfl (R.nil (k6 _ _ ?_)))))))))))
    obtain rfl := Option.some.inj F
    refine T.ret (ret1 rfl rfl ⟨rfl, h.fr0⟩)

/-! math/bits.TrailingZeros: function 113 -/
noncomputable def bits_TrailingZeros (a0 : Int) : Option (Int) :=
  (bits_TrailingZeros64 a0).bind fun x4 => some x4
theorem bits_TrailingZeros.ok {a0 : Int} {r : Int} {W0 : World} (F : bits_TrailingZeros a0 = some r) (hg : Gl W0) :
    Calls Tryd.prog 113 [(.int .u64 a0 : Value)].toArray W0 fun e w' => ∃ v, e = .returned v ∧ (v = .int .i64 r ∧ Fr0 W0 w') := by
  unfold bits_TrailingZeros at F
  refine calls_body 8 Tryd.func113 rfl rfl rfl ?_
  have h := H.nil W0
  refine T.seq fun Kk1 k1 => ?_
  refine T.region ?_
  refine R.as rfl rfl (R.nil (k1 _ _ ?_))
  refine T.seq fun Kk2 k2 => ?_
  refine T.cF rfl rfl ?_
  refine T.skip (k2 _ _ ?_)
  refine T.seq fun Kk3 k3 => ?_
  refine T.region ?_
  obtain ⟨x4, e5, F⟩ := Option.bind_eq_some_iff.1 F
  refine R.mv rfl rfl (R.callF rfl cf125 rfl (bits_TrailingZeros64.ok e5 (hg.fr0 h.fr0)) (?_))
  rintro _ w ⟨rfl, f6⟩
  replace h := h.same f6
  refine R.as rfl rfl (R.nil (k3 _ _ ?_))
  obtain rfl := Option.some.inj F
  refine T.ret (ret1 rfl rfl ⟨rfl, h.fr0⟩)

/-! internal/strconv.formatBits: function 97 -/
noncomputable def internal_strconv_formatBits (a0 : Value) (a1 : Int) (a2 : Int) (a3 : Bool) (a4 : Bool) : Option (Value × Str) :=
  ((some ((decide (a2 < 2)) || ((a2 == 10) || (decide (a2 > 36))))).bind fun (y12 : Bool) => if y12 then none else some ()).bind fun (y3 : Unit) => (if a3 then some (WU (0 - a1)) else some a1).bind fun (y23 : Int) => ((internal_strconv_isPowerOfTwo a2).bind fun x183 => if x183 then (bits_TrailingZeros (WU a2)).bind fun x188 => (Loop.run (fun (s239 : Int × Int × List Int) => if decide (s239.1 ≥ (WU a2)) then (getI ([48, 49, 50, 51, 52, 53, 54, 55, 56, 57, 97, 98, 99, 100, 101, 102, 103, 104, 105, 106, 107, 108, 109, 110, 111, 112, 113, 114, 115, 116, 117, 118, 119, 120, 121, 122]) (iand .u64 s239.1 (WU ((WU a2) - 1)))).bind fun (x247 : UInt8) => (must (s239.2.2.length == 65)).bind fun _ => (getI s239.2.2 (W (s239.2.1 - 1))).bind fun (x249 : Int) => (must (decide (0 ≤ (WU x188)))).bind fun _ => (some (ishr .u64 s239.1 (WU x188))).bind fun (x253 : Int) => some (.inl (x253, W (s239.2.1 - 1), s239.2.2.set (W (s239.2.1 - 1)).toNat (x247.toNat : Int))) else some (.inr (s239.1, s239.2.1, s239.2.2))) (y23, 65, List.replicate 65 0)).bind fun (y194 : Int × Int × List Int) => (getI ([48, 49, 50, 51, 52, 53, 54, 55, 56, 57, 97, 98, 99, 100, 101, 102, 103, 104, 105, 106, 107, 108, 109, 110, 111, 112, 113, 114, 115, 116, 117, 118, 119, 120, 121, 122]) y194.1).bind fun (x256 : UInt8) => (must (y194.2.2.length == 65)).bind fun _ => (getI y194.2.2 (W (y194.2.1 - 1))).bind fun (x258 : Int) => some (W (y194.2.1 - 1), y194.2.2.set (W (y194.2.1 - 1)).toNat (x256.toNat : Int)) else (Loop.run (fun (s315 : Int × Int × List Int) => if decide (s315.1 ≥ (WU a2)) then (must ((WU a2) != 0)).bind fun _ => (some (WU (Int.tdiv s315.1 (WU a2)))).bind fun (x324 : Int) => (getI ([48, 49, 50, 51, 52, 53, 54, 55, 56, 57, 97, 98, 99, 100, 101, 102, 103, 104, 105, 106, 107, 108, 109, 110, 111, 112, 113, 114, 115, 116, 117, 118, 119, 120, 121, 122]) (WU (s315.1 - (WU (x324 * (WU a2)))))).bind fun (x327 : UInt8) => (must (s315.2.2.length == 65)).bind fun _ => (getI s315.2.2 (W (s315.2.1 - 1))).bind fun (x329 : Int) => some (.inl (x324, W (s315.2.1 - 1), s315.2.2.set (W (s315.2.1 - 1)).toNat (x327.toNat : Int))) else some (.inr (s315.1, s315.2.1, s315.2.2))) (y23, 65, List.replicate 65 0)).bind fun (y263 : Int × Int × List Int) => (getI ([48, 49, 50, 51, 52, 53, 54, 55, 56, 57, 97, 98, 99, 100, 101, 102, 103, 104, 105, 106, 107, 108, 109, 110, 111, 112, 113, 114, 115, 116, 117, 118, 119, 120, 121, 122]) y263.1).bind fun (x333 : UInt8) => (must (y263.2.2.length == 65)).bind fun _ => (getI y263.2.2 (W (y263.2.1 - 1))).bind fun (x335 : Int) => some (W (y263.2.1 - 1), y263.2.2.set (W (y263.2.1 - 1)).toNat (x333.toNat : Int))).bind fun (y29 : Int × List Int) => (if a3 then (must (y29.2.length == 65)).bind fun _ => (getI y29.2 (W (y29.1 - 1))).bind fun (x349 : Int) => some (W (y29.1 - 1), y29.2.set (W (y29.1 - 1)).toNat 45) else some (y29.1, y29.2)).bind fun (y339 : Int × List Int) => if a4 then none else (must (decide (0 ≤ y339.1))).bind fun _ => (must (decide (y339.1 ≤ 65))).bind fun _ => (must (y339.2.length == 65)).bind fun _ => (some (text (y339.2.drop y339.1.toNat))).bind fun (x362 : Str) => some (.slice none 0 0, x362)
theorem internal_strconv_formatBits.ok {a0 : Value} {a1 : Int} {a2 : Int} {a3 : Bool} {a4 : Bool} {r : Value × Str} {W0 : World} (F : internal_strconv_formatBits a0 a1 a2 a3 a4 = some r) (hg : Gl W0) :
    Calls Tryd.prog 97 [(a0 : Value), (.int .u64 a1 : Value), (.int .i64 a2 : Value), (.bool a3 : Value), (.bool a4 : Value)].toArray W0 fun e w' => ∃ v, e = .returned v ∧ (v = .tuple #[r.1, vS r.2] ∧ Fr0 W0 w') := by
  unfold internal_strconv_formatBits at F
  refine calls_body 102 Tryd.func97 rfl rfl rfl ?_
  have h := H.nil W0
  refine T.seq fun Kk1 k1 => ?_
  refine T.region ?_
  refine R.as rfl rfl (R.as rfl rfl (R.nil (k1 _ _ ?_)))
  obtain ⟨y3, F, E2⟩ := Option.bind_eq_some_iff.1 F
  refine T.cut (fun a w => Agr 102 [(0, a0), (1, .int .u64 a1), (2, .int .i64 a2), (3, .bool a3), (4, .bool a4), (10, .slice none 0 0), (11, vS ([]))] a ∧ H W0 (fun _ => False) w [] []) ?_ ?_
  · obtain ⟨y12, F, E11⟩ := Option.bind_eq_some_iff.1 F
    refine T.cut (fun a w => Agr 102 [(0, a0), (1, .int .u64 a1), (2, .int .i64 a2), (3, .bool a3), (4, .bool a4), (10, .slice none 0 0), (11, vS ([])), (28, .bool y12)] a ∧ H W0 (fun _ => False) w [] []) ?_ ?_
    · refine T.region ?_
      refine R.mv rfl rfl (R.ib rfl rfl rfl rfl (R.mv rfl rfl (?_)))
      refine bsplit (decide (a2 < 2)) (fun c15 => ?_) (fun c15 => ?_)
      · replace F := (orT c15).symm.trans F
        obtain rfl := Option.some.inj F
        refine R.not_ rfl rfl rfl c15 (R.not_ rfl rfl rfl c15 (R.pT rfl rfl c15 rfl (R.mv rfl rfl (R.not_ rfl rfl rfl rfl (R.not_ rfl rfl rfl rfl (R.pT rfl rfl rfl rfl (R.nil (fun a ha => ⟨ha.sub ⟨rfl, rfl, rfl, rfl, rfl, rfl, rfl, rfl, trivial⟩, h⟩))))))))
      · replace F := (orF c15).symm.trans F
        refine R.iff rfl rfl c15 (R.mv rfl rfl (R.iff rfl rfl c15 (R.ib rfl rfl rfl rfl (R.pF rfl rfl c15 rfl (R.mv rfl rfl (?_))))))
        refine bsplit (a2 == 10) (fun c16 => ?_) (fun c16 => ?_)
        · replace F := (orT c16).symm.trans F
          obtain rfl := Option.some.inj F
          refine R.not_ rfl rfl rfl c16 (R.not_ rfl rfl rfl c16 (R.pT rfl rfl c16 rfl (R.nil (fun a ha => ⟨ha.sub ⟨rfl, rfl, rfl, rfl, rfl, rfl, rfl, rfl, trivial⟩, h⟩))))
        · replace F := (orF c16).symm.trans F
          obtain rfl := Option.some.inj F
          refine R.iff rfl rfl c16 (R.mv rfl rfl (R.iff rfl rfl c16 (R.ib rfl rfl rfl rfl (R.pF rfl rfl c16 rfl (R.nil (fun a ha => ⟨ha.sub ⟨rfl, rfl, rfl, rfl, rfl, rfl, rfl, rfl, trivial⟩, h⟩))))))
    · clear F
      rintro a w ⟨ha, h⟩
      refine T.use ?_ ha
      have F := E11
      refine T.cond rfl (fun c17 => ?_) (fun c17 => ?_)
      · replace F := (ifT c17).symm.trans F
        cases F
      · replace F := (ifF c17).symm.trans F
        obtain rfl := Option.some.inj F
        refine T.skip (fun a ha => ⟨ha.sub ⟨rfl, rfl, rfl, rfl, rfl, rfl, rfl, trivial⟩, h⟩)
  · clear F
    rintro a w ⟨ha, h⟩
    refine T.use ?_ ha
    have F := E2
    refine T.seq fun Kk18 k18 => ?_
    refine T.region ?_
    refine R.allocA rfl h al152 (fun b19 w h => R.nil (k18 _ _ ?_))
    refine T.seq fun Kk21 k21 => ?_
    refine T.region ?_
    refine R.as rfl rfl (R.nil (k21 _ _ ?_))
    obtain ⟨y23, F, E22⟩ := Option.bind_eq_some_iff.1 F
    refine T.cut (fun a w => Agr 102 [(0, a0), (1, .int .u64 y23), (2, .int .i64 a2), (3, .bool a3), (4, .bool a4), (10, .slice none 0 0), (11, vS ([])), (12, .pointer (some ⟨b19, 0, none⟩)), (13, .int .i64 65)] a ∧ H W0 (fun _ => False) w [] [AArr b19 152 (encI .u8) (List.replicate 65 0)]) ?_ ?_
    · refine T.seq fun Kk26 k26 => ?_
      refine T.region ?_
      refine R.mv rfl rfl (R.nil (k26 _ _ ?_))
      refine T.cond rfl (fun c27 => ?_) (fun c27 => ?_)
      · replace F := (ifT c27).symm.trans F
        refine T.region ?_
        obtain rfl := Option.some.inj F
        refine R.mv rfl rfl (R.neg rfl rfl (R.as rfl rfl (R.nil (fun a ha => ⟨ha.sub ⟨rfl, rfl, rfl, rfl, rfl, rfl, rfl, rfl, rfl, trivial⟩, h⟩))))
      · replace F := (ifF c27).symm.trans F
        obtain rfl := Option.some.inj F
        refine T.skip (fun a ha => ⟨ha.sub ⟨rfl, rfl, rfl, rfl, rfl, rfl, rfl, rfl, rfl, trivial⟩, h⟩)
    · clear F
      rintro a w ⟨ha, h⟩
      refine T.use ?_ ha
      have F := E22
      obtain ⟨y29, F, E28⟩ := Option.bind_eq_some_iff.1 F
      refine T.cut (fun a w => Agr 102 [(0, a0), (3, .bool a3), (4, .bool a4), (10, .slice none 0 0), (11, vS ([])), (12, .pointer (some ⟨b19, 0, none⟩)), (13, .int .i64 y29.1)] a ∧ H W0 (fun _ => False) w [] [AArr b19 152 (encI .u8) y29.2]) ?_ ?_
      · refine T.seq fun Kk182 k182 => ?_
        refine T.region ?_
        obtain ⟨x183, e184, F⟩ := Option.bind_eq_some_iff.1 F
        refine R.mv rfl rfl (R.callF rfl cf112 rfl (internal_strconv_isPowerOfTwo.ok e184 (hg.fr0 h.fr0)) (?_))
        rintro _ w ⟨rfl, f185⟩
        replace h := h.same f185
        refine R.nil (k182 _ _ ?_)
        refine T.cond rfl (fun c186 => ?_) (fun c186 => ?_)
        · replace F := (ifT c186).symm.trans F
          refine T.seq fun Kk187 k187 => ?_
          refine T.region ?_
          obtain ⟨x188, e189, F⟩ := Option.bind_eq_some_iff.1 F
          refine R.mv rfl rfl (R.cvt rfl us3 u113 rfl (R.callF rfl cf113 rfl (bits_TrailingZeros.ok e189 (hg.fr0 h.fr0)) (?_)))
          rintro _ w ⟨rfl, f190⟩
          replace h := h.same f190
          refine R.cvt rfl us3 u113 rfl (R.as rfl rfl (R.nil (k187 _ _ ?_)))
          refine T.seq fun Kk191 k191 => ?_
          refine T.region ?_
          refine R.mv rfl rfl (R.cvt rfl us3 u47 rfl (R.as rfl rfl (R.nil (k191 _ _ ?_))))
          refine T.seq fun Kk192 k192 => ?_
          refine T.region ?_
          refine R.mv rfl rfl (R.cvt rfl us3 u113 rfl (R.ib rfl rfl rfl rfl (R.as rfl rfl (R.nil (k192 _ _ ?_)))))
          obtain ⟨y194, F, E193⟩ := Option.bind_eq_some_iff.1 F
          refine T.cut (fun a w => Agr 102 [(0, a0), (1, .int .u64 y194.1), (3, .bool a3), (4, .bool a4), (10, .slice none 0 0), (11, vS ([])), (12, .pointer (some ⟨b19, 0, none⟩)), (13, .int .i64 y194.2.1)] a ∧ H W0 (fun _ => False) w [] [AArr b19 152 (encI .u8) y194.2.2]) ?_ ?_
          · refine T.block ?_
            refine T.loop (fun (s239 : Int × Int × List Int) a w => Agr 102 [(0, a0), (1, .int .u64 s239.1), (3, .bool a3), (4, .bool a4), (10, .slice none 0 0), (11, vS ([])), (12, .pointer (some ⟨b19, 0, none⟩)), (13, .int .i64 s239.2.1), (14, .int .u64 (WU x188)), (15, .int .u64 (WU a2)), (16, .int .u64 (WU ((WU a2) - 1)))] a ∧ H W0 (fun _ => False) w [] [AArr b19 152 (encI .u8) s239.2.2]) F (fun a ha => ⟨ha.sub ⟨rfl, rfl, rfl, rfl, rfl, rfl, rfl, rfl, rfl, rfl, rfl, trivial⟩, h⟩) ?_
            clear h F
            intro s239 F a w
            rintro ⟨ha, h⟩
            refine T.use ?_ ha
            obtain ⟨x241, F, c1, c2⟩ := Loop.run_step F
            have E240 := F
            refine T.seq fun Kk242 k242 => ?_
            refine T.seq fun Kk243 k243 => ?_
            refine T.region ?_
            refine R.mv rfl rfl (R.mv rfl rfl (R.ib rfl rfl rfl rfl (R.nil (k243 _ _ ?_))))
            refine T.cond rfl (fun c244 => ?_) (fun c244 => ?_)
            · replace F := (ifT c244).symm.trans F
              refine T.skip (k242 _ _ ?_)
              refine T.block ?_
              refine T.seq fun Kk245 k245 => ?_
              refine T.region ?_
              refine R.mv rfl rfl (R.ib rfl rfl rfl rfl (R.as rfl rfl (R.nil (k245 _ _ ?_))))
              refine T.seq fun Kk246 k246 => ?_
              refine T.region ?_
              obtain ⟨x247, e248, F⟩ := Option.bind_eq_some_iff.1 F
              obtain ⟨_, e250, F⟩ := Option.bind_eq_some_iff.1 F
              obtain ⟨x249, e251, F⟩ := Option.bind_eq_some_iff.1 F
              refine R.mv rfl rfl (R.mv rfl rfl (R.mv rfl rfl (R.ib rfl rfl rfl rfl (R.idxS rfl u9 rfl rfl e248 (R.ia rfl ar152 rfl rfl (must_eq e250) e251 (R.stA 0 h rfl sz5 rfl rfl e251 (fun w h => R.nil (k246 _ _ ?_))))))))
              refine T.region ?_
              obtain ⟨_, e252, F⟩ := Option.bind_eq_some_iff.1 F
              obtain ⟨x253, e254, F⟩ := Option.bind_eq_some_iff.1 F
              obtain rfl := Option.some.inj F
              refine R.mv rfl rfl (R.mv rfl rfl (R.shr rfl rfl rfl (must_le e252) (R.as rfl rfl (R.re (congrArg (Value.int .u64) (Option.some.inj e254)) (R.nil (fun a ha => ⟨_, E240, ha.sub ⟨rfl, rfl, rfl, rfl, rfl, rfl, rfl, rfl, rfl, rfl, rfl, trivial⟩, h⟩))))))
            · replace F := (ifF c244).symm.trans F
              obtain rfl := Option.some.inj F
              replace F := congrArg some (c2 _ rfl)
              obtain rfl := Option.some.inj F
              refine T.exit (fun a ha => ⟨ha.sub ⟨rfl, rfl, rfl, rfl, rfl, rfl, rfl, rfl, trivial⟩, h⟩)
          · clear F
            rintro a w ⟨ha, h⟩
            refine T.use ?_ ha
            have F := E193
            refine T.seq fun Kk255 k255 => ?_
            refine T.region ?_
            refine R.mv rfl rfl (R.ib rfl rfl rfl rfl (R.as rfl rfl (R.nil (k255 _ _ ?_))))
            refine T.region ?_
            obtain ⟨x256, e257, F⟩ := Option.bind_eq_some_iff.1 F
            obtain ⟨_, e259, F⟩ := Option.bind_eq_some_iff.1 F
            obtain ⟨x258, e260, F⟩ := Option.bind_eq_some_iff.1 F
            obtain rfl := Option.some.inj F
            refine R.mv rfl rfl (R.mv rfl rfl (R.idxS rfl u9 rfl rfl e257 (R.ia rfl ar152 rfl rfl (must_eq e259) e260 (R.stA 0 h rfl sz5 rfl rfl e260 (fun w h => R.nil (fun a ha => ⟨ha.sub ⟨rfl, rfl, rfl, rfl, rfl, rfl, rfl, trivial⟩, h⟩))))))
        · replace F := (ifF c186).symm.trans F
          refine T.seq fun Kk261 k261 => ?_
          refine T.region ?_
          refine R.mv rfl rfl (R.cvt rfl us3 u47 rfl (R.as rfl rfl (R.nil (k261 _ _ ?_))))
          obtain ⟨y263, F, E262⟩ := Option.bind_eq_some_iff.1 F
          refine T.cut (fun a w => Agr 102 [(0, a0), (1, .int .u64 y263.1), (3, .bool a3), (4, .bool a4), (10, .slice none 0 0), (11, vS ([])), (12, .pointer (some ⟨b19, 0, none⟩)), (13, .int .i64 y263.2.1)] a ∧ H W0 (fun _ => False) w [] [AArr b19 152 (encI .u8) y263.2.2]) ?_ ?_
          · refine T.block ?_
            refine T.loop (fun (s315 : Int × Int × List Int) a w => Agr 102 [(0, a0), (1, .int .u64 s315.1), (3, .bool a3), (4, .bool a4), (10, .slice none 0 0), (11, vS ([])), (12, .pointer (some ⟨b19, 0, none⟩)), (13, .int .i64 s315.2.1), (17, .int .u64 (WU a2))] a ∧ H W0 (fun _ => False) w [] [AArr b19 152 (encI .u8) s315.2.2]) F (fun a ha => ⟨ha.sub ⟨rfl, rfl, rfl, rfl, rfl, rfl, rfl, rfl, rfl, trivial⟩, h⟩) ?_
            clear h F
            intro s315 F a w
            rintro ⟨ha, h⟩
            refine T.use ?_ ha
            obtain ⟨x317, F, c1, c2⟩ := Loop.run_step F
            have E316 := F
            refine T.seq fun Kk318 k318 => ?_
            refine T.seq fun Kk319 k319 => ?_
            refine T.region ?_
            refine R.mv rfl rfl (R.mv rfl rfl (R.ib rfl rfl rfl rfl (R.nil (k319 _ _ ?_))))
            refine T.cond rfl (fun c320 => ?_) (fun c320 => ?_)
            · replace F := (ifT c320).symm.trans F
              refine T.skip (k318 _ _ ?_)
              refine T.block ?_
              refine T.seq fun Kk321 k321 => ?_
              refine T.region ?_
              refine R.mv rfl rfl (R.ib rfl rfl rfl rfl (R.as rfl rfl (R.nil (k321 _ _ ?_))))
              refine T.seq fun Kk322 k322 => ?_
              refine T.region ?_
              obtain ⟨_, e323, F⟩ := Option.bind_eq_some_iff.1 F
              obtain ⟨x324, e325, F⟩ := Option.bind_eq_some_iff.1 F
              refine R.mv rfl rfl (R.mv rfl rfl (R.quo rfl rfl rfl (must_ne e323) (R.as rfl rfl (R.re (congrArg (Value.int .u64) (Option.some.inj e325)) (R.nil (k322 _ _ ?_))))))
              refine T.seq fun Kk326 k326 => ?_
              refine T.region ?_
              obtain ⟨x327, e328, F⟩ := Option.bind_eq_some_iff.1 F
              obtain ⟨_, e330, F⟩ := Option.bind_eq_some_iff.1 F
              obtain ⟨x329, e331, F⟩ := Option.bind_eq_some_iff.1 F
              refine R.mv rfl rfl (R.mv rfl rfl (R.mv rfl rfl (R.mv rfl rfl (R.ib rfl rfl rfl rfl (R.ib rfl rfl rfl rfl (R.idxS rfl u9 rfl rfl e328 (R.ia rfl ar152 rfl rfl (must_eq e330) e331 (R.stA 0 h rfl sz5 rfl rfl e331 (fun w h => R.nil (k326 _ _ ?_))))))))))
              refine T.region ?_
              obtain rfl := Option.some.inj F
              refine R.mv rfl rfl (R.as rfl rfl (R.nil (fun a ha => ⟨_, E316, ha.sub ⟨rfl, rfl, rfl, rfl, rfl, rfl, rfl, rfl, rfl, trivial⟩, h⟩)))
            · replace F := (ifF c320).symm.trans F
              obtain rfl := Option.some.inj F
              replace F := congrArg some (c2 _ rfl)
              obtain rfl := Option.some.inj F
              refine T.exit (fun a ha => ⟨ha.sub ⟨rfl, rfl, rfl, rfl, rfl, rfl, rfl, rfl, trivial⟩, h⟩)
          · clear F
            rintro a w ⟨ha, h⟩
            refine T.use ?_ ha
            have F := E262
            refine T.seq fun Kk332 k332 => ?_
            refine T.region ?_
            refine R.mv rfl rfl (R.ib rfl rfl rfl rfl (R.as rfl rfl (R.nil (k332 _ _ ?_))))
            refine T.region ?_
            obtain ⟨x333, e334, F⟩ := Option.bind_eq_some_iff.1 F
            obtain ⟨_, e336, F⟩ := Option.bind_eq_some_iff.1 F
            obtain ⟨x335, e337, F⟩ := Option.bind_eq_some_iff.1 F
            obtain rfl := Option.some.inj F
            refine R.mv rfl rfl (R.mv rfl rfl (R.idxS rfl u9 rfl rfl e334 (R.ia rfl ar152 rfl rfl (must_eq e336) e337 (R.stA 0 h rfl sz5 rfl rfl e337 (fun w h => R.nil (fun a ha => ⟨ha.sub ⟨rfl, rfl, rfl, rfl, rfl, rfl, rfl, trivial⟩, h⟩))))))
      · clear F
        rintro a w ⟨ha, h⟩
        refine T.use ?_ ha
        have F := E28
        obtain ⟨y339, F, E338⟩ := Option.bind_eq_some_iff.1 F
        refine T.cut (fun a w => Agr 102 [(0, a0), (4, .bool a4), (10, .slice none 0 0), (11, vS ([])), (12, .pointer (some ⟨b19, 0, none⟩)), (13, .int .i64 y339.1)] a ∧ H W0 (fun _ => False) w [] [AArr b19 152 (encI .u8) y339.2]) ?_ ?_
        · refine T.seq fun Kk346 k346 => ?_
          refine T.region ?_
          refine R.mv rfl rfl (R.nil (k346 _ _ ?_))
          refine T.cond rfl (fun c347 => ?_) (fun c347 => ?_)
          · replace F := (ifT c347).symm.trans F
            refine T.seq fun Kk348 k348 => ?_
            refine T.region ?_
            refine R.mv rfl rfl (R.ib rfl rfl rfl rfl (R.as rfl rfl (R.nil (k348 _ _ ?_))))
            refine T.region ?_
            obtain ⟨_, e350, F⟩ := Option.bind_eq_some_iff.1 F
            obtain ⟨x349, e351, F⟩ := Option.bind_eq_some_iff.1 F
            obtain rfl := Option.some.inj F
            refine R.mv rfl rfl (R.ia rfl ar152 rfl rfl (must_eq e350) e351 (R.stA 0 h rfl sz5 rfl rfl e351 (fun w h => R.nil (fun a ha => ⟨ha.sub ⟨rfl, rfl, rfl, rfl, rfl, rfl, trivial⟩, h⟩))))
          · replace F := (ifF c347).symm.trans F
            obtain rfl := Option.some.inj F
            refine T.skip (fun a ha => ⟨ha.sub ⟨rfl, rfl, rfl, rfl, rfl, rfl, trivial⟩, h⟩)
        · clear F
          rintro a w ⟨ha, h⟩
          refine T.use ?_ ha
          have F := E338
          refine T.seq fun Kk352 k352 => ?_
          refine T.seq fun Kk353 k353 => ?_
          refine T.region ?_
          refine R.mv rfl rfl (R.nil (k353 _ _ ?_))
          refine T.cond rfl (fun c354 => ?_) (fun c354 => ?_)
          · replace F := (ifT c354).symm.trans F
            cases F
          · replace F := (ifF c354).symm.trans F
            refine T.skip (k352 _ _ ?_)
            refine T.seq fun Kk358 k358 => ?_
            refine T.region ?_
            obtain ⟨_, e359, F⟩ := Option.bind_eq_some_iff.1 F
            obtain ⟨_, e360, F⟩ := Option.bind_eq_some_iff.1 F
            obtain ⟨_, e361, F⟩ := Option.bind_eq_some_iff.1 F
            obtain ⟨x362, e363, F⟩ := Option.bind_eq_some_iff.1 F
            refine R.mv rfl rfl (R.slAL rfl ar152 rfl rfl (must_le e359) (must_le e360) (R.a2s 0 rfl h rfl (must_eq e361) (toNat_le (must_le e360)) ss58 u5 u9 rfl (R.as rfl rfl (R.re (congrArg vS (Option.some.inj e363)) (R.nil (k358 _ _ ?_))))))
            obtain rfl := Option.some.inj F
            refine T.ret (ret2 rfl rfl rfl ⟨rfl, h.fr0⟩)

/-! internal/strconv.FormatUint: function 76 -/
noncomputable def internal_strconv_FormatUint (a0 : Int) (a1 : Int) : Option (Str) :=
  if a1 == 10 then none else (internal_strconv_formatBits (.slice none 0 0) a0 a1 false false).bind fun x14 => some x14.2
theorem internal_strconv_FormatUint.ok {a0 : Int} {a1 : Int} {r : Str} {W0 : World} (F : internal_strconv_FormatUint a0 a1 = some r) (hg : Gl W0) :
    Calls Tryd.prog 76 [(.int .u64 a0 : Value), (.int .i64 a1 : Value)].toArray W0 fun e w' => ∃ v, e = .returned v ∧ (v = vS r ∧ Fr0 W0 w') := by
  unfold internal_strconv_FormatUint at F
  refine calls_body 32 Tryd.func76 rfl rfl rfl ?_
  have h := H.nil W0
  refine T.seq fun Kk1 k1 => ?_
  refine T.region ?_
  refine R.as rfl rfl (R.nil (k1 _ _ ?_))
  refine T.seq fun Kk2 k2 => ?_
  refine T.seq fun Kk3 k3 => ?_
  refine T.region ?_
  refine R.mv rfl rfl (R.ib rfl rfl rfl rfl (R.nil (k3 _ _ ?_)))
  refine T.cond rfl (fun c4 => ?_) (fun c4 => ?_)
  · replace F := (ifT c4).symm.trans F
    cases F
  · replace F := (ifF c4).symm.trans F
    refine T.skip (k2 _ _ ?_)
    refine T.seq fun Kk13 k13 => ?_
    refine T.region ?_
    obtain ⟨x14, e15, F⟩ := Option.bind_eq_some_iff.1 F
    refine R.mv rfl rfl (R.mv rfl rfl (R.callF rfl cf97 rfl (internal_strconv_formatBits.ok e15 (hg.fr0 h.fr0)) (?_)))
    rintro _ w ⟨rfl, f16⟩
    replace h := h.same f16
    refine R.mv rfl rfl (R.ext rfl rfl rfl (R.ext rfl rfl rfl (R.as rfl rfl (R.as rfl rfl (R.nil (k13 _ _ ?_))))))
    refine T.seq fun Kk17 k17 => ?_
    refine T.region ?_
    refine R.mv rfl rfl (R.as rfl rfl (R.nil (k17 _ _ ?_)))
    obtain rfl := Option.some.inj F
    refine T.ret (ret1 rfl rfl ⟨rfl, h.fr0⟩)

/-! strconv.FormatUint: function 48 -/
noncomputable def strconv_FormatUint (a0 : Int) (a1 : Int) : Option (Str) :=
  (internal_strconv_FormatUint a0 a1).bind fun x3 => some x3
theorem strconv_FormatUint.ok {a0 : Int} {a1 : Int} {r : Str} {W0 : World} (F : strconv_FormatUint a0 a1 = some r) (hg : Gl W0) :
    Calls Tryd.prog 48 [(.int .u64 a0 : Value), (.int .i64 a1 : Value)].toArray W0 fun e w' => ∃ v, e = .returned v ∧ (v = vS r ∧ Fr0 W0 w') := by
  unfold strconv_FormatUint at F
  refine calls_body 8 Tryd.func48 rfl rfl rfl ?_
  have h := H.nil W0
  refine T.seq fun Kk1 k1 => ?_
  refine T.region ?_
  refine R.as rfl rfl (R.nil (k1 _ _ ?_))
  refine T.seq fun Kk2 k2 => ?_
  refine T.region ?_
  obtain ⟨x3, e4, F⟩ := Option.bind_eq_some_iff.1 F
  refine R.mv rfl rfl (R.mv rfl rfl (R.callF rfl cf76 rfl (internal_strconv_FormatUint.ok e4 (hg.fr0 h.fr0)) (?_)))
  rintro _ w ⟨rfl, f5⟩
  replace h := h.same f5
  refine R.as rfl rfl (R.nil (k2 _ _ ?_))
  obtain rfl := Option.some.inj F
  refine T.ret (ret1 rfl rfl ⟨rfl, h.fr0⟩)

/-! internal/strconv.lower: function 88 -/
noncomputable def internal_strconv_lower (a0 : Int) : Option (Int) :=
  some (ior .u8 a0 32)
theorem internal_strconv_lower.ok {a0 : Int} {r : Int} {W0 : World} (F : internal_strconv_lower a0 = some r) (hg : Gl W0) :
    Calls Tryd.prog 88 [(.int .u8 a0 : Value)].toArray W0 fun e w' => ∃ v, e = .returned v ∧ (v = .int .u8 r ∧ Fr0 W0 w') := by
  unfold internal_strconv_lower at F
  refine calls_body 5 Tryd.func88 rfl rfl rfl ?_
  have h := H.nil W0
  refine T.seq fun Kk1 k1 => ?_
  refine T.region ?_
  refine R.as rfl rfl (R.nil (k1 _ _ ?_))
  refine T.seq fun Kk2 k2 => ?_
  refine T.region ?_
  refine R.mv rfl rfl (R.ib rfl rfl rfl rfl (R.as rfl rfl (R.nil (k2 _ _ ?_))))
  obtain rfl := Option.some.inj F
  refine T.ret (ret1 rfl rfl ⟨rfl, h.fr0⟩)

/-! internal/strconv.ParseUint: function 74 -/
noncomputable def internal_strconv_ParseUint (a0 : Str) (a1 : Int) (a2 : Int) : Option (Int × Value) :=
  if a0 == ([]) then some (0, .iface 126 (.int .i64 2)) else ((some ((decide (2 ≤ a1)) && (decide (a1 ≤ 36)))).bind fun (y82 : Bool) => if y82 then some (.inl (a0, a1)) else if a1 == 0 then (getI a0 0).bind fun (x90 : UInt8) => if (x90.toNat : Int) == 48 then (if decide ((a0.length : Int) ≥ 3) then (getI a0 1).bind fun (x102 : UInt8) => (internal_strconv_lower (x102.toNat : Int)).bind fun x104 => some (x104 == 98) else some false).bind fun (y94 : Bool) => if y94 then (sub a0 2 (a0.length : Int)).bind fun (x109 : Str) => some (.inl (x109, 2)) else (if decide ((a0.length : Int) ≥ 3) then (getI a0 1).bind fun (x120 : UInt8) => (internal_strconv_lower (x120.toNat : Int)).bind fun x122 => some (x122 == 111) else some false).bind fun (y112 : Bool) => if y112 then (sub a0 2 (a0.length : Int)).bind fun (x127 : Str) => some (.inl (x127, 8)) else (if decide ((a0.length : Int) ≥ 3) then (getI a0 1).bind fun (x138 : UInt8) => (internal_strconv_lower (x138.toNat : Int)).bind fun x140 => some (x140 == 120) else some false).bind fun (y130 : Bool) => if y130 then (sub a0 2 (a0.length : Int)).bind fun (x145 : Str) => some (.inl (x145, 16)) else (sub a0 1 (a0.length : Int)).bind fun (x148 : Str) => some (.inl (x148, 8)) else some (.inl (a0, 10)) else some (.inr (0, .iface 126 (.int .i64 3))) : Option ((Str × Int) ⊕ (Int × Value))).bind fun y9 => Sum.elim (fun (y80 : Str × Int) => (if a2 == 0 then some (.inl 64) else (some ((decide (a2 < 0)) || (decide (a2 > 64)))).bind fun (y165 : Bool) => if y165 then some (.inr (0, .iface 126 (.int .i64 4))) else some (.inl a2) : Option ((Int) ⊕ (Int × Value))).bind fun y152 => Sum.elim (fun (y161 : Int) => (if y80.2 == 10 then some 1844674407370955162 else if y80.2 == 16 then some 1152921504606846976 else (must ((WU y80.2) != 0)).bind fun _ => (some (WU ((WU (Int.tdiv 18446744073709551615 (WU y80.2))) + 1))).bind fun (x187 : Int) => some x187).bind fun (y172 : Int) => (must (decide (0 ≤ (WU y161)))).bind fun _ => (some (WU ((ishl .u64 1 (WU y161)) - 1))).bind fun (x191 : Int) => ((must (decide (y80.1.length ≤ 9223372036854775807))).bind fun _ => Loop.run (fun (s814 : Bool × Int × Int) => if decide (s814.2.2 < ((bytes y80.1).length : Int)) then ((getI (bytes y80.1) s814.2.2).bind fun (x920 : Int) => ((some ((x920 == 95) && (a1 == 0))).bind fun (y961 : Bool) => if y961 then some (.inr (.inl ())) else (some ((decide (48 ≤ x920)) && (decide (x920 ≤ 57)))).bind fun (y967 : Bool) => if y967 then some (.inl (s814.1, W8 (x920 - 48))) else ((internal_strconv_lower x920).bind fun x980 => if decide (97 ≤ x980) then (internal_strconv_lower x920).bind fun x984 => some (decide (x984 ≤ 122)) else some false).bind fun (y972 : Bool) => if y972 then (internal_strconv_lower x920).bind fun x988 => (some (W8 ((W8 (x988 - 97)) + 10))).bind fun (x991 : Int) => some (.inl (s814.1, x991)) else some (.inr (.inr (0, .iface 126 (.int .i64 2)))) : Option ((Bool × Int) ⊕ ((Unit) ⊕ (Int × Value)))).bind fun y924 => Sum.elim (fun (y959 : Bool × Int) => if decide (y959.2 ≥ (W8 y80.2)) then some (.inr (0, .iface 126 (.int .i64 2))) else if decide (s814.2.1 ≥ y172) then some (.inr (x191, .iface 126 (.int .i64 1))) else (some (WU (s814.2.1 * (WU y80.2)))).bind fun (x1003 : Int) => (some ((decide ((WU (x1003 + (WU y959.2))) < x1003)) || (decide ((WU (x1003 + (WU y959.2))) > x191)))).bind fun (y1008 : Bool) => if y1008 then some (.inr (x191, .iface 126 (.int .i64 1))) else some (.inl (y959.1, WU (x1003 + (WU y959.2))))) (Sum.elim (fun (z1013 : Unit) => some (.inl (true, s814.2.1))) (fun (z1014 : Int × Value) => some (.inr (z1014.1, z1014.2)))) y924 : Option ((Bool × Int) ⊕ (Int × Value))).bind fun y821 => Sum.elim (fun (y918 : Bool × Int) => some (.inl (y918.1, y918.2, W (s814.2.2 + 1)))) (fun (z1015 : Int × Value) => some (.inr (.inr (z1015.1, z1015.2)))) y821 else some (.inr (.inl (s814.1, s814.2.1)))) (false, 0, 0) : Option ((Bool × Int) ⊕ (Int × Value))).bind fun y196 => Sum.elim (fun (y606 : Bool × Int) => (if y606.1 then none else some false).bind fun (y1018 : Bool) => if y1018 then some (0, .iface 126 (.int .i64 2)) else some (y606.2, .nilIface)) (fun (z1024 : Int × Value) => some (z1024.1, z1024.2)) y196) (fun (z1025 : Int × Value) => some (z1025.1, z1025.2)) y152) (fun (z1026 : Int × Value) => some (z1026.1, z1026.2)) y9
theorem internal_strconv_ParseUint.ok {a0 : Str} {a1 : Int} {a2 : Int} {r : Int × Value} {W0 : World} (F : internal_strconv_ParseUint a0 a1 a2 = some r) (hg : Gl W0) :
    Calls Tryd.prog 74 [(vS a0 : Value), (.int .i64 a1 : Value), (.int .i64 a2 : Value)].toArray W0 fun e w' => ∃ v, e = .returned v ∧ (v = .tuple #[.int .u64 r.1, r.2] ∧ Fr0 W0 w') := by
  unfold internal_strconv_ParseUint at F
  refine calls_body 172 Tryd.func74 rfl rfl rfl ?_
  have h := H.nil W0
  refine T.seq fun Kk1 k1 => ?_
  refine T.region ?_
  refine R.as rfl rfl (R.as rfl rfl (R.nil (k1 _ _ ?_)))
  refine T.seq fun Kk2 k2 => ?_
  refine T.seq fun Kk3 k3 => ?_
  refine T.region ?_
  refine R.mv rfl rfl (R.sb rfl rfl rfl rfl (R.nil (k3 _ _ ?_)))
  refine T.cond rfl (fun c4 => ?_) (fun c4 => ?_)
  · replace F := (ifT c4).symm.trans F
    refine T.seq fun Kk5 k5 => ?_
    refine T.region ?_
    refine R.mki rfl u126 rfl (R.as rfl rfl (R.as rfl rfl (R.nil (k5 _ _ ?_))))
    obtain rfl := Option.some.inj F
    refine T.ret (ret2 rfl rfl rfl ⟨rfl, h.fr0⟩)
  · replace F := (ifF c4).symm.trans F
    refine T.skip (k2 _ _ ?_)
    refine T.seq fun Kk6 k6 => ?_
    refine T.region ?_
    refine R.mv rfl rfl (R.ib rfl rfl rfl rfl (R.as rfl rfl (R.nil (k6 _ _ ?_))))
    refine T.seq fun Kk7 k7 => ?_
    refine T.region ?_
    refine R.mv rfl rfl (R.as rfl rfl (R.nil (k7 _ _ ?_)))
    obtain ⟨y9, F, E8⟩ := Option.bind_eq_some_iff.1 F
    refine T.cut (fun a w => ∃ y80, y9 = .inl y80 ∧ Agr 172 [(0, vS y80.1), (1, .int .i64 y80.2), (2, .int .i64 a2), (8, .bool (a1 == 0)), (9, vS a0)] a ∧ H W0 (fun _ => False) w [] []) ?_ ?_
    · refine T.block ?_
      obtain ⟨y82, F, E81⟩ := Option.bind_eq_some_iff.1 F
      refine T.cut (fun a w => Agr 172 [(0, vS a0), (1, .int .i64 a1), (2, .int .i64 a2), (8, .bool (a1 == 0)), (9, vS a0), (25, .bool y82)] a ∧ H W0 (fun _ => False) w [] []) ?_ ?_
      · refine T.region ?_
        refine R.mv rfl rfl (R.ib rfl rfl rfl rfl (R.mv rfl rfl (?_)))
        refine bsplit (decide (2 ≤ a1)) (fun c84 => ?_) (fun c84 => ?_)
        · replace F := (andT c84).symm.trans F
          obtain rfl := Option.some.inj F
          refine R.iff rfl rfl c84 (R.mv rfl rfl (R.iff rfl rfl c84 (R.ib rfl rfl rfl rfl (R.pT rfl rfl c84 rfl (R.as rfl rfl (R.nil (fun a ha => ⟨ha.sub ⟨rfl, rfl, rfl, rfl, rfl, rfl, trivial⟩, h⟩)))))))
        · replace F := (andF c84).symm.trans F
          obtain rfl := Option.some.inj F
          refine R.not_ rfl rfl rfl c84 (R.not_ rfl rfl rfl c84 (R.pF rfl rfl c84 rfl (R.as rfl rfl (R.nil (fun a ha => ⟨ha.sub ⟨rfl, rfl, rfl, rfl, rfl, rfl, trivial⟩, h⟩)))))
      · clear F
        rintro a w ⟨ha, h⟩
        refine T.use ?_ ha
        have F := E81
        refine T.cond rfl (fun c85 => ?_) (fun c85 => ?_)
        · replace F := (ifT c85).symm.trans F
          obtain rfl := Option.some.inj F
          refine T.skip (fun a ha => ⟨_, rfl, ha.sub ⟨rfl, rfl, rfl, rfl, rfl, trivial⟩, h⟩)
        · replace F := (ifF c85).symm.trans F
          refine T.seq fun Kk86 k86 => ?_
          refine T.region ?_
          refine R.mv rfl rfl (R.ib rfl rfl rfl rfl (R.as rfl rfl (R.nil (k86 _ _ ?_))))
          refine T.cond rfl (fun c87 => ?_) (fun c87 => ?_)
          · replace F := (ifT c87).symm.trans F
            refine T.seq fun Kk88 k88 => ?_
            refine T.region ?_
            refine R.as rfl rfl (R.nil (k88 _ _ ?_))
            refine T.seq fun Kk89 k89 => ?_
            refine T.region ?_
            obtain ⟨x90, e91, F⟩ := Option.bind_eq_some_iff.1 F
            refine R.mv rfl rfl (R.idxS rfl u9 rfl rfl e91 (R.ib rfl rfl rfl rfl (R.nil (k89 _ _ ?_))))
            refine T.cond rfl (fun c92 => ?_) (fun c92 => ?_)
            · replace F := (ifT c92).symm.trans F
              refine T.block ?_
              obtain ⟨y94, F, E93⟩ := Option.bind_eq_some_iff.1 F
              refine T.cut (fun a w => Agr 172 [(0, vS a0), (2, .int .i64 a2), (8, .bool (a1 == 0)), (9, vS a0), (40, .bool y94)] a ∧ H W0 (fun _ => False) w [] []) ?_ ?_
              · refine T.region ?_
                refine R.mv rfl rfl (R.lenS rfl u9 rfl (R.ib rfl rfl rfl rfl (R.mv rfl rfl (?_))))
                refine bsplit (decide ((a0.length : Int) ≥ 3)) (fun c101 => ?_) (fun c101 => ?_)
                · replace F := (ifT c101).symm.trans F
                  obtain ⟨x102, e103, F⟩ := Option.bind_eq_some_iff.1 F
                  obtain ⟨x104, e105, F⟩ := Option.bind_eq_some_iff.1 F
                  refine R.iff rfl rfl c101 (R.mv rfl rfl (R.iff rfl rfl c101 (R.idxS rfl u9 rfl rfl e103 (R.iff rfl rfl c101 (R.callF rfl cf88 rfl (internal_strconv_lower.ok e105 (hg.fr0 h.fr0)) (?_))))))
                  rintro _ w ⟨rfl, f106⟩
                  replace h := h.same f106
                  obtain rfl := Option.some.inj F
                  refine R.iff rfl rfl c101 (R.ib rfl rfl rfl rfl (R.pT rfl rfl c101 rfl (R.as rfl rfl (R.nil (fun a ha => ⟨ha.sub ⟨rfl, rfl, rfl, rfl, rfl, trivial⟩, h⟩)))))
                · replace F := (ifF c101).symm.trans F
                  obtain rfl := Option.some.inj F
                  refine R.not_ rfl rfl rfl c101 (R.not_ rfl rfl rfl c101 (R.not_ rfl rfl rfl c101 (R.not_ rfl rfl rfl c101 (R.pF rfl rfl c101 rfl (R.as rfl rfl (R.nil (fun a ha => ⟨ha.sub ⟨rfl, rfl, rfl, rfl, rfl, trivial⟩, h⟩)))))))
              · clear F
                rintro a w ⟨ha, h⟩
                refine T.use ?_ ha
                have F := E93
                refine T.cond rfl (fun c107 => ?_) (fun c107 => ?_)
                · replace F := (ifT c107).symm.trans F
                  refine T.seq fun Kk108 k108 => ?_
                  refine T.region ?_
                  refine R.as rfl rfl (R.nil (k108 _ _ ?_))
                  refine T.region ?_
                  obtain ⟨x109, e110, F⟩ := Option.bind_eq_some_iff.1 F
                  obtain rfl := Option.some.inj F
                  refine R.mv rfl rfl (R.ssubL rfl u9 rfl rfl e110 (R.as rfl rfl (R.nil (fun a ha => ⟨_, rfl, ha.sub ⟨rfl, rfl, rfl, rfl, rfl, trivial⟩, h⟩))))
                · replace F := (ifF c107).symm.trans F
                  obtain ⟨y112, F, E111⟩ := Option.bind_eq_some_iff.1 F
                  refine T.cut (fun a w => Agr 172 [(0, vS a0), (2, .int .i64 a2), (8, .bool (a1 == 0)), (9, vS a0), (52, .bool y112)] a ∧ H W0 (fun _ => False) w [] []) ?_ ?_
                  · refine T.region ?_
                    refine R.mv rfl rfl (R.lenS rfl u9 rfl (R.ib rfl rfl rfl rfl (R.mv rfl rfl (?_))))
                    refine bsplit (decide ((a0.length : Int) ≥ 3)) (fun c119 => ?_) (fun c119 => ?_)
                    · replace F := (ifT c119).symm.trans F
                      obtain ⟨x120, e121, F⟩ := Option.bind_eq_some_iff.1 F
                      obtain ⟨x122, e123, F⟩ := Option.bind_eq_some_iff.1 F
                      refine R.iff rfl rfl c119 (R.mv rfl rfl (R.iff rfl rfl c119 (R.idxS rfl u9 rfl rfl e121 (R.iff rfl rfl c119 (R.callF rfl cf88 rfl (internal_strconv_lower.ok e123 (hg.fr0 h.fr0)) (?_))))))
                      rintro _ w ⟨rfl, f124⟩
                      replace h := h.same f124
                      obtain rfl := Option.some.inj F
                      refine R.iff rfl rfl c119 (R.ib rfl rfl rfl rfl (R.pT rfl rfl c119 rfl (R.as rfl rfl (R.nil (fun a ha => ⟨ha.sub ⟨rfl, rfl, rfl, rfl, rfl, trivial⟩, h⟩)))))
                    · replace F := (ifF c119).symm.trans F
                      obtain rfl := Option.some.inj F
                      refine R.not_ rfl rfl rfl c119 (R.not_ rfl rfl rfl c119 (R.not_ rfl rfl rfl c119 (R.not_ rfl rfl rfl c119 (R.pF rfl rfl c119 rfl (R.as rfl rfl (R.nil (fun a ha => ⟨ha.sub ⟨rfl, rfl, rfl, rfl, rfl, trivial⟩, h⟩)))))))
                  · clear F
                    rintro a w ⟨ha, h⟩
                    refine T.use ?_ ha
                    have F := E111
                    refine T.cond rfl (fun c125 => ?_) (fun c125 => ?_)
                    · replace F := (ifT c125).symm.trans F
                      refine T.seq fun Kk126 k126 => ?_
                      refine T.region ?_
                      refine R.as rfl rfl (R.nil (k126 _ _ ?_))
                      refine T.region ?_
                      obtain ⟨x127, e128, F⟩ := Option.bind_eq_some_iff.1 F
                      obtain rfl := Option.some.inj F
                      refine R.mv rfl rfl (R.ssubL rfl u9 rfl rfl e128 (R.as rfl rfl (R.nil (fun a ha => ⟨_, rfl, ha.sub ⟨rfl, rfl, rfl, rfl, rfl, trivial⟩, h⟩))))
                    · replace F := (ifF c125).symm.trans F
                      obtain ⟨y130, F, E129⟩ := Option.bind_eq_some_iff.1 F
                      refine T.cut (fun a w => Agr 172 [(0, vS a0), (2, .int .i64 a2), (8, .bool (a1 == 0)), (9, vS a0), (64, .bool y130)] a ∧ H W0 (fun _ => False) w [] []) ?_ ?_
                      · refine T.region ?_
                        refine R.mv rfl rfl (R.lenS rfl u9 rfl (R.ib rfl rfl rfl rfl (R.mv rfl rfl (?_))))
                        refine bsplit (decide ((a0.length : Int) ≥ 3)) (fun c137 => ?_) (fun c137 => ?_)
                        · replace F := (ifT c137).symm.trans F
                          obtain ⟨x138, e139, F⟩ := Option.bind_eq_some_iff.1 F
                          obtain ⟨x140, e141, F⟩ := Option.bind_eq_some_iff.1 F
                          refine R.iff rfl rfl c137 (R.mv rfl rfl (R.iff rfl rfl c137 (R.idxS rfl u9 rfl rfl e139 (R.iff rfl rfl c137 (R.callF rfl cf88 rfl (internal_strconv_lower.ok e141 (hg.fr0 h.fr0)) (?_))))))
                          rintro _ w ⟨rfl, f142⟩
                          replace h := h.same f142
                          obtain rfl := Option.some.inj F
                          refine R.iff rfl rfl c137 (R.ib rfl rfl rfl rfl (R.pT rfl rfl c137 rfl (R.as rfl rfl (R.nil (fun a ha => ⟨ha.sub ⟨rfl, rfl, rfl, rfl, rfl, trivial⟩, h⟩)))))
                        · replace F := (ifF c137).symm.trans F
                          obtain rfl := Option.some.inj F
                          refine R.not_ rfl rfl rfl c137 (R.not_ rfl rfl rfl c137 (R.not_ rfl rfl rfl c137 (R.not_ rfl rfl rfl c137 (R.pF rfl rfl c137 rfl (R.as rfl rfl (R.nil (fun a ha => ⟨ha.sub ⟨rfl, rfl, rfl, rfl, rfl, trivial⟩, h⟩)))))))
                      · clear F
                        rintro a w ⟨ha, h⟩
                        refine T.use ?_ ha
                        have F := E129
                        refine T.cond rfl (fun c143 => ?_) (fun c143 => ?_)
                        · replace F := (ifT c143).symm.trans F
                          refine T.seq fun Kk144 k144 => ?_
                          refine T.region ?_
                          refine R.as rfl rfl (R.nil (k144 _ _ ?_))
                          refine T.region ?_
                          obtain ⟨x145, e146, F⟩ := Option.bind_eq_some_iff.1 F
                          obtain rfl := Option.some.inj F
                          refine R.mv rfl rfl (R.ssubL rfl u9 rfl rfl e146 (R.as rfl rfl (R.nil (fun a ha => ⟨_, rfl, ha.sub ⟨rfl, rfl, rfl, rfl, rfl, trivial⟩, h⟩))))
                        · replace F := (ifF c143).symm.trans F
                          refine T.seq fun Kk147 k147 => ?_
                          refine T.region ?_
                          refine R.as rfl rfl (R.nil (k147 _ _ ?_))
                          refine T.region ?_
                          obtain ⟨x148, e149, F⟩ := Option.bind_eq_some_iff.1 F
                          obtain rfl := Option.some.inj F
                          refine R.mv rfl rfl (R.ssubL rfl u9 rfl rfl e149 (R.as rfl rfl (R.nil (fun a ha => ⟨_, rfl, ha.sub ⟨rfl, rfl, rfl, rfl, rfl, trivial⟩, h⟩))))
            · replace F := (ifF c92).symm.trans F
              obtain rfl := Option.some.inj F
              refine T.skip (fun a ha => ⟨_, rfl, ha.sub ⟨rfl, rfl, rfl, rfl, rfl, trivial⟩, h⟩)
          · replace F := (ifF c87).symm.trans F
            refine T.seq fun Kk150 k150 => ?_
            refine T.region ?_
            refine R.mki rfl u126 rfl (R.as rfl rfl (R.as rfl rfl (R.nil (k150 _ _ ?_))))
            obtain rfl := Option.some.inj F
            replace F := E8
            obtain rfl := Option.some.inj F
            refine T.ret (ret2 rfl rfl rfl ⟨rfl, h.fr0⟩)
    · clear F
      rintro a w ⟨y80, rfl, ha, h⟩
      refine T.use ?_ ha
      have F := E8
      obtain ⟨y152, F, E151⟩ := Option.bind_eq_some_iff.1 F
      refine T.cut (fun a w => ∃ y161, y152 = .inl y161 ∧ Agr 172 [(0, vS y80.1), (1, .int .i64 y80.2), (2, .int .i64 y161), (8, .bool (a1 == 0)), (9, vS a0)] a ∧ H W0 (fun _ => False) w [] []) ?_ ?_
      · refine T.seq fun Kk162 k162 => ?_
        refine T.region ?_
        refine R.mv rfl rfl (R.ib rfl rfl rfl rfl (R.nil (k162 _ _ ?_)))
        refine T.cond rfl (fun c163 => ?_) (fun c163 => ?_)
        · replace F := (ifT c163).symm.trans F
          refine T.region ?_
          obtain rfl := Option.some.inj F
          refine R.as rfl rfl (R.nil (fun a ha => ⟨_, rfl, ha.sub ⟨rfl, rfl, rfl, rfl, rfl, trivial⟩, h⟩))
        · replace F := (ifF c163).symm.trans F
          obtain ⟨y165, F, E164⟩ := Option.bind_eq_some_iff.1 F
          refine T.cut (fun a w => Agr 172 [(0, vS y80.1), (1, .int .i64 y80.2), (2, .int .i64 a2), (8, .bool (a1 == 0)), (9, vS a0), (83, .bool y165)] a ∧ H W0 (fun _ => False) w [] []) ?_ ?_
          · refine T.region ?_
            refine R.mv rfl rfl (R.ib rfl rfl rfl rfl (R.mv rfl rfl (?_)))
            refine bsplit (decide (a2 < 0)) (fun c167 => ?_) (fun c167 => ?_)
            · replace F := (orT c167).symm.trans F
              obtain rfl := Option.some.inj F
              refine R.not_ rfl rfl rfl c167 (R.not_ rfl rfl rfl c167 (R.pT rfl rfl c167 rfl (R.nil (fun a ha => ⟨ha.sub ⟨rfl, rfl, rfl, rfl, rfl, rfl, trivial⟩, h⟩))))
            · replace F := (orF c167).symm.trans F
              obtain rfl := Option.some.inj F
              refine R.iff rfl rfl c167 (R.mv rfl rfl (R.iff rfl rfl c167 (R.ib rfl rfl rfl rfl (R.pF rfl rfl c167 rfl (R.nil (fun a ha => ⟨ha.sub ⟨rfl, rfl, rfl, rfl, rfl, rfl, trivial⟩, h⟩))))))
          · clear F
            rintro a w ⟨ha, h⟩
            refine T.use ?_ ha
            have F := E164
            refine T.cond rfl (fun c168 => ?_) (fun c168 => ?_)
            · replace F := (ifT c168).symm.trans F
              refine T.seq fun Kk169 k169 => ?_
              refine T.region ?_
              refine R.mki rfl u126 rfl (R.as rfl rfl (R.as rfl rfl (R.nil (k169 _ _ ?_))))
              obtain rfl := Option.some.inj F
              replace F := E151
              obtain rfl := Option.some.inj F
              refine T.ret (ret2 rfl rfl rfl ⟨rfl, h.fr0⟩)
            · replace F := (ifF c168).symm.trans F
              obtain rfl := Option.some.inj F
              refine T.skip (fun a ha => ⟨_, rfl, ha.sub ⟨rfl, rfl, rfl, rfl, rfl, trivial⟩, h⟩)
      · clear F
        rintro a w ⟨y161, rfl, ha, h⟩
        refine T.use ?_ ha
        have F := E151
        refine T.seq fun Kk170 k170 => ?_
        refine T.region ?_
        refine R.as rfl rfl (R.nil (k170 _ _ ?_))
        obtain ⟨y172, F, E171⟩ := Option.bind_eq_some_iff.1 F
        refine T.cut (fun a w => Agr 172 [(0, vS y80.1), (1, .int .i64 y80.2), (2, .int .i64 y161), (8, .bool (a1 == 0)), (9, vS a0), (10, .int .u64 y172)] a ∧ H W0 (fun _ => False) w [] []) ?_ ?_
        · refine T.seq fun Kk181 k181 => ?_
          refine T.region ?_
          refine R.mv rfl rfl (R.nil (k181 _ _ ?_))
          refine T.block ?_
          refine T.seq fun Kk182 k182 => ?_
          refine T.region ?_
          refine R.ib rfl rfl rfl rfl (R.as rfl rfl (R.nil (k182 _ _ ?_)))
          refine T.cond rfl (fun c183 => ?_) (fun c183 => ?_)
          · replace F := (ifT c183).symm.trans F
            refine T.region ?_
            obtain rfl := Option.some.inj F
            refine R.as rfl rfl (R.nil (fun a ha => ⟨ha.sub ⟨rfl, rfl, rfl, rfl, rfl, rfl, trivial⟩, h⟩))
          · replace F := (ifF c183).symm.trans F
            refine T.seq fun Kk184 k184 => ?_
            refine T.region ?_
            refine R.ib rfl rfl rfl rfl (R.as rfl rfl (R.nil (k184 _ _ ?_)))
            refine T.cond rfl (fun c185 => ?_) (fun c185 => ?_)
            · replace F := (ifT c185).symm.trans F
              refine T.region ?_
              obtain rfl := Option.some.inj F
              refine R.as rfl rfl (R.nil (fun a ha => ⟨ha.sub ⟨rfl, rfl, rfl, rfl, rfl, rfl, trivial⟩, h⟩))
            · replace F := (ifF c185).symm.trans F
              refine T.region ?_
              obtain ⟨_, e186, F⟩ := Option.bind_eq_some_iff.1 F
              obtain ⟨x187, e188, F⟩ := Option.bind_eq_some_iff.1 F
              obtain rfl := Option.some.inj F
              refine R.mv rfl rfl (R.cvt rfl us3 u47 rfl (R.quo rfl rfl rfl (must_ne e186) (R.ib rfl rfl rfl rfl (R.as rfl rfl (R.re (congrArg (Value.int .u64) (Option.some.inj e188)) (R.nil (fun a ha => ⟨ha.sub ⟨rfl, rfl, rfl, rfl, rfl, rfl, trivial⟩, h⟩)))))))
        · clear F
          rintro a w ⟨ha, h⟩
          refine T.use ?_ ha
          have F := E171
          refine T.seq fun Kk189 k189 => ?_
          refine T.region ?_
          obtain ⟨_, e190, F⟩ := Option.bind_eq_some_iff.1 F
          obtain ⟨x191, e192, F⟩ := Option.bind_eq_some_iff.1 F
          refine R.mv rfl rfl (R.cvt rfl us3 u113 rfl (R.shl rfl rfl rfl (must_le e190) (R.ib rfl rfl rfl rfl (R.as rfl rfl (R.re (congrArg (Value.int .u64) (Option.some.inj e192)) (R.nil (k189 _ _ ?_)))))))
          refine T.seq fun Kk193 k193 => ?_
          refine T.region ?_
          refine R.as rfl rfl (R.nil (k193 _ _ ?_))
          refine T.seq fun Kk194 k194 => ?_
          refine T.region ?_
          refine R.as rfl rfl (R.nil (k194 _ _ ?_))
          obtain ⟨y196, F, E195⟩ := Option.bind_eq_some_iff.1 F
          refine T.cut (fun a w => ∃ y606, y196 = .inl y606 ∧ Agr 172 [(9, vS a0), (12, .bool y606.1), (13, .int .u64 y606.2)] a ∧ H W0 (fun _ => False) w [] []) ?_ ?_
          · refine T.seq fun Kk607 k607 => ?_
            refine T.region ?_
            obtain ⟨_, e608, F⟩ := Option.bind_eq_some_iff.1 F
            refine R.mv rfl rfl (R.s2b rfl h u9 u58 u5 rfl (must_leN e608) (fun p609 p610 w h => R.lenSl rfl u58 rfl (R.mv rfl rfl (R.nil (k607 _ _ ?_)))))
            refine T.block ?_
            refine T.loop (fun (s814 : Bool × Int × Int) a w => Agr 172 [(1, .int .i64 y80.2), (8, .bool (a1 == 0)), (9, vS a0), (10, .int .u64 y172), (11, .int .u64 x191), (12, .bool s814.1), (13, .int .u64 s814.2.1), (99, .slice p609 (bytes y80.1).length p610), (100, .int .i64 ((bytes y80.1).length : Int)), (101, .int .i64 s814.2.2)] a ∧ H W0 (fun _ => False) w [] [DSl (encI .u8) p609 (bytes y80.1)]) F (fun a ha => ⟨ha.sub ⟨rfl, rfl, rfl, rfl, rfl, rfl, rfl, rfl, rfl, rfl, trivial⟩, h⟩) ?_
            clear h F
            intro s814 F a w
            rintro ⟨ha, h⟩
            refine T.use ?_ ha
            obtain ⟨x816, F, c1, c2⟩ := Loop.run_step F
            have E815 := F
            refine T.seq fun Kk817 k817 => ?_
            refine T.region ?_
            refine R.ib rfl rfl rfl rfl (R.nil (k817 _ _ ?_))
            refine T.seq fun Kk818 k818 => ?_
            refine T.cond rfl (fun c819 => ?_) (fun c819 => ?_)
            · replace F := (ifT c819).symm.trans F
              refine T.skip (k818 _ _ ?_)
              obtain ⟨y821, F, E820⟩ := Option.bind_eq_some_iff.1 F
              refine T.cut (fun a w => ∃ y918, y821 = .inl y918 ∧ Agr 172 [(1, .int .i64 y80.2), (8, .bool (a1 == 0)), (9, vS a0), (10, .int .u64 y172), (11, .int .u64 x191), (12, .bool y918.1), (13, .int .u64 y918.2), (99, .slice p609 (bytes y80.1).length p610), (100, .int .i64 ((bytes y80.1).length : Int)), (101, .int .i64 s814.2.2)] a ∧ H W0 (fun _ => False) w [] [DSl (encI .u8) p609 (bytes y80.1)]) ?_ ?_
              · refine T.block ?_
                refine T.seq fun Kk919 k919 => ?_
                refine T.region ?_
                obtain ⟨x920, e921, F⟩ := Option.bind_eq_some_iff.1 F
                refine R.idx rfl ss58 rfl rfl ((h.rdX 0 rfl (getI_some e921).2.2).1) (getI_some e921).1 (getI_some e921).2.1 (R.ld rfl sh5 rfl ((h.rdX 0 rfl (getI_some e921).2.2).2 0 _ rfl) (R.as rfl rfl (R.nil (k919 _ _ ?_))))
                refine T.seq fun Kk922 k922 => ?_
                refine T.region ?_
                refine R.as rfl rfl (R.nil (k922 _ _ ?_))
                obtain ⟨y924, F, E923⟩ := Option.bind_eq_some_iff.1 F
                refine T.cut (fun a w => ∃ y959, y924 = .inl y959 ∧ Agr 172 [(1, .int .i64 y80.2), (8, .bool (a1 == 0)), (9, vS a0), (10, .int .u64 y172), (11, .int .u64 x191), (12, .bool y959.1), (13, .int .u64 s814.2.1), (16, .int .u8 y959.2), (99, .slice p609 (bytes y80.1).length p610), (100, .int .i64 ((bytes y80.1).length : Int)), (101, .int .i64 s814.2.2)] a ∧ H W0 (fun _ => False) w [] [DSl (encI .u8) p609 (bytes y80.1)]) ?_ ?_
                · refine T.block ?_
                  obtain ⟨y961, F, E960⟩ := Option.bind_eq_some_iff.1 F
                  refine T.cut (fun a w => Agr 172 [(1, .int .i64 y80.2), (8, .bool (a1 == 0)), (9, vS a0), (10, .int .u64 y172), (11, .int .u64 x191), (12, .bool s814.1), (13, .int .u64 s814.2.1), (15, .int .u8 x920), (99, .slice p609 (bytes y80.1).length p610), (100, .int .i64 ((bytes y80.1).length : Int)), (101, .int .i64 s814.2.2), (106, .bool y961)] a ∧ H W0 (fun _ => False) w [] [DSl (encI .u8) p609 (bytes y80.1)]) ?_ ?_
                  · refine T.region ?_
                    refine R.mv rfl rfl (R.ib rfl rfl rfl rfl (R.mv rfl rfl (?_)))
                    refine bsplit (x920 == 95) (fun c963 => ?_) (fun c963 => ?_)
                    · replace F := (andT c963).symm.trans F
                      obtain rfl := Option.some.inj F
                      refine R.iff rfl rfl c963 (R.mv rfl rfl (R.pT rfl rfl c963 rfl (R.as rfl rfl (R.nil (fun a ha => ⟨ha.sub ⟨rfl, rfl, rfl, rfl, rfl, rfl, rfl, rfl, rfl, rfl, rfl, rfl, trivial⟩, h⟩)))))
                    · replace F := (andF c963).symm.trans F
                      obtain rfl := Option.some.inj F
                      refine R.not_ rfl rfl rfl c963 (R.pF rfl rfl c963 rfl (R.as rfl rfl (R.nil (fun a ha => ⟨ha.sub ⟨rfl, rfl, rfl, rfl, rfl, rfl, rfl, rfl, rfl, rfl, rfl, rfl, trivial⟩, h⟩))))
                  · clear F
                    rintro a w ⟨ha, h⟩
                    refine T.use ?_ ha
                    have F := E960
                    refine T.cond rfl (fun c964 => ?_) (fun c964 => ?_)
                    · replace F := (ifT c964).symm.trans F
                      refine T.seq fun Kk965 k965 => ?_
                      refine T.region ?_
                      refine R.as rfl rfl (R.nil (k965 _ _ ?_))
                      obtain rfl := Option.some.inj F
                      replace F := E923
                      obtain rfl := Option.some.inj F
                      refine T.exit (fun a ha => ⟨_, rfl, ha.sub ⟨rfl, rfl, rfl, rfl, rfl, rfl, rfl, rfl, rfl, rfl, trivial⟩, h⟩)
                    · replace F := (ifF c964).symm.trans F
                      obtain ⟨y967, F, E966⟩ := Option.bind_eq_some_iff.1 F
                      refine T.cut (fun a w => Agr 172 [(1, .int .i64 y80.2), (8, .bool (a1 == 0)), (9, vS a0), (10, .int .u64 y172), (11, .int .u64 x191), (12, .bool s814.1), (13, .int .u64 s814.2.1), (15, .int .u8 x920), (99, .slice p609 (bytes y80.1).length p610), (100, .int .i64 ((bytes y80.1).length : Int)), (101, .int .i64 s814.2.2), (112, .bool y967)] a ∧ H W0 (fun _ => False) w [] [DSl (encI .u8) p609 (bytes y80.1)]) ?_ ?_
                      · refine T.region ?_
                        refine R.mv rfl rfl (R.ib rfl rfl rfl rfl (R.mv rfl rfl (?_)))
                        refine bsplit (decide (48 ≤ x920)) (fun c969 => ?_) (fun c969 => ?_)
                        · replace F := (andT c969).symm.trans F
                          obtain rfl := Option.some.inj F
                          refine R.iff rfl rfl c969 (R.mv rfl rfl (R.iff rfl rfl c969 (R.ib rfl rfl rfl rfl (R.pT rfl rfl c969 rfl (R.as rfl rfl (R.nil (fun a ha => ⟨ha.sub ⟨rfl, rfl, rfl, rfl, rfl, rfl, rfl, rfl, rfl, rfl, rfl, rfl, trivial⟩, h⟩)))))))
                        · replace F := (andF c969).symm.trans F
                          obtain rfl := Option.some.inj F
                          refine R.not_ rfl rfl rfl c969 (R.not_ rfl rfl rfl c969 (R.pF rfl rfl c969 rfl (R.as rfl rfl (R.nil (fun a ha => ⟨ha.sub ⟨rfl, rfl, rfl, rfl, rfl, rfl, rfl, rfl, rfl, rfl, rfl, rfl, trivial⟩, h⟩)))))
                      · clear F
                        rintro a w ⟨ha, h⟩
                        refine T.use ?_ ha
                        have F := E966
                        refine T.cond rfl (fun c970 => ?_) (fun c970 => ?_)
                        · replace F := (ifT c970).symm.trans F
                          refine T.region ?_
                          obtain rfl := Option.some.inj F
                          refine R.mv rfl rfl (R.ib rfl rfl rfl rfl (R.as rfl rfl (R.nil (fun a ha => ⟨_, rfl, ha.sub ⟨rfl, rfl, rfl, rfl, rfl, rfl, rfl, rfl, rfl, rfl, rfl, trivial⟩, h⟩))))
                        · replace F := (ifF c970).symm.trans F
                          obtain ⟨y972, F, E971⟩ := Option.bind_eq_some_iff.1 F
                          refine T.cut (fun a w => Agr 172 [(1, .int .i64 y80.2), (8, .bool (a1 == 0)), (9, vS a0), (10, .int .u64 y172), (11, .int .u64 x191), (12, .bool s814.1), (13, .int .u64 s814.2.1), (15, .int .u8 x920), (99, .slice p609 (bytes y80.1).length p610), (100, .int .i64 ((bytes y80.1).length : Int)), (101, .int .i64 s814.2.2), (121, .bool y972)] a ∧ H W0 (fun _ => False) w [] [DSl (encI .u8) p609 (bytes y80.1)]) ?_ ?_
                          · refine T.region ?_
                            obtain ⟨x980, e981, F⟩ := Option.bind_eq_some_iff.1 F
                            refine R.mv rfl rfl (R.callF rfl cf88 rfl (internal_strconv_lower.ok e981 (hg.fr0 h.fr0)) (?_))
                            rintro _ w ⟨rfl, f982⟩
                            replace h := h.same f982
                            refine R.ib rfl rfl rfl rfl (R.mv rfl rfl (?_))
                            refine bsplit (decide (97 ≤ x980)) (fun c983 => ?_) (fun c983 => ?_)
                            · replace F := (ifT c983).symm.trans F
                              obtain ⟨x984, e985, F⟩ := Option.bind_eq_some_iff.1 F
                              refine R.iff rfl rfl c983 (R.mv rfl rfl (R.iff rfl rfl c983 (R.callF rfl cf88 rfl (internal_strconv_lower.ok e985 (hg.fr0 h.fr0)) (?_))))
                              rintro _ w ⟨rfl, f986⟩
                              replace h := h.same f986
                              obtain rfl := Option.some.inj F
                              refine R.iff rfl rfl c983 (R.ib rfl rfl rfl rfl (R.pT rfl rfl c983 rfl (R.as rfl rfl (R.nil (fun a ha => ⟨ha.sub ⟨rfl, rfl, rfl, rfl, rfl, rfl, rfl, rfl, rfl, rfl, rfl, rfl, trivial⟩, h⟩)))))
                            · replace F := (ifF c983).symm.trans F
                              obtain rfl := Option.some.inj F
                              refine R.not_ rfl rfl rfl c983 (R.not_ rfl rfl rfl c983 (R.not_ rfl rfl rfl c983 (R.pF rfl rfl c983 rfl (R.as rfl rfl (R.nil (fun a ha => ⟨ha.sub ⟨rfl, rfl, rfl, rfl, rfl, rfl, rfl, rfl, rfl, rfl, rfl, rfl, trivial⟩, h⟩))))))
                          · clear F
                            rintro a w ⟨ha, h⟩
                            refine T.use ?_ ha
                            have F := E971
                            refine T.cond rfl (fun c987 => ?_) (fun c987 => ?_)
                            · replace F := (ifT c987).symm.trans F
                              refine T.region ?_
                              obtain ⟨x988, e989, F⟩ := Option.bind_eq_some_iff.1 F
                              refine R.mv rfl rfl (R.callF rfl cf88 rfl (internal_strconv_lower.ok e989 (hg.fr0 h.fr0)) (?_))
                              rintro _ w ⟨rfl, f990⟩
                              replace h := h.same f990
                              obtain ⟨x991, e992, F⟩ := Option.bind_eq_some_iff.1 F
                              obtain rfl := Option.some.inj F
                              refine R.ib rfl rfl rfl rfl (R.ib rfl rfl rfl rfl (R.as rfl rfl (R.re (congrArg (Value.int .u8) (Option.some.inj e992)) (R.nil (fun a ha => ⟨_, rfl, ha.sub ⟨rfl, rfl, rfl, rfl, rfl, rfl, rfl, rfl, rfl, rfl, rfl, trivial⟩, h⟩)))))
                            · replace F := (ifF c987).symm.trans F
                              refine T.seq fun Kk993 k993 => ?_
                              refine T.region ?_
                              refine R.mki rfl u126 rfl (R.as rfl rfl (R.as rfl rfl (R.nil (k993 _ _ ?_))))
                              obtain rfl := Option.some.inj F
                              replace F := E923
                              obtain rfl := Option.some.inj F
                              replace F := E820
                              obtain rfl := Option.some.inj F
                              replace F := congrArg some (c2 _ rfl)
                              obtain rfl := Option.some.inj F
                              replace F := E195
                              obtain rfl := Option.some.inj F
                              refine T.ret (ret2 rfl rfl rfl ⟨rfl, h.fr0⟩)
                · clear F
                  rintro a w ⟨y959, rfl, ha, h⟩
                  refine T.use ?_ ha
                  have F := E923
                  refine T.seq fun Kk994 k994 => ?_
                  refine T.seq fun Kk995 k995 => ?_
                  refine T.region ?_
                  refine R.mv rfl rfl (R.mv rfl rfl (R.cvt rfl us3 u5 rfl (R.ib rfl rfl rfl rfl (R.nil (k995 _ _ ?_)))))
                  refine T.cond rfl (fun c996 => ?_) (fun c996 => ?_)
                  · replace F := (ifT c996).symm.trans F
                    refine T.seq fun Kk997 k997 => ?_
                    refine T.region ?_
                    refine R.mki rfl u126 rfl (R.as rfl rfl (R.as rfl rfl (R.nil (k997 _ _ ?_))))
                    obtain rfl := Option.some.inj F
                    replace F := E820
                    obtain rfl := Option.some.inj F
                    replace F := congrArg some (c2 _ rfl)
                    obtain rfl := Option.some.inj F
                    replace F := E195
                    obtain rfl := Option.some.inj F
                    refine T.ret (ret2 rfl rfl rfl ⟨rfl, h.fr0⟩)
                  · replace F := (ifF c996).symm.trans F
                    refine T.skip (k994 _ _ ?_)
                    refine T.seq fun Kk998 k998 => ?_
                    refine T.seq fun Kk999 k999 => ?_
                    refine T.region ?_
                    refine R.mv rfl rfl (R.mv rfl rfl (R.ib rfl rfl rfl rfl (R.nil (k999 _ _ ?_))))
                    refine T.cond rfl (fun c1000 => ?_) (fun c1000 => ?_)
                    · replace F := (ifT c1000).symm.trans F
                      refine T.seq fun Kk1001 k1001 => ?_
                      refine T.region ?_
                      refine R.mv rfl rfl (R.mki rfl u126 rfl (R.as rfl rfl (R.as rfl rfl (R.nil (k1001 _ _ ?_)))))
                      obtain rfl := Option.some.inj F
                      replace F := E820
                      obtain rfl := Option.some.inj F
                      replace F := congrArg some (c2 _ rfl)
                      obtain rfl := Option.some.inj F
                      replace F := E195
                      obtain rfl := Option.some.inj F
                      refine T.ret (ret2 rfl rfl rfl ⟨rfl, h.fr0⟩)
                    · replace F := (ifF c1000).symm.trans F
                      refine T.skip (k998 _ _ ?_)
                      refine T.seq fun Kk1002 k1002 => ?_
                      refine T.region ?_
                      obtain ⟨x1003, e1004, F⟩ := Option.bind_eq_some_iff.1 F
                      refine R.mv rfl rfl (R.mv rfl rfl (R.cvt rfl us3 u47 rfl (R.ib rfl rfl rfl rfl (R.as rfl rfl (R.re (congrArg (Value.int .u64) (Option.some.inj e1004)) (R.nil (k1002 _ _ ?_)))))))
                      refine T.seq fun Kk1005 k1005 => ?_
                      refine T.region ?_
                      refine R.mv rfl rfl (R.mv rfl rfl (R.cvt rfl us5 u47 rfl (R.ib rfl rfl rfl rfl (R.as rfl rfl (R.nil (k1005 _ _ ?_))))))
                      refine T.seq fun Kk1006 k1006 => ?_
                      obtain ⟨y1008, F, E1007⟩ := Option.bind_eq_some_iff.1 F
                      refine T.cut (fun a w => Agr 172 [(1, .int .i64 y80.2), (8, .bool (a1 == 0)), (9, vS a0), (10, .int .u64 y172), (11, .int .u64 x191), (12, .bool y959.1), (17, .int .u64 (WU (x1003 + (WU y959.2)))), (99, .slice p609 (bytes y80.1).length p610), (100, .int .i64 ((bytes y80.1).length : Int)), (101, .int .i64 s814.2.2), (159, .bool y1008)] a ∧ H W0 (fun _ => False) w [] [DSl (encI .u8) p609 (bytes y80.1)]) ?_ ?_
                      · refine T.region ?_
                        refine R.mv rfl rfl (R.mv rfl rfl (R.ib rfl rfl rfl rfl (R.mv rfl rfl (?_))))
                        refine bsplit (decide ((WU (x1003 + (WU y959.2))) < x1003)) (fun c1010 => ?_) (fun c1010 => ?_)
                        · replace F := (orT c1010).symm.trans F
                          obtain rfl := Option.some.inj F
                          refine R.not_ rfl rfl rfl c1010 (R.not_ rfl rfl rfl c1010 (R.not_ rfl rfl rfl c1010 (R.pT rfl rfl c1010 rfl (R.nil (fun a ha => ⟨ha.sub ⟨rfl, rfl, rfl, rfl, rfl, rfl, rfl, rfl, rfl, rfl, rfl, trivial⟩, h⟩)))))
                        · replace F := (orF c1010).symm.trans F
                          obtain rfl := Option.some.inj F
                          refine R.iff rfl rfl c1010 (R.mv rfl rfl (R.iff rfl rfl c1010 (R.mv rfl rfl (R.iff rfl rfl c1010 (R.ib rfl rfl rfl rfl (R.pF rfl rfl c1010 rfl (R.nil (fun a ha => ⟨ha.sub ⟨rfl, rfl, rfl, rfl, rfl, rfl, rfl, rfl, rfl, rfl, rfl, trivial⟩, h⟩))))))))
                      · clear F
                        rintro a w ⟨ha, h⟩
                        refine T.use ?_ ha
                        have F := E1007
                        refine T.cond rfl (fun c1011 => ?_) (fun c1011 => ?_)
                        · replace F := (ifT c1011).symm.trans F
                          refine T.seq fun Kk1012 k1012 => ?_
                          refine T.region ?_
                          refine R.mv rfl rfl (R.mki rfl u126 rfl (R.as rfl rfl (R.as rfl rfl (R.nil (k1012 _ _ ?_)))))
                          obtain rfl := Option.some.inj F
                          replace F := E820
                          obtain rfl := Option.some.inj F
                          replace F := congrArg some (c2 _ rfl)
                          obtain rfl := Option.some.inj F
                          replace F := E195
                          obtain rfl := Option.some.inj F
                          refine T.ret (ret2 rfl rfl rfl ⟨rfl, h.fr0⟩)
                        · replace F := (ifF c1011).symm.trans F
                          refine T.skip (k1006 _ _ ?_)
                          refine T.region ?_
                          obtain rfl := Option.some.inj F
                          refine R.mv rfl rfl (R.as rfl rfl (R.nil (fun a ha => ⟨_, rfl, ha.sub ⟨rfl, rfl, rfl, rfl, rfl, rfl, rfl, rfl, rfl, rfl, trivial⟩, h⟩)))
              · clear F
                rintro a w ⟨y918, rfl, ha, h⟩
                refine T.use ?_ ha
                have F := E820
                refine T.region ?_
                obtain rfl := Option.some.inj F
                refine R.ib rfl rfl rfl rfl (R.mv rfl rfl (R.nil (fun a ha => ⟨_, E815, ha.sub ⟨rfl, rfl, rfl, rfl, rfl, rfl, rfl, rfl, rfl, rfl, trivial⟩, h⟩)))
            · replace F := (ifF c819).symm.trans F
              obtain rfl := Option.some.inj F
              replace F := congrArg some (c2 _ rfl)
              obtain rfl := Option.some.inj F
              refine T.exit (fun a ha => ⟨_, rfl, ha.sub ⟨rfl, rfl, rfl, trivial⟩, (h.sel [] rfl (by decide))⟩)
          · clear F
            rintro a w ⟨y606, rfl, ha, h⟩
            refine T.use ?_ ha
            have F := E195
            refine T.seq fun Kk1016 k1016 => ?_
            obtain ⟨y1018, F, E1017⟩ := Option.bind_eq_some_iff.1 F
            refine T.cut (fun a w => Agr 172 [(13, .int .u64 y606.2), (169, .bool y1018)] a ∧ H W0 (fun _ => False) w [] []) ?_ ?_
            · refine T.region ?_
              refine R.mv rfl rfl (R.mv rfl rfl (?_))
              refine bsplit y606.1 (fun c1020 => ?_) (fun c1020 => ?_)
              · replace F := (ifT c1020).symm.trans F
                cases F
              · replace F := (ifF c1020).symm.trans F
                obtain rfl := Option.some.inj F
                refine R.not_ rfl rfl rfl c1020 (R.not_ rfl rfl rfl c1020 (R.not_ rfl rfl rfl c1020 (R.pF rfl rfl c1020 rfl (R.nil (fun a ha => ⟨ha.sub ⟨rfl, rfl, trivial⟩, h⟩)))))
            · clear F
              rintro a w ⟨ha, h⟩
              refine T.use ?_ ha
              have F := E1017
              refine T.cond rfl (fun c1021 => ?_) (fun c1021 => ?_)
              · replace F := (ifT c1021).symm.trans F
                refine T.seq fun Kk1022 k1022 => ?_
                refine T.region ?_
                refine R.mki rfl u126 rfl (R.as rfl rfl (R.as rfl rfl (R.nil (k1022 _ _ ?_))))
                obtain rfl := Option.some.inj F
                refine T.ret (ret2 rfl rfl rfl ⟨rfl, h.fr0⟩)
              · replace F := (ifF c1021).symm.trans F
                refine T.skip (k1016 _ _ ?_)
                refine T.seq fun Kk1023 k1023 => ?_
                refine T.region ?_
                refine R.mv rfl rfl (R.as rfl rfl (R.as rfl rfl (R.nil (k1023 _ _ ?_))))
                obtain rfl := Option.some.inj F
                refine T.ret (ret2 rfl rfl rfl ⟨rfl, h.fr0⟩)

/-! strconv.ParseUint: function 47 -/
noncomputable def strconv_ParseUint (a0 : Str) (a1 : Int) (a2 : Int) : Option (Int × Bool) :=
  (internal_strconv_ParseUint a0 a1 a2).bind fun x3 => (isErr x3.2).bind fun (x8 : Bool) => if x8 then (lib_toError ([80, 97, 114, 115, 101, 85, 105, 110, 116]) a0 a1 a2 x3.2).bind fun x12 => some (x3.1, x12) else some (x3.1, false)
theorem strconv_ParseUint.ok {a0 : Str} {a1 : Int} {a2 : Int} {r : Int × Bool} {W0 : World} (F : strconv_ParseUint a0 a1 a2 = some r) (hg : Gl W0) :
    Calls Tryd.prog 47 [(vS a0 : Value), (.int .i64 a1 : Value), (.int .i64 a2 : Value)].toArray W0 fun e w' => ∃ v, e = .returned v ∧ ∃ e1, ErrV r.2 e1 ∧ (v = .tuple #[.int .u64 r.1, e1] ∧ Fr0 W0 w') := by
  unfold strconv_ParseUint at F
  refine calls_body 26 Tryd.func47 rfl rfl rfl ?_
  have h := H.nil W0
  refine T.seq fun Kk1 k1 => ?_
  refine T.region ?_
  refine R.as rfl rfl (R.as rfl rfl (R.nil (k1 _ _ ?_)))
  refine T.seq fun Kk2 k2 => ?_
  refine T.region ?_
  obtain ⟨x3, e4, F⟩ := Option.bind_eq_some_iff.1 F
  refine R.mv rfl rfl (R.mv rfl rfl (R.mv rfl rfl (R.callF rfl cf74 rfl (internal_strconv_ParseUint.ok e4 (hg.fr0 h.fr0)) (?_))))
  rintro _ w ⟨rfl, f5⟩
  replace h := h.same f5
  refine R.mv rfl rfl (R.ext rfl rfl rfl (R.ext rfl rfl rfl (R.as rfl rfl (R.as rfl rfl (R.nil (k2 _ _ ?_))))))
  refine T.seq fun Kk6 k6 => ?_
  refine T.seq fun Kk7 k7 => ?_
  refine T.region ?_
  obtain ⟨x8, e9, F⟩ := Option.bind_eq_some_iff.1 F
  refine R.mv rfl rfl (R.enq rfl ui89 (isErr_some e9) rfl (R.nil (k7 _ _ ?_)))
  refine T.cond rfl (fun c10 => ?_) (fun c10 => ?_)
  · replace F := (ifT c10).symm.trans F
    refine T.seq fun Kk11 k11 => ?_
    refine T.region ?_
    obtain ⟨x12, e13, F⟩ := Option.bind_eq_some_iff.1 F
    refine R.mv rfl rfl (R.mv rfl rfl (R.mv rfl rfl (R.mv rfl rfl (R.mv rfl rfl (R.callF rfl cf75 rfl (lib_toError.ok e13 (hg.fr0 h.fr0)) (?_))))))
    rintro _ w ⟨v15, he16, rfl, f14⟩
    replace h := h.same f14
    refine R.as rfl rfl (R.as rfl rfl (R.nil (k11 _ _ ?_)))
    obtain rfl := Option.some.inj F
    refine T.ret (ret2 rfl rfl rfl ⟨_, he16, rfl, h.fr0⟩)
  · replace F := (ifF c10).symm.trans F
    refine T.skip (k6 _ _ ?_)
    refine T.seq fun Kk17 k17 => ?_
    refine T.region ?_
    refine R.mv rfl rfl (R.as rfl rfl (R.as rfl rfl (R.nil (k17 _ _ ?_))))
    obtain rfl := Option.some.inj F
    refine T.ret (ret2 rfl rfl rfl ⟨_, ErrV.none, rfl, h.fr0⟩)

/-! echelon/digest.Mix: function 25 -/
noncomputable def digest_Mix (a0 : Int) : Option (Int) :=
  (Loop.run (fun (s49 : Int × Int) => if decide (s49.2 < 2) then (getI tab0 s49.2).bind fun (x57 : Int) => (getI tab1 s49.2).bind fun (x59 : Int) => (must (decide (0 ≤ x59))).bind fun _ => (some (WU ((ixor .u64 s49.1 (ishr .u64 s49.1 x59)) * x57))).bind fun (x62 : Int) => some (.inl (x62, W (s49.2 + 1))) else some (.inr s49.1)) (a0, 0)).bind fun (y3 : Int) => (getI tab1 2).bind fun (x65 : Int) => (must (decide (0 ≤ x65))).bind fun _ => (some (ixor .u64 y3 (ishr .u64 y3 x65))).bind fun (x68 : Int) => some x68
theorem digest_Mix.ok {a0 : Int} {r : Int} {W0 : World} (F : digest_Mix a0 = some r) (hg : Gl W0) :
    Calls Tryd.prog 25 [(.int .u64 a0 : Value)].toArray W0 fun e w' => ∃ v, e = .returned v ∧ (v = .int .u64 r ∧ Fr0 W0 w') := by
  unfold digest_Mix at F
  refine calls_body 26 Tryd.func25 rfl rfl rfl ?_
  have h := H.nil W0
  refine T.seq fun Kk1 k1 => ?_
  refine T.region ?_
  refine R.as rfl rfl (R.nil (k1 _ _ ?_))
  obtain ⟨y3, F, E2⟩ := Option.bind_eq_some_iff.1 F
  refine T.cut (fun a w => Agr 26 [(0, .int .u64 y3)] a ∧ H W0 (fun _ => False) w [] []) ?_ ?_
  · refine T.seq fun Kk34 k34 => ?_
    refine T.region ?_
    refine R.ldN rfl sh100 rfl rfl ((hg.fr0 h.fr0).t0).all (R.mv rfl rfl (R.nil (k34 _ _ ?_)))
    refine T.block ?_
    refine T.loop (fun (s49 : Int × Int) a w => Agr 26 [(0, .int .u64 s49.1), (5, .agg (tab0.map (Value.int .u64)).toArray), (6, .int .i64 s49.2)] a ∧ H W0 (fun _ => False) w [] []) F (fun a ha => ⟨ha.sub ⟨rfl, rfl, rfl, trivial⟩, h⟩) ?_
    clear h F
    intro s49 F a w
    rintro ⟨ha, h⟩
    refine T.use ?_ ha
    obtain ⟨x51, F, c1, c2⟩ := Loop.run_step F
    have E50 := F
    refine T.seq fun Kk52 k52 => ?_
    refine T.region ?_
    refine R.ib rfl rfl rfl rfl (R.nil (k52 _ _ ?_))
    refine T.seq fun Kk53 k53 => ?_
    refine T.cond rfl (fun c54 => ?_) (fun c54 => ?_)
    · replace F := (ifT c54).symm.trans F
      refine T.skip (k53 _ _ ?_)
      refine T.seq fun Kk55 k55 => ?_
      refine T.block ?_
      refine T.seq fun Kk56 k56 => ?_
      refine T.region ?_
      obtain ⟨x57, e58, F⟩ := Option.bind_eq_some_iff.1 F
      refine R.mv rfl rfl (R.ixT (zs := tab0) rfl ua100 sh47 rfl rfl rfl e58 (R.as rfl rfl (R.as rfl rfl (R.nil (k56 _ _ ?_)))))
      refine T.region ?_
      obtain ⟨x59, e60, F⟩ := Option.bind_eq_some_iff.1 F
      obtain ⟨_, e61, F⟩ := Option.bind_eq_some_iff.1 F
      obtain ⟨x62, e63, F⟩ := Option.bind_eq_some_iff.1 F
      refine R.mv rfl rfl (R.mv rfl rfl (R.mv rfl rfl (R.ia (zs := tab1) rfl ar101 rfl rfl rfl e60 (R.ld rfl sh3 rfl (((hg.fr0 h.fr0).t1).at e60) (R.shr rfl rfl rfl (must_le e61) (R.ib rfl rfl rfl rfl (R.mv rfl rfl (R.ib rfl rfl rfl rfl (R.as rfl rfl (R.re (congrArg (Value.int .u64) (Option.some.inj e63)) (R.nil (k55 _ _ ?_))))))))))))
      refine T.region ?_
      obtain rfl := Option.some.inj F
      refine R.ib rfl rfl rfl rfl (R.mv rfl rfl (R.nil (fun a ha => ⟨_, E50, ha.sub ⟨rfl, rfl, rfl, trivial⟩, h⟩)))
    · replace F := (ifF c54).symm.trans F
      obtain rfl := Option.some.inj F
      replace F := congrArg some (c2 _ rfl)
      obtain rfl := Option.some.inj F
      refine T.exit (fun a ha => ⟨ha.sub ⟨rfl, trivial⟩, h⟩)
  · clear F
    rintro a w ⟨ha, h⟩
    refine T.use ?_ ha
    have F := E2
    refine T.seq fun Kk64 k64 => ?_
    refine T.region ?_
    obtain ⟨x65, e66, F⟩ := Option.bind_eq_some_iff.1 F
    obtain ⟨_, e67, F⟩ := Option.bind_eq_some_iff.1 F
    obtain ⟨x68, e69, F⟩ := Option.bind_eq_some_iff.1 F
    refine R.mv rfl rfl (R.mv rfl rfl (R.ia (zs := tab1) rfl ar101 rfl rfl rfl e66 (R.ld rfl sh3 rfl (((hg.fr0 h.fr0).t1).at e66) (R.shr rfl rfl rfl (must_le e67) (R.ib rfl rfl rfl rfl (R.as rfl rfl (R.re (congrArg (Value.int .u64) (Option.some.inj e69)) (R.nil (k64 _ _ ?_)))))))))
    obtain rfl := Option.some.inj F
    refine T.ret (ret1 rfl rfl ⟨rfl, h.fr0⟩)

/-! echelon/echelonref03.Mix: function 27 -/
noncomputable def echelonref03_Mix (a0 : Int) : Option (Int) :=
  (some (ixor .u64 a0 (WU (Int.tdiv a0 1073741824)))).bind fun (x3 : Int) => (some (WU (x3 * 13787848793156543929))).bind fun (x6 : Int) => (some (ixor .u64 x6 (WU (Int.tdiv x6 134217728)))).bind fun (x9 : Int) => (some (WU (x9 * 10723151780598845931))).bind fun (x12 : Int) => (some (ixor .u64 x12 (WU (Int.tdiv x12 2147483648)))).bind fun (x15 : Int) => some x15
theorem echelonref03_Mix.ok {a0 : Int} {r : Int} {W0 : World} (F : echelonref03_Mix a0 = some r) (hg : Gl W0) :
    Calls Tryd.prog 27 [(.int .u64 a0 : Value)].toArray W0 fun e w' => ∃ v, e = .returned v ∧ (v = .int .u64 r ∧ Fr0 W0 w') := by
  unfold echelonref03_Mix at F
  refine calls_body 19 Tryd.func27 rfl rfl rfl ?_
  have h := H.nil W0
  refine T.seq fun Kk1 k1 => ?_
  refine T.region ?_
  refine R.as rfl rfl (R.nil (k1 _ _ ?_))
  refine T.seq fun Kk2 k2 => ?_
  refine T.region ?_
  obtain ⟨x3, e4, F⟩ := Option.bind_eq_some_iff.1 F
  refine R.mv rfl rfl (R.mv rfl rfl (R.quo rfl rfl rfl (by decide) (R.ib rfl rfl rfl rfl (R.as rfl rfl (R.re (congrArg (Value.int .u64) (Option.some.inj e4)) (R.nil (k2 _ _ ?_)))))))
  refine T.seq fun Kk5 k5 => ?_
  refine T.region ?_
  obtain ⟨x6, e7, F⟩ := Option.bind_eq_some_iff.1 F
  refine R.mv rfl rfl (R.ib rfl rfl rfl rfl (R.as rfl rfl (R.re (congrArg (Value.int .u64) (Option.some.inj e7)) (R.nil (k5 _ _ ?_)))))
  refine T.seq fun Kk8 k8 => ?_
  refine T.region ?_
  obtain ⟨x9, e10, F⟩ := Option.bind_eq_some_iff.1 F
  refine R.mv rfl rfl (R.mv rfl rfl (R.quo rfl rfl rfl (by decide) (R.ib rfl rfl rfl rfl (R.as rfl rfl (R.re (congrArg (Value.int .u64) (Option.some.inj e10)) (R.nil (k8 _ _ ?_)))))))
  refine T.seq fun Kk11 k11 => ?_
  refine T.region ?_
  obtain ⟨x12, e13, F⟩ := Option.bind_eq_some_iff.1 F
  refine R.mv rfl rfl (R.ib rfl rfl rfl rfl (R.as rfl rfl (R.re (congrArg (Value.int .u64) (Option.some.inj e13)) (R.nil (k11 _ _ ?_)))))
  refine T.seq fun Kk14 k14 => ?_
  refine T.region ?_
  obtain ⟨x15, e16, F⟩ := Option.bind_eq_some_iff.1 F
  refine R.mv rfl rfl (R.mv rfl rfl (R.quo rfl rfl rfl (by decide) (R.ib rfl rfl rfl rfl (R.as rfl rfl (R.re (congrArg (Value.int .u64) (Option.some.inj e16)) (R.nil (k14 _ _ ?_)))))))
  obtain rfl := Option.some.inj F
  refine T.ret (ret1 rfl rfl ⟨rfl, h.fr0⟩)

/-! echelon/digest.Chain: function 28 -/
noncomputable def digest_Chain (a0 : Int) (a1 : Int) : Option (Int) :=
  (digest_Mix a1).bind fun x3 => (digest_Mix (WU ((WU (a0 * 11400714819323198485)) + x3))).bind fun x6 => some x6
theorem digest_Chain.ok {a0 : Int} {a1 : Int} {r : Int} {W0 : World} (F : digest_Chain a0 a1 = some r) (hg : Gl W0) :
    Calls Tryd.prog 28 [(.int .u64 a0 : Value), (.int .u64 a1 : Value)].toArray W0 fun e w' => ∃ v, e = .returned v ∧ (v = .int .u64 r ∧ Fr0 W0 w') := by
  unfold digest_Chain at F
  refine calls_body 11 Tryd.func28 rfl rfl rfl ?_
  have h := H.nil W0
  refine T.seq fun Kk1 k1 => ?_
  refine T.region ?_
  refine R.as rfl rfl (R.nil (k1 _ _ ?_))
  refine T.seq fun Kk2 k2 => ?_
  refine T.region ?_
  obtain ⟨x3, e4, F⟩ := Option.bind_eq_some_iff.1 F
  refine R.mv rfl rfl (R.ib rfl rfl rfl rfl (R.mv rfl rfl (R.callF rfl cf25 rfl (digest_Mix.ok e4 (hg.fr0 h.fr0)) (?_))))
  rintro _ w ⟨rfl, f5⟩
  replace h := h.same f5
  obtain ⟨x6, e7, F⟩ := Option.bind_eq_some_iff.1 F
  refine R.ib rfl rfl rfl rfl (R.callF rfl cf25 rfl (digest_Mix.ok e7 (hg.fr0 h.fr0)) (?_))
  rintro _ w ⟨rfl, f8⟩
  replace h := h.same f8
  refine R.as rfl rfl (R.nil (k2 _ _ ?_))
  obtain rfl := Option.some.inj F
  refine T.ret (ret1 rfl rfl ⟨rfl, h.fr0⟩)

/-! echelon/echelonref03.Chain: function 29 -/
noncomputable def echelonref03_Chain (a0 : Int) (a1 : Int) : Option (Int) :=
  (echelonref03_Mix a1).bind fun x3 => (echelonref03_Mix (WU ((WU (a0 * 11400714819323198485)) + x3))).bind fun x6 => some x6
theorem echelonref03_Chain.ok {a0 : Int} {a1 : Int} {r : Int} {W0 : World} (F : echelonref03_Chain a0 a1 = some r) (hg : Gl W0) :
    Calls Tryd.prog 29 [(.int .u64 a0 : Value), (.int .u64 a1 : Value)].toArray W0 fun e w' => ∃ v, e = .returned v ∧ (v = .int .u64 r ∧ Fr0 W0 w') := by
  unfold echelonref03_Chain at F
  refine calls_body 11 Tryd.func29 rfl rfl rfl ?_
  have h := H.nil W0
  refine T.seq fun Kk1 k1 => ?_
  refine T.region ?_
  refine R.as rfl rfl (R.nil (k1 _ _ ?_))
  refine T.seq fun Kk2 k2 => ?_
  refine T.region ?_
  obtain ⟨x3, e4, F⟩ := Option.bind_eq_some_iff.1 F
  refine R.mv rfl rfl (R.ib rfl rfl rfl rfl (R.mv rfl rfl (R.callF rfl cf27 rfl (echelonref03_Mix.ok e4 (hg.fr0 h.fr0)) (?_))))
  rintro _ w ⟨rfl, f5⟩
  replace h := h.same f5
  obtain ⟨x6, e7, F⟩ := Option.bind_eq_some_iff.1 F
  refine R.ib rfl rfl rfl rfl (R.callF rfl cf27 rfl (echelonref03_Mix.ok e7 (hg.fr0 h.fr0)) (?_))
  rintro _ w ⟨rfl, f8⟩
  replace h := h.same f8
  refine R.as rfl rfl (R.nil (k2 _ _ ?_))
  obtain rfl := Option.some.inj F
  refine T.ret (ret1 rfl rfl ⟨rfl, h.fr0⟩)

/-! echelon/digest.Print: function 26 -/
noncomputable def digest_Print (a0 : Int) : Option (Str) :=
  (strconv_FormatUint a0 16).bind fun x3 => (lib_Repeat ([48]) (W (16 - (x3.length : Int)))).bind fun x7 => (cat x7 x3).bind fun (x10 : Str) => some x10
theorem digest_Print.ok {a0 : Int} {r : Str} {W0 : World} (F : digest_Print a0 = some r) (hg : Gl W0) :
    Calls Tryd.prog 26 [(.int .u64 a0 : Value)].toArray W0 fun e w' => ∃ v, e = .returned v ∧ (v = vS r ∧ Fr0 W0 w') := by
  unfold digest_Print at F
  refine calls_body 12 Tryd.func26 rfl rfl rfl ?_
  have h := H.nil W0
  refine T.seq fun Kk1 k1 => ?_
  refine T.region ?_
  refine R.as rfl rfl (R.nil (k1 _ _ ?_))
  refine T.seq fun Kk2 k2 => ?_
  refine T.region ?_
  obtain ⟨x3, e4, F⟩ := Option.bind_eq_some_iff.1 F
  refine R.mv rfl rfl (R.callF rfl cf48 rfl (strconv_FormatUint.ok e4 (hg.fr0 h.fr0)) (?_))
  rintro _ w ⟨rfl, f5⟩
  replace h := h.same f5
  refine R.as rfl rfl (R.nil (k2 _ _ ?_))
  refine T.seq fun Kk6 k6 => ?_
  refine T.region ?_
  obtain ⟨x7, e8, F⟩ := Option.bind_eq_some_iff.1 F
  refine R.mv rfl rfl (R.lenS rfl u9 rfl (R.ib rfl rfl rfl rfl (R.callF rfl cf49 rfl (lib_Repeat.ok e8 (hg.fr0 h.fr0)) (?_))))
  rintro _ w ⟨rfl, f9⟩
  replace h := h.same f9
  obtain ⟨x10, e11, F⟩ := Option.bind_eq_some_iff.1 F
  refine R.mv rfl rfl (R.sadd rfl rfl rfl e11 (R.as rfl rfl (R.nil (k6 _ _ ?_))))
  obtain rfl := Option.some.inj F
  refine T.ret (ret1 rfl rfl ⟨rfl, h.fr0⟩)

/-! echelon/echelonref03.Print: function 30 -/
noncomputable def echelonref03_Print (a0 : Int) : Option (Str) :=
  (Loop.run (fun (s88 : Int × Str × Int) => if decide (s88.2.2 < 16) then (some (W8 (48 + (W8 (Int.tmod s88.1 16))))).bind fun (x97 : Int) => (if decide ((W8 (Int.tmod s88.1 16)) > 9) then (some (W8 ((W8 (97 + (W8 (Int.tmod s88.1 16)))) - 10))).bind fun (x107 : Int) => some x107 else some x97).bind fun (y100 : Int) => (cat (text ([y100])) s88.2.1).bind fun (x113 : Str) => some (.inl (WU (Int.tdiv s88.1 16), x113, W (s88.2.2 + 1))) else some (.inr s88.2.1)) (a0, [], 0)).bind fun (y4 : Str) => some y4
theorem echelonref03_Print.ok {a0 : Int} {r : Str} {W0 : World} (F : echelonref03_Print a0 = some r) (hg : Gl W0) :
    Calls Tryd.prog 30 [(.int .u64 a0 : Value)].toArray W0 fun e w' => ∃ v, e = .returned v ∧ (v = vS r ∧ Fr0 W0 w') := by
  unfold echelonref03_Print at F
  refine calls_body 29 Tryd.func30 rfl rfl rfl ?_
  have h := H.nil W0
  refine T.seq fun Kk1 k1 => ?_
  refine T.region ?_
  refine R.as rfl rfl (R.nil (k1 _ _ ?_))
  refine T.seq fun Kk2 k2 => ?_
  refine T.region ?_
  refine R.as rfl rfl (R.nil (k2 _ _ ?_))
  obtain ⟨y4, F, E3⟩ := Option.bind_eq_some_iff.1 F
  refine T.cut (fun a w => Agr 29 [(3, vS y4)] a ∧ H W0 (fun _ => False) w [] []) ?_ ?_
  · refine T.seq fun Kk60 k60 => ?_
    refine T.region ?_
    refine R.as rfl rfl (R.nil (k60 _ _ ?_))
    refine T.block ?_
    refine T.loop (fun (s88 : Int × Str × Int) a w => Agr 29 [(0, .int .u64 s88.1), (3, vS s88.2.1), (4, .int .i64 s88.2.2)] a ∧ H W0 (fun _ => False) w [] []) F (fun a ha => ⟨ha.sub ⟨rfl, rfl, rfl, trivial⟩, h⟩) ?_
    clear h F
    intro s88 F a w
    rintro ⟨ha, h⟩
    refine T.use ?_ ha
    obtain ⟨x90, F, c1, c2⟩ := Loop.run_step F
    have E89 := F
    refine T.seq fun Kk91 k91 => ?_
    refine T.seq fun Kk92 k92 => ?_
    refine T.region ?_
    refine R.mv rfl rfl (R.ib rfl rfl rfl rfl (R.nil (k92 _ _ ?_)))
    refine T.cond rfl (fun c93 => ?_) (fun c93 => ?_)
    · replace F := (ifT c93).symm.trans F
      refine T.skip (k91 _ _ ?_)
      refine T.seq fun Kk94 k94 => ?_
      refine T.block ?_
      refine T.seq fun Kk95 k95 => ?_
      refine T.region ?_
      refine R.mv rfl rfl (R.rem rfl rfl rfl (by decide) (R.cvt rfl us47 u5 rfl (R.as rfl rfl (R.nil (k95 _ _ ?_)))))
      refine T.seq fun Kk96 k96 => ?_
      refine T.region ?_
      obtain ⟨x97, e98, F⟩ := Option.bind_eq_some_iff.1 F
      refine R.mv rfl rfl (R.ib rfl rfl rfl rfl (R.as rfl rfl (R.re (congrArg (Value.int .u8) (Option.some.inj e98)) (R.nil (k96 _ _ ?_)))))
      obtain ⟨y100, F, E99⟩ := Option.bind_eq_some_iff.1 F
      refine T.cut (fun a w => Agr 29 [(0, .int .u64 s88.1), (3, vS s88.2.1), (4, .int .i64 s88.2.2), (6, .int .u8 y100)] a ∧ H W0 (fun _ => False) w [] []) ?_ ?_
      · refine T.seq fun Kk105 k105 => ?_
        refine T.region ?_
        refine R.mv rfl rfl (R.ib rfl rfl rfl rfl (R.nil (k105 _ _ ?_)))
        refine T.cond rfl (fun c106 => ?_) (fun c106 => ?_)
        · replace F := (ifT c106).symm.trans F
          refine T.region ?_
          obtain ⟨x107, e108, F⟩ := Option.bind_eq_some_iff.1 F
          obtain rfl := Option.some.inj F
          refine R.mv rfl rfl (R.ib rfl rfl rfl rfl (R.ib rfl rfl rfl rfl (R.as rfl rfl (R.re (congrArg (Value.int .u8) (Option.some.inj e108)) (R.nil (fun a ha => ⟨ha.sub ⟨rfl, rfl, rfl, rfl, trivial⟩, h⟩))))))
        · replace F := (ifF c106).symm.trans F
          obtain rfl := Option.some.inj F
          refine T.skip (fun a ha => ⟨ha.sub ⟨rfl, rfl, rfl, rfl, trivial⟩, h⟩)
      · clear F
        rintro a w ⟨ha, h⟩
        refine T.use ?_ ha
        have F := E99
        refine T.seq fun Kk109 k109 => ?_
        refine T.region ?_
        obtain ⟨x113, e114, F⟩ := Option.bind_eq_some_iff.1 F
        refine R.mv rfl rfl (R.lit1 (e := (encI .u8)) (xs := [y100]) rfl h u58 in5 rfl rfl rfl rfl rfl rfl rfl (fun p110 p111 w h => R.b2s 0 rfl h rfl ss58 u5 u9 rfl (R.mv rfl rfl (R.sadd rfl rfl rfl e114 (R.as rfl rfl (R.nil (k109 _ _ ?_)))))))
        refine T.region ?_
        refine R.mv rfl rfl (R.quo rfl rfl rfl (by decide) (R.as rfl rfl (R.nil (k94 _ _ ?_))))
        refine T.region ?_
        obtain rfl := Option.some.inj F
        refine R.mv rfl rfl (R.ib rfl rfl rfl rfl (R.as rfl rfl (R.nil (fun a ha => ⟨_, E89, ha.sub ⟨rfl, rfl, rfl, trivial⟩, (h.sel [] rfl (by decide))⟩))))
    · replace F := (ifF c93).symm.trans F
      obtain rfl := Option.some.inj F
      replace F := congrArg some (c2 _ rfl)
      obtain rfl := Option.some.inj F
      refine T.exit (fun a ha => ⟨ha.sub ⟨rfl, trivial⟩, h⟩)
  · clear F
    rintro a w ⟨ha, h⟩
    refine T.use ?_ ha
    have F := E3
    refine T.seq fun Kk115 k115 => ?_
    refine T.region ?_
    refine R.mv rfl rfl (R.as rfl rfl (R.nil (k115 _ _ ?_)))
    obtain rfl := Option.some.inj F
    refine T.ret (ret1 rfl rfl ⟨rfl, h.fr0⟩)

/-! echelon/digest.Parse: function 23 -/
noncomputable def digest_Parse (a0 : Str) : Option (Int × Int) :=
  (strconv_ParseUint a0 16 64).bind fun x3 => (if x3.2 then some true else (digest_Print x3.1).bind fun x16 => some (!(x16 == a0))).bind fun (y10 : Bool) => if y10 then some (0, 30) else some (x3.1, 0)
theorem digest_Parse.ok {a0 : Str} {r : Int × Int} {W0 : World} (F : digest_Parse a0 = some r) (hg : Gl W0) :
    Calls Tryd.prog 23 [(vS a0 : Value)].toArray W0 fun e w' => ∃ v, e = .returned v ∧ (v = .tuple #[.int .u64 r.1, .int .i64 r.2] ∧ Fr0 W0 w') := by
  unfold digest_Parse at F
  refine calls_body 20 Tryd.func23 rfl rfl rfl ?_
  have h := H.nil W0
  refine T.seq fun Kk1 k1 => ?_
  refine T.region ?_
  refine R.as rfl rfl (R.as rfl rfl (R.nil (k1 _ _ ?_)))
  refine T.seq fun Kk2 k2 => ?_
  refine T.region ?_
  obtain ⟨x3, e4, F⟩ := Option.bind_eq_some_iff.1 F
  refine R.mv rfl rfl (R.callF rfl cf47 rfl (strconv_ParseUint.ok e4 (hg.fr0 h.fr0)) (?_))
  rintro _ w ⟨v6, he7, rfl, f5⟩
  replace h := h.same f5
  refine R.mv rfl rfl (R.ext rfl rfl rfl (R.ext rfl rfl rfl (R.as rfl rfl (R.as rfl rfl (R.nil (k2 _ _ ?_))))))
  refine T.seq fun Kk8 k8 => ?_
  obtain ⟨y10, F, E9⟩ := Option.bind_eq_some_iff.1 F
  refine T.cut (fun a w => Agr 20 [(4, .int .u64 x3.1), (18, .bool y10)] a ∧ H W0 (fun _ => False) w [] []) ?_ ?_
  · refine T.region ?_
    refine R.mv rfl rfl (R.enq rfl ui89 he7 rfl (R.mv rfl rfl (?_)))
    refine bsplit x3.2 (fun c15 => ?_) (fun c15 => ?_)
    · replace F := (ifT c15).symm.trans F
      obtain rfl := Option.some.inj F
      refine R.not_ rfl rfl rfl c15 (R.not_ rfl rfl rfl c15 (R.not_ rfl rfl rfl c15 (R.not_ rfl rfl rfl c15 (R.pT rfl rfl c15 rfl (R.nil (fun a ha => ⟨ha.sub ⟨rfl, rfl, trivial⟩, h⟩))))))
    · replace F := (ifF c15).symm.trans F
      obtain ⟨x16, e17, F⟩ := Option.bind_eq_some_iff.1 F
      refine R.iff rfl rfl c15 (R.mv rfl rfl (R.iff rfl rfl c15 (R.callF rfl cf26 rfl (digest_Print.ok e17 (hg.fr0 h.fr0)) (?_))))
      rintro _ w ⟨rfl, f18⟩
      replace h := h.same f18
      obtain rfl := Option.some.inj F
      refine R.iff rfl rfl c15 (R.mv rfl rfl (R.iff rfl rfl c15 (R.sb rfl rfl rfl rfl (R.pF rfl rfl c15 rfl (R.nil (fun a ha => ⟨ha.sub ⟨rfl, rfl, trivial⟩, h⟩))))))
  · clear F
    rintro a w ⟨ha, h⟩
    refine T.use ?_ ha
    have F := E9
    refine T.cond rfl (fun c19 => ?_) (fun c19 => ?_)
    · replace F := (ifT c19).symm.trans F
      refine T.seq fun Kk20 k20 => ?_
      refine T.region ?_
      refine R.as rfl rfl (R.as rfl rfl (R.nil (k20 _ _ ?_)))
      obtain rfl := Option.some.inj F
      refine T.ret (ret2 rfl rfl rfl ⟨rfl, h.fr0⟩)
    · replace F := (ifF c19).symm.trans F
      refine T.skip (k8 _ _ ?_)
      refine T.seq fun Kk21 k21 => ?_
      refine T.region ?_
      refine R.mv rfl rfl (R.as rfl rfl (R.as rfl rfl (R.nil (k21 _ _ ?_))))
      obtain rfl := Option.some.inj F
      refine T.ret (ret2 rfl rfl rfl ⟨rfl, h.fr0⟩)

/-! echelon/echelonref03.Parse: function 24 -/
noncomputable def echelonref03_Parse (a0 : Str) : Option (Int × Int) :=
  if (a0.length : Int) != 16 then some (0, 30) else (Loop.run (fun (s189 : Int × Int) => if decide (s189.2 < (a0.length : Int)) then ((getI a0 s189.2).bind fun (x224 : UInt8) => ((some ((decide ((x224.toNat : Int) ≥ 48)) && (decide ((x224.toNat : Int) ≤ 57)))).bind fun (y236 : Bool) => if y236 then (some (WU ((WU (16 * s189.1)) + (WU (W8 ((x224.toNat : Int) - 48)))))).bind fun (x240 : Int) => some x240 else some s189.1).bind fun (y227 : Int) => (some ((decide ((x224.toNat : Int) ≥ 97)) && (decide ((x224.toNat : Int) ≤ 102)))).bind fun (y243 : Bool) => if y243 then (some (WU ((WU ((WU (16 * y227)) + (WU (W8 ((x224.toNat : Int) - 97))))) + 10))).bind fun (x247 : Int) => some x247 else some y227).bind fun (y196 : Int) => some (.inl (y196, W (s189.2 + 1))) else some (.inr s189.1)) (0, 0)).bind fun (y8 : Int) => (echelonref03_Print y8).bind fun x250 => if !(x250 == a0) then some (0, 30) else some (y8, 0)
theorem echelonref03_Parse.ok {a0 : Str} {r : Int × Int} {W0 : World} (F : echelonref03_Parse a0 = some r) (hg : Gl W0) :
    Calls Tryd.prog 24 [(vS a0 : Value)].toArray W0 fun e w' => ∃ v, e = .returned v ∧ (v = .tuple #[.int .u64 r.1, .int .i64 r.2] ∧ Fr0 W0 w') := by
  unfold echelonref03_Parse at F
  refine calls_body 51 Tryd.func24 rfl rfl rfl ?_
  have h := H.nil W0
  refine T.seq fun Kk1 k1 => ?_
  refine T.region ?_
  refine R.as rfl rfl (R.as rfl rfl (R.nil (k1 _ _ ?_)))
  refine T.seq fun Kk2 k2 => ?_
  refine T.seq fun Kk3 k3 => ?_
  refine T.region ?_
  refine R.mv rfl rfl (R.lenS rfl u9 rfl (R.ib rfl rfl rfl rfl (R.nil (k3 _ _ ?_))))
  refine T.cond rfl (fun c4 => ?_) (fun c4 => ?_)
  · replace F := (ifT c4).symm.trans F
    refine T.seq fun Kk5 k5 => ?_
    refine T.region ?_
    refine R.as rfl rfl (R.as rfl rfl (R.nil (k5 _ _ ?_)))
    obtain rfl := Option.some.inj F
    refine T.ret (ret2 rfl rfl rfl ⟨rfl, h.fr0⟩)
  · replace F := (ifF c4).symm.trans F
    refine T.skip (k2 _ _ ?_)
    refine T.seq fun Kk6 k6 => ?_
    refine T.region ?_
    refine R.as rfl rfl (R.nil (k6 _ _ ?_))
    obtain ⟨y8, F, E7⟩ := Option.bind_eq_some_iff.1 F
    refine T.cut (fun a w => Agr 51 [(0, vS a0), (4, .int .u64 y8)] a ∧ H W0 (fun _ => False) w [] []) ?_ ?_
    · refine T.seq fun Kk129 k129 => ?_
      refine T.region ?_
      refine R.as rfl rfl (R.nil (k129 _ _ ?_))
      refine T.block ?_
      refine T.loop (fun (s189 : Int × Int) a w => Agr 51 [(0, vS a0), (4, .int .u64 s189.1), (5, .int .i64 s189.2)] a ∧ H W0 (fun _ => False) w [] []) F (fun a ha => ⟨ha.sub ⟨rfl, rfl, rfl, trivial⟩, h⟩) ?_
      clear h F
      intro s189 F a w
      rintro ⟨ha, h⟩
      refine T.use ?_ ha
      obtain ⟨x191, F, c1, c2⟩ := Loop.run_step F
      have E190 := F
      refine T.seq fun Kk192 k192 => ?_
      refine T.seq fun Kk193 k193 => ?_
      refine T.region ?_
      refine R.mv rfl rfl (R.mv rfl rfl (R.lenS rfl u9 rfl (R.ib rfl rfl rfl rfl (R.nil (k193 _ _ ?_)))))
      refine T.cond rfl (fun c194 => ?_) (fun c194 => ?_)
      · replace F := (ifT c194).symm.trans F
        refine T.skip (k192 _ _ ?_)
        obtain ⟨y196, F, E195⟩ := Option.bind_eq_some_iff.1 F
        refine T.cut (fun a w => Agr 51 [(0, vS a0), (4, .int .u64 y196), (5, .int .i64 s189.2)] a ∧ H W0 (fun _ => False) w [] []) ?_ ?_
        · refine T.block ?_
          refine T.seq fun Kk223 k223 => ?_
          refine T.region ?_
          obtain ⟨x224, e225, F⟩ := Option.bind_eq_some_iff.1 F
          refine R.mv rfl rfl (R.mv rfl rfl (R.idxS rfl u9 rfl rfl e225 (R.as rfl rfl (R.nil (k223 _ _ ?_)))))
          obtain ⟨y227, F, E226⟩ := Option.bind_eq_some_iff.1 F
          refine T.cut (fun a w => Agr 51 [(0, vS a0), (4, .int .u64 y227), (5, .int .i64 s189.2), (6, .int .u8 (x224.toNat : Int))] a ∧ H W0 (fun _ => False) w [] []) ?_ ?_
          · obtain ⟨y236, F, E235⟩ := Option.bind_eq_some_iff.1 F
            refine T.cut (fun a w => Agr 51 [(0, vS a0), (4, .int .u64 s189.1), (5, .int .i64 s189.2), (6, .int .u8 (x224.toNat : Int)), (25, .bool y236)] a ∧ H W0 (fun _ => False) w [] []) ?_ ?_
            · refine T.region ?_
              refine R.mv rfl rfl (R.ib rfl rfl rfl rfl (R.mv rfl rfl (?_)))
              refine bsplit (decide ((x224.toNat : Int) ≥ 48)) (fun c238 => ?_) (fun c238 => ?_)
              · replace F := (andT c238).symm.trans F
                obtain rfl := Option.some.inj F
                refine R.iff rfl rfl c238 (R.mv rfl rfl (R.iff rfl rfl c238 (R.ib rfl rfl rfl rfl (R.pT rfl rfl c238 rfl (R.nil (fun a ha => ⟨ha.sub ⟨rfl, rfl, rfl, rfl, rfl, trivial⟩, h⟩))))))
              · replace F := (andF c238).symm.trans F
                obtain rfl := Option.some.inj F
                refine R.not_ rfl rfl rfl c238 (R.not_ rfl rfl rfl c238 (R.pF rfl rfl c238 rfl (R.nil (fun a ha => ⟨ha.sub ⟨rfl, rfl, rfl, rfl, rfl, trivial⟩, h⟩))))
            · clear F
              rintro a w ⟨ha, h⟩
              refine T.use ?_ ha
              have F := E235
              refine T.cond rfl (fun c239 => ?_) (fun c239 => ?_)
              · replace F := (ifT c239).symm.trans F
                refine T.region ?_
                obtain ⟨x240, e241, F⟩ := Option.bind_eq_some_iff.1 F
                obtain rfl := Option.some.inj F
                refine R.mv rfl rfl (R.ib rfl rfl rfl rfl (R.mv rfl rfl (R.ib rfl rfl rfl rfl (R.cvt rfl us5 u47 rfl (R.ib rfl rfl rfl rfl (R.as rfl rfl (R.re (congrArg (Value.int .u64) (Option.some.inj e241)) (R.nil (fun a ha => ⟨ha.sub ⟨rfl, rfl, rfl, rfl, trivial⟩, h⟩)))))))))
              · replace F := (ifF c239).symm.trans F
                obtain rfl := Option.some.inj F
                refine T.skip (fun a ha => ⟨ha.sub ⟨rfl, rfl, rfl, rfl, trivial⟩, h⟩)
          · clear F
            rintro a w ⟨ha, h⟩
            refine T.use ?_ ha
            have F := E226
            obtain ⟨y243, F, E242⟩ := Option.bind_eq_some_iff.1 F
            refine T.cut (fun a w => Agr 51 [(0, vS a0), (4, .int .u64 y227), (5, .int .i64 s189.2), (6, .int .u8 (x224.toNat : Int)), (37, .bool y243)] a ∧ H W0 (fun _ => False) w [] []) ?_ ?_
            · refine T.region ?_
              refine R.mv rfl rfl (R.ib rfl rfl rfl rfl (R.mv rfl rfl (?_)))
              refine bsplit (decide ((x224.toNat : Int) ≥ 97)) (fun c245 => ?_) (fun c245 => ?_)
              · replace F := (andT c245).symm.trans F
                obtain rfl := Option.some.inj F
                refine R.iff rfl rfl c245 (R.mv rfl rfl (R.iff rfl rfl c245 (R.ib rfl rfl rfl rfl (R.pT rfl rfl c245 rfl (R.nil (fun a ha => ⟨ha.sub ⟨rfl, rfl, rfl, rfl, rfl, trivial⟩, h⟩))))))
              · replace F := (andF c245).symm.trans F
                obtain rfl := Option.some.inj F
                refine R.not_ rfl rfl rfl c245 (R.not_ rfl rfl rfl c245 (R.pF rfl rfl c245 rfl (R.nil (fun a ha => ⟨ha.sub ⟨rfl, rfl, rfl, rfl, rfl, trivial⟩, h⟩))))
            · clear F
              rintro a w ⟨ha, h⟩
              refine T.use ?_ ha
              have F := E242
              refine T.cond rfl (fun c246 => ?_) (fun c246 => ?_)
              · replace F := (ifT c246).symm.trans F
                refine T.region ?_
                obtain ⟨x247, e248, F⟩ := Option.bind_eq_some_iff.1 F
                obtain rfl := Option.some.inj F
                refine R.mv rfl rfl (R.ib rfl rfl rfl rfl (R.mv rfl rfl (R.ib rfl rfl rfl rfl (R.cvt rfl us5 u47 rfl (R.ib rfl rfl rfl rfl (R.ib rfl rfl rfl rfl (R.as rfl rfl (R.re (congrArg (Value.int .u64) (Option.some.inj e248)) (R.nil (fun a ha => ⟨ha.sub ⟨rfl, rfl, rfl, trivial⟩, h⟩))))))))))
              · replace F := (ifF c246).symm.trans F
                obtain rfl := Option.some.inj F
                refine T.skip (fun a ha => ⟨ha.sub ⟨rfl, rfl, rfl, trivial⟩, h⟩)
        · clear F
          rintro a w ⟨ha, h⟩
          refine T.use ?_ ha
          have F := E195
          refine T.region ?_
          obtain rfl := Option.some.inj F
          refine R.mv rfl rfl (R.ib rfl rfl rfl rfl (R.as rfl rfl (R.nil (fun a ha => ⟨_, E190, ha.sub ⟨rfl, rfl, rfl, trivial⟩, h⟩))))
      · replace F := (ifF c194).symm.trans F
        obtain rfl := Option.some.inj F
        replace F := congrArg some (c2 _ rfl)
        obtain rfl := Option.some.inj F
        refine T.exit (fun a ha => ⟨ha.sub ⟨rfl, rfl, trivial⟩, h⟩)
    · clear F
      rintro a w ⟨ha, h⟩
      refine T.use ?_ ha
      have F := E7
      refine T.seq fun Kk249 k249 => ?_
      refine T.region ?_
      obtain ⟨x250, e251, F⟩ := Option.bind_eq_some_iff.1 F
      refine R.mv rfl rfl (R.callF rfl cf30 rfl (echelonref03_Print.ok e251 (hg.fr0 h.fr0)) (?_))
      rintro _ w ⟨rfl, f252⟩
      replace h := h.same f252
      refine R.as rfl rfl (R.nil (k249 _ _ ?_))
      refine T.seq fun Kk253 k253 => ?_
      refine T.seq fun Kk254 k254 => ?_
      refine T.region ?_
      refine R.mv rfl rfl (R.mv rfl rfl (R.sb rfl rfl rfl rfl (R.nil (k254 _ _ ?_))))
      refine T.cond rfl (fun c255 => ?_) (fun c255 => ?_)
      · replace F := (ifT c255).symm.trans F
        refine T.seq fun Kk256 k256 => ?_
        refine T.region ?_
        refine R.as rfl rfl (R.as rfl rfl (R.nil (k256 _ _ ?_)))
        obtain rfl := Option.some.inj F
        refine T.ret (ret2 rfl rfl rfl ⟨rfl, h.fr0⟩)
      · replace F := (ifF c255).symm.trans F
        refine T.skip (k253 _ _ ?_)
        refine T.seq fun Kk257 k257 => ?_
        refine T.region ?_
        refine R.mv rfl rfl (R.as rfl rfl (R.as rfl rfl (R.nil (k257 _ _ ?_))))
        obtain rfl := Option.some.inj F
        refine T.ret (ret2 rfl rfl rfl ⟨rfl, h.fr0⟩)

/-! echelon/echelonlaw03.awake: function 22 -/
noncomputable def echelonlaw03_awake  : Option (Bool) :=
  (digest_Parse ([48, 48, 48, 48, 48, 48, 48, 48, 48, 48, 48, 48, 48, 48, 102, 102])).bind fun x3 => ((digest_Mix 1).bind fun x17 => if x17 == 6238072747940578789 then (digest_Print 255).bind fun x21 => some ((x21 == ([48, 48, 48, 48, 48, 48, 48, 48, 48, 48, 48, 48, 48, 48, 102, 102])) && ((x3.1 == 255) && (x3.2 == 0))) else some false).bind fun (y7 : Bool) => some y7
theorem echelonlaw03_awake.ok  {r : Bool} {W0 : World} (F : echelonlaw03_awake = some r) (hg : Gl W0) :
    Calls Tryd.prog 22 [].toArray W0 fun e w' => ∃ v, e = .returned v ∧ (v = .bool r ∧ Fr0 W0 w') := by
  unfold echelonlaw03_awake at F
  refine calls_body 21 Tryd.func22 rfl rfl rfl ?_
  have h := H.nil W0
  refine T.seq fun Kk1 k1 => ?_
  refine T.region ?_
  refine R.as rfl rfl (R.nil (k1 _ _ ?_))
  refine T.seq fun Kk2 k2 => ?_
  refine T.region ?_
  obtain ⟨x3, e4, F⟩ := Option.bind_eq_some_iff.1 F
  refine R.callF rfl cf23 rfl (digest_Parse.ok e4 (hg.fr0 h.fr0)) (?_)
  rintro _ w ⟨rfl, f5⟩
  replace h := h.same f5
  refine R.mv rfl rfl (R.ext rfl rfl rfl (R.ext rfl rfl rfl (R.as rfl rfl (R.as rfl rfl (R.nil (k2 _ _ ?_))))))
  obtain ⟨y7, F, E6⟩ := Option.bind_eq_some_iff.1 F
  refine T.cut (fun a w => Agr 21 [(0, .bool y7)] a ∧ H W0 (fun _ => False) w [] []) ?_ ?_
  · refine T.region ?_
    obtain ⟨x17, e18, F⟩ := Option.bind_eq_some_iff.1 F
    refine R.callF rfl cf25 rfl (digest_Mix.ok e18 (hg.fr0 h.fr0)) (?_)
    rintro _ w ⟨rfl, f19⟩
    replace h := h.same f19
    refine R.ib rfl rfl rfl rfl (R.mv rfl rfl (?_))
    refine bsplit (x17 == 6238072747940578789) (fun c20 => ?_) (fun c20 => ?_)
    · replace F := (ifT c20).symm.trans F
      obtain ⟨x21, e22, F⟩ := Option.bind_eq_some_iff.1 F
      refine R.iff rfl rfl c20 (R.callF rfl cf26 rfl (digest_Print.ok e22 (hg.fr0 h.fr0)) (?_))
      rintro _ w ⟨rfl, f23⟩
      replace h := h.same f23
      refine R.iff rfl rfl c20 (R.sb rfl rfl rfl rfl (R.pT rfl rfl c20 rfl (R.mv rfl rfl (?_))))
      refine bsplit (x21 == ([48, 48, 48, 48, 48, 48, 48, 48, 48, 48, 48, 48, 48, 48, 102, 102])) (fun c24 => ?_) (fun c24 => ?_)
      · replace F := (andT c24).symm.trans F
        refine R.iff rfl rfl c24 (R.mv rfl rfl (R.iff rfl rfl c24 (R.ib rfl rfl rfl rfl (R.pT rfl rfl c24 rfl (R.mv rfl rfl (?_))))))
        refine bsplit (x3.1 == 255) (fun c25 => ?_) (fun c25 => ?_)
        · replace F := (andT c25).symm.trans F
          obtain rfl := Option.some.inj F
          refine R.iff rfl rfl c25 (R.mv rfl rfl (R.iff rfl rfl c25 (R.ib rfl rfl rfl rfl (R.pT rfl rfl c25 rfl (R.as rfl rfl (R.nil (fun a ha => ⟨ha.sub ⟨rfl, trivial⟩, h⟩)))))))
        · replace F := (andF c25).symm.trans F
          obtain rfl := Option.some.inj F
          refine R.not_ rfl rfl rfl c25 (R.not_ rfl rfl rfl c25 (R.pF rfl rfl c25 rfl (R.as rfl rfl (R.nil (fun a ha => ⟨ha.sub ⟨rfl, trivial⟩, h⟩)))))
      · replace F := (andF c24).symm.trans F
        obtain rfl := Option.some.inj F
        refine R.not_ rfl rfl rfl c24 (R.not_ rfl rfl rfl c24 (R.pF rfl rfl c24 rfl (R.mv rfl rfl (R.not_ rfl rfl rfl rfl (R.not_ rfl rfl rfl rfl (R.pF rfl rfl rfl rfl (R.as rfl rfl (R.nil (fun a ha => ⟨ha.sub ⟨rfl, trivial⟩, h⟩)))))))))
    · replace F := (ifF c20).symm.trans F
      obtain rfl := Option.some.inj F
      refine R.not_ rfl rfl rfl c20 (R.not_ rfl rfl rfl c20 (R.pF rfl rfl c20 rfl (R.mv rfl rfl (R.not_ rfl rfl rfl rfl (R.not_ rfl rfl rfl rfl (R.pF rfl rfl rfl rfl (R.mv rfl rfl (R.not_ rfl rfl rfl rfl (R.not_ rfl rfl rfl rfl (R.pF rfl rfl rfl rfl (R.as rfl rfl (R.nil (fun a ha => ⟨ha.sub ⟨rfl, trivial⟩, h⟩)))))))))))))
  · clear F
    rintro a w ⟨ha, h⟩
    refine T.use ?_ ha
    have F := E6
    obtain rfl := Option.some.inj F
    refine T.ret (ret1 rfl rfl ⟨rfl, h.fr0⟩)

/-! echelon/echelonlaw03.DigestReads: function 7 -/
noncomputable def echelonlaw03_DigestReads (a0 : Str) : Option (Bool) :=
  (echelonlaw03_awake).bind fun x3 => (digest_Parse a0).bind fun x7 => (echelonref03_Parse a0).bind fun x11 => (some (x3 && ((x7.1 == x11.1) && (x7.2 == x11.2)))).bind fun (y15 : Bool) => some y15
theorem echelonlaw03_DigestReads.ok {a0 : Str} {r : Bool} {W0 : World} (F : echelonlaw03_DigestReads a0 = some r) (hg : Gl W0) :
    Calls Tryd.prog 7 [(vS a0 : Value)].toArray W0 fun e w' => ∃ v, e = .returned v ∧ (v = .bool r ∧ Fr0 W0 w') := by
  unfold echelonlaw03_DigestReads at F
  refine calls_body 30 Tryd.func7 rfl rfl rfl ?_
  have h := H.nil W0
  refine T.seq fun Kk1 k1 => ?_
  refine T.region ?_
  refine R.as rfl rfl (R.nil (k1 _ _ ?_))
  refine T.seq fun Kk2 k2 => ?_
  refine T.region ?_
  obtain ⟨x3, e4, F⟩ := Option.bind_eq_some_iff.1 F
  refine R.callF rfl cf22 rfl (echelonlaw03_awake.ok e4 (hg.fr0 h.fr0)) (?_)
  rintro _ w ⟨rfl, f5⟩
  replace h := h.same f5
  refine R.as rfl rfl (R.nil (k2 _ _ ?_))
  refine T.seq fun Kk6 k6 => ?_
  refine T.region ?_
  obtain ⟨x7, e8, F⟩ := Option.bind_eq_some_iff.1 F
  refine R.mv rfl rfl (R.callF rfl cf23 rfl (digest_Parse.ok e8 (hg.fr0 h.fr0)) (?_))
  rintro _ w ⟨rfl, f9⟩
  replace h := h.same f9
  refine R.mv rfl rfl (R.ext rfl rfl rfl (R.ext rfl rfl rfl (R.as rfl rfl (R.as rfl rfl (R.nil (k6 _ _ ?_))))))
  refine T.seq fun Kk10 k10 => ?_
  refine T.region ?_
  obtain ⟨x11, e12, F⟩ := Option.bind_eq_some_iff.1 F
  refine R.mv rfl rfl (R.callF rfl cf24 rfl (echelonref03_Parse.ok e12 (hg.fr0 h.fr0)) (?_))
  rintro _ w ⟨rfl, f13⟩
  replace h := h.same f13
  refine R.mv rfl rfl (R.ext rfl rfl rfl (R.ext rfl rfl rfl (R.as rfl rfl (R.as rfl rfl (R.nil (k10 _ _ ?_))))))
  obtain ⟨y15, F, E14⟩ := Option.bind_eq_some_iff.1 F
  refine T.cut (fun a w => Agr 30 [(2, .bool y15)] a ∧ H W0 (fun _ => False) w [] []) ?_ ?_
  · refine T.region ?_
    refine R.mv rfl rfl (R.mv rfl rfl (?_))
    refine bsplit x3 (fun c18 => ?_) (fun c18 => ?_)
    · replace F := (andT c18).symm.trans F
      refine R.iff rfl rfl c18 (R.mv rfl rfl (R.iff rfl rfl c18 (R.mv rfl rfl (R.iff rfl rfl c18 (R.ib rfl rfl rfl rfl (R.pT rfl rfl c18 rfl (R.mv rfl rfl (?_))))))))
      refine bsplit (x7.1 == x11.1) (fun c19 => ?_) (fun c19 => ?_)
      · replace F := (andT c19).symm.trans F
        obtain rfl := Option.some.inj F
        refine R.iff rfl rfl c19 (R.mv rfl rfl (R.iff rfl rfl c19 (R.mv rfl rfl (R.iff rfl rfl c19 (R.ib rfl rfl rfl rfl (R.pT rfl rfl c19 rfl (R.as rfl rfl (R.nil (fun a ha => ⟨ha.sub ⟨rfl, trivial⟩, h⟩)))))))))
      · replace F := (andF c19).symm.trans F
        obtain rfl := Option.some.inj F
        refine R.not_ rfl rfl rfl c19 (R.not_ rfl rfl rfl c19 (R.not_ rfl rfl rfl c19 (R.pF rfl rfl c19 rfl (R.as rfl rfl (R.nil (fun a ha => ⟨ha.sub ⟨rfl, trivial⟩, h⟩))))))
    · replace F := (andF c18).symm.trans F
      obtain rfl := Option.some.inj F
      refine R.not_ rfl rfl rfl c18 (R.not_ rfl rfl rfl c18 (R.not_ rfl rfl rfl c18 (R.pF rfl rfl c18 rfl (R.mv rfl rfl (R.not_ rfl rfl rfl rfl (R.not_ rfl rfl rfl rfl (R.not_ rfl rfl rfl rfl (R.pF rfl rfl rfl rfl (R.as rfl rfl (R.nil (fun a ha => ⟨ha.sub ⟨rfl, trivial⟩, h⟩)))))))))))
  · clear F
    rintro a w ⟨ha, h⟩
    refine T.use ?_ ha
    have F := E14
    obtain rfl := Option.some.inj F
    refine T.ret (ret1 rfl rfl ⟨rfl, h.fr0⟩)

/-! echelon/echelonlaw03.DigestUnlike: function 8 -/
noncomputable def echelonlaw03_DigestUnlike (a0 : Int) (a1 : Int) : Option (Bool) :=
  (echelonlaw03_awake).bind fun x3 => (if x3 then (digest_Mix a0).bind fun x25 => (digest_Mix a1).bind fun x28 => if (x25 == x28) == (a0 == a1) then (digest_Print a0).bind fun x32 => (digest_Print a1).bind fun x35 => (some ((x32 == x35) == (a0 == a1))).bind fun (x38 : Bool) => some x38 else some false else some false).bind fun (y7 : Bool) => some y7
theorem echelonlaw03_DigestUnlike.ok {a0 : Int} {a1 : Int} {r : Bool} {W0 : World} (F : echelonlaw03_DigestUnlike a0 a1 = some r) (hg : Gl W0) :
    Calls Tryd.prog 8 [(.int .u64 a0 : Value), (.int .u64 a1 : Value)].toArray W0 fun e w' => ∃ v, e = .returned v ∧ (v = .bool r ∧ Fr0 W0 w') := by
  unfold echelonlaw03_DigestUnlike at F
  refine calls_body 30 Tryd.func8 rfl rfl rfl ?_
  have h := H.nil W0
  refine T.seq fun Kk1 k1 => ?_
  refine T.region ?_
  refine R.as rfl rfl (R.nil (k1 _ _ ?_))
  refine T.seq fun Kk2 k2 => ?_
  refine T.region ?_
  obtain ⟨x3, e4, F⟩ := Option.bind_eq_some_iff.1 F
  refine R.callF rfl cf22 rfl (echelonlaw03_awake.ok e4 (hg.fr0 h.fr0)) (?_)
  rintro _ w ⟨rfl, f5⟩
  replace h := h.same f5
  refine R.as rfl rfl (R.nil (k2 _ _ ?_))
  obtain ⟨y7, F, E6⟩ := Option.bind_eq_some_iff.1 F
  refine T.cut (fun a w => Agr 30 [(4, .bool y7)] a ∧ H W0 (fun _ => False) w [] []) ?_ ?_
  · refine T.region ?_
    refine R.mv rfl rfl (R.mv rfl rfl (?_))
    refine bsplit x3 (fun c24 => ?_) (fun c24 => ?_)
    · replace F := (ifT c24).symm.trans F
      obtain ⟨x25, e26, F⟩ := Option.bind_eq_some_iff.1 F
      refine R.iff rfl rfl c24 (R.mv rfl rfl (R.iff rfl rfl c24 (R.callF rfl cf25 rfl (digest_Mix.ok e26 (hg.fr0 h.fr0)) (?_))))
      rintro _ w ⟨rfl, f27⟩
      replace h := h.same f27
      obtain ⟨x28, e29, F⟩ := Option.bind_eq_some_iff.1 F
      refine R.iff rfl rfl c24 (R.mv rfl rfl (R.iff rfl rfl c24 (R.callF rfl cf25 rfl (digest_Mix.ok e29 (hg.fr0 h.fr0)) (?_))))
      rintro _ w ⟨rfl, f30⟩
      replace h := h.same f30
      refine R.iff rfl rfl c24 (R.ib rfl rfl rfl rfl (R.iff rfl rfl c24 (R.mv rfl rfl (R.iff rfl rfl c24 (R.mv rfl rfl (R.iff rfl rfl c24 (R.ib rfl rfl rfl rfl (R.iff rfl rfl c24 (R.bb rfl u4 rfl rfl rfl (R.pT rfl rfl c24 rfl (R.mv rfl rfl (?_))))))))))))
      refine bsplit ((x25 == x28) == (a0 == a1)) (fun c31 => ?_) (fun c31 => ?_)
      · replace F := (ifT c31).symm.trans F
        obtain ⟨x32, e33, F⟩ := Option.bind_eq_some_iff.1 F
        refine R.iff rfl rfl c31 (R.mv rfl rfl (R.iff rfl rfl c31 (R.callF rfl cf26 rfl (digest_Print.ok e33 (hg.fr0 h.fr0)) (?_))))
        rintro _ w ⟨rfl, f34⟩
        replace h := h.same f34
        obtain ⟨x35, e36, F⟩ := Option.bind_eq_some_iff.1 F
        refine R.iff rfl rfl c31 (R.mv rfl rfl (R.iff rfl rfl c31 (R.callF rfl cf26 rfl (digest_Print.ok e36 (hg.fr0 h.fr0)) (?_))))
        rintro _ w ⟨rfl, f37⟩
        replace h := h.same f37
        obtain ⟨x38, e39, F⟩ := Option.bind_eq_some_iff.1 F
        obtain rfl := Option.some.inj F
        refine R.iff rfl rfl c31 (R.sb rfl rfl rfl rfl (R.iff rfl rfl c31 (R.mv rfl rfl (R.iff rfl rfl c31 (R.mv rfl rfl (R.iff rfl rfl c31 (R.ib rfl rfl rfl rfl (R.iff rfl rfl c31 (R.bb rfl u4 rfl rfl rfl (R.pT rfl rfl c31 rfl (R.as rfl rfl (R.re (congrArg Value.bool (Option.some.inj e39)) (R.nil (fun a ha => ⟨ha.sub ⟨rfl, trivial⟩, h⟩))))))))))))))
      · replace F := (ifF c31).symm.trans F
        obtain rfl := Option.some.inj F
        refine R.not_ rfl rfl rfl c31 (R.not_ rfl rfl rfl c31 (R.not_ rfl rfl rfl c31 (R.not_ rfl rfl rfl c31 (R.not_ rfl rfl rfl c31 (R.not_ rfl rfl rfl c31 (R.not_ rfl rfl rfl c31 (R.not_ rfl rfl rfl c31 (R.not_ rfl rfl rfl c31 (R.pF rfl rfl c31 rfl (R.as rfl rfl (R.nil (fun a ha => ⟨ha.sub ⟨rfl, trivial⟩, h⟩))))))))))))
    · replace F := (ifF c24).symm.trans F
      obtain rfl := Option.some.inj F
      refine R.not_ rfl rfl rfl c24 (R.not_ rfl rfl rfl c24 (R.not_ rfl rfl rfl c24 (R.not_ rfl rfl rfl c24 (R.not_ rfl rfl rfl c24 (R.not_ rfl rfl rfl c24 (R.not_ rfl rfl rfl c24 (R.not_ rfl rfl rfl c24 (R.not_ rfl rfl rfl c24 (R.pF rfl rfl c24 rfl (R.mv rfl rfl (R.not_ rfl rfl rfl rfl (R.not_ rfl rfl rfl rfl (R.not_ rfl rfl rfl rfl (R.not_ rfl rfl rfl rfl (R.not_ rfl rfl rfl rfl (R.not_ rfl rfl rfl rfl (R.not_ rfl rfl rfl rfl (R.not_ rfl rfl rfl rfl (R.not_ rfl rfl rfl rfl (R.pF rfl rfl rfl rfl (R.as rfl rfl (R.nil (fun a ha => ⟨ha.sub ⟨rfl, trivial⟩, h⟩)))))))))))))))))))))))
  · clear F
    rintro a w ⟨ha, h⟩
    refine T.use ?_ ha
    have F := E6
    obtain rfl := Option.some.inj F
    refine T.ret (ret1 rfl rfl ⟨rfl, h.fr0⟩)

/-! echelon/echelonlaw03.DigestNumbers: function 9 -/
noncomputable def echelonlaw03_DigestNumbers (a0 : Int) (a1 : Int) : Option (Bool) :=
  (echelonlaw03_awake).bind fun x3 => (digest_Print a0).bind fun x7 => (digest_Parse x7).bind fun x11 => ((digest_Mix a0).bind fun x29 => (echelonref03_Mix a0).bind fun x32 => if x29 == x32 then (digest_Chain a0 a1).bind fun x36 => (echelonref03_Chain a0 a1).bind fun x39 => some (x36 == x39) else some false).bind fun (y15 : Bool) => (if x3 then if y15 then (echelonref03_Print a0).bind fun x53 => some ((x7 == x53) && ((x11.1 == a0) && (x11.2 == 0))) else some false else some false).bind fun (y43 : Bool) => some y43
theorem echelonlaw03_DigestNumbers.ok {a0 : Int} {a1 : Int} {r : Bool} {W0 : World} (F : echelonlaw03_DigestNumbers a0 a1 = some r) (hg : Gl W0) :
    Calls Tryd.prog 9 [(.int .u64 a0 : Value), (.int .u64 a1 : Value)].toArray W0 fun e w' => ∃ v, e = .returned v ∧ (v = .bool r ∧ Fr0 W0 w') := by
  unfold echelonlaw03_DigestNumbers at F
  refine calls_body 51 Tryd.func9 rfl rfl rfl ?_
  have h := H.nil W0
  refine T.seq fun Kk1 k1 => ?_
  refine T.region ?_
  refine R.as rfl rfl (R.nil (k1 _ _ ?_))
  refine T.seq fun Kk2 k2 => ?_
  refine T.region ?_
  obtain ⟨x3, e4, F⟩ := Option.bind_eq_some_iff.1 F
  refine R.callF rfl cf22 rfl (echelonlaw03_awake.ok e4 (hg.fr0 h.fr0)) (?_)
  rintro _ w ⟨rfl, f5⟩
  replace h := h.same f5
  refine R.as rfl rfl (R.nil (k2 _ _ ?_))
  refine T.seq fun Kk6 k6 => ?_
  refine T.region ?_
  obtain ⟨x7, e8, F⟩ := Option.bind_eq_some_iff.1 F
  refine R.mv rfl rfl (R.callF rfl cf26 rfl (digest_Print.ok e8 (hg.fr0 h.fr0)) (?_))
  rintro _ w ⟨rfl, f9⟩
  replace h := h.same f9
  refine R.as rfl rfl (R.nil (k6 _ _ ?_))
  refine T.seq fun Kk10 k10 => ?_
  refine T.region ?_
  obtain ⟨x11, e12, F⟩ := Option.bind_eq_some_iff.1 F
  refine R.mv rfl rfl (R.callF rfl cf23 rfl (digest_Parse.ok e12 (hg.fr0 h.fr0)) (?_))
  rintro _ w ⟨rfl, f13⟩
  replace h := h.same f13
  refine R.mv rfl rfl (R.ext rfl rfl rfl (R.ext rfl rfl rfl (R.as rfl rfl (R.as rfl rfl (R.nil (k10 _ _ ?_))))))
  obtain ⟨y15, F, E14⟩ := Option.bind_eq_some_iff.1 F
  refine T.cut (fun a w => Agr 51 [(0, .int .u64 a0), (5, .bool x3), (6, vS x7), (7, .int .u64 x11.1), (8, .int .i64 x11.2), (9, .bool y15)] a ∧ H W0 (fun _ => False) w [] []) ?_ ?_
  · refine T.region ?_
    obtain ⟨x29, e30, F⟩ := Option.bind_eq_some_iff.1 F
    refine R.mv rfl rfl (R.callF rfl cf25 rfl (digest_Mix.ok e30 (hg.fr0 h.fr0)) (?_))
    rintro _ w ⟨rfl, f31⟩
    replace h := h.same f31
    obtain ⟨x32, e33, F⟩ := Option.bind_eq_some_iff.1 F
    refine R.mv rfl rfl (R.callF rfl cf27 rfl (echelonref03_Mix.ok e33 (hg.fr0 h.fr0)) (?_))
    rintro _ w ⟨rfl, f34⟩
    replace h := h.same f34
    refine R.ib rfl rfl rfl rfl (R.mv rfl rfl (?_))
    refine bsplit (x29 == x32) (fun c35 => ?_) (fun c35 => ?_)
    · replace F := (ifT c35).symm.trans F
      obtain ⟨x36, e37, F⟩ := Option.bind_eq_some_iff.1 F
      refine R.iff rfl rfl c35 (R.mv rfl rfl (R.iff rfl rfl c35 (R.mv rfl rfl (R.iff rfl rfl c35 (R.callF rfl cf28 rfl (digest_Chain.ok e37 (hg.fr0 h.fr0)) (?_))))))
      rintro _ w ⟨rfl, f38⟩
      replace h := h.same f38
      obtain ⟨x39, e40, F⟩ := Option.bind_eq_some_iff.1 F
      refine R.iff rfl rfl c35 (R.mv rfl rfl (R.iff rfl rfl c35 (R.mv rfl rfl (R.iff rfl rfl c35 (R.callF rfl cf29 rfl (echelonref03_Chain.ok e40 (hg.fr0 h.fr0)) (?_))))))
      rintro _ w ⟨rfl, f41⟩
      replace h := h.same f41
      obtain rfl := Option.some.inj F
      refine R.iff rfl rfl c35 (R.ib rfl rfl rfl rfl (R.pT rfl rfl c35 rfl (R.as rfl rfl (R.nil (fun a ha => ⟨ha.sub ⟨rfl, rfl, rfl, rfl, rfl, rfl, trivial⟩, h⟩)))))
    · replace F := (ifF c35).symm.trans F
      obtain rfl := Option.some.inj F
      refine R.not_ rfl rfl rfl c35 (R.not_ rfl rfl rfl c35 (R.not_ rfl rfl rfl c35 (R.not_ rfl rfl rfl c35 (R.not_ rfl rfl rfl c35 (R.not_ rfl rfl rfl c35 (R.not_ rfl rfl rfl c35 (R.pF rfl rfl c35 rfl (R.as rfl rfl (R.nil (fun a ha => ⟨ha.sub ⟨rfl, rfl, rfl, rfl, rfl, rfl, trivial⟩, h⟩))))))))))
  · clear F
    rintro a w ⟨ha, h⟩
    refine T.use ?_ ha
    have F := E14
    obtain ⟨y43, F, E42⟩ := Option.bind_eq_some_iff.1 F
    refine T.cut (fun a w => Agr 51 [(4, .bool y43)] a ∧ H W0 (fun _ => False) w [] []) ?_ ?_
    · refine T.region ?_
      refine R.mv rfl rfl (R.mv rfl rfl (?_))
      refine bsplit x3 (fun c51 => ?_) (fun c51 => ?_)
      · replace F := (ifT c51).symm.trans F
        refine R.iff rfl rfl c51 (R.mv rfl rfl (R.pT rfl rfl c51 rfl (R.mv rfl rfl (?_))))
        refine bsplit y15 (fun c52 => ?_) (fun c52 => ?_)
        · replace F := (ifT c52).symm.trans F
          obtain ⟨x53, e54, F⟩ := Option.bind_eq_some_iff.1 F
          refine R.iff rfl rfl c52 (R.mv rfl rfl (R.iff rfl rfl c52 (R.mv rfl rfl (R.iff rfl rfl c52 (R.callF rfl cf30 rfl (echelonref03_Print.ok e54 (hg.fr0 h.fr0)) (?_))))))
          rintro _ w ⟨rfl, f55⟩
          replace h := h.same f55
          refine R.iff rfl rfl c52 (R.sb rfl rfl rfl rfl (R.pT rfl rfl c52 rfl (R.mv rfl rfl (?_))))
          refine bsplit (x7 == x53) (fun c56 => ?_) (fun c56 => ?_)
          · replace F := (andT c56).symm.trans F
            refine R.iff rfl rfl c56 (R.mv rfl rfl (R.iff rfl rfl c56 (R.mv rfl rfl (R.iff rfl rfl c56 (R.ib rfl rfl rfl rfl (R.pT rfl rfl c56 rfl (R.mv rfl rfl (?_))))))))
            refine bsplit (x11.1 == a0) (fun c57 => ?_) (fun c57 => ?_)
            · replace F := (andT c57).symm.trans F
              obtain rfl := Option.some.inj F
              refine R.iff rfl rfl c57 (R.mv rfl rfl (R.iff rfl rfl c57 (R.ib rfl rfl rfl rfl (R.pT rfl rfl c57 rfl (R.as rfl rfl (R.nil (fun a ha => ⟨ha.sub ⟨rfl, trivial⟩, h⟩)))))))
            · replace F := (andF c57).symm.trans F
              obtain rfl := Option.some.inj F
              refine R.not_ rfl rfl rfl c57 (R.not_ rfl rfl rfl c57 (R.pF rfl rfl c57 rfl (R.as rfl rfl (R.nil (fun a ha => ⟨ha.sub ⟨rfl, trivial⟩, h⟩)))))
          · replace F := (andF c56).symm.trans F
            obtain rfl := Option.some.inj F
            refine R.not_ rfl rfl rfl c56 (R.not_ rfl rfl rfl c56 (R.not_ rfl rfl rfl c56 (R.pF rfl rfl c56 rfl (R.mv rfl rfl (R.not_ rfl rfl rfl rfl (R.not_ rfl rfl rfl rfl (R.pF rfl rfl rfl rfl (R.as rfl rfl (R.nil (fun a ha => ⟨ha.sub ⟨rfl, trivial⟩, h⟩))))))))))
        · replace F := (ifF c52).symm.trans F
          obtain rfl := Option.some.inj F
          refine R.not_ rfl rfl rfl c52 (R.not_ rfl rfl rfl c52 (R.not_ rfl rfl rfl c52 (R.not_ rfl rfl rfl c52 (R.pF rfl rfl c52 rfl (R.mv rfl rfl (R.not_ rfl rfl rfl rfl (R.not_ rfl rfl rfl rfl (R.not_ rfl rfl rfl rfl (R.pF rfl rfl rfl rfl (R.mv rfl rfl (R.not_ rfl rfl rfl rfl (R.not_ rfl rfl rfl rfl (R.pF rfl rfl rfl rfl (R.as rfl rfl (R.nil (fun a ha => ⟨ha.sub ⟨rfl, trivial⟩, h⟩))))))))))))))))
      · replace F := (ifF c51).symm.trans F
        obtain rfl := Option.some.inj F
        refine R.not_ rfl rfl rfl c51 (R.pF rfl rfl c51 rfl (R.mv rfl rfl (R.not_ rfl rfl rfl rfl (R.not_ rfl rfl rfl rfl (R.not_ rfl rfl rfl rfl (R.not_ rfl rfl rfl rfl (R.pF rfl rfl rfl rfl (R.mv rfl rfl (R.not_ rfl rfl rfl rfl (R.not_ rfl rfl rfl rfl (R.not_ rfl rfl rfl rfl (R.pF rfl rfl rfl rfl (R.mv rfl rfl (R.not_ rfl rfl rfl rfl (R.not_ rfl rfl rfl rfl (R.pF rfl rfl rfl rfl (R.as rfl rfl (R.nil (fun a ha => ⟨ha.sub ⟨rfl, trivial⟩, h⟩)))))))))))))))))))
    · clear F
      rintro a w ⟨ha, h⟩
      refine T.use ?_ ha
      have F := E42
      obtain rfl := Option.some.inj F
      refine T.ret (ret1 rfl rfl ⟨rfl, h.fr0⟩)

end Go.Proofs.YtneahkibnaoiiaaDoor.Dg
