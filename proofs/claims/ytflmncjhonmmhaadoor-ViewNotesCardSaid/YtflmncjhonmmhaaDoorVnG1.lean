/- Walks of functions, written by my program g2.py out of Lean's print. -/
import Derived.Test.YtflmncjhonmmhaaDoorProg
import Derived.Test.YtflmncjhonmmhaaDoorVnG0
namespace Go.Proofs.YtflmncjhonmmhaaDoor.Vn
open Go
set_option linter.unusedVariables false
set_option linter.unusedSimpArgs false
set_option maxRecDepth 4000
set_option maxHeartbeats 4000000
/-! echelon/view.isSeat: function 68 -/
noncomputable def view_isSeat (a0 : Int) : Option (Bool) :=
  (if decide (a0 ≥ 0) then some (decide (a0 < 6)) else some false).bind fun (y103 : Bool) => some y103
theorem view_isSeat.ok {a0 : Int} {r : Bool} {W0 : World} (F : view_isSeat a0 = some r) (hg : Gl W0) :
    Calls Tryd.prog 68 [(.int .i64 a0 : Value)].toArray W0 fun e w' => ∃ v, e = .returned v ∧ (v = .bool r ∧ Fr0 W0 w') := by
  unfold view_isSeat at F
  refine calls_body 9 Tryd.func68 rfl rfl rfl ?_
  have h := H.nil W0
  refine T.seq fun Kk101 k101 => ?_
  refine T.region ?_
  refine R.as rfl rfl (R.nil (k101 _ _ ?_))
  obtain ⟨y103, F, E102⟩ := Option.bind_eq_some_iff.1 F
  refine T.cut (fun a w => Agr 9 [(2, .bool y103)] a ∧ H W0 (fun _ => False) w [] []) ?_ ?_
  · refine T.region ?_
    refine R.mv rfl rfl (R.ib rfl rfl rfl rfl (R.mv rfl rfl (?_)))
    refine bsplit (decide (a0 ≥ 0)) (fun c104 => ?_) (fun c104 => ?_)
    · replace F := (ifT c104).symm.trans F
      obtain rfl := Option.some.inj F
      refine R.iff rfl rfl c104 (R.mv rfl rfl (R.iff rfl rfl c104 (R.ib rfl rfl rfl rfl (R.pT rfl rfl c104 rfl (R.as rfl rfl (R.nil (fun a ha => ⟨ha.sub ⟨rfl, trivial⟩, h⟩)))))))
    · replace F := (ifF c104).symm.trans F
      obtain rfl := Option.some.inj F
      refine R.not_ rfl rfl rfl c104 (R.not_ rfl rfl rfl c104 (R.pF rfl rfl c104 rfl (R.as rfl rfl (R.nil (fun a ha => ⟨ha.sub ⟨rfl, trivial⟩, h⟩)))))
  · clear F
    rintro a w ⟨ha, h⟩
    refine T.use ?_ ha
    have F := E102
    obtain rfl := Option.some.inj F
    refine T.ret (retG (vs := [.bool y103]) [.tmp 2] rfl ⟨rfl, trivial⟩ ⟨rfl, h.fr0⟩)
attribute [irreducible] view_isSeat

/-! echelon/view.rows$1: function 67 -/
noncomputable def view_rows_1 (a0 : GNote) : Option (Bool) :=
  (view_isSeat a0.A).bind fun x105 => some x105
theorem view_rows_1.ok {a0 : GNote} {r : Bool} {W0 : World} (F : view_rows_1 a0 = some r) (hg : Gl W0) :
    Calls Tryd.prog 67 [(vGNote a0 : Value)].toArray W0 fun e w' => ∃ v, e = .returned v ∧ (v = .bool r ∧ Fr0 W0 w') := by
  unfold view_rows_1 at F
  refine calls_body 6 Tryd.func67 rfl rfl rfl ?_
  have h := H.nil W0
  refine T.seq fun Kk101 k101 => ?_
  refine T.region ?_
  refine R.box rfl h rfl (fun b102 w (h : H W0 (fun _ => False) w [] [ABox b102 83 (encGNote.enc a0).toArray]) => R.as rfl rfl (R.nil (k101 _ _ ?_)))
  refine T.seq fun Kk104 k104 => ?_
  refine T.region ?_
  obtain ⟨x105, e106, F⟩ := Option.bind_eq_some_iff.1 F
  refine R.fldB rfl fo83_1 rfl (R.ld rfl sh3 rfl (h.box 0 1 rfl rfl) (R.callC (fl := []) (cl := []) rfl cf68 rfl rfl (view_isSeat.ok e106 (hg.fr0 h.fr0)) (?_)))
  rintro _ w ⟨rfl, g107⟩
  replace h := h.same g107
  refine R.as rfl rfl (R.nil (k104 _ _ ?_))
  obtain rfl := Option.some.inj F
  refine T.ret (retG (vs := [.bool x105]) [.tmp 2] rfl ⟨rfl, trivial⟩ ⟨rfl, h.fr0⟩)
attribute [irreducible] view_rows_1

/-! echelon/view.rows$2: function 69 -/
noncomputable def view_rows_2 (a0 : GNote) : Option (Bool) :=
  ((view_isSeat a0.A).bind fun x106 => if x106 then (view_isSeat a0.B).bind fun x110 => some x110 else some false).bind fun (y105 : Bool) => some y105
theorem view_rows_2.ok {a0 : GNote} {r : Bool} {W0 : World} (F : view_rows_2 a0 = some r) (hg : Gl W0) :
    Calls Tryd.prog 69 [(vGNote a0 : Value)].toArray W0 fun e w' => ∃ v, e = .returned v ∧ (v = .bool r ∧ Fr0 W0 w') := by
  unfold view_rows_2 at F
  refine calls_body 11 Tryd.func69 rfl rfl rfl ?_
  have h := H.nil W0
  refine T.seq fun Kk101 k101 => ?_
  refine T.region ?_
  refine R.box rfl h rfl (fun b102 w (h : H W0 (fun _ => False) w [] [ABox b102 83 (encGNote.enc a0).toArray]) => R.as rfl rfl (R.nil (k101 _ _ ?_)))
  obtain ⟨y105, F, E104⟩ := Option.bind_eq_some_iff.1 F
  refine T.cut (fun a w => Agr 11 [(2, .bool y105)] a ∧ H W0 (fun _ => False) w [] []) ?_ ?_
  · refine T.region ?_
    obtain ⟨x106, e107, F⟩ := Option.bind_eq_some_iff.1 F
    refine R.fldB rfl fo83_1 rfl (R.ld rfl sh3 rfl (h.box 0 1 rfl rfl) (R.callC (fl := []) (cl := []) rfl cf68 rfl rfl (view_isSeat.ok e107 (hg.fr0 h.fr0)) (?_)))
    rintro _ w ⟨rfl, g108⟩
    replace h := h.same g108
    refine R.mv rfl rfl (?_)
    refine bsplit x106 (fun c109 => ?_) (fun c109 => ?_)
    · replace F := (ifT c109).symm.trans F
      obtain ⟨x110, e111, F⟩ := Option.bind_eq_some_iff.1 F
      refine R.iff rfl rfl c109 (R.fldB rfl fo83_2 rfl (R.iff rfl rfl c109 (R.ld rfl sh3 rfl (h.box 0 2 rfl rfl) (R.iff rfl rfl c109 (R.callC (fl := []) (cl := []) rfl cf68 rfl rfl (view_isSeat.ok e111 (hg.fr0 h.fr0)) (?_))))))
      rintro _ w ⟨rfl, g112⟩
      replace h := h.same g112
      obtain rfl := Option.some.inj F
      refine R.pT rfl rfl c109 rfl (R.as rfl rfl (R.nil (fun a ha => ⟨ha.sub ⟨rfl, trivial⟩, (h.sel [] rfl (by decide))⟩)))
    · replace F := (ifF c109).symm.trans F
      obtain rfl := Option.some.inj F
      refine R.not_ rfl rfl rfl c109 (R.not_ rfl rfl rfl c109 (R.not_ rfl rfl rfl c109 (R.pF rfl rfl c109 rfl (R.as rfl rfl (R.nil (fun a ha => ⟨ha.sub ⟨rfl, trivial⟩, (h.sel [] rfl (by decide))⟩))))))
  · clear F
    rintro a w ⟨ha, h⟩
    refine T.use ?_ ha
    have F := E104
    obtain rfl := Option.some.inj F
    refine T.ret (retG (vs := [.bool y105]) [.tmp 2] rfl ⟨rfl, trivial⟩ ⟨rfl, h.fr0⟩)
attribute [irreducible] view_rows_2

/-! echelon/view.letter: function 59 -/
noncomputable def view_letter (a0 : Int) : Option (Str) :=
  some (text ([W8 (W (65 + a0))]))
theorem view_letter.ok {a0 : Int} {r : Str} {W0 : World} (F : view_letter a0 = some r) (hg : Gl W0) :
    Calls Tryd.prog 59 [(.int .i64 a0 : Value)].toArray W0 fun e w' => ∃ v, e = .returned v ∧ (v = vS r ∧ Fr0 W0 w') := by
  unfold view_letter at F
  refine calls_body 8 Tryd.func59 rfl rfl rfl ?_
  have h := H.nil W0
  refine T.seq fun Kk101 k101 => ?_
  refine T.region ?_
  refine R.as rfl rfl (R.nil (k101 _ _ ?_))
  refine T.seq fun Kk102 k102 => ?_
  refine T.region ?_
  refine R.mv rfl rfl (R.ib rfl rfl rfl rfl (R.cvt rfl us3 u5 rfl (R.litK (e := (encI .u8)) (xs := [W8 (W (65 + a0))]) (vs := [.int .u8 (W8 (W (65 + a0)))]) rfl h u50 in5 rfl rfl rfl rfl rfl rfl (fun p103 c104 w h => R.b2sR rfl (h.rL 0 rfl) ss50 u5 u9 rfl (R.as rfl rfl (R.nil (k102 _ _ ?_)))))))
  obtain rfl := Option.some.inj F
  refine T.ret (retG (vs := [vS (text ([W8 (W (65 + a0))]))]) [.tmp 2] rfl ⟨rfl, trivial⟩ ⟨rfl, h.fr0⟩)
attribute [irreducible] view_letter

/-! echelon/view.rows$5: function 74 -/
noncomputable def view_rows_5 (a0 : GNote) : Option (Str) :=
  (view_letter a0.A).bind fun x105 => (cat x105 ([32, 98, 97, 99, 107])).bind fun (x108 : Str) => some x108
theorem view_rows_5.ok {a0 : GNote} {r : Str} {W0 : World} (F : view_rows_5 a0 = some r) (hg : Gl W0) :
    Calls Tryd.prog 74 [(vGNote a0 : Value)].toArray W0 fun e w' => ∃ v, e = .returned v ∧ (v = vS r ∧ Fr0 W0 w') := by
  unfold view_rows_5 at F
  refine calls_body 7 Tryd.func74 rfl rfl rfl ?_
  have h := H.nil W0
  refine T.seq fun Kk101 k101 => ?_
  refine T.region ?_
  refine R.box rfl h rfl (fun b102 w (h : H W0 (fun _ => False) w [] [ABox b102 83 (encGNote.enc a0).toArray]) => R.as rfl rfl (R.nil (k101 _ _ ?_)))
  refine T.seq fun Kk104 k104 => ?_
  refine T.region ?_
  obtain ⟨x105, e106, F⟩ := Option.bind_eq_some_iff.1 F
  refine R.fldB rfl fo83_1 rfl (R.ld rfl sh3 rfl (h.box 0 1 rfl rfl) (R.callC (fl := []) (cl := []) rfl cf59 rfl rfl (view_letter.ok e106 (hg.fr0 h.fr0)) (?_)))
  rintro _ w ⟨rfl, g107⟩
  replace h := h.same g107
  obtain ⟨x108, e109, F⟩ := Option.bind_eq_some_iff.1 F
  refine R.sadd rfl rfl rfl e109 (R.as rfl rfl (R.nil (k104 _ _ ?_)))
  obtain rfl := Option.some.inj F
  refine T.ret (retG (vs := [vS x108]) [.tmp 2] rfl ⟨rfl, trivial⟩ ⟨rfl, h.fr0⟩)
attribute [irreducible] view_rows_5

/-! echelon/view.isKind: function 76 -/
noncomputable def view_isKind (a0 : Int) : Option (Bool) :=
  (if decide (a0 ≥ 1) then some (decide (a0 ≤ 3)) else some false).bind fun (y103 : Bool) => some y103
theorem view_isKind.ok {a0 : Int} {r : Bool} {W0 : World} (F : view_isKind a0 = some r) (hg : Gl W0) :
    Calls Tryd.prog 76 [(.int .i64 a0 : Value)].toArray W0 fun e w' => ∃ v, e = .returned v ∧ (v = .bool r ∧ Fr0 W0 w') := by
  unfold view_isKind at F
  refine calls_body 9 Tryd.func76 rfl rfl rfl ?_
  have h := H.nil W0
  refine T.seq fun Kk101 k101 => ?_
  refine T.region ?_
  refine R.as rfl rfl (R.nil (k101 _ _ ?_))
  obtain ⟨y103, F, E102⟩ := Option.bind_eq_some_iff.1 F
  refine T.cut (fun a w => Agr 9 [(2, .bool y103)] a ∧ H W0 (fun _ => False) w [] []) ?_ ?_
  · refine T.region ?_
    refine R.mv rfl rfl (R.ib rfl rfl rfl rfl (R.mv rfl rfl (?_)))
    refine bsplit (decide (a0 ≥ 1)) (fun c104 => ?_) (fun c104 => ?_)
    · replace F := (ifT c104).symm.trans F
      obtain rfl := Option.some.inj F
      refine R.iff rfl rfl c104 (R.mv rfl rfl (R.iff rfl rfl c104 (R.ib rfl rfl rfl rfl (R.pT rfl rfl c104 rfl (R.as rfl rfl (R.nil (fun a ha => ⟨ha.sub ⟨rfl, trivial⟩, h⟩)))))))
    · replace F := (ifF c104).symm.trans F
      obtain rfl := Option.some.inj F
      refine R.not_ rfl rfl rfl c104 (R.not_ rfl rfl rfl c104 (R.pF rfl rfl c104 rfl (R.as rfl rfl (R.nil (fun a ha => ⟨ha.sub ⟨rfl, trivial⟩, h⟩)))))
  · clear F
    rintro a w ⟨ha, h⟩
    refine T.use ?_ ha
    have F := E102
    obtain rfl := Option.some.inj F
    refine T.ret (retG (vs := [.bool y103]) [.tmp 2] rfl ⟨rfl, trivial⟩ ⟨rfl, h.fr0⟩)
attribute [irreducible] view_isKind

/-! echelon/view.rows$6: function 75 -/
noncomputable def view_rows_6 (a0 : GNote) : Option (Bool) :=
  ((view_isSeat a0.A).bind fun x106 => if x106 then (view_isKind a0.B).bind fun x110 => some x110 else some false).bind fun (y105 : Bool) => some y105
theorem view_rows_6.ok {a0 : GNote} {r : Bool} {W0 : World} (F : view_rows_6 a0 = some r) (hg : Gl W0) :
    Calls Tryd.prog 75 [(vGNote a0 : Value)].toArray W0 fun e w' => ∃ v, e = .returned v ∧ (v = .bool r ∧ Fr0 W0 w') := by
  unfold view_rows_6 at F
  refine calls_body 11 Tryd.func75 rfl rfl rfl ?_
  have h := H.nil W0
  refine T.seq fun Kk101 k101 => ?_
  refine T.region ?_
  refine R.box rfl h rfl (fun b102 w (h : H W0 (fun _ => False) w [] [ABox b102 83 (encGNote.enc a0).toArray]) => R.as rfl rfl (R.nil (k101 _ _ ?_)))
  obtain ⟨y105, F, E104⟩ := Option.bind_eq_some_iff.1 F
  refine T.cut (fun a w => Agr 11 [(2, .bool y105)] a ∧ H W0 (fun _ => False) w [] []) ?_ ?_
  · refine T.region ?_
    obtain ⟨x106, e107, F⟩ := Option.bind_eq_some_iff.1 F
    refine R.fldB rfl fo83_1 rfl (R.ld rfl sh3 rfl (h.box 0 1 rfl rfl) (R.callC (fl := []) (cl := []) rfl cf68 rfl rfl (view_isSeat.ok e107 (hg.fr0 h.fr0)) (?_)))
    rintro _ w ⟨rfl, g108⟩
    replace h := h.same g108
    refine R.mv rfl rfl (?_)
    refine bsplit x106 (fun c109 => ?_) (fun c109 => ?_)
    · replace F := (ifT c109).symm.trans F
      obtain ⟨x110, e111, F⟩ := Option.bind_eq_some_iff.1 F
      refine R.iff rfl rfl c109 (R.fldB rfl fo83_2 rfl (R.iff rfl rfl c109 (R.ld rfl sh3 rfl (h.box 0 2 rfl rfl) (R.iff rfl rfl c109 (R.callC (fl := []) (cl := []) rfl cf76 rfl rfl (view_isKind.ok e111 (hg.fr0 h.fr0)) (?_))))))
      rintro _ w ⟨rfl, g112⟩
      replace h := h.same g112
      obtain rfl := Option.some.inj F
      refine R.pT rfl rfl c109 rfl (R.as rfl rfl (R.nil (fun a ha => ⟨ha.sub ⟨rfl, trivial⟩, (h.sel [] rfl (by decide))⟩)))
    · replace F := (ifF c109).symm.trans F
      obtain rfl := Option.some.inj F
      refine R.not_ rfl rfl rfl c109 (R.not_ rfl rfl rfl c109 (R.not_ rfl rfl rfl c109 (R.pF rfl rfl c109 rfl (R.as rfl rfl (R.nil (fun a ha => ⟨ha.sub ⟨rfl, trivial⟩, (h.sel [] rfl (by decide))⟩))))))
  · clear F
    rintro a w ⟨ha, h⟩
    refine T.use ?_ ha
    have F := E104
    obtain rfl := Option.some.inj F
    refine T.ret (retG (vs := [.bool y105]) [.tmp 2] rfl ⟨rfl, trivial⟩ ⟨rfl, h.fr0⟩)
attribute [irreducible] view_rows_6

/-! echelon/view.kindName: function 78 -/
noncomputable def view_kindName (a0 : Int) : Option (Str) :=
  (getI ([[104, 101, 97, 108], [99, 104, 97, 114, 103, 101], [112, 114, 105, 122, 101]]) (W (a0 - 1))).bind fun (x106 : Str) => some x106
theorem view_kindName.ok {a0 : Int} {r : Str} {W0 : World} (F : view_kindName a0 = some r) (hg : Gl W0) :
    Calls Tryd.prog 78 [(.int .i64 a0 : Value)].toArray W0 fun e w' => ∃ v, e = .returned v ∧ (v = vS r ∧ Fr0 W0 w') := by
  unfold view_kindName at F
  refine calls_body 8 Tryd.func78 rfl rfl rfl ?_
  have h := H.nil W0
  refine T.seq fun Kk101 k101 => ?_
  refine T.region ?_
  refine R.as rfl rfl (R.nil (k101 _ _ ?_))
  refine T.seq fun Kk102 k102 => ?_
  refine T.region ?_
  obtain ⟨x106, e107, F⟩ := Option.bind_eq_some_iff.1 F
  refine R.litK (e := encS) (xs := [[104, 101, 97, 108], [99, 104, 97, 114, 103, 101], [112, 114, 105, 122, 101]]) (vs := [vS ([104, 101, 97, 108]), vS ([99, 104, 97, 114, 103, 101]), vS ([112, 114, 105, 122, 101])]) rfl h u105 in9 rfl rfl rfl rfl rfl rfl (fun p103 c104 w h => R.mv rfl rfl (R.ib rfl rfl rfl rfl (R.ixS rfl ss105 rfl rfl (h.rL 0 rfl) e107 (R.ld rfl sh9 rfl (RdS.cell (h.rL 0 rfl) e107 0 rfl) (R.as rfl rfl (R.nil (k102 _ _ ?_)))))))
  obtain rfl := Option.some.inj F
  refine T.ret (retG (vs := [vS x106]) [.tmp 2] rfl ⟨rfl, trivial⟩ ⟨rfl, h.fr0⟩)
attribute [irreducible] view_kindName

/-! echelon/view.rows$7: function 77 -/
noncomputable def view_rows_7 (a0 : GNote) : Option (Str) :=
  (view_letter a0.A).bind fun x105 => (cat x105 ([32, 116, 111, 111, 107, 32])).bind fun (x107 : Str) => (view_kindName a0.B).bind fun x109 => (cat x107 x109).bind fun (x111 : Str) => some x111
theorem view_rows_7.ok {a0 : GNote} {r : Str} {W0 : World} (F : view_rows_7 a0 = some r) (hg : Gl W0) :
    Calls Tryd.prog 77 [(vGNote a0 : Value)].toArray W0 fun e w' => ∃ v, e = .returned v ∧ (v = vS r ∧ Fr0 W0 w') := by
  unfold view_rows_7 at F
  refine calls_body 11 Tryd.func77 rfl rfl rfl ?_
  have h := H.nil W0
  refine T.seq fun Kk101 k101 => ?_
  refine T.region ?_
  refine R.box rfl h rfl (fun b102 w (h : H W0 (fun _ => False) w [] [ABox b102 83 (encGNote.enc a0).toArray]) => R.as rfl rfl (R.nil (k101 _ _ ?_)))
  refine T.seq fun Kk104 k104 => ?_
  refine T.regionD (C := fun w => H W0 (fun _ => False) w [] [ABox b102 83 (encGNote.enc a0).toArray]) mix (by kernel_rfl) (h.same (Fr.drewN w 1)) ?_
  obtain ⟨x105, e106, F⟩ := Option.bind_eq_some_iff.1 F
  obtain ⟨x107, e108, F⟩ := Option.bind_eq_some_iff.1 F
  obtain ⟨x109, e110, F⟩ := Option.bind_eq_some_iff.1 F
  obtain ⟨x111, e112, F⟩ := Option.bind_eq_some_iff.1 F
  refine RD.val rfl rfl (fun w (h : H W0 (fun _ => False) w [] [ABox b102 83 (encGNote.enc a0).toArray]) _ kk => R.fldB rfl fo83_1 rfl (R.nil kk)) (RD.val rfl rfl (fun w (h : H W0 (fun _ => False) w [] [ABox b102 83 (encGNote.enc a0).toArray]) _ kk => R.ld rfl sh3 rfl (h.box 0 1 rfl rfl) (R.nil kk)) (RD.callF rfl cf59 rfl (fun w (h : H W0 (fun _ => False) w [] [ABox b102 83 (encGNote.enc a0).toArray]) => (view_letter.ok e106 (hg.fr0 h.fr0)).mono (fun _ _ ⟨_, h1, h2, h3⟩ => ⟨by rw [h1, h2], h.same h3⟩)) (RD.val rfl rfl (fun w (h : H W0 (fun _ => False) w [] [ABox b102 83 (encGNote.enc a0).toArray]) _ kk => R.sadd rfl rfl rfl e108 (R.nil kk)) (RD.val rfl rfl (fun w (h : H W0 (fun _ => False) w [] [ABox b102 83 (encGNote.enc a0).toArray]) _ kk => R.fldB rfl fo83_2 rfl (R.nil kk)) (RD.val rfl rfl (fun w (h : H W0 (fun _ => False) w [] [ABox b102 83 (encGNote.enc a0).toArray]) _ kk => R.ld rfl sh3 rfl (h.box 0 2 rfl rfl) (R.nil kk)) (RD.callF rfl cf78 rfl (fun w (h : H W0 (fun _ => False) w [] [ABox b102 83 (encGNote.enc a0).toArray]) => (view_kindName.ok e110 (hg.fr0 h.fr0)).mono (fun _ _ ⟨_, h1, h2, h3⟩ => ⟨by rw [h1, h2], h.same h3⟩)) (RD.val rfl rfl (fun w (h : H W0 (fun _ => False) w [] [ABox b102 83 (encGNote.enc a0).toArray]) _ kk => R.sadd rfl rfl rfl e112 (R.nil kk)) (RD.val rfl rfl (fun w (h : H W0 (fun _ => False) w [] [ABox b102 83 (encGNote.enc a0).toArray]) _ kk => R.as rfl rfl (R.nil kk)) (RD.nil (fun w (h : H W0 (fun _ => False) w [] [ABox b102 83 (encGNote.enc a0).toArray]) => k104 _ _ ?_))))))))))
  obtain rfl := Option.some.inj F
  refine T.ret (retG (vs := [vS x111]) [.tmp 2] rfl ⟨rfl, trivial⟩ ⟨rfl, h.fr0⟩)
attribute [irreducible] view_rows_7

/-! echelon/view.rows$8: function 79 -/
noncomputable def view_rows_8 (a0 : GNote) : Option (Bool) :=
  (view_isKind a0.B).bind fun x105 => some x105
theorem view_rows_8.ok {a0 : GNote} {r : Bool} {W0 : World} (F : view_rows_8 a0 = some r) (hg : Gl W0) :
    Calls Tryd.prog 79 [(vGNote a0 : Value)].toArray W0 fun e w' => ∃ v, e = .returned v ∧ (v = .bool r ∧ Fr0 W0 w') := by
  unfold view_rows_8 at F
  refine calls_body 6 Tryd.func79 rfl rfl rfl ?_
  have h := H.nil W0
  refine T.seq fun Kk101 k101 => ?_
  refine T.region ?_
  refine R.box rfl h rfl (fun b102 w (h : H W0 (fun _ => False) w [] [ABox b102 83 (encGNote.enc a0).toArray]) => R.as rfl rfl (R.nil (k101 _ _ ?_)))
  refine T.seq fun Kk104 k104 => ?_
  refine T.region ?_
  obtain ⟨x105, e106, F⟩ := Option.bind_eq_some_iff.1 F
  refine R.fldB rfl fo83_2 rfl (R.ld rfl sh3 rfl (h.box 0 2 rfl rfl) (R.callC (fl := []) (cl := []) rfl cf76 rfl rfl (view_isKind.ok e106 (hg.fr0 h.fr0)) (?_)))
  rintro _ w ⟨rfl, g107⟩
  replace h := h.same g107
  refine R.as rfl rfl (R.nil (k104 _ _ ?_))
  obtain rfl := Option.some.inj F
  refine T.ret (retG (vs := [.bool x105]) [.tmp 2] rfl ⟨rfl, trivial⟩ ⟨rfl, h.fr0⟩)
attribute [irreducible] view_rows_8

/-! echelon/view.rows$9: function 80 -/
noncomputable def view_rows_9 (a0 : GNote) : Option (Str) :=
  (lib_Itoa a0.A).bind fun x105 => (cat ([115, 112, 111, 116, 32]) x105).bind fun (x107 : Str) => (cat x107 ([32])).bind fun (x109 : Str) => (view_kindName a0.B).bind fun x111 => (cat x109 x111).bind fun (x113 : Str) => some x113
theorem view_rows_9.ok {a0 : GNote} {r : Str} {W0 : World} (F : view_rows_9 a0 = some r) (hg : Gl W0) :
    Calls Tryd.prog 80 [(vGNote a0 : Value)].toArray W0 fun e w' => ∃ v, e = .returned v ∧ (v = vS r ∧ Fr0 W0 w') := by
  unfold view_rows_9 at F
  refine calls_body 12 Tryd.func80 rfl rfl rfl ?_
  have h := H.nil W0
  refine T.seq fun Kk101 k101 => ?_
  refine T.region ?_
  refine R.box rfl h rfl (fun b102 w (h : H W0 (fun _ => False) w [] [ABox b102 83 (encGNote.enc a0).toArray]) => R.as rfl rfl (R.nil (k101 _ _ ?_)))
  refine T.seq fun Kk104 k104 => ?_
  refine T.regionD (C := fun w => H W0 (fun _ => False) w [] [ABox b102 83 (encGNote.enc a0).toArray]) mix (by kernel_rfl) (h.same (Fr.drewN w 1)) ?_
  obtain ⟨x105, e106, F⟩ := Option.bind_eq_some_iff.1 F
  obtain ⟨x107, e108, F⟩ := Option.bind_eq_some_iff.1 F
  obtain ⟨x109, e110, F⟩ := Option.bind_eq_some_iff.1 F
  obtain ⟨x111, e112, F⟩ := Option.bind_eq_some_iff.1 F
  obtain ⟨x113, e114, F⟩ := Option.bind_eq_some_iff.1 F
  refine RD.val rfl rfl (fun w (h : H W0 (fun _ => False) w [] [ABox b102 83 (encGNote.enc a0).toArray]) _ kk => R.fldB rfl fo83_1 rfl (R.nil kk)) (RD.val rfl rfl (fun w (h : H W0 (fun _ => False) w [] [ABox b102 83 (encGNote.enc a0).toArray]) _ kk => R.ld rfl sh3 rfl (h.box 0 1 rfl rfl) (R.nil kk)) (RD.callF rfl cf52 rfl (fun w (h : H W0 (fun _ => False) w [] [ABox b102 83 (encGNote.enc a0).toArray]) => (lib_Itoa.ok e106 (hg.fr0 h.fr0)).mono (fun _ _ ⟨_, h1, h2, h3⟩ => ⟨by rw [h1, h2], h.same h3⟩)) (RD.val rfl rfl (fun w (h : H W0 (fun _ => False) w [] [ABox b102 83 (encGNote.enc a0).toArray]) _ kk => R.sadd rfl rfl rfl e108 (R.nil kk)) (RD.val rfl rfl (fun w (h : H W0 (fun _ => False) w [] [ABox b102 83 (encGNote.enc a0).toArray]) _ kk => R.sadd rfl rfl rfl e110 (R.nil kk)) (RD.val rfl rfl (fun w (h : H W0 (fun _ => False) w [] [ABox b102 83 (encGNote.enc a0).toArray]) _ kk => R.fldB rfl fo83_2 rfl (R.nil kk)) (RD.val rfl rfl (fun w (h : H W0 (fun _ => False) w [] [ABox b102 83 (encGNote.enc a0).toArray]) _ kk => R.ld rfl sh3 rfl (h.box 0 2 rfl rfl) (R.nil kk)) (RD.callF rfl cf78 rfl (fun w (h : H W0 (fun _ => False) w [] [ABox b102 83 (encGNote.enc a0).toArray]) => (view_kindName.ok e112 (hg.fr0 h.fr0)).mono (fun _ _ ⟨_, h1, h2, h3⟩ => ⟨by rw [h1, h2], h.same h3⟩)) (RD.val rfl rfl (fun w (h : H W0 (fun _ => False) w [] [ABox b102 83 (encGNote.enc a0).toArray]) _ kk => R.sadd rfl rfl rfl e114 (R.nil kk)) (RD.val rfl rfl (fun w (h : H W0 (fun _ => False) w [] [ABox b102 83 (encGNote.enc a0).toArray]) _ kk => R.as rfl rfl (R.nil kk)) (RD.nil (fun w (h : H W0 (fun _ => False) w [] [ABox b102 83 (encGNote.enc a0).toArray]) => k104 _ _ ?_)))))))))))
  obtain rfl := Option.some.inj F
  refine T.ret (retG (vs := [vS x113]) [.tmp 2] rfl ⟨rfl, trivial⟩ ⟨rfl, h.fr0⟩)
attribute [irreducible] view_rows_9

end Go.Proofs.YtflmncjhonmmhaaDoor.Vn
