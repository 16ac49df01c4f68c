/- Walks of functions, written by my program g2.py out of Lean's print. -/
import Derived.Test.YtflmncjhonmmhaaDoorProg
import Derived.Test.YtflmncjhonmmhaaDoorVwG4
namespace Go.Proofs.YtflmncjhonmmhaaDoor.Vw
open Go
set_option linter.unusedVariables false
set_option linter.unusedSimpArgs false
set_option maxRecDepth 4000
set_option maxHeartbeats 4000000
/-! echelon/echelonref23.Notes: function 21 -/
noncomputable def echelonref23_Notes (a0 : List GNote) : Option (Str × Int) :=
  (Loop.run (fun (s129 : Str × Int) => if decide (s129.2 < (a0.length : Int)) then (getI a0 s129.2).bind fun (x137 : GNote) => (echelonref23_line x137).bind fun x139 => if !x139.2 then some (.inr (.inr ([], 230))) else (cat s129.1 x139.1).bind fun (x146 : Str) => (cat x146 ([10])).bind fun (x148 : Str) => some (.inl (x148, W (s129.2 + 1))) else some (.inr ((.inl s129.1)))) ([], 0) : Option ((Str) ⊕ _)).bind fun y105 => Sum.elim (fun (y106 : Str) => some (y106, 0)) some y105
theorem echelonref23_Notes.ok {a0 : List GNote} {p0_0 : Option Addr} {c0_0 : Nat} {r : Str × Int} {W0 : World} (F : echelonref23_Notes a0 = some r) (hD0_0 : RdS W0 encGNote p0_0 c0_0 a0) (hg : Gl W0) :
    Calls Tryd.prog 21 [(.slice p0_0 a0.length c0_0 : Value)].toArray W0 fun e w' => ∃ v, e = .returned v ∧ (v = .tuple #[vS r.1, .int .i64 r.2] ∧ Fr0 W0 w') := by
  unfold echelonref23_Notes at F
  refine calls_body 29 Tryd.func21 rfl rfl rfl ?_
  have h : H W0 (fun _ => False) W0 [DS encGNote p0_0 c0_0 a0] [] := H.ofRs (List.forall_mem_cons.2 ⟨hD0_0.use, fun _ h => by cases h⟩)
  refine T.seq fun Kk102 k102 => ?_
  refine T.region ?_
  refine R.as rfl rfl (R.as rfl rfl (R.nil (k102 _ _ ?_)))
  refine T.seq fun Kk103 k103 => ?_
  refine T.region ?_
  refine R.as rfl rfl (R.nil (k103 _ _ ?_))
  obtain ⟨y105, F, E104⟩ := Option.bind_eq_some_iff.1 F
  refine T.cut (fun a w => ∃ y106, y105 = .inl y106 ∧ Agr 29 [(4, vS y106)] a ∧ H W0 (fun _ => False) w [DS encGNote p0_0 c0_0 a0] []) ?_ ?_
  · refine T.seq fun Kk107 k107 => ?_
    refine T.region ?_
    refine R.as rfl rfl (R.nil (k107 _ _ ?_))
    refine T.block ?_
    refine T.loop (fun (s129 : Str × Int) a w => Agr 29 [(0, .slice p0_0 a0.length c0_0), (4, vS s129.1), (5, .int .i64 s129.2)] a ∧ H W0 (fun _ => False) w [DS encGNote p0_0 c0_0 a0] []) F (fun a ha => ⟨ha.sub ⟨rfl, rfl, rfl, trivial⟩, h⟩) ?_
    clear h F
    intro s129 F a w
    rintro ⟨ha, h⟩
    refine T.use ?_ ha
    obtain ⟨x131, F, c1, c2⟩ := Loop.run_step F
    have E130 := F
    refine T.seq fun Kk132 k132 => ?_
    refine T.seq fun Kk133 k133 => ?_
    refine T.region ?_
    refine R.mv rfl rfl (R.mv rfl rfl (R.lenSl rfl u39 rfl (R.ib rfl rfl rfl rfl (R.nil (k133 _ _ ?_)))))
    refine T.cond rfl (fun c134 => ?_) (fun c134 => ?_)
    · replace F := (ifT c134).symm.trans F
      refine T.skip (k132 _ _ ?_)
      refine T.seq fun Kk135 k135 => ?_
      refine T.block ?_
      refine T.seq fun Kk136 k136 => ?_
      refine T.region ?_
      obtain ⟨x137, e138, F⟩ := Option.bind_eq_some_iff.1 F
      obtain ⟨x139, e140, F⟩ := Option.bind_eq_some_iff.1 F
      refine R.mv rfl rfl (R.mv rfl rfl (R.ixS rfl ss39 rfl rfl (h.rS 0 rfl) e138 (R.ldN (cs := [.int .i64 x137.Kind, .int .i64 x137.A, .int .i64 x137.B]) rfl sh83 rfl rfl (RdS.cells (h.rS 0 rfl) e138 0 rfl) (R.callC (fl := []) (cl := []) rfl cf51 rfl rfl (echelonref23_line.ok e140 (hg.fr0 h.fr0)) (?_)))))
      rintro _ w ⟨rfl, g141⟩
      replace h := h.same g141
      refine R.mv rfl rfl (R.ext rfl rfl rfl (R.ext rfl rfl rfl (R.as rfl rfl (R.as rfl rfl (R.nil (k136 _ _ ?_))))))
      refine T.seq fun Kk142 k142 => ?_
      refine T.seq fun Kk143 k143 => ?_
      refine T.region ?_
      refine R.mv rfl rfl (R.not rfl rfl (R.nil (k143 _ _ ?_)))
      refine T.cond rfl (fun c144 => ?_) (fun c144 => ?_)
      · replace F := (ifT c144).symm.trans F
        refine T.seq fun Kk145 k145 => ?_
        refine T.region ?_
        refine R.as rfl rfl (R.as rfl rfl (R.nil (k145 _ _ ?_)))
        obtain rfl := Option.some.inj F
        replace F := congrArg some (c2 _ rfl)
        obtain rfl := Option.some.inj F
        replace F := elimR E104
        obtain rfl := Option.some.inj F
        refine T.ret (retG (vs := [vS ([]), .int .i64 230]) [.tmp 2, .tmp 3] rfl ⟨rfl, rfl, trivial⟩ ⟨rfl, h.fr0⟩)
      · replace F := (ifF c144).symm.trans F
        refine T.skip (k142 _ _ ?_)
        refine T.region ?_
        obtain ⟨x146, e147, F⟩ := Option.bind_eq_some_iff.1 F
        obtain ⟨x148, e149, F⟩ := Option.bind_eq_some_iff.1 F
        refine R.mv rfl rfl (R.mv rfl rfl (R.sadd rfl rfl rfl e147 (R.sadd rfl rfl rfl e149 (R.as rfl rfl (R.nil (k135 _ _ ?_))))))
        refine T.region ?_
        obtain rfl := Option.some.inj F
        refine R.mv rfl rfl (R.ib rfl rfl rfl rfl (R.as rfl rfl (R.nil (fun a ha => ⟨_, E130, ha.sub ⟨rfl, rfl, rfl, trivial⟩, h⟩))))
    · replace F := (ifF c134).symm.trans F
      obtain rfl := Option.some.inj F
      replace F := congrArg some (c2 _ rfl)
      obtain rfl := Option.some.inj F
      refine T.exit (fun a ha => ⟨_, rfl, ha.sub ⟨rfl, trivial⟩, h⟩)
  · clear F
    rintro a w ⟨y106, rfl, ha, h⟩
    refine T.use ?_ ha
    have F := elimL E104
    refine T.seq fun Kk150 k150 => ?_
    refine T.region ?_
    refine R.mv rfl rfl (R.as rfl rfl (R.as rfl rfl (R.nil (k150 _ _ ?_))))
    obtain rfl := Option.some.inj F
    refine T.ret (retG (vs := [vS y106, .int .i64 0]) [.tmp 2, .tmp 3] rfl ⟨rfl, rfl, trivial⟩ ⟨rfl, h.fr0⟩)
attribute [irreducible] echelonref23_Notes

/-! echelon/echelonlaw23.ViewNotes: function 5 -/
noncomputable def echelonlaw23_ViewNotes (a0 : List GNote) : Option (Bool) :=
  (echelonlaw23_awake).bind fun x104 => (view_Notes a0).bind fun x108 => (echelonref23_Notes a0).bind fun x112 => (if x104 then if x108.1 == x112.1 then some (x108.2 == x112.2) else some false else some false).bind fun (y116 : Bool) => some y116
theorem echelonlaw23_ViewNotes.ok {a0 : List GNote} {p0_0 : Option Addr} {c0_0 : Nat} {r : Bool} {W0 : World} (F : echelonlaw23_ViewNotes a0 = some r) (hD0_0 : RdS W0 encGNote p0_0 c0_0 a0) (hg : Gl W0) :
    Calls Tryd.prog 5 [(.slice p0_0 a0.length c0_0 : Value)].toArray W0 fun e w' => ∃ v, e = .returned v ∧ (v = .bool r ∧ Fr0 W0 w') := by
  unfold echelonlaw23_ViewNotes at F
  refine calls_body 30 Tryd.func5 rfl rfl rfl ?_
  have h : H W0 (fun _ => False) W0 [DS encGNote p0_0 c0_0 a0] [] := H.ofRs (List.forall_mem_cons.2 ⟨hD0_0.use, fun _ h => by cases h⟩)
  refine T.seq fun Kk102 k102 => ?_
  refine T.region ?_
  refine R.as rfl rfl (R.nil (k102 _ _ ?_))
  refine T.seq fun Kk103 k103 => ?_
  refine T.region ?_
  obtain ⟨x104, e105, F⟩ := Option.bind_eq_some_iff.1 F
  refine R.callC (fl := []) (cl := []) rfl cf16 rfl rfl (echelonlaw23_awake.ok e105 (hg.fr0 h.fr0)) (?_)
  rintro _ w ⟨rfl, g106⟩
  replace h := h.same g106
  refine R.as rfl rfl (R.nil (k103 _ _ ?_))
  refine T.seq fun Kk107 k107 => ?_
  refine T.region ?_
  obtain ⟨x108, e109, F⟩ := Option.bind_eq_some_iff.1 F
  refine R.mv rfl rfl (R.callC (fl := []) (cl := []) rfl cf20 rfl rfl (view_Notes.ok e109 (h.rS 0 rfl) (hg.fr0 h.fr0)) (?_))
  rintro _ w ⟨rfl, g110⟩
  replace h := h.same g110
  refine R.mv rfl rfl (R.ext rfl rfl rfl (R.ext rfl rfl rfl (R.as rfl rfl (R.as rfl rfl (R.nil (k107 _ _ ?_))))))
  refine T.seq fun Kk111 k111 => ?_
  refine T.region ?_
  obtain ⟨x112, e113, F⟩ := Option.bind_eq_some_iff.1 F
  refine R.mv rfl rfl (R.callC (fl := []) (cl := []) rfl cf21 rfl rfl (echelonref23_Notes.ok e113 (h.rS 0 rfl) (hg.fr0 h.fr0)) (?_))
  rintro _ w ⟨rfl, g114⟩
  replace h := h.same g114
  refine R.mv rfl rfl (R.ext rfl rfl rfl (R.ext rfl rfl rfl (R.as rfl rfl (R.as rfl rfl (R.nil (k111 _ _ ?_))))))
  obtain ⟨y116, F, E115⟩ := Option.bind_eq_some_iff.1 F
  refine T.cut (fun a w => Agr 30 [(2, .bool y116)] a ∧ H W0 (fun _ => False) w [DS encGNote p0_0 c0_0 a0] []) ?_ ?_
  · refine T.region ?_
    refine R.mv rfl rfl (R.mv rfl rfl (?_))
    refine bsplit x104 (fun c117 => ?_) (fun c117 => ?_)
    · replace F := (ifT c117).symm.trans F
      refine R.iff rfl rfl c117 (R.mv rfl rfl (R.iff rfl rfl c117 (R.mv rfl rfl (R.iff rfl rfl c117 (R.sb rfl rfl rfl rfl (R.pT rfl rfl c117 rfl (R.mv rfl rfl (?_))))))))
      refine bsplit (x108.1 == x112.1) (fun c118 => ?_) (fun c118 => ?_)
      · replace F := (ifT c118).symm.trans F
        obtain rfl := Option.some.inj F
        refine R.iff rfl rfl c118 (R.mv rfl rfl (R.iff rfl rfl c118 (R.mv rfl rfl (R.iff rfl rfl c118 (R.ib rfl rfl rfl rfl (R.pT rfl rfl c118 rfl (R.as rfl rfl (R.nil (fun a ha => ⟨ha.sub ⟨rfl, trivial⟩, h⟩)))))))))
      · replace F := (ifF c118).symm.trans F
        obtain rfl := Option.some.inj F
        refine R.not_ rfl rfl rfl c118 (R.not_ rfl rfl rfl c118 (R.not_ rfl rfl rfl c118 (R.pF rfl rfl c118 rfl (R.as rfl rfl (R.nil (fun a ha => ⟨ha.sub ⟨rfl, trivial⟩, h⟩))))))
    · replace F := (ifF c117).symm.trans F
      obtain rfl := Option.some.inj F
      refine R.not_ rfl rfl rfl c117 (R.not_ rfl rfl rfl c117 (R.not_ rfl rfl rfl c117 (R.pF rfl rfl c117 rfl (R.mv rfl rfl (R.not_ rfl rfl rfl rfl (R.not_ rfl rfl rfl rfl (R.not_ rfl rfl rfl rfl (R.pF rfl rfl rfl rfl (R.as rfl rfl (R.nil (fun a ha => ⟨ha.sub ⟨rfl, trivial⟩, h⟩)))))))))))
  · clear F
    rintro a w ⟨ha, h⟩
    refine T.use ?_ ha
    have F := E115
    obtain rfl := Option.some.inj F
    refine T.ret (retG (vs := [.bool y116]) [.tmp 2] rfl ⟨rfl, trivial⟩ ⟨rfl, h.fr0⟩)
attribute [irreducible] echelonlaw23_ViewNotes

/-! echelon/echelonref23.Print: function 23 -/
noncomputable def echelonref23_Print (a0 : GCounters) : Option (Str) :=
  (lib_Itoa a0.Ticks).bind fun x105 => (cat ([116, 105, 99, 107, 115, 32]) x105).bind fun (x107 : Str) => (cat x107 ([32, 115, 116, 97, 108, 108, 115, 32])).bind fun (x109 : Str) => (lib_Itoa a0.Stalls).bind fun x111 => (cat x109 x111).bind fun (x113 : Str) => (cat x113 ([32, 115, 116, 101, 112, 115, 32])).bind fun (x115 : Str) => (lib_Itoa a0.Steps).bind fun x117 => (cat x115 x117).bind fun (x119 : Str) => (cat x119 ([32, 99, 111, 112, 105, 101, 115, 32])).bind fun (x122 : Str) => (lib_Itoa a0.Copies).bind fun x124 => (cat x122 x124).bind fun (x126 : Str) => (cat x126 ([32, 108, 97, 116, 101, 32])).bind fun (x128 : Str) => (lib_Itoa a0.Late).bind fun x130 => (cat x128 x130).bind fun (x132 : Str) => (cat x132 ([32, 115, 101, 110, 116, 32])).bind fun (x134 : Str) => (lib_Itoa a0.Sent).bind fun x136 => (cat x134 x136).bind fun (x138 : Str) => (cat x138 ([32, 103, 111, 116, 32])).bind fun (x141 : Str) => (lib_Itoa a0.Got).bind fun x143 => (cat x141 x143).bind fun (x145 : Str) => (cat x145 ([32, 114, 101, 102, 117, 115, 101, 100, 32])).bind fun (x147 : Str) => (lib_Itoa a0.Refused).bind fun x149 => (cat x147 x149).bind fun (x151 : Str) => (cat x151 ([32, 97, 99, 99, 101, 112, 116, 101, 100, 32])).bind fun (x153 : Str) => (lib_Itoa a0.Accepted).bind fun x155 => (cat x153 x155).bind fun (x157 : Str) => some x157
theorem echelonref23_Print.ok {a0 : GCounters} {r : Str} {W0 : World} (F : echelonref23_Print a0 = some r) (hg : Gl W0) :
    Calls Tryd.prog 23 [(vGCounters a0 : Value)].toArray W0 fun e w' => ∃ v, e = .returned v ∧ (v = vS r ∧ Fr0 W0 w') := by
  unfold echelonref23_Print at F
  refine calls_body 50 Tryd.func23 rfl rfl rfl ?_
  have h := H.nil W0
  refine T.seq fun Kk101 k101 => ?_
  refine T.region ?_
  refine R.box rfl h rfl (fun b102 w (h : H W0 (fun _ => False) w [] [ABox b102 44 (encGCounters.enc a0).toArray]) => R.as rfl rfl (R.nil (k101 _ _ ?_)))
  refine T.seq fun Kk104 k104 => ?_
  refine T.regionD (C := fun w => H W0 (fun _ => False) w [] [ABox b102 44 (encGCounters.enc a0).toArray]) mix (by kernel_rfl) (h.same (Fr.drewN w 1)) ?_
  obtain ⟨x105, e106, F⟩ := Option.bind_eq_some_iff.1 F
  obtain ⟨x107, e108, F⟩ := Option.bind_eq_some_iff.1 F
  obtain ⟨x109, e110, F⟩ := Option.bind_eq_some_iff.1 F
  obtain ⟨x111, e112, F⟩ := Option.bind_eq_some_iff.1 F
  obtain ⟨x113, e114, F⟩ := Option.bind_eq_some_iff.1 F
  obtain ⟨x115, e116, F⟩ := Option.bind_eq_some_iff.1 F
  obtain ⟨x117, e118, F⟩ := Option.bind_eq_some_iff.1 F
  obtain ⟨x119, e120, F⟩ := Option.bind_eq_some_iff.1 F
  refine RD.val rfl rfl (fun w (h : H W0 (fun _ => False) w [] [ABox b102 44 (encGCounters.enc a0).toArray]) _ kk => R.fldB rfl fo44_0 rfl (R.nil kk)) (RD.val rfl rfl (fun w (h : H W0 (fun _ => False) w [] [ABox b102 44 (encGCounters.enc a0).toArray]) _ kk => R.ld rfl sh3 rfl (h.box 0 0 rfl rfl) (R.nil kk)) (RD.callF rfl cf52 rfl (fun w (h : H W0 (fun _ => False) w [] [ABox b102 44 (encGCounters.enc a0).toArray]) => (lib_Itoa.ok e106 (hg.fr0 h.fr0)).mono (fun _ _ ⟨_, h1, h2, h3⟩ => ⟨by rw [h1, h2], h.same h3⟩)) (RD.val rfl rfl (fun w (h : H W0 (fun _ => False) w [] [ABox b102 44 (encGCounters.enc a0).toArray]) _ kk => R.sadd rfl rfl rfl e108 (R.nil kk)) (RD.val rfl rfl (fun w (h : H W0 (fun _ => False) w [] [ABox b102 44 (encGCounters.enc a0).toArray]) _ kk => R.sadd rfl rfl rfl e110 (R.nil kk)) (RD.val rfl rfl (fun w (h : H W0 (fun _ => False) w [] [ABox b102 44 (encGCounters.enc a0).toArray]) _ kk => R.fldB rfl fo44_1 rfl (R.nil kk)) (RD.val rfl rfl (fun w (h : H W0 (fun _ => False) w [] [ABox b102 44 (encGCounters.enc a0).toArray]) _ kk => R.ld rfl sh3 rfl (h.box 0 1 rfl rfl) (R.nil kk)) (RD.callF rfl cf52 rfl (fun w (h : H W0 (fun _ => False) w [] [ABox b102 44 (encGCounters.enc a0).toArray]) => (lib_Itoa.ok e112 (hg.fr0 h.fr0)).mono (fun _ _ ⟨_, h1, h2, h3⟩ => ⟨by rw [h1, h2], h.same h3⟩)) (RD.val rfl rfl (fun w (h : H W0 (fun _ => False) w [] [ABox b102 44 (encGCounters.enc a0).toArray]) _ kk => R.sadd rfl rfl rfl e114 (R.nil kk)) (RD.val rfl rfl (fun w (h : H W0 (fun _ => False) w [] [ABox b102 44 (encGCounters.enc a0).toArray]) _ kk => R.sadd rfl rfl rfl e116 (R.nil kk)) (RD.val rfl rfl (fun w (h : H W0 (fun _ => False) w [] [ABox b102 44 (encGCounters.enc a0).toArray]) _ kk => R.fldB rfl fo44_2 rfl (R.nil kk)) (RD.val rfl rfl (fun w (h : H W0 (fun _ => False) w [] [ABox b102 44 (encGCounters.enc a0).toArray]) _ kk => R.ld rfl sh3 rfl (h.box 0 2 rfl rfl) (R.nil kk)) (RD.callF rfl cf52 rfl (fun w (h : H W0 (fun _ => False) w [] [ABox b102 44 (encGCounters.enc a0).toArray]) => (lib_Itoa.ok e118 (hg.fr0 h.fr0)).mono (fun _ _ ⟨_, h1, h2, h3⟩ => ⟨by rw [h1, h2], h.same h3⟩)) (RD.val rfl rfl (fun w (h : H W0 (fun _ => False) w [] [ABox b102 44 (encGCounters.enc a0).toArray]) _ kk => R.sadd rfl rfl rfl e120 (R.nil kk)) (RD.val rfl rfl (fun w (h : H W0 (fun _ => False) w [] [ABox b102 44 (encGCounters.enc a0).toArray]) _ kk => R.as rfl rfl (R.nil kk)) (RD.nil (fun w (h : H W0 (fun _ => False) w [] [ABox b102 44 (encGCounters.enc a0).toArray]) => k104 _ _ ?_))))))))))))))))
  refine T.seq fun Kk121 k121 => ?_
  refine T.regionD (C := fun w => H W0 (fun _ => False) w [] [ABox b102 44 (encGCounters.enc a0).toArray]) mix (by kernel_rfl) (h.same (Fr.drewN w 1)) ?_
  obtain ⟨x122, e123, F⟩ := Option.bind_eq_some_iff.1 F
  obtain ⟨x124, e125, F⟩ := Option.bind_eq_some_iff.1 F
  obtain ⟨x126, e127, F⟩ := Option.bind_eq_some_iff.1 F
  obtain ⟨x128, e129, F⟩ := Option.bind_eq_some_iff.1 F
  obtain ⟨x130, e131, F⟩ := Option.bind_eq_some_iff.1 F
  obtain ⟨x132, e133, F⟩ := Option.bind_eq_some_iff.1 F
  obtain ⟨x134, e135, F⟩ := Option.bind_eq_some_iff.1 F
  obtain ⟨x136, e137, F⟩ := Option.bind_eq_some_iff.1 F
  obtain ⟨x138, e139, F⟩ := Option.bind_eq_some_iff.1 F
  refine RD.val rfl rfl (fun w (h : H W0 (fun _ => False) w [] [ABox b102 44 (encGCounters.enc a0).toArray]) _ kk => R.mv rfl rfl (R.nil kk)) (RD.val rfl rfl (fun w (h : H W0 (fun _ => False) w [] [ABox b102 44 (encGCounters.enc a0).toArray]) _ kk => R.sadd rfl rfl rfl e123 (R.nil kk)) (RD.val rfl rfl (fun w (h : H W0 (fun _ => False) w [] [ABox b102 44 (encGCounters.enc a0).toArray]) _ kk => R.fldB rfl fo44_3 rfl (R.nil kk)) (RD.val rfl rfl (fun w (h : H W0 (fun _ => False) w [] [ABox b102 44 (encGCounters.enc a0).toArray]) _ kk => R.ld rfl sh3 rfl (h.box 0 3 rfl rfl) (R.nil kk)) (RD.callF rfl cf52 rfl (fun w (h : H W0 (fun _ => False) w [] [ABox b102 44 (encGCounters.enc a0).toArray]) => (lib_Itoa.ok e125 (hg.fr0 h.fr0)).mono (fun _ _ ⟨_, h1, h2, h3⟩ => ⟨by rw [h1, h2], h.same h3⟩)) (RD.val rfl rfl (fun w (h : H W0 (fun _ => False) w [] [ABox b102 44 (encGCounters.enc a0).toArray]) _ kk => R.sadd rfl rfl rfl e127 (R.nil kk)) (RD.val rfl rfl (fun w (h : H W0 (fun _ => False) w [] [ABox b102 44 (encGCounters.enc a0).toArray]) _ kk => R.sadd rfl rfl rfl e129 (R.nil kk)) (RD.val rfl rfl (fun w (h : H W0 (fun _ => False) w [] [ABox b102 44 (encGCounters.enc a0).toArray]) _ kk => R.fldB rfl fo44_4 rfl (R.nil kk)) (RD.val rfl rfl (fun w (h : H W0 (fun _ => False) w [] [ABox b102 44 (encGCounters.enc a0).toArray]) _ kk => R.ld rfl sh3 rfl (h.box 0 4 rfl rfl) (R.nil kk)) (RD.callF rfl cf52 rfl (fun w (h : H W0 (fun _ => False) w [] [ABox b102 44 (encGCounters.enc a0).toArray]) => (lib_Itoa.ok e131 (hg.fr0 h.fr0)).mono (fun _ _ ⟨_, h1, h2, h3⟩ => ⟨by rw [h1, h2], h.same h3⟩)) (RD.val rfl rfl (fun w (h : H W0 (fun _ => False) w [] [ABox b102 44 (encGCounters.enc a0).toArray]) _ kk => R.sadd rfl rfl rfl e133 (R.nil kk)) (RD.val rfl rfl (fun w (h : H W0 (fun _ => False) w [] [ABox b102 44 (encGCounters.enc a0).toArray]) _ kk => R.sadd rfl rfl rfl e135 (R.nil kk)) (RD.val rfl rfl (fun w (h : H W0 (fun _ => False) w [] [ABox b102 44 (encGCounters.enc a0).toArray]) _ kk => R.fldB rfl fo44_5 rfl (R.nil kk)) (RD.val rfl rfl (fun w (h : H W0 (fun _ => False) w [] [ABox b102 44 (encGCounters.enc a0).toArray]) _ kk => R.ld rfl sh3 rfl (h.box 0 5 rfl rfl) (R.nil kk)) (RD.callF rfl cf52 rfl (fun w (h : H W0 (fun _ => False) w [] [ABox b102 44 (encGCounters.enc a0).toArray]) => (lib_Itoa.ok e137 (hg.fr0 h.fr0)).mono (fun _ _ ⟨_, h1, h2, h3⟩ => ⟨by rw [h1, h2], h.same h3⟩)) (RD.val rfl rfl (fun w (h : H W0 (fun _ => False) w [] [ABox b102 44 (encGCounters.enc a0).toArray]) _ kk => R.sadd rfl rfl rfl e139 (R.nil kk)) (RD.val rfl rfl (fun w (h : H W0 (fun _ => False) w [] [ABox b102 44 (encGCounters.enc a0).toArray]) _ kk => R.as rfl rfl (R.nil kk)) (RD.nil (fun w (h : H W0 (fun _ => False) w [] [ABox b102 44 (encGCounters.enc a0).toArray]) => k121 _ _ ?_))))))))))))))))))
  refine T.seq fun Kk140 k140 => ?_
  refine T.regionD (C := fun w => H W0 (fun _ => False) w [] [ABox b102 44 (encGCounters.enc a0).toArray]) mix (by kernel_rfl) (h.same (Fr.drewN w 1)) ?_
  obtain ⟨x141, e142, F⟩ := Option.bind_eq_some_iff.1 F
  obtain ⟨x143, e144, F⟩ := Option.bind_eq_some_iff.1 F
  obtain ⟨x145, e146, F⟩ := Option.bind_eq_some_iff.1 F
  obtain ⟨x147, e148, F⟩ := Option.bind_eq_some_iff.1 F
  obtain ⟨x149, e150, F⟩ := Option.bind_eq_some_iff.1 F
  obtain ⟨x151, e152, F⟩ := Option.bind_eq_some_iff.1 F
  obtain ⟨x153, e154, F⟩ := Option.bind_eq_some_iff.1 F
  obtain ⟨x155, e156, F⟩ := Option.bind_eq_some_iff.1 F
  obtain ⟨x157, e158, F⟩ := Option.bind_eq_some_iff.1 F
  refine RD.val rfl rfl (fun w (h : H W0 (fun _ => False) w [] [ABox b102 44 (encGCounters.enc a0).toArray]) _ kk => R.mv rfl rfl (R.nil kk)) (RD.val rfl rfl (fun w (h : H W0 (fun _ => False) w [] [ABox b102 44 (encGCounters.enc a0).toArray]) _ kk => R.sadd rfl rfl rfl e142 (R.nil kk)) (RD.val rfl rfl (fun w (h : H W0 (fun _ => False) w [] [ABox b102 44 (encGCounters.enc a0).toArray]) _ kk => R.fldB rfl fo44_6 rfl (R.nil kk)) (RD.val rfl rfl (fun w (h : H W0 (fun _ => False) w [] [ABox b102 44 (encGCounters.enc a0).toArray]) _ kk => R.ld rfl sh3 rfl (h.box 0 6 rfl rfl) (R.nil kk)) (RD.callF rfl cf52 rfl (fun w (h : H W0 (fun _ => False) w [] [ABox b102 44 (encGCounters.enc a0).toArray]) => (lib_Itoa.ok e144 (hg.fr0 h.fr0)).mono (fun _ _ ⟨_, h1, h2, h3⟩ => ⟨by rw [h1, h2], h.same h3⟩)) (RD.val rfl rfl (fun w (h : H W0 (fun _ => False) w [] [ABox b102 44 (encGCounters.enc a0).toArray]) _ kk => R.sadd rfl rfl rfl e146 (R.nil kk)) (RD.val rfl rfl (fun w (h : H W0 (fun _ => False) w [] [ABox b102 44 (encGCounters.enc a0).toArray]) _ kk => R.sadd rfl rfl rfl e148 (R.nil kk)) (RD.val rfl rfl (fun w (h : H W0 (fun _ => False) w [] [ABox b102 44 (encGCounters.enc a0).toArray]) _ kk => R.fldB rfl fo44_7 rfl (R.nil kk)) (RD.val rfl rfl (fun w (h : H W0 (fun _ => False) w [] [ABox b102 44 (encGCounters.enc a0).toArray]) _ kk => R.ld rfl sh3 rfl (h.box 0 7 rfl rfl) (R.nil kk)) (RD.callF rfl cf52 rfl (fun w (h : H W0 (fun _ => False) w [] [ABox b102 44 (encGCounters.enc a0).toArray]) => (lib_Itoa.ok e150 (hg.fr0 h.fr0)).mono (fun _ _ ⟨_, h1, h2, h3⟩ => ⟨by rw [h1, h2], h.same h3⟩)) (RD.val rfl rfl (fun w (h : H W0 (fun _ => False) w [] [ABox b102 44 (encGCounters.enc a0).toArray]) _ kk => R.sadd rfl rfl rfl e152 (R.nil kk)) (RD.val rfl rfl (fun w (h : H W0 (fun _ => False) w [] [ABox b102 44 (encGCounters.enc a0).toArray]) _ kk => R.sadd rfl rfl rfl e154 (R.nil kk)) (RD.val rfl rfl (fun w (h : H W0 (fun _ => False) w [] [ABox b102 44 (encGCounters.enc a0).toArray]) _ kk => R.fldB rfl fo44_8 rfl (R.nil kk)) (RD.val rfl rfl (fun w (h : H W0 (fun _ => False) w [] [ABox b102 44 (encGCounters.enc a0).toArray]) _ kk => R.ld rfl sh3 rfl (h.box 0 8 rfl rfl) (R.nil kk)) (RD.callF rfl cf52 rfl (fun w (h : H W0 (fun _ => False) w [] [ABox b102 44 (encGCounters.enc a0).toArray]) => (lib_Itoa.ok e156 (hg.fr0 h.fr0)).mono (fun _ _ ⟨_, h1, h2, h3⟩ => ⟨by rw [h1, h2], h.same h3⟩)) (RD.val rfl rfl (fun w (h : H W0 (fun _ => False) w [] [ABox b102 44 (encGCounters.enc a0).toArray]) _ kk => R.sadd rfl rfl rfl e158 (R.nil kk)) (RD.val rfl rfl (fun w (h : H W0 (fun _ => False) w [] [ABox b102 44 (encGCounters.enc a0).toArray]) _ kk => R.as rfl rfl (R.nil kk)) (RD.nil (fun w (h : H W0 (fun _ => False) w [] [ABox b102 44 (encGCounters.enc a0).toArray]) => k140 _ _ ?_))))))))))))))))))
  obtain rfl := Option.some.inj F
  refine T.ret (retG (vs := [vS x157]) [.tmp 2] rfl ⟨rfl, trivial⟩ ⟨rfl, h.fr0⟩)
attribute [irreducible] echelonref23_Print

/-! echelon/echelonlaw23.ViewPrints: function 6 -/
noncomputable def echelonlaw23_ViewPrints (a0 : GCounters) : Option (Bool) :=
  (echelonlaw23_awake).bind fun x105 => (view_Print a0).bind fun x109 => (echelonref23_Print a0).bind fun x113 => (if x105 then some (x109 == x113) else some false).bind fun (y117 : Bool) => some y117
theorem echelonlaw23_ViewPrints.ok {a0 : GCounters} {r : Bool} {W0 : World} (F : echelonlaw23_ViewPrints a0 = some r) (hg : Gl W0) :
    Calls Tryd.prog 6 [(vGCounters a0 : Value)].toArray W0 fun e w' => ∃ v, e = .returned v ∧ (v = .bool r ∧ Fr0 W0 w') := by
  unfold echelonlaw23_ViewPrints at F
  refine calls_body 17 Tryd.func6 rfl rfl rfl ?_
  have h := H.nil W0
  refine T.seq fun Kk101 k101 => ?_
  refine T.region ?_
  refine R.box rfl h rfl (fun b102 w (h : H W0 (fun _ => False) w [] [ABox b102 44 (encGCounters.enc a0).toArray]) => R.as rfl rfl (R.nil (k101 _ _ ?_)))
  refine T.seq fun Kk104 k104 => ?_
  refine T.region ?_
  obtain ⟨x105, e106, F⟩ := Option.bind_eq_some_iff.1 F
  refine R.callC (fl := []) (cl := []) rfl cf16 rfl rfl (echelonlaw23_awake.ok e106 (hg.fr0 h.fr0)) (?_)
  rintro _ w ⟨rfl, g107⟩
  replace h := h.same g107
  refine R.as rfl rfl (R.nil (k104 _ _ ?_))
  refine T.seq fun Kk108 k108 => ?_
  refine T.region ?_
  obtain ⟨x109, e110, F⟩ := Option.bind_eq_some_iff.1 F
  refine R.ldN (cs := [.int .i64 a0.Ticks, .int .i64 a0.Stalls, .int .i64 a0.Steps, .int .i64 a0.Copies, .int .i64 a0.Late, .int .i64 a0.Sent, .int .i64 a0.Got, .int .i64 a0.Refused, .int .i64 a0.Accepted]) rfl sh44 rfl rfl (h.boxN 0 rfl rfl) (R.callC (fl := []) (cl := []) rfl cf22 rfl rfl (view_Print.ok e110 (hg.fr0 h.fr0)) (?_))
  rintro _ w ⟨rfl, g111⟩
  replace h := h.same g111
  refine R.as rfl rfl (R.nil (k108 _ _ ?_))
  refine T.seq fun Kk112 k112 => ?_
  refine T.region ?_
  obtain ⟨x113, e114, F⟩ := Option.bind_eq_some_iff.1 F
  refine R.ldN (cs := [.int .i64 a0.Ticks, .int .i64 a0.Stalls, .int .i64 a0.Steps, .int .i64 a0.Copies, .int .i64 a0.Late, .int .i64 a0.Sent, .int .i64 a0.Got, .int .i64 a0.Refused, .int .i64 a0.Accepted]) rfl sh44 rfl rfl (h.boxN 0 rfl rfl) (R.callC (fl := []) (cl := []) rfl cf23 rfl rfl (echelonref23_Print.ok e114 (hg.fr0 h.fr0)) (?_))
  rintro _ w ⟨rfl, g115⟩
  replace h := h.same g115
  refine R.as rfl rfl (R.nil (k112 _ _ ?_))
  obtain ⟨y117, F, E116⟩ := Option.bind_eq_some_iff.1 F
  refine T.cut (fun a w => Agr 17 [(2, .bool y117)] a ∧ H W0 (fun _ => False) w [] []) ?_ ?_
  · refine T.region ?_
    refine R.mv rfl rfl (R.mv rfl rfl (?_))
    refine bsplit x105 (fun c118 => ?_) (fun c118 => ?_)
    · replace F := (ifT c118).symm.trans F
      obtain rfl := Option.some.inj F
      refine R.iff rfl rfl c118 (R.mv rfl rfl (R.iff rfl rfl c118 (R.mv rfl rfl (R.iff rfl rfl c118 (R.sb rfl rfl rfl rfl (R.pT rfl rfl c118 rfl (R.as rfl rfl (R.nil (fun a ha => ⟨ha.sub ⟨rfl, trivial⟩, (h.sel [] rfl (by decide))⟩)))))))))
    · replace F := (ifF c118).symm.trans F
      obtain rfl := Option.some.inj F
      refine R.not_ rfl rfl rfl c118 (R.not_ rfl rfl rfl c118 (R.not_ rfl rfl rfl c118 (R.pF rfl rfl c118 rfl (R.as rfl rfl (R.nil (fun a ha => ⟨ha.sub ⟨rfl, trivial⟩, (h.sel [] rfl (by decide))⟩))))))
  · clear F
    rintro a w ⟨ha, h⟩
    refine T.use ?_ ha
    have F := E116
    obtain rfl := Option.some.inj F
    refine T.ret (retG (vs := [.bool y117]) [.tmp 2] rfl ⟨rfl, trivial⟩ ⟨rfl, h.fr0⟩)
attribute [irreducible] echelonlaw23_ViewPrints

end Go.Proofs.YtflmncjhonmmhaaDoor.Vw
