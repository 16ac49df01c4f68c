/- The row of the law ViewNotes: from the walk and the plain law to the card. -/
import Derived.Test.YtflmncjhonmmhaaDoorVnBase
import Derived.Test.YtflmncjhonmmhaaDoorVnOpn
import Derived.Test.YtflmncjhonmmhaaDoorVnPureN
namespace Go.Proofs.YtflmncjhonmmhaaDoor.Vn.viewNotes
open Go Go.ChangeShapes Go.WideShapes Go.ChangeAt Go.RowKit
open Go.ChangeMaps (open_string shut_string)
set_option linter.unusedVariables false
set_option maxRecDepth 100000
theorem laidOut : laidOutB Tryd.prog = true := by kernel_rfl
theorem reads (os : Os) {H : Type} (enc : TypeId × Value → H) : ∃ places, DataW.whole enc Tryd.prog ((laidW os).forCall (fun _ _ => 0) ⟨#[], #[(.slice none 0 0 : Value)], []⟩).memory Tryd.f5.params.toList Rows.viewNotesSpec.vars false #[(.slice none 0 0 : Value)].toList 8 = some ([.nil], [], places) :=
  ⟨[], by kernel_rfl⟩
theorem okw (os : Os) : Input.okWideB Tryd.prog ((laidW os).forCall (fun _ _ => 0) ⟨#[], #[(.slice none 0 0 : Value)], []⟩) 5 ⟨#[], #[(.slice none 0 0 : Value)], []⟩ = true := by kernel_rfl
theorem prer (os : Os) (H : Type) (enc : TypeId × Value → H) : (OpenSpec.ofChange Rows.viewNotesSpec).preRow enc Tryd.prog Tryd.f5 Rows.viewNotesRow.domain false Rows.viewNotesRow.laid ((laidW os).forCall (fun _ _ => 0) ⟨#[], #[(.slice none 0 0 : Value)], []⟩).memory #[(.slice none 0 0 : Value)] := by
  obtain ⟨places, hx⟩ := reads os enc
  exact OpenSpec.preRow_of_cond 8 hx (by kernel_rfl) (fun k hk => by cases hk) (by kernel_rfl) (laidW_met os _)
theorem contract (H : Type) (enc : TypeId × Value → H) (W : World) (base : Nat) (args : Array Value) (ds gs : List (DataW H)) (before : List MemPlace)
    (hval : ∀ (j : Nat) t v, Tryd.f5.params[j]? = some t → args[j]? = some v → Value.okWide Tryd.prog W .any base t v)
    (hW : DataW.Whole enc Tryd.prog Tryd.f5.params.toList Rows.viewNotesSpec.vars false W args.toList ds gs before) (hsz0 : (DataW.weightsEach Tryd.prog (Tryd.f5.params.toList ++ (OpenSpec.ofChange Rows.viewNotesSpec).bare.plain.varTypes Tryd.prog) (ds ++ gs)).all (· ≤ reachBytes) = true) (hL : laidMetH Tryd.prog laidL W) (hShaped : W.ShapedOpen Tryd.prog) :
    Calls Tryd.prog 5 args W fun e W' => ∃ v, e = .returned v ∧ Rows.viewNotesSpec.post enc Tryd.prog Tryd.f5 false true false false W args v W' := by
  have hW' := hW
  obtain ⟨p, q, hA0, hV, rfl, hfz, hnd⟩ := hW
  have hA : DataW.TrodAll enc Tryd.prog W 0 (fun _ => true) true Tryd.f5.params.toList args.toList ds p := hA0
  rw [Tryd.params5] at hA hval hsz0
  obtain ⟨v0, vs0, d0, ds0, p0, q0, hargs, rfl, rfl, h0, r0⟩ := trodAll_cons hA
  obtain ⟨rfl, rfl, rfl⟩ := trodAll_nil r0
  obtain rfl : args = #[v0] := by cases args; simp_all
  obtain ⟨rfl, rfl⟩ := trodVars_none hV
  obtain ⟨u0, l0, k0, rfl⟩ := okWide_slice Tryd.underlying39 (hval 0 39 v0 rfl rfl)
  have t0 := h0
  have lt0 : ∀ x ∈ p0, x.block < W.heap.size := by obtain ⟨m, hm⟩ := t0; exact DataW.trod_lt m _ _ _ hm
  obtain ⟨f0, g0⟩ := h0
  obtain ⟨p0_0, c0_0, a0, e0, r0_0, w0, s0⟩ := open_sl op83 Tryd.underlying39 g0 (fun m hm => of_decide_eq_true (List.all_eq_true.1 hsz0 m (DataW.weights_mem_each (j := 0) rfl rfl m hm)))
  have z0 := (List.cons.inj e0).1
  simp only [Value.slice.injEq] at z0
  obtain ⟨rfl, rfl, rfl⟩ := z0
  rw [show Tryd.prog.bytesOf 83 = 24 from by kernel_rfl] at s0
  clear hA0
  have hF := Pure.ViewNotes a0 w0 s0
  refine (Vn.echelonlaw23_ViewNotes.ok (W0 := W) hF r0_0 (gl_of hL hShaped)).mono fun e W' ⟨v, he, hv, hf⟩ => ?_
  subst he; subst hv
  exact ⟨_, rfl, _, _, _, [], _, [], hW', trodAll_mk1 (shut_bool Tryd.underlying4 _), (trodAll_cons_mk (Below.trod laidOut (by kernel_rfl) (of_decide_eq_true (by kernel_rfl)) t0 hf.below lt0) trodAll_mk0), rfl, hf.below.frame _, fun h => by cases h⟩
theorem lifted (os : Os) (started : os.Started) (H : Type) (enc : TypeId × Value → H) (F : Stop.Interp) :
    ReturnsInHanded {} Tryd.checked os 5 .any ((OpenSpec.ofChange Rows.viewNotesSpec).preRow enc Tryd.prog Tryd.f5 Rows.viewNotesRow.domain false Rows.viewNotesRow.laid) (((OpenSpec.ofChange Rows.viewNotesSpec).at F).post enc Tryd.prog Tryd.f5 false true false false) := by
  refine returnsInHanded_of_row (C := Tryd.checked) (s := OpenSpec.ofChange Rows.viewNotesSpec) own started (by kernel_rfl) Tryd.func5
    ⟨laidW os, fun _ _ => 0, ⟨#[], #[(.slice none 0 0 : Value)], []⟩, World.laidAll_os _ _ _, laidW_shaped os _, rfl, (Input.okWide_of_okWideB (okw os)).2, prer os H enc, by simp [Assume.holds]⟩ ?_
  intro W base args ds gs before hval hW _ hcond hsz hL hShaped _
  exact contract H enc W base args ds gs before hval hW hsz hL hShaped
theorem said : Rows.ViewNotesSaid :=
  OpenClaim.holds_of_cond 5 Tryd.f5 rfl rfl rfl rfl rfl rfl rfl ⟨rfl, rfl, rfl, rfl, rfl⟩ rfl rfl rfl rfl rfl (by kernel_rfl) Tryd.func5 (by kernel_rfl)
    (of_decide_eq_true (by kernel_rfl)) (by unfold Func.isWrapper; first | (rw [if_pos (by decide +kernel)]; kernel_rfl) | (rw [if_neg (by decide +kernel)]; exact ⟨rfl, rfl⟩))
    (fun os started H enc _ F => by rw [OpenClaim.pre_eq_preRow]; exact lifted os started H enc F)
theorem plain (f : FuncId) (fn : Func) (hf : Tryd.pinned.checked.prog.funcNamed "echelon/echelonlaw23.ViewNotes" = some f) (hfn : Tryd.pinned.checked.prog.funcs[f]? = some fn) :
    true = Tryd.pinned.checked.prog.looks [] ∧ ∀ (j : Nat) t, fn.params[j]? = some t → Tryd.pinned.checked.prog.wantsStandIn t = false := by
  obtain rfl : f = 5 := Option.some.inj ((show Tryd.prog.funcNamed "echelon/echelonlaw23.ViewNotes" = some 5 by kernel_rfl).symm.trans hf) |>.symm
  obtain rfl : fn = Tryd.f5 := (Option.some.inj (Tryd.func5.symm.trans hfn)).symm
  refine ⟨by kernel_rfl, fun j t ht => ?_⟩
  rw [Tryd.params5] at ht
  have hm := Array.mem_of_getElem? ht
  simp only [List.mem_toArray, List.mem_cons, List.not_mem_nil, or_false] at hm
  obtain rfl := hm
  exact (show Tryd.prog.wantsStandIn 39 = false by kernel_rfl)
theorem card : Rows.ViewNotesCardSaid :=
  Claim7.holds_tied_plain_at .later [] _ _ _ _ said (fun _ h => by cases h) (by kernel_rfl) (fun _ h => by cases h) viewNotes_row_tie rfl ⟨rfl, rfl⟩ (by kernel_rfl) rfl plain (by kernel_rfl)
end Go.Proofs.YtflmncjhonmmhaaDoor.Vn.viewNotes
