/- The row of the law DigestNumbers: from the walk and the plain law to the card. -/
import Derived.Test.YtneahkibnaoiiaaDoorDgBase
import Derived.Test.YtneahkibnaoiiaaDoorDgPureC
namespace Go.Proofs.YtneahkibnaoiiaaDoor.Dg.digestNumbers
open Go Go.ChangeShapes Go.WideShapes Go.ChangeAt Go.RowKit
open Go.ChangeMaps (open_string shut_string)
set_option linter.unusedVariables false
set_option maxRecDepth 100000
theorem reads (os : Os) {H : Type} (enc : TypeId × Value → H) : ∃ places, DataW.whole enc Tryd.prog ((laidW os).forCall (fun _ _ => 0) ⟨#[], #[(.int .u64 0 : Value), (.int .u64 0 : Value)], []⟩).memory Tryd.f9.params.toList Rows.digestNumbersSpec.vars false #[(.int .u64 0 : Value), (.int .u64 0 : Value)].toList 8 = some ([.lit (.int .u64 0), .lit (.int .u64 0)], [], places) :=
  ⟨[], by kernel_rfl⟩
theorem okw (os : Os) : Input.okWideB Tryd.prog ((laidW os).forCall (fun _ _ => 0) ⟨#[], #[(.int .u64 0 : Value), (.int .u64 0 : Value)], []⟩) 9 ⟨#[], #[(.int .u64 0 : Value), (.int .u64 0 : Value)], []⟩ = true := by kernel_rfl
theorem prer (os : Os) (H : Type) (enc : TypeId × Value → H) : (OpenSpec.ofChange Rows.digestNumbersSpec).preRow enc Tryd.prog Tryd.f9 Rows.digestNumbersRow.domain false Rows.digestNumbersRow.laid ((laidW os).forCall (fun _ _ => 0) ⟨#[], #[(.int .u64 0 : Value), (.int .u64 0 : Value)], []⟩).memory #[(.int .u64 0 : Value), (.int .u64 0 : Value)] := by
  obtain ⟨places, hx⟩ := reads os enc
  exact OpenSpec.preRow_of_cond 8 hx (by kernel_rfl) (fun k hk => by cases hk) (by kernel_rfl) (laidW_met os _)
theorem contract (H : Type) (enc : TypeId × Value → H) (W : World) (base : Nat) (args : Array Value) (ds gs : List (DataW H)) (before : List MemPlace)
    (hval : ∀ (j : Nat) t v, Tryd.f9.params[j]? = some t → args[j]? = some v → Value.okWide Tryd.prog W .any base t v)
    (hW : DataW.Whole enc Tryd.prog Tryd.f9.params.toList Rows.digestNumbersSpec.vars false W args.toList ds gs before) (hL : laidMetH Tryd.prog laidL W) (hShaped : W.ShapedOpen Tryd.prog) :
    Calls Tryd.prog 9 args W fun e W' => ∃ v, e = .returned v ∧ Rows.digestNumbersSpec.post enc Tryd.prog Tryd.f9 false true false false W args v W' := by
  have hW' := hW
  obtain ⟨p, q, hA0, hV, rfl, hfz, hnd⟩ := hW
  have hA : DataW.TrodAll enc Tryd.prog W 0 (fun _ => true) true Tryd.f9.params.toList args.toList ds p := hA0
  rw [Tryd.params9] at hA hval
  obtain ⟨v0, vs0, d0, ds0, p0, q0, hargs, rfl, rfl, h0, r0⟩ := trodAll_cons hA
  obtain ⟨v1, vs1, d1, ds1, p1, q1, rfl, rfl, rfl, h1, r1⟩ := trodAll_cons r0
  obtain ⟨rfl, rfl, rfl⟩ := trodAll_nil r1
  obtain rfl : args = #[v0, v1] := by cases args; simp_all
  obtain ⟨rfl, rfl⟩ := trodVars_none hV
  obtain ⟨a0, rfl, rfl, rfl, w0⟩ := open_int Tryd.underlying47 (hval 0 47 v0 rfl rfl) h0
  obtain ⟨a1, rfl, rfl, rfl, w1⟩ := open_int Tryd.underlying47 (hval 1 47 v1 rfl rfl) h1
  clear hA0
  have hF := Pure.DigestNumbers a0 a1 (bounds_u64 w0) (bounds_u64 w1)
  refine (Dg.echelonlaw03_DigestNumbers.ok (W0 := W) hF (gl_of hL hShaped)).mono fun e W' ⟨v, he, hv, hf⟩ => ?_
  subst he; subst hv
  exact ⟨_, rfl, _, _, _, [], _, [], hW', trodAll_mk1 (shut_bool Tryd.underlying4 _), (trodAll_cons_mk (shut_int Tryd.underlying47 w0) (trodAll_cons_mk (shut_int Tryd.underlying47 w1) trodAll_mk0)), rfl, hf.below.frame _, fun h => by cases h⟩
theorem lifted (os : Os) (started : os.Started) (H : Type) (enc : TypeId × Value → H) (F : Stop.Interp) :
    ReturnsInHanded {} Tryd.checked os 9 .any ((OpenSpec.ofChange Rows.digestNumbersSpec).preRow enc Tryd.prog Tryd.f9 Rows.digestNumbersRow.domain false Rows.digestNumbersRow.laid) (((OpenSpec.ofChange Rows.digestNumbersSpec).at F).post enc Tryd.prog Tryd.f9 false true false false) := by
  refine returnsInHanded_of_row (C := Tryd.checked) (s := OpenSpec.ofChange Rows.digestNumbersSpec) own started (by kernel_rfl) Tryd.func9
    ⟨laidW os, fun _ _ => 0, ⟨#[], #[(.int .u64 0 : Value), (.int .u64 0 : Value)], []⟩, World.laidAll_os _ _ _, laidW_shaped os _, rfl, (Input.okWide_of_okWideB (okw os)).2, prer os H enc, by simp [Assume.holds]⟩ ?_
  intro W base args ds gs before hval hW _ hcond _ hL hShaped _
  exact contract H enc W base args ds gs before hval hW hL hShaped
theorem said : Rows.DigestNumbersSaid :=
  OpenClaim.holds_of_cond 9 Tryd.f9 rfl rfl rfl rfl rfl rfl rfl ⟨rfl, rfl, rfl, rfl, rfl⟩ rfl rfl rfl rfl rfl (by kernel_rfl) Tryd.func9 (by kernel_rfl)
    (of_decide_eq_true (by kernel_rfl)) (by unfold Func.isWrapper; first | (rw [if_pos (by decide +kernel)]; kernel_rfl) | (rw [if_neg (by decide +kernel)]; exact ⟨rfl, rfl⟩))
    (fun os started H enc _ F => by rw [OpenClaim.pre_eq_preRow]; exact lifted os started H enc F)
theorem plain (f : FuncId) (fn : Func) (hf : Tryd.pinned.checked.prog.funcNamed "echelon/echelonlaw03.DigestNumbers" = some f) (hfn : Tryd.pinned.checked.prog.funcs[f]? = some fn) :
    true = Tryd.pinned.checked.prog.looks [] ∧ ∀ (j : Nat) t, fn.params[j]? = some t → Tryd.pinned.checked.prog.wantsStandIn t = false := by
  obtain rfl : f = 9 := Option.some.inj ((show Tryd.prog.funcNamed "echelon/echelonlaw03.DigestNumbers" = some 9 by kernel_rfl).symm.trans hf) |>.symm
  obtain rfl : fn = Tryd.f9 := (Option.some.inj (Tryd.func9.symm.trans hfn)).symm
  refine ⟨by kernel_rfl, fun j t ht => ?_⟩
  rw [Tryd.params9] at ht
  have hm := Array.mem_of_getElem? ht
  simp only [List.mem_toArray, List.mem_cons, List.not_mem_nil, or_false] at hm
  rcases hm with rfl | rfl
  · exact (show Tryd.prog.wantsStandIn 47 = false by kernel_rfl)
  · exact (show Tryd.prog.wantsStandIn 47 = false by kernel_rfl)
theorem card : Rows.DigestNumbersCardSaid :=
  Claim7.holds_tied_plain_at .later [] _ _ _ _ said (fun _ h => by cases h) (by kernel_rfl) (fun _ h => by cases h) digestNumbers_row_tie rfl ⟨rfl, rfl⟩ (by kernel_rfl) rfl plain (by kernel_rfl)
end Go.Proofs.YtneahkibnaoiiaaDoor.Dg.digestNumbers
