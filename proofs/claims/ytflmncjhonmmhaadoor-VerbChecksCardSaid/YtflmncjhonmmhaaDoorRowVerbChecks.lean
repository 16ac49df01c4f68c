/- The row of the law VerbChecks: from the walk and the plain law to the card. -/
import Derived.Test.YtflmncjhonmmhaaDoorVcBase
import Derived.Test.YtflmncjhonmmhaaDoorVcOpn
import Derived.Test.YtflmncjhonmmhaaDoorVcPureB
namespace Go.Proofs.YtflmncjhonmmhaaDoor.Vc.verbChecks
open Go Go.ChangeShapes Go.WideShapes Go.ChangeAt Go.RowKit
open Go.ChangeMaps (open_string shut_string)
set_option linter.unusedVariables false
set_option maxRecDepth 100000
theorem laidOut : laidOutB Tryd.prog = true := by kernel_rfl
theorem reads (os : Os) {H : Type} (enc : TypeId × Value → H) : ∃ places, DataW.whole enc Tryd.prog ((laidW os).forCall (fun _ _ => 0) ⟨#[], #[(.agg #[.int .i64 0, .int .i64 0, .int .i64 0, .int .i64 0] : Value)], []⟩).memory Tryd.f11.params.toList Rows.verbChecksSpec.vars false #[(.agg #[.int .i64 0, .int .i64 0, .int .i64 0, .int .i64 0] : Value)].toList 8 = some ([.agg [.lit (.int .i64 0), .lit (.int .i64 0), .lit (.int .i64 0), .lit (.int .i64 0)]], [], places) :=
  ⟨[], by kernel_rfl⟩
theorem okw (os : Os) : Input.okWideB Tryd.prog ((laidW os).forCall (fun _ _ => 0) ⟨#[], #[(.agg #[.int .i64 0, .int .i64 0, .int .i64 0, .int .i64 0] : Value)], []⟩) 11 ⟨#[], #[(.agg #[.int .i64 0, .int .i64 0, .int .i64 0, .int .i64 0] : Value)], []⟩ = true := by kernel_rfl
theorem prer (os : Os) (H : Type) (enc : TypeId × Value → H) : (OpenSpec.ofChange Rows.verbChecksSpec).preRow enc Tryd.prog Tryd.f11 Rows.verbChecksRow.domain false Rows.verbChecksRow.laid ((laidW os).forCall (fun _ _ => 0) ⟨#[], #[(.agg #[.int .i64 0, .int .i64 0, .int .i64 0, .int .i64 0] : Value)], []⟩).memory #[(.agg #[.int .i64 0, .int .i64 0, .int .i64 0, .int .i64 0] : Value)] := by
  obtain ⟨places, hx⟩ := reads os enc
  exact OpenSpec.preRow_of_cond 8 hx (by kernel_rfl) (fun k hk => by cases hk) (by kernel_rfl) (laidW_met os _)
theorem contract (H : Type) (enc : TypeId × Value → H) (W : World) (base : Nat) (args : Array Value) (ds gs : List (DataW H)) (before : List MemPlace)
    (hval : ∀ (j : Nat) t v, Tryd.f11.params[j]? = some t → args[j]? = some v → Value.okWide Tryd.prog W .any base t v)
    (hW : DataW.Whole enc Tryd.prog Tryd.f11.params.toList Rows.verbChecksSpec.vars false W args.toList ds gs before) (hsz0 : (DataW.weightsEach Tryd.prog (Tryd.f11.params.toList ++ (OpenSpec.ofChange Rows.verbChecksSpec).bare.plain.varTypes Tryd.prog) (ds ++ gs)).all (· ≤ reachBytes) = true) (hL : laidMetH Tryd.prog laidL W) (hShaped : W.ShapedOpen Tryd.prog) :
    Calls Tryd.prog 11 args W fun e W' => ∃ v, e = .returned v ∧ Rows.verbChecksSpec.post enc Tryd.prog Tryd.f11 false true false false W args v W' := by
  have hW' := hW
  obtain ⟨p, q, hA0, hV, rfl, hfz, hnd⟩ := hW
  have hA : DataW.TrodAll enc Tryd.prog W 0 (fun _ => true) true Tryd.f11.params.toList args.toList ds p := hA0
  rw [Tryd.params11] at hA hval hsz0
  obtain ⟨v0, vs0, d0, ds0, p0, q0, hargs, rfl, rfl, h0, r0⟩ := trodAll_cons hA
  obtain ⟨rfl, rfl, rfl⟩ := trodAll_nil r0
  obtain rfl : args = #[v0] := by cases args; simp_all
  obtain ⟨rfl, rfl⟩ := trodVars_none hV
  obtain ⟨u0, rfl, _⟩ := okWide_struct Tryd.underlying66 (hval 0 66 v0 rfl rfl)
  have t0 := h0
  have lt0 : ∀ x ∈ p0, x.block < W.heap.size := by obtain ⟨m, hm⟩ := t0; exact DataW.trod_lt m _ _ _ hm
  obtain ⟨f0, g0⟩ := h0
  obtain ⟨a0, e0, w0⟩ := op66.2 _ _ _ _ _ _ _ _ _ g0
  obtain rfl := arr_of (u := u0) e0
  clear hA0
  have hF := Pure.VerbChecks a0 w0
  refine (Vc.echelonlaw07_VerbChecks.ok (W0 := W) hF (gl_of hL hShaped)).mono fun e W' ⟨v, he, hv, hf⟩ => ?_
  subst he; subst hv
  exact ⟨_, rfl, _, _, _, [], _, [], hW', trodAll_mk1 (shut_bool Tryd.underlying4 _), (trodAll_cons_mk (Below.trod laidOut (by kernel_rfl) (of_decide_eq_true (by kernel_rfl)) t0 hf.below lt0) trodAll_mk0), rfl, hf.below.frame _, fun h => by cases h⟩
theorem lifted (os : Os) (started : os.Started) (H : Type) (enc : TypeId × Value → H) (F : Stop.Interp) :
    ReturnsInHanded {} Tryd.checked os 11 .any ((OpenSpec.ofChange Rows.verbChecksSpec).preRow enc Tryd.prog Tryd.f11 Rows.verbChecksRow.domain false Rows.verbChecksRow.laid) (((OpenSpec.ofChange Rows.verbChecksSpec).at F).post enc Tryd.prog Tryd.f11 false true false false) := by
  refine returnsInHanded_of_row (C := Tryd.checked) (s := OpenSpec.ofChange Rows.verbChecksSpec) own started (by kernel_rfl) Tryd.func11
    ⟨laidW os, fun _ _ => 0, ⟨#[], #[(.agg #[.int .i64 0, .int .i64 0, .int .i64 0, .int .i64 0] : Value)], []⟩, World.laidAll_os _ _ _, laidW_shaped os _, rfl, (Input.okWide_of_okWideB (okw os)).2, prer os H enc, by simp [Assume.holds]⟩ ?_
  intro W base args ds gs before hval hW _ hcond hsz hL hShaped _
  exact contract H enc W base args ds gs before hval hW hsz hL hShaped
theorem said : Rows.VerbChecksSaid :=
  OpenClaim.holds_of_cond 11 Tryd.f11 rfl rfl rfl rfl rfl rfl rfl ⟨rfl, rfl, rfl, rfl, rfl⟩ rfl rfl rfl rfl rfl (by kernel_rfl) Tryd.func11 (by kernel_rfl)
    (of_decide_eq_true (by kernel_rfl)) (by unfold Func.isWrapper; first | (rw [if_pos (by decide +kernel)]; kernel_rfl) | (rw [if_neg (by decide +kernel)]; exact ⟨rfl, rfl⟩))
    (fun os started H enc _ F => by rw [OpenClaim.pre_eq_preRow]; exact lifted os started H enc F)
theorem plain (f : FuncId) (fn : Func) (hf : Tryd.pinned.checked.prog.funcNamed "echelon/echelonlaw07.VerbChecks" = some f) (hfn : Tryd.pinned.checked.prog.funcs[f]? = some fn) :
    true = Tryd.pinned.checked.prog.looks [] ∧ ∀ (j : Nat) t, fn.params[j]? = some t → Tryd.pinned.checked.prog.wantsStandIn t = false := by
  obtain rfl : f = 11 := Option.some.inj ((show Tryd.prog.funcNamed "echelon/echelonlaw07.VerbChecks" = some 11 by kernel_rfl).symm.trans hf) |>.symm
  obtain rfl : fn = Tryd.f11 := (Option.some.inj (Tryd.func11.symm.trans hfn)).symm
  refine ⟨by kernel_rfl, fun j t ht => ?_⟩
  rw [Tryd.params11] at ht
  have hm := Array.mem_of_getElem? ht
  simp only [List.mem_toArray, List.mem_cons, List.not_mem_nil, or_false] at hm
  obtain rfl := hm
  exact (show Tryd.prog.wantsStandIn 66 = false by kernel_rfl)
theorem card : Rows.VerbChecksCardSaid :=
  Claim7.holds_tied_plain_at .later [] _ _ _ _ said (fun _ h => by cases h) (by kernel_rfl) (fun _ h => by cases h) verbChecks_row_tie rfl ⟨rfl, rfl⟩ (by kernel_rfl) rfl plain (by kernel_rfl)
end Go.Proofs.YtflmncjhonmmhaaDoor.Vc.verbChecks
