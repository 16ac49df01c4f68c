/- The row of the law DigestReads: from the walk and the plain law to the card. -/
import Derived.Test.YtneahkibnaoiiaaDoorDgBase
import Derived.Test.YtneahkibnaoiiaaDoorDgPureC
namespace Go.Proofs.YtneahkibnaoiiaaDoor.Dg.digestReads
open Go Go.ChangeShapes Go.WideShapes Go.ChangeAt Go.RowKit
open Go.ChangeMaps (open_string shut_string)
set_option linter.unusedVariables false
set_option maxRecDepth 100000
theorem reads (os : Os) {H : Type} (enc : TypeId × Value → H) : ∃ places, DataW.whole enc Tryd.prog ((laidW os).forCall (fun _ _ => 0) ⟨#[], #[(.string ByteArray.empty : Value)], []⟩).memory Tryd.f7.params.toList Rows.digestReadsSpec.vars false #[(.string ByteArray.empty : Value)].toList 8 = some ([.lit (.string [])], [], places) :=
  ⟨[], by kernel_rfl⟩
theorem okw (os : Os) : Input.okWideB Tryd.prog ((laidW os).forCall (fun _ _ => 0) ⟨#[], #[(.string ByteArray.empty : Value)], []⟩) 7 ⟨#[], #[(.string ByteArray.empty : Value)], []⟩ = true := by kernel_rfl
theorem prer (os : Os) (H : Type) (enc : TypeId × Value → H) : (Rows.OpenSpec.upto Rows.digestReadsSpec).preRow enc Tryd.prog Tryd.f7 Rows.digestReadsUptoRow.domain false Rows.digestReadsUptoRow.laid ((laidW os).forCall (fun _ _ => 0) ⟨#[], #[(.string ByteArray.empty : Value)], []⟩).memory #[(.string ByteArray.empty : Value)] := by
  obtain ⟨places, hx⟩ := reads os enc
  exact OpenSpec.preRow_of_cond 8 hx (by kernel_rfl) (fun k hk => by cases hk; kernel_rfl) (by kernel_rfl) (laidW_met os _)
theorem contract (H : Type) (enc : TypeId × Value → H) (W : World) (base : Nat) (args : Array Value) (ds gs : List (DataW H)) (before : List MemPlace)
    (hval : ∀ (j : Nat) t v, Tryd.f7.params[j]? = some t → args[j]? = some v → Value.okWide Tryd.prog W .any base t v)
    (hW : DataW.Whole enc Tryd.prog Tryd.f7.params.toList Rows.digestReadsSpec.vars false W args.toList ds gs before) (hc : Rows.uptoSmall H (ds ++ gs) = true) (hL : laidMetH Tryd.prog laidL W) (hShaped : W.ShapedOpen Tryd.prog) :
    Calls Tryd.prog 7 args W fun e W' => ∃ v, e = .returned v ∧ Rows.digestReadsSpec.post enc Tryd.prog Tryd.f7 false true false false W args v W' := by
  have hW' := hW
  obtain ⟨p, q, hA0, hV, rfl, hfz, hnd⟩ := hW
  have hA : DataW.TrodAll enc Tryd.prog W 0 (fun _ => true) true Tryd.f7.params.toList args.toList ds p := hA0
  rw [Tryd.params7] at hA hval
  obtain ⟨v0, vs0, d0, ds0, p0, q0, hargs, rfl, rfl, h0, r0⟩ := trodAll_cons hA
  obtain ⟨rfl, rfl, rfl⟩ := trodAll_nil r0
  obtain rfl : args = #[v0] := by cases args; simp_all
  obtain ⟨rfl, rfl⟩ := trodVars_none hV
  obtain ⟨a0, rfl, rfl, rfl, y0⟩ := open_string Tryd.underlying9 (hval 0 9 v0 rfl rfl) h0
  have e0 : (.string a0 : Value) = vS a0.data.toList := by simp [vS]
  have c0 : a0.data.toList.length ≤ 1048576 := by
    have := of_decide_eq_true hc
    simp only [List.append_nil, Rows.uptoBulkAll, Rows.uptoBulk] at this
    omega
  clear hA0
  have hF := Pure.DigestReads a0.data.toList c0
  rw [show (#[.string a0] : Array Value) = #[vS a0.data.toList] from by simp [vS]]
  refine (Dg.echelonlaw03_DigestReads.ok (W0 := W) hF (gl_of hL hShaped)).mono fun e W' ⟨v, he, hv, hf⟩ => ?_
  subst he; subst hv
  rw [← show (#[.string a0] : Array Value) = #[vS a0.data.toList] from by simp [vS]]
  exact ⟨_, rfl, _, _, _, [], _, [], hW', trodAll_mk1 (shut_bool Tryd.underlying4 _), (trodAll_cons_mk (shut_string Tryd.underlying9 y0) trodAll_mk0), rfl, hf.below.frame _, fun h => by cases h⟩
theorem lifted (os : Os) (started : os.Started) (H : Type) (enc : TypeId × Value → H) (F : Stop.Interp) :
    ReturnsInHanded {} Tryd.checked os 7 .any ((Rows.OpenSpec.upto Rows.digestReadsSpec).preRow enc Tryd.prog Tryd.f7 Rows.digestReadsUptoRow.domain false Rows.digestReadsUptoRow.laid) (((Rows.OpenSpec.upto Rows.digestReadsSpec).at F).post enc Tryd.prog Tryd.f7 false true false false) := by
  refine returnsInHanded_of_row (C := Tryd.checked) (s := Rows.OpenSpec.upto Rows.digestReadsSpec) own started (by kernel_rfl) Tryd.func7
    ⟨laidW os, fun _ _ => 0, ⟨#[], #[(.string ByteArray.empty : Value)], []⟩, World.laidAll_os _ _ _, laidW_shaped os _, rfl, (Input.okWide_of_okWideB (okw os)).2, prer os H enc, by simp [Assume.holds]⟩ ?_
  intro W base args ds gs before hval hW _ hcond _ hL hShaped _
  exact contract H enc W base args ds gs before hval hW (hcond _ rfl) hL hShaped
theorem said : Rows.DigestReadsUptoSaid :=
  OpenClaim.holds_of_cond 7 Tryd.f7 rfl rfl rfl rfl rfl rfl rfl ⟨rfl, rfl, rfl, rfl, rfl⟩ rfl rfl rfl rfl rfl (by kernel_rfl) Tryd.func7 (by kernel_rfl)
    (of_decide_eq_true (by kernel_rfl)) (by unfold Func.isWrapper; first | (rw [if_pos (by decide +kernel)]; kernel_rfl) | (rw [if_neg (by decide +kernel)]; exact ⟨rfl, rfl⟩))
    (fun os started H enc _ F => by rw [OpenClaim.pre_eq_preRow]; exact lifted os started H enc F)
theorem plain (f : FuncId) (fn : Func) (hf : Tryd.pinned.checked.prog.funcNamed "echelon/echelonlaw03.DigestReads" = some f) (hfn : Tryd.pinned.checked.prog.funcs[f]? = some fn) :
    true = Tryd.pinned.checked.prog.looks [] ∧ ∀ (j : Nat) t, fn.params[j]? = some t → Tryd.pinned.checked.prog.wantsStandIn t = false := by
  obtain rfl : f = 7 := Option.some.inj ((show Tryd.prog.funcNamed "echelon/echelonlaw03.DigestReads" = some 7 by kernel_rfl).symm.trans hf) |>.symm
  obtain rfl : fn = Tryd.f7 := (Option.some.inj (Tryd.func7.symm.trans hfn)).symm
  refine ⟨by kernel_rfl, fun j t ht => ?_⟩
  rw [Tryd.params7] at ht
  have hm := Array.mem_of_getElem? ht
  simp only [List.mem_toArray, List.mem_cons, List.not_mem_nil, or_false] at hm
  obtain rfl := hm
  exact (show Tryd.prog.wantsStandIn 9 = false by kernel_rfl)
theorem card : Rows.DigestReadsUptoCardSaid :=
  Claim7.holds_tied_plain_at .later [] _ _ _ _ said (fun _ h => by cases h) (by kernel_rfl) (fun _ h => by cases h) digestReadsUpto_row_tie rfl ⟨rfl, rfl⟩ (by kernel_rfl) rfl plain (by kernel_rfl)
end Go.Proofs.YtneahkibnaoiiaaDoor.Dg.digestReads
