/- How the arguments of the laws are opened; written by my program opn.py. -/
import Derived.Test.YtflmncjhonmmhaaDoorProg
import Derived.Test.YtflmncjhonmmhaaDoorVcTy
import Derived.Test.YtflmncjhonmmhaaDoorLib23
namespace Go.Proofs.YtflmncjhonmmhaaDoor.Vc
open Go
set_option linter.unusedVariables false
set_option maxRecDepth 100000
theorem op3 : OpF Tryd.prog 3 (encI .i64) (wfI .i64) := opF_int Tryd.underlying3 (by kernel_rfl)
abbrev wf_GOrder (a : GOrder) : Prop := (wfI .i64) a.Verb ∧ (wfI .i64) a.A ∧ (wfI .i64) a.B ∧ (wfI .i64) a.C
theorem op66 : OpF Tryd.prog 66 encGOrder wf_GOrder := ⟨by kernel_rfl, fun H enc w base sp held fuel cs x h => by
  obtain ⟨xs, n, rfl, _, hl, hn, hf⟩ := DataW.trod_struct Tryd.underlying66 h
  obtain ⟨a0, e0, w0⟩ := op3.field hn hf 0 (o := 0) (by kernel_rfl)
  obtain ⟨a1, e1, w1⟩ := op3.field hn hf 1 (o := 1) (by kernel_rfl)
  obtain ⟨a2, e2, w2⟩ := op3.field hn hf 2 (o := 2) (by kernel_rfl)
  obtain ⟨a3, e3, w3⟩ := op3.field hn hf 3 (o := 3) (by kernel_rfl)
  exact ⟨⟨a0, a1, a2, a3⟩, tile e0 (tile e1 (tile e2 (tile e3 ((tile_end (hl.trans (by kernel_rfl))))))), w0, w1, w2, w3⟩⟩
end Go.Proofs.YtflmncjhonmmhaaDoor.Vc
