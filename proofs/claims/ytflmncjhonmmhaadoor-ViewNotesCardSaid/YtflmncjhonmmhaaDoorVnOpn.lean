/- How the arguments of the laws are opened; written by my program opn.py. -/
import Derived.Test.YtflmncjhonmmhaaDoorProg
import Derived.Test.YtflmncjhonmmhaaDoorVnTy
import Derived.Test.YtflmncjhonmmhaaDoorLib23
namespace Go.Proofs.YtflmncjhonmmhaaDoor.Vn
open Go
set_option linter.unusedVariables false
set_option maxRecDepth 100000
theorem op3 : OpF Tryd.prog 3 (encI .i64) (wfI .i64) := opF_int Tryd.underlying3 (by kernel_rfl)
abbrev wf_GNote (a : GNote) : Prop := (wfI .i64) a.Kind ∧ (wfI .i64) a.A ∧ (wfI .i64) a.B
theorem op83 : OpF Tryd.prog 83 encGNote wf_GNote := ⟨by kernel_rfl, fun H enc w base sp held fuel cs x h => by
  obtain ⟨xs, n, rfl, _, hl, hn, hf⟩ := DataW.trod_struct Tryd.underlying83 h
  obtain ⟨a0, e0, w0⟩ := op3.field hn hf 0 (o := 0) (by kernel_rfl)
  obtain ⟨a1, e1, w1⟩ := op3.field hn hf 1 (o := 1) (by kernel_rfl)
  obtain ⟨a2, e2, w2⟩ := op3.field hn hf 2 (o := 2) (by kernel_rfl)
  exact ⟨⟨a0, a1, a2⟩, tile e0 (tile e1 (tile e2 ((tile_end (hl.trans (by kernel_rfl)))))), w0, w1, w2⟩⟩
abbrev wf_GCounters (a : GCounters) : Prop := (wfI .i64) a.Ticks ∧ (wfI .i64) a.Stalls ∧ (wfI .i64) a.Steps ∧ (wfI .i64) a.Copies ∧ (wfI .i64) a.Late ∧ (wfI .i64) a.Sent ∧ (wfI .i64) a.Got ∧ (wfI .i64) a.Refused ∧ (wfI .i64) a.Accepted
theorem op44 : OpF Tryd.prog 44 encGCounters wf_GCounters := ⟨by kernel_rfl, fun H enc w base sp held fuel cs x h => by
  obtain ⟨xs, n, rfl, _, hl, hn, hf⟩ := DataW.trod_struct Tryd.underlying44 h
  obtain ⟨a0, e0, w0⟩ := op3.field hn hf 0 (o := 0) (by kernel_rfl)
  obtain ⟨a1, e1, w1⟩ := op3.field hn hf 1 (o := 1) (by kernel_rfl)
  obtain ⟨a2, e2, w2⟩ := op3.field hn hf 2 (o := 2) (by kernel_rfl)
  obtain ⟨a3, e3, w3⟩ := op3.field hn hf 3 (o := 3) (by kernel_rfl)
  obtain ⟨a4, e4, w4⟩ := op3.field hn hf 4 (o := 4) (by kernel_rfl)
  obtain ⟨a5, e5, w5⟩ := op3.field hn hf 5 (o := 5) (by kernel_rfl)
  obtain ⟨a6, e6, w6⟩ := op3.field hn hf 6 (o := 6) (by kernel_rfl)
  obtain ⟨a7, e7, w7⟩ := op3.field hn hf 7 (o := 7) (by kernel_rfl)
  obtain ⟨a8, e8, w8⟩ := op3.field hn hf 8 (o := 8) (by kernel_rfl)
  exact ⟨⟨a0, a1, a2, a3, a4, a5, a6, a7, a8⟩, tile e0 (tile e1 (tile e2 (tile e3 (tile e4 (tile e5 (tile e6 (tile e7 (tile e8 ((tile_end (hl.trans (by kernel_rfl)))))))))))), w0, w1, w2, w3, w4, w5, w6, w7, w8⟩⟩
end Go.Proofs.YtflmncjhonmmhaaDoor.Vn
