/- How the arguments of the laws are opened; written by my program opn.py. -/
import Derived.Test.YtflmncjhonmmhaaDoorProg
import Derived.Test.YtflmncjhonmmhaaDoorVwTy
import Derived.Test.YtflmncjhonmmhaaDoorLib23
namespace Go.Proofs.YtflmncjhonmmhaaDoor.Vw
open Go
set_option linter.unusedVariables false
set_option maxRecDepth 100000
theorem op2 : OpF Tryd.prog 2 (encI .i64) (wfI .i64) := opF_int Tryd.underlying2 (by kernel_rfl)
theorem op3 : OpF Tryd.prog 3 (encI .i64) (wfI .i64) := opF_int Tryd.underlying3 (by kernel_rfl)
abbrev wf_GPoint (a : GPoint) : Prop := (wfI .i64) a.X ∧ (wfI .i64) a.Y
theorem op35 : OpF Tryd.prog 35 encGPoint wf_GPoint := ⟨by kernel_rfl, fun H enc w base sp held fuel cs x h => by
  obtain ⟨xs, n, rfl, _, hl, hn, hf⟩ := DataW.trod_struct Tryd.underlying35 h
  obtain ⟨a0, e0, w0⟩ := op3.field hn hf 0 (o := 0) (by kernel_rfl)
  obtain ⟨a1, e1, w1⟩ := op3.field hn hf 1 (o := 1) (by kernel_rfl)
  exact ⟨⟨a0, a1⟩, tile e0 (tile e1 ((tile_end (hl.trans (by kernel_rfl))))), w0, w1⟩⟩
theorem op4 : OpF Tryd.prog 4 encB wfB := opF_bool Tryd.underlying4 (by kernel_rfl)
abbrev wf_GMover (a : GMover) : Prop := wf_GPoint a.At ∧ wf_GPoint a.Speed ∧ wf_GPoint a.Push ∧ (wfI .i64) a.Facing ∧ (wfI .i64) a.Health ∧ (wfI .i64) a.Energy ∧ wfB a.Shield ∧ (wfI .i64) a.Cool ∧ (wfI .i64) a.Out ∧ (wfI .i64) a.Said
theorem op85 : OpF Tryd.prog 85 encGMover wf_GMover := ⟨by kernel_rfl, fun H enc w base sp held fuel cs x h => by
  obtain ⟨xs, n, rfl, _, hl, hn, hf⟩ := DataW.trod_struct Tryd.underlying85 h
  obtain ⟨a0, e0, w0⟩ := op35.field hn hf 0 (o := 0) (by kernel_rfl)
  obtain ⟨a1, e1, w1⟩ := op35.field hn hf 1 (o := 2) (by kernel_rfl)
  obtain ⟨a2, e2, w2⟩ := op35.field hn hf 2 (o := 4) (by kernel_rfl)
  obtain ⟨a3, e3, w3⟩ := op3.field hn hf 3 (o := 6) (by kernel_rfl)
  obtain ⟨a4, e4, w4⟩ := op3.field hn hf 4 (o := 7) (by kernel_rfl)
  obtain ⟨a5, e5, w5⟩ := op3.field hn hf 5 (o := 8) (by kernel_rfl)
  obtain ⟨a6, e6, w6⟩ := op4.field hn hf 6 (o := 9) (by kernel_rfl)
  obtain ⟨a7, e7, w7⟩ := op3.field hn hf 7 (o := 10) (by kernel_rfl)
  obtain ⟨a8, e8, w8⟩ := op3.field hn hf 8 (o := 11) (by kernel_rfl)
  obtain ⟨a9, e9, w9⟩ := op3.field hn hf 9 (o := 12) (by kernel_rfl)
  exact ⟨⟨a0, a1, a2, a3, a4, a5, a6, a7, a8, a9⟩, tile e0 (tile e1 (tile e2 (tile e3 (tile e4 (tile e5 (tile e6 (tile e7 (tile e8 (tile e9 ((tile_end (hl.trans (by kernel_rfl))))))))))))), w0, w1, w2, w3, w4, w5, w6, w7, w8, w9⟩⟩
abbrev wf_GScore (a : GScore) : Prop := (wfI .i64) a.Points ∧ (wfI .i64) a.Hits ∧ (wfI .i64) a.Outs ∧ (wfI .i64) a.Streak
theorem op87 : OpF Tryd.prog 87 encGScore wf_GScore := ⟨by kernel_rfl, fun H enc w base sp held fuel cs x h => by
  obtain ⟨xs, n, rfl, _, hl, hn, hf⟩ := DataW.trod_struct Tryd.underlying87 h
  obtain ⟨a0, e0, w0⟩ := op3.field hn hf 0 (o := 0) (by kernel_rfl)
  obtain ⟨a1, e1, w1⟩ := op3.field hn hf 1 (o := 1) (by kernel_rfl)
  obtain ⟨a2, e2, w2⟩ := op3.field hn hf 2 (o := 2) (by kernel_rfl)
  obtain ⟨a3, e3, w3⟩ := op3.field hn hf 3 (o := 3) (by kernel_rfl)
  exact ⟨⟨a0, a1, a2, a3⟩, tile e0 (tile e1 (tile e2 (tile e3 ((tile_end (hl.trans (by kernel_rfl))))))), w0, w1, w2, w3⟩⟩
abbrev wf_GShot (a : GShot) : Prop := (wfI .i64) a.No ∧ (wfI .i64) a.Owner ∧ (wfI .i64) a.Power ∧ wf_GPoint a.At ∧ wf_GPoint a.Speed ∧ (wfI .i64) a.Left
theorem op226 : OpF Tryd.prog 226 encGShot wf_GShot := ⟨by kernel_rfl, fun H enc w base sp held fuel cs x h => by
  obtain ⟨xs, n, rfl, _, hl, hn, hf⟩ := DataW.trod_struct Tryd.underlying226 h
  obtain ⟨a0, e0, w0⟩ := op3.field hn hf 0 (o := 0) (by kernel_rfl)
  obtain ⟨a1, e1, w1⟩ := op3.field hn hf 1 (o := 1) (by kernel_rfl)
  obtain ⟨a2, e2, w2⟩ := op3.field hn hf 2 (o := 2) (by kernel_rfl)
  obtain ⟨a3, e3, w3⟩ := op35.field hn hf 3 (o := 3) (by kernel_rfl)
  obtain ⟨a4, e4, w4⟩ := op35.field hn hf 4 (o := 5) (by kernel_rfl)
  obtain ⟨a5, e5, w5⟩ := op3.field hn hf 5 (o := 7) (by kernel_rfl)
  exact ⟨⟨a0, a1, a2, a3, a4, a5⟩, tile e0 (tile e1 (tile e2 (tile e3 (tile e4 (tile e5 ((tile_end (hl.trans (by kernel_rfl))))))))), w0, w1, w2, w3, w4, w5⟩⟩
abbrev wf_GPickup (a : GPickup) : Prop := (wfI .i64) a.No ∧ (wfI .i64) a.Spot ∧ (wfI .i64) a.Kind
theorem op228 : OpF Tryd.prog 228 encGPickup wf_GPickup := ⟨by kernel_rfl, fun H enc w base sp held fuel cs x h => by
  obtain ⟨xs, n, rfl, _, hl, hn, hf⟩ := DataW.trod_struct Tryd.underlying228 h
  obtain ⟨a0, e0, w0⟩ := op3.field hn hf 0 (o := 0) (by kernel_rfl)
  obtain ⟨a1, e1, w1⟩ := op3.field hn hf 1 (o := 1) (by kernel_rfl)
  obtain ⟨a2, e2, w2⟩ := op3.field hn hf 2 (o := 2) (by kernel_rfl)
  exact ⟨⟨a0, a1, a2⟩, tile e0 (tile e1 (tile e2 ((tile_end (hl.trans (by kernel_rfl)))))), w0, w1, w2⟩⟩
abbrev wf_GWorld (a : GWorld) : Prop := ((wfI .i64) a.Frame) ∧ ((∀ x ∈ a.Movers, wf_GMover x) ∧ a.Movers.length * 104 ≤ reachBytes) ∧ ((∀ x ∈ a.Scores, wf_GScore x) ∧ a.Scores.length * 32 ≤ reachBytes) ∧ ((∀ x ∈ a.Shots, wf_GShot x) ∧ a.Shots.length * 64 ≤ reachBytes) ∧ ((∀ x ∈ a.Pickups, wf_GPickup x) ∧ a.Pickups.length * 24 ≤ reachBytes) ∧ ((wfI .i64) a.NextNo)
theorem opn_GWorld {H : Type} {enc : TypeId × Value → H} {w : World} {sp : Nat → Bool} {held : Bool} {fuel : Nat} {cs : List Value} {x : DataW H × List MemPlace} (h : DataW.trod enc Tryd.prog w 0 sp held fuel 27 cs = some x)
    (hs : ∀ m ∈ x.1.weights Tryd.prog 27, m ≤ reachBytes) : ∃ (a : GWorld) (p1 : Option Addr) (c1 : Nat) (p2 : Option Addr) (c2 : Nat) (p3 : Option Addr) (c3 : Nat) (p4 : Option Addr) (c4 : Nat), cs = [.int .i64 a.Frame, .slice p1 a.Movers.length c1, .slice p2 a.Scores.length c2, .slice p3 a.Shots.length c3, .slice p4 a.Pickups.length c4, .int .i64 a.NextNo] ∧ RdS w encGMover p1 c1 a.Movers ∧ RdS w encGScore p2 c2 a.Scores ∧ RdS w encGShot p3 c3 a.Shots ∧ RdS w encGPickup p4 c4 a.Pickups ∧ wf_GWorld a := by
  obtain ⟨xs, n, rfl, rfl, hl, hn, hf⟩ := DataW.trod_struct Tryd.underlying27 h
  obtain ⟨a0, e0, w0⟩ := op2.field hn hf 0 (o := 0) (by kernel_rfl)
  obtain ⟨p1, c1, a1, e1, r1, w1, s1⟩ := op85.fieldS Tryd.underlying27 hn hf hs 1 (o := 1) (by kernel_rfl) Tryd.underlying22 (by kernel_rfl)
  rw [show Tryd.prog.bytesOf 85 = 104 from by kernel_rfl] at s1
  obtain ⟨p2, c2, a2, e2, r2, w2, s2⟩ := op87.fieldS Tryd.underlying27 hn hf hs 2 (o := 2) (by kernel_rfl) Tryd.underlying23 (by kernel_rfl)
  rw [show Tryd.prog.bytesOf 87 = 32 from by kernel_rfl] at s2
  obtain ⟨p3, c3, a3, e3, r3, w3, s3⟩ := op226.fieldS Tryd.underlying27 hn hf hs 3 (o := 3) (by kernel_rfl) Tryd.underlying24 (by kernel_rfl)
  rw [show Tryd.prog.bytesOf 226 = 64 from by kernel_rfl] at s3
  obtain ⟨p4, c4, a4, e4, r4, w4, s4⟩ := op228.fieldS Tryd.underlying27 hn hf hs 4 (o := 4) (by kernel_rfl) Tryd.underlying25 (by kernel_rfl)
  rw [show Tryd.prog.bytesOf 228 = 24 from by kernel_rfl] at s4
  obtain ⟨a5, e5, w5⟩ := op3.field hn hf 5 (o := 5) (by kernel_rfl)
  exact ⟨⟨a0, a1, a2, a3, a4, a5⟩, p1, c1, p2, c2, p3, c3, p4, c4, tile e0 (tile e1 (tile e2 (tile e3 (tile e4 (tile e5 ((tile_end (hl.trans (by kernel_rfl))))))))), r1, r2, r3, r4, ⟨w0, ⟨w1, s1⟩, ⟨w2, s2⟩, ⟨w3, s3⟩, ⟨w4, s4⟩, w5⟩⟩
abbrev wf_GNote (a : GNote) : Prop := (wfI .i64) a.Kind ∧ (wfI .i64) a.A ∧ (wfI .i64) a.B
theorem op83 : OpF Tryd.prog 83 encGNote wf_GNote := ⟨by kernel_rfl, fun H enc w base sp held fuel cs x h => by
  obtain ⟨xs, n, rfl, _, hl, hn, hf⟩ := DataW.trod_struct Tryd.underlying83 h
  obtain ⟨a0, e0, w0⟩ := op3.field hn hf 0 (o := 0) (by kernel_rfl)
  obtain ⟨a1, e1, w1⟩ := op3.field hn hf 1 (o := 1) (by kernel_rfl)
  obtain ⟨a2, e2, w2⟩ := op3.field hn hf 2 (o := 2) (by kernel_rfl)
  exact ⟨⟨a0, a1, a2⟩, tile e0 (tile e1 (tile e2 ((tile_end (hl.trans (by kernel_rfl)))))), w0, w1, w2⟩⟩
abbrev wf_GCounters (a : GCounters) : Prop := (wfI .i64) a.Ticks ∧ (wfI .i64) a.Stalls ∧ (wfI .i64) a.Steps ∧ (wfI .i64) a.Copies ∧ (wfI .i64) a.Late ∧ (wfI .i64) a.Sent ∧ (wfI .i64) a.Got ∧ (wfI .i64) a.Refused ∧ (wfI .i64) a.Accepted
theorem op44 : OpF Tryd.prog 44 encGCounters wf_GCounters := ⟨by kernel_rfl, fun H enc w base sp held fuel cs x h => by
  obtain ⟨xs, n, rfl, _, hl, hn, hf⟩ := DataW.trod_struct Tryd.underlying44 h
  obtain ⟨a0, e0, w0⟩ := op3.field hn hf 0 (o := 0) (by kernel_rfl)
  obtain ⟨a1, e1, w1⟩ := op3.field hn hf 1 (o := 1) (by kernel_rfl)
  obtain ⟨a2, e2, w2⟩ := op3.field hn hf 2 (o := 2) (by kernel_rfl)
  obtain ⟨a3, e3, w3⟩ := op3.field hn hf 3 (o := 3) (by kernel_rfl)
  obtain ⟨a4, e4, w4⟩ := op3.field hn hf 4 (o := 4) (by kernel_rfl)
  obtain ⟨a5, e5, w5⟩ := op3.field hn hf 5 (o := 5) (by kernel_rfl)
  obtain ⟨a6, e6, w6⟩ := op3.field hn hf 6 (o := 6) (by kernel_rfl)
  obtain ⟨a7, e7, w7⟩ := op3.field hn hf 7 (o := 7) (by kernel_rfl)
  obtain ⟨a8, e8, w8⟩ := op3.field hn hf 8 (o := 8) (by kernel_rfl)
  exact ⟨⟨a0, a1, a2, a3, a4, a5, a6, a7, a8⟩, tile e0 (tile e1 (tile e2 (tile e3 (tile e4 (tile e5 (tile e6 (tile e7 (tile e8 ((tile_end (hl.trans (by kernel_rfl)))))))))))), w0, w1, w2, w3, w4, w5, w6, w7, w8⟩⟩
end Go.Proofs.YtflmncjhonmmhaaDoor.Vw
