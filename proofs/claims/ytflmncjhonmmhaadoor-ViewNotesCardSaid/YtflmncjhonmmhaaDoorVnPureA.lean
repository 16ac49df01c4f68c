/- The plain laws of View: awake, and Print. -/
import Derived.Test.YtflmncjhonmmhaaDoorVnG3
import Derived.Test.YtflmncjhonmmhaaDoorVnOpn
import Derived.Lib.ItoaLen
import Derived.OpenShut
namespace Go.Proofs.YtflmncjhonmmhaaDoor.Vn.Pure
open Go Go.RowKit Go.ChangeShapes Go.WideShapes
set_option linter.unusedVariables false
set_option linter.unusedSimpArgs false
set_option maxRecDepth 100000
theorem bindRun {σ β γ : Type} {f : σ → Option (σ ⊕ β)} {s : σ} {b : β} (n : Nat) (h : Loop.runN f n s = some b) {g : β → Option γ} : (Loop.run f s).bind g = g b := by
  rw [Loop.run_iff.2 ⟨n, h⟩]; rfl
theorem n1 : view_Notes [GNote.mk 1 0 7, GNote.mk 5 2 3, GNote.mk 6 3 2] = some ([65, 32, 102, 105, 114, 101, 100, 32, 55, 10, 67, 32, 116, 111, 111, 107, 32, 112, 114, 105, 122, 101, 10, 115, 112, 111, 116, 32, 51, 32, 99, 104, 97, 114, 103, 101, 10], 0) := by
  unfold view_Notes
  simp only [Option.bind_some]
  refine (bindRun (b := .inl [65, 32, 102, 105, 114, 101, 100, 32, 55, 10, 67, 32, 116, 111, 111, 107, 32, 112, 114, 105, 122, 101, 10, 115, 112, 111, 116, 32, 51, 32, 99, 104, 97, 114, 103, 101, 10]) 4 (by kernel_rfl)).trans rfl
theorem n2 : view_Notes [GNote.mk 9 0 0] = some ([], 230) := by
  unfold view_Notes
  simp only [Option.bind_some]
  refine (bindRun (b := .inr ([], 230)) 4 (by kernel_rfl)).trans rfl
theorem it {n : Int} (h : wfI .i64 n) : lib_Itoa n = some (Lib.itoa n) ∧ (Lib.itoa n).length ≤ 21 := by
  have := bounds_i64 h
  exact ⟨if_pos this, Lib.itoa_length_le n this.1 this.2⟩
theorem cat_ok {x y : Str} (h : x.length + y.length ≤ 9223372036854775807) : cat x y = some (x ++ y) := if_pos h
def pr (a : GCounters) : Str := (((((((((((((((([116, 105, 99, 107, 115, 32] ++ Lib.itoa a.Ticks) ++ [32, 115, 116, 97, 108, 108, 115, 32]) ++ Lib.itoa a.Stalls) ++ [32, 115, 116, 101, 112, 115, 32]) ++ Lib.itoa a.Steps) ++ [32, 99, 111, 112, 105, 101, 115, 32]) ++ Lib.itoa a.Copies) ++ [32, 108, 97, 116, 101, 32]) ++ Lib.itoa a.Late) ++ [32, 115, 101, 110, 116, 32]) ++ Lib.itoa a.Sent) ++ [32, 103, 111, 116, 32]) ++ Lib.itoa a.Got) ++ [32, 114, 101, 102, 117, 115, 101, 100, 32]) ++ Lib.itoa a.Refused) ++ [32, 97, 99, 99, 101, 112, 116, 101, 100, 32]) ++ Lib.itoa a.Accepted
theorem viewP (a : GCounters) (w : wf_GCounters a) : view_Print a = some (pr a) := by
  obtain ⟨w0, w1, w2, w3, w4, w5, w6, w7, w8⟩ := w
  obtain ⟨i0, l0⟩ := it w0
  obtain ⟨i1, l1⟩ := it w1
  obtain ⟨i2, l2⟩ := it w2
  obtain ⟨i3, l3⟩ := it w3
  obtain ⟨i4, l4⟩ := it w4
  obtain ⟨i5, l5⟩ := it w5
  obtain ⟨i6, l6⟩ := it w6
  obtain ⟨i7, l7⟩ := it w7
  obtain ⟨i8, l8⟩ := it w8
  have c0 : cat [116, 105, 99, 107, 115, 32] (Lib.itoa a.Ticks) = some ([116, 105, 99, 107, 115, 32] ++ Lib.itoa a.Ticks) := cat_ok (by simp only [List.length_cons, List.length_nil]; omega)
  have c1 : cat [115, 116, 97, 108, 108, 115, 32] (Lib.itoa a.Stalls) = some ([115, 116, 97, 108, 108, 115, 32] ++ Lib.itoa a.Stalls) := cat_ok (by simp only [List.length_cons, List.length_nil]; omega)
  have c2 : cat [115, 116, 101, 112, 115, 32] (Lib.itoa a.Steps) = some ([115, 116, 101, 112, 115, 32] ++ Lib.itoa a.Steps) := cat_ok (by simp only [List.length_cons, List.length_nil]; omega)
  have c3 : cat [99, 111, 112, 105, 101, 115, 32] (Lib.itoa a.Copies) = some ([99, 111, 112, 105, 101, 115, 32] ++ Lib.itoa a.Copies) := cat_ok (by simp only [List.length_cons, List.length_nil]; omega)
  have c4 : cat [108, 97, 116, 101, 32] (Lib.itoa a.Late) = some ([108, 97, 116, 101, 32] ++ Lib.itoa a.Late) := cat_ok (by simp only [List.length_cons, List.length_nil]; omega)
  have c5 : cat [115, 101, 110, 116, 32] (Lib.itoa a.Sent) = some ([115, 101, 110, 116, 32] ++ Lib.itoa a.Sent) := cat_ok (by simp only [List.length_cons, List.length_nil]; omega)
  have c6 : cat [103, 111, 116, 32] (Lib.itoa a.Got) = some ([103, 111, 116, 32] ++ Lib.itoa a.Got) := cat_ok (by simp only [List.length_cons, List.length_nil]; omega)
  have c7 : cat [114, 101, 102, 117, 115, 101, 100, 32] (Lib.itoa a.Refused) = some ([114, 101, 102, 117, 115, 101, 100, 32] ++ Lib.itoa a.Refused) := cat_ok (by simp only [List.length_cons, List.length_nil]; omega)
  have c8 : cat [97, 99, 99, 101, 112, 116, 101, 100, 32] (Lib.itoa a.Accepted) = some ([97, 99, 99, 101, 112, 116, 101, 100, 32] ++ Lib.itoa a.Accepted) := cat_ok (by simp only [List.length_cons, List.length_nil]; omega)
  have b0 : cat [116, 105, 99, 107, 115] [32] = some [116, 105, 99, 107, 115, 32] := by kernel_rfl
  have b1 : cat [115, 116, 97, 108, 108, 115] [32] = some [115, 116, 97, 108, 108, 115, 32] := by kernel_rfl
  have b2 : cat [115, 116, 101, 112, 115] [32] = some [115, 116, 101, 112, 115, 32] := by kernel_rfl
  have b3 : cat [99, 111, 112, 105, 101, 115] [32] = some [99, 111, 112, 105, 101, 115, 32] := by kernel_rfl
  have b4 : cat [108, 97, 116, 101] [32] = some [108, 97, 116, 101, 32] := by kernel_rfl
  have b5 : cat [115, 101, 110, 116] [32] = some [115, 101, 110, 116, 32] := by kernel_rfl
  have b6 : cat [103, 111, 116] [32] = some [103, 111, 116, 32] := by kernel_rfl
  have b7 : cat [114, 101, 102, 117, 115, 101, 100] [32] = some [114, 101, 102, 117, 115, 101, 100, 32] := by kernel_rfl
  have b8 : cat [97, 99, 99, 101, 112, 116, 101, 100] [32] = some [97, 99, 99, 101, 112, 116, 101, 100, 32] := by kernel_rfl
  unfold view_Print
  simp only [Option.bind_some]
  refine (bindRun (b := [([116, 105, 99, 107, 115, 32] ++ Lib.itoa a.Ticks), ([115, 116, 97, 108, 108, 115, 32] ++ Lib.itoa a.Stalls), ([115, 116, 101, 112, 115, 32] ++ Lib.itoa a.Steps), ([99, 111, 112, 105, 101, 115, 32] ++ Lib.itoa a.Copies), ([108, 97, 116, 101, 32] ++ Lib.itoa a.Late), ([115, 101, 110, 116, 32] ++ Lib.itoa a.Sent), ([103, 111, 116, 32] ++ Lib.itoa a.Got), ([114, 101, 102, 117, 115, 101, 100, 32] ++ Lib.itoa a.Refused), ([97, 99, 99, 101, 112, 116, 101, 100, 32] ++ Lib.itoa a.Accepted)]) 10 ?_).trans ?_
  · have v1 : IntKind.i64.wrap 1 = 1 := by kernel_rfl
    have v2 : IntKind.i64.wrap 2 = 2 := by kernel_rfl
    have v3 : IntKind.i64.wrap 3 = 3 := by kernel_rfl
    have v4 : IntKind.i64.wrap 4 = 4 := by kernel_rfl
    have v5 : IntKind.i64.wrap 5 = 5 := by kernel_rfl
    have v6 : IntKind.i64.wrap 6 = 6 := by kernel_rfl
    have v7 : IntKind.i64.wrap 7 = 7 := by kernel_rfl
    have v8 : IntKind.i64.wrap 8 = 8 := by kernel_rfl
    have v9 : IntKind.i64.wrap 9 = 9 := by kernel_rfl
    simp [Loop.runN, getI, must, W, v1, v2, v3, v4, v5, v6, v7, v8, v9, i0, i1, i2, i3, i4, i5, i6, i7, i8, c0, c1, c2, c3, c4, c5, c6, c7, c8, b0, b1, b2, b3, b4, b5, b6, b7, b8]
  · have e : Lib.join [([116, 105, 99, 107, 115, 32] ++ Lib.itoa a.Ticks), ([115, 116, 97, 108, 108, 115, 32] ++ Lib.itoa a.Stalls), ([115, 116, 101, 112, 115, 32] ++ Lib.itoa a.Steps), ([99, 111, 112, 105, 101, 115, 32] ++ Lib.itoa a.Copies), ([108, 97, 116, 101, 32] ++ Lib.itoa a.Late), ([115, 101, 110, 116, 32] ++ Lib.itoa a.Sent), ([103, 111, 116, 32] ++ Lib.itoa a.Got), ([114, 101, 102, 117, 115, 101, 100, 32] ++ Lib.itoa a.Refused), ([97, 99, 99, 101, 112, 116, 101, 100, 32] ++ Lib.itoa a.Accepted)] [32] = pr a := by simp [Lib.join, List.intercalate, pr]
    have hl : (pr a).length ≤ 140737488355328 := by simp only [pr, List.length_append, List.length_cons, List.length_nil]; omega
    have j : lib_Join [([116, 105, 99, 107, 115, 32] ++ Lib.itoa a.Ticks), ([115, 116, 97, 108, 108, 115, 32] ++ Lib.itoa a.Stalls), ([115, 116, 101, 112, 115, 32] ++ Lib.itoa a.Steps), ([99, 111, 112, 105, 101, 115, 32] ++ Lib.itoa a.Copies), ([108, 97, 116, 101, 32] ++ Lib.itoa a.Late), ([115, 101, 110, 116, 32] ++ Lib.itoa a.Sent), ([103, 111, 116, 32] ++ Lib.itoa a.Got), ([114, 101, 102, 117, 115, 101, 100, 32] ++ Lib.itoa a.Refused), ([97, 99, 99, 101, 112, 116, 101, 100, 32] ++ Lib.itoa a.Accepted)] [32] = some (pr a) := by
      unfold lib_Join
      rw [e, if_pos ⟨by simp only [List.length_cons, List.length_nil]; omega, hl⟩]
    exact congrArg (fun o => o.bind fun x182 => some x182) j
theorem n4 : view_Correct (GWorld.mk 0 ([GMover.mk (GPoint.mk 0 0) (GPoint.mk 0 0) (GPoint.mk 0 0) 0 0 0 false 0 0 0, GMover.mk (GPoint.mk 4 9) (GPoint.mk 0 0) (GPoint.mk 0 0) 0 0 0 false 0 0 0]) (List.replicate (2 : Int).toNat (GScore.mk 0 0 0 0 : GScore)) ([] : List GShot) ([] : List GPickup) 0) (GWorld.mk 0 ([GMover.mk (GPoint.mk 0 0) (GPoint.mk 0 0) (GPoint.mk 0 0) 0 0 0 false 0 0 0, GMover.mk (GPoint.mk 4 4) (GPoint.mk 0 0) (GPoint.mk 0 0) 0 0 0 false 0 0 0]) ([GScore.mk 0 0 0 0, GScore.mk 10 0 0 0]) ([] : List GShot) ([] : List GPickup) 0) = some ([GCorrection.mk 1 (GPoint.mk 4 9) (GPoint.mk 4 4) 0 10], 0) := by
  unfold view_Correct
  refine (bindRun (b := [GCorrection.mk 1 (GPoint.mk 4 9) (GPoint.mk 4 4) 0 10]) 3 (by kernel_rfl)).trans rfl
theorem wz : wf_GCounters (GCounters.mk 0 0 0 0 0 0 0 0 0) := by
  refine ⟨?_, ?_, ?_, ?_, ?_, ?_, ?_, ?_, ?_⟩ <;> exact (by kernel_rfl : (Lit.int .i64 0).wf = true)
theorem n3 : view_Print (GCounters.mk 0 0 0 0 0 0 0 0 0) = some [116, 105, 99, 107, 115, 32, 48, 32, 115, 116, 97, 108, 108, 115, 32, 48, 32, 115, 116, 101, 112, 115, 32, 48, 32, 99, 111, 112, 105, 101, 115, 32, 48, 32, 108, 97, 116, 101, 32, 48, 32, 115, 101, 110, 116, 32, 48, 32, 103, 111, 116, 32, 48, 32, 114, 101, 102, 117, 115, 101, 100, 32, 48, 32, 97, 99, 99, 101, 112, 116, 101, 100, 32, 48] := by
  rw [viewP _ wz]
  exact congrArg some (by kernel_rfl)
theorem awake : echelonlaw23_awake = some true := by
  unfold echelonlaw23_awake
  rw [n1, Option.bind_some, n2, Option.bind_some, n3, Option.bind_some, n4, Option.bind_some]
  kernel_rfl
end Go.Proofs.YtflmncjhonmmhaaDoor.Vn.Pure
