/- Walks of functions, written by my program g2.py out of Lean's print. -/
import Derived.Test.YtflmncjhonmmhaaDoorProg
import Derived.Test.YtflmncjhonmmhaaDoorVnAdp
namespace Go.Proofs.YtflmncjhonmmhaaDoor.Vn
open Go
set_option linter.unusedVariables false
set_option linter.unusedSimpArgs false
set_option maxRecDepth 4000
set_option maxHeartbeats 4000000
abbrev vfn (n : Nat) : Value := .func (.func n) #[] #[]
theorem bd0 (f0 : Fn) (u0 v0 : Array Value) (f1 : Fn) (u1 v1 : Array Value) : Tryd.prog.built 96 [(0, .func f0 u0 v0), (1, .func f1 u1 v1)] = some #[.func f0 u0 v0, .func f1 u1 v1] := by kernel_rfl
theorem bd1 (a0 : Int) (a1 : Int) (a2 : Int) (a3 : Int) (a4 : Int) (a5 : Int) (a6 : Int) : Tryd.prog.built 37 [(0, .int .i64 a0), (1, .agg #[.int .i64 a1, .int .i64 a2]), (2, .agg #[.int .i64 a3, .int .i64 a4]), (3, .int .i64 a5), (4, .int .i64 a6)] = some #[.int .i64 a0, .int .i64 a1, .int .i64 a2, .int .i64 a3, .int .i64 a4, .int .i64 a5, .int .i64 a6] := by kernel_rfl
theorem bd10 (a0 : Int) : Tryd.prog.built 87 [(0, .int .i64 a0)] = some #[.int .i64 a0, .int .i64 0, .int .i64 0, .int .i64 0] := by kernel_rfl
theorem bd11 (a0 : Int) (a1 : Int) (a2 : Int) (a3 : Int) (a4 : Int) (a5 : Int) : Tryd.prog.built 37 [(0, .int .i64 a0), (1, .agg #[.int .i64 a1, .int .i64 a2]), (2, .agg #[.int .i64 a3, .int .i64 a4]), (4, .int .i64 a5)] = some #[.int .i64 a0, .int .i64 a1, .int .i64 a2, .int .i64 a3, .int .i64 a4, .int .i64 0, .int .i64 a5] := by kernel_rfl
theorem bd2 (a0 : Int) (a1 : Int) (a2 : Int) : Tryd.prog.built 83 [(0, .int .i64 a0), (1, .int .i64 a1), (2, .int .i64 a2)] = some #[.int .i64 a0, .int .i64 a1, .int .i64 a2] := by kernel_rfl
theorem bd3 (a0 : Int) : Tryd.prog.built 83 [(0, .int .i64 a0)] = some #[.int .i64 a0, .int .i64 0, .int .i64 0] := by kernel_rfl
theorem bd4  : Tryd.prog.built 44 [] = some #[.int .i64 0, .int .i64 0, .int .i64 0, .int .i64 0, .int .i64 0, .int .i64 0, .int .i64 0, .int .i64 0, .int .i64 0] := by kernel_rfl
theorem bd5  : Tryd.prog.built 85 [] = some #[.int .i64 0, .int .i64 0, .int .i64 0, .int .i64 0, .int .i64 0, .int .i64 0, .int .i64 0, .int .i64 0, .int .i64 0, .bool false, .int .i64 0, .int .i64 0, .int .i64 0] := by kernel_rfl
theorem bd6 (a0 : Int) (a1 : Int) : Tryd.prog.built 35 [(0, .int .i64 a0), (1, .int .i64 a1)] = some #[.int .i64 a0, .int .i64 a1] := by kernel_rfl
theorem bd7 (a0 : Int) (a1 : Int) : Tryd.prog.built 85 [(0, .agg #[.int .i64 a0, .int .i64 a1])] = some #[.int .i64 a0, .int .i64 a1, .int .i64 0, .int .i64 0, .int .i64 0, .int .i64 0, .int .i64 0, .int .i64 0, .int .i64 0, .bool false, .int .i64 0, .int .i64 0, .int .i64 0] := by kernel_rfl
theorem bd8 (p0 : Option Addr) (n0 c0 : Nat) (p1 : Option Addr) (n1 c1 : Nat) : Tryd.prog.built 27 [(1, .slice p0 n0 c0), (2, .slice p1 n1 c1)] = some #[.int .i64 0, .slice p0 n0 c0, .slice p1 n1 c1, .slice none 0 0, .slice none 0 0, .int .i64 0] := by kernel_rfl
theorem bd9  : Tryd.prog.built 87 [] = some #[.int .i64 0, .int .i64 0, .int .i64 0, .int .i64 0] := by kernel_rfl
theorem cf16 : Callable Tryd.prog 16 := ⟨⟨_, Tryd.func16, rfl, by decide⟩⟩
theorem cf17 : Callable Tryd.prog 17 := ⟨⟨_, Tryd.func17, rfl, by decide⟩⟩
theorem cf20 : Callable Tryd.prog 20 := ⟨⟨_, Tryd.func20, rfl, by decide⟩⟩
theorem cf21 : Callable Tryd.prog 21 := ⟨⟨_, Tryd.func21, rfl, by decide⟩⟩
theorem cf22 : Callable Tryd.prog 22 := ⟨⟨_, Tryd.func22, rfl, by decide⟩⟩
theorem cf48 : Callable Tryd.prog 48 := ⟨⟨_, Tryd.func48, rfl, by decide⟩⟩
theorem cf49 : Callable Tryd.prog 49 := ⟨⟨_, Tryd.func49, rfl, by decide⟩⟩
theorem cf50 : Callable Tryd.prog 50 := ⟨⟨_, Tryd.func50, rfl, by decide⟩⟩
theorem cf51 : Callable Tryd.prog 51 := ⟨⟨_, Tryd.func51, rfl, by decide⟩⟩
theorem cf52 : Callable Tryd.prog 52 := ⟨⟨_, Tryd.func52, rfl, by decide⟩⟩
theorem cf53 : Callable Tryd.prog 53 := ⟨⟨_, Tryd.func53, rfl, by decide⟩⟩
theorem cf59 : Callable Tryd.prog 59 := ⟨⟨_, Tryd.func59, rfl, by decide⟩⟩
theorem cf61 : Callable Tryd.prog 61 := ⟨⟨_, Tryd.func61, rfl, by decide⟩⟩
theorem cf67 : Callable Tryd.prog 67 := ⟨⟨_, Tryd.func67, rfl, by decide⟩⟩
theorem cf68 : Callable Tryd.prog 68 := ⟨⟨_, Tryd.func68, rfl, by decide⟩⟩
theorem cf69 : Callable Tryd.prog 69 := ⟨⟨_, Tryd.func69, rfl, by decide⟩⟩
theorem cf70 : Callable Tryd.prog 70 := ⟨⟨_, Tryd.func70, rfl, by decide⟩⟩
theorem cf71 : Callable Tryd.prog 71 := ⟨⟨_, Tryd.func71, rfl, by decide⟩⟩
theorem cf72 : Callable Tryd.prog 72 := ⟨⟨_, Tryd.func72, rfl, by decide⟩⟩
theorem cf73 : Callable Tryd.prog 73 := ⟨⟨_, Tryd.func73, rfl, by decide⟩⟩
theorem cf74 : Callable Tryd.prog 74 := ⟨⟨_, Tryd.func74, rfl, by decide⟩⟩
theorem cf75 : Callable Tryd.prog 75 := ⟨⟨_, Tryd.func75, rfl, by decide⟩⟩
theorem cf76 : Callable Tryd.prog 76 := ⟨⟨_, Tryd.func76, rfl, by decide⟩⟩
theorem cf77 : Callable Tryd.prog 77 := ⟨⟨_, Tryd.func77, rfl, by decide⟩⟩
theorem cf78 : Callable Tryd.prog 78 := ⟨⟨_, Tryd.func78, rfl, by decide⟩⟩
theorem cf79 : Callable Tryd.prog 79 := ⟨⟨_, Tryd.func79, rfl, by decide⟩⟩
theorem cf80 : Callable Tryd.prog 80 := ⟨⟨_, Tryd.func80, rfl, by decide⟩⟩
theorem cf82 : Callable Tryd.prog 82 := ⟨⟨_, Tryd.func82, rfl, by decide⟩⟩
theorem cf83 : Callable Tryd.prog 83 := ⟨⟨_, Tryd.func83, rfl, by decide⟩⟩
theorem cf84 : Callable Tryd.prog 84 := ⟨⟨_, Tryd.func84, rfl, by decide⟩⟩
theorem eg35 : Tryd.prog.eqGuardType Tryd.prog.depth 35 = false := by kernel_rfl
theorem eg37 : Tryd.prog.eqGuardType Tryd.prog.depth 37 = false := by kernel_rfl
theorem eq35 (a0 b0 : Int) (a1 b1 : Int) : eqT Tryd.prog 10000 35 (.agg #[.int .i64 a0, .int .i64 a1]) (.agg #[.int .i64 b0, .int .i64 b1]) = some ((a0 == b0) && ((a1 == b1) && true)) := by kernel_rfl
theorem eq37 (a0 b0 : Int) (a1 b1 : Int) (a2 b2 : Int) (a3 b3 : Int) (a4 b4 : Int) (a5 b5 : Int) (a6 b6 : Int) : eqT Tryd.prog 10000 37 (.agg #[.int .i64 a0, .int .i64 a1, .int .i64 a2, .int .i64 a3, .int .i64 a4, .int .i64 a5, .int .i64 a6]) (.agg #[.int .i64 b0, .int .i64 b1, .int .i64 b2, .int .i64 b3, .int .i64 b4, .int .i64 b5, .int .i64 b6]) = some ((a0 == b0) && (((a1 == b1) && ((a2 == b2) && true)) && (((a3 == b3) && ((a4 == b4) && true)) && ((a5 == b5) && ((a6 == b6) && true))))) := by kernel_rfl
theorem fo27_1 : fieldOff Tryd.prog 27 1 = some 1 := by kernel_rfl
theorem fo27_2 : fieldOff Tryd.prog 27 2 = some 2 := by kernel_rfl
theorem fo37_3 : fieldOff Tryd.prog 37 3 = some 5 := by kernel_rfl
theorem fo37_4 : fieldOff Tryd.prog 37 4 = some 6 := by kernel_rfl
theorem fo44_0 : fieldOff Tryd.prog 44 0 = some 0 := by kernel_rfl
theorem fo44_1 : fieldOff Tryd.prog 44 1 = some 1 := by kernel_rfl
theorem fo44_2 : fieldOff Tryd.prog 44 2 = some 2 := by kernel_rfl
theorem fo44_3 : fieldOff Tryd.prog 44 3 = some 3 := by kernel_rfl
theorem fo44_4 : fieldOff Tryd.prog 44 4 = some 4 := by kernel_rfl
theorem fo44_5 : fieldOff Tryd.prog 44 5 = some 5 := by kernel_rfl
theorem fo44_6 : fieldOff Tryd.prog 44 6 = some 6 := by kernel_rfl
theorem fo44_7 : fieldOff Tryd.prog 44 7 = some 7 := by kernel_rfl
theorem fo44_8 : fieldOff Tryd.prog 44 8 = some 8 := by kernel_rfl
theorem fo83_0 : fieldOff Tryd.prog 83 0 = some 0 := by kernel_rfl
theorem fo83_1 : fieldOff Tryd.prog 83 1 = some 1 := by kernel_rfl
theorem fo83_2 : fieldOff Tryd.prog 83 2 = some 2 := by kernel_rfl
theorem fo85_0 : fieldOff Tryd.prog 85 0 = some 0 := by kernel_rfl
theorem fo85_4 : fieldOff Tryd.prog 85 4 = some 7 := by kernel_rfl
theorem fo87_0 : fieldOff Tryd.prog 87 0 = some 0 := by kernel_rfl
theorem fo96_0 : fieldOff Tryd.prog 96 0 = some 0 := by kernel_rfl
theorem fo96_1 : fieldOff Tryd.prog 96 1 = some 1 := by kernel_rfl
theorem ia37 : (Tryd.prog.info? 37).map (fun i => (i.zero, i.size, i.bytes)) = some (some (.agg #[.int .i64 0, .int .i64 0, .int .i64 0, .int .i64 0, .int .i64 0, .int .i64 0, .int .i64 0]), 7, 56) := by kernel_rfl
theorem ia87 : (Tryd.prog.info? 87).map (fun i => (i.zero, i.size, i.bytes)) = some (some (.agg #[.int .i64 0, .int .i64 0, .int .i64 0, .int .i64 0]), 4, 32) := by kernel_rfl
theorem ia9 : (Tryd.prog.info? 9).map (fun i => (i.zero, i.size, i.bytes)) = some (some (.string ⟨#[]⟩), 1, 16) := by kernel_rfl
theorem in3 : (Tryd.prog.info? 3).map (fun i => (i.zero, i.size)) = some (some (.int .i64 0), 1) := by kernel_rfl
theorem in37 : (Tryd.prog.info? 37).map (fun i => (i.zero, i.size)) = some (some (.agg #[.int .i64 0, .int .i64 0, .int .i64 0, .int .i64 0, .int .i64 0, .int .i64 0, .int .i64 0]), 7) := by kernel_rfl
theorem in5 : (Tryd.prog.info? 5).map (fun i => (i.zero, i.size)) = some (some (.int .u8 0), 1) := by kernel_rfl
theorem in83 : (Tryd.prog.info? 83).map (fun i => (i.zero, i.size)) = some (some (.agg #[.int .i64 0, .int .i64 0, .int .i64 0]), 3) := by kernel_rfl
theorem in85 : (Tryd.prog.info? 85).map (fun i => (i.zero, i.size)) = some (some (.agg #[.int .i64 0, .int .i64 0, .int .i64 0, .int .i64 0, .int .i64 0, .int .i64 0, .int .i64 0, .int .i64 0, .int .i64 0, .bool false, .int .i64 0, .int .i64 0, .int .i64 0]), 13) := by kernel_rfl
theorem in87 : (Tryd.prog.info? 87).map (fun i => (i.zero, i.size)) = some (some (.agg #[.int .i64 0, .int .i64 0, .int .i64 0, .int .i64 0]), 4) := by kernel_rfl
theorem in9 : (Tryd.prog.info? 9).map (fun i => (i.zero, i.size)) = some (some (.string ⟨#[]⟩), 1) := by kernel_rfl
theorem lz88 : (Tryd.prog.info? 96).bind (·.zero) = some (.agg #[.nilFunc, .nilFunc]) := by kernel_rfl
theorem mix : Tryd.prog.follows .mixedOrders = true := by kernel_rfl
theorem sh22 : shapeOf Tryd.prog 22 = some (false, 1) := by kernel_rfl
theorem sh23 : shapeOf Tryd.prog 23 = some (false, 1) := by kernel_rfl
theorem sh3 : shapeOf Tryd.prog 3 = some (false, 1) := by kernel_rfl
theorem sh35 : shapeOf Tryd.prog 35 = some (true, 2) := by kernel_rfl
theorem sh37 : shapeOf Tryd.prog 37 = some (true, 7) := by kernel_rfl
theorem sh83 : shapeOf Tryd.prog 83 = some (true, 3) := by kernel_rfl
theorem sh85 : shapeOf Tryd.prog 85 = some (true, 13) := by kernel_rfl
theorem sh9 : shapeOf Tryd.prog 9 = some (false, 1) := by kernel_rfl
theorem sh93 : shapeOf Tryd.prog 93 = some (false, 1) := by kernel_rfl
theorem sh94 : shapeOf Tryd.prog 94 = some (false, 1) := by kernel_rfl
theorem sh96 : shapeOf Tryd.prog 96 = some (true, 2) := by kernel_rfl
theorem ss105 : slSz Tryd.prog 105 = some (9, 1) := by kernel_rfl
theorem ss22 : slSz Tryd.prog 22 = some (85, 13) := by kernel_rfl
theorem ss23 : slSz Tryd.prog 23 = some (87, 4) := by kernel_rfl
theorem ss29 : slSz Tryd.prog 29 = some (37, 7) := by kernel_rfl
theorem ss39 : slSz Tryd.prog 39 = some (83, 3) := by kernel_rfl
theorem ss50 : slSz Tryd.prog 50 = some (5, 1) := by kernel_rfl
theorem ss61 : slSz Tryd.prog 61 = some (3, 1) := by kernel_rfl
theorem sz37 : (Tryd.prog.info? 37).map (·.size) = some 7 := by kernel_rfl
theorem sz83 : (Tryd.prog.info? 83).map (·.size) = some 3 := by kernel_rfl
theorem sz85 : (Tryd.prog.info? 85).map (·.size) = some 13 := by kernel_rfl
theorem sz93 : (Tryd.prog.info? 93).map (·.size) = some 1 := by kernel_rfl
theorem sz96 : (Tryd.prog.info? 96).map (·.size) = some 2 := by kernel_rfl
theorem u105 : Tryd.prog.underlying 105 = some (.slice 9) := by kernel_rfl
theorem u22 : Tryd.prog.underlying 22 = some (.slice 85) := by kernel_rfl
theorem u23 : Tryd.prog.underlying 23 = some (.slice 87) := by kernel_rfl
theorem u29 : Tryd.prog.underlying 29 = some (.slice 37) := by kernel_rfl
theorem u39 : Tryd.prog.underlying 39 = some (.slice 83) := by kernel_rfl
theorem u5 : Tryd.prog.underlying 5 = some (.int .u8) := by kernel_rfl
theorem u50 : Tryd.prog.underlying 50 = some (.slice 5) := by kernel_rfl
theorem u61 : Tryd.prog.underlying 61 = some (.slice 3) := by kernel_rfl
theorem u88 : Tryd.prog.underlying 88 = some (.map 3 96) := by kernel_rfl
theorem u9 : Tryd.prog.underlying 9 = some (.string) := by kernel_rfl
theorem uk88 : Tryd.prog.underlying 3 = some (.int .i64) := by kernel_rfl
theorem us3 : (Tryd.prog.underlying 3).isSome = true := by kernel_rfl
theorem zr37 : (Tryd.prog.info? 37).bind (·.zero) = some (.agg #[.int .i64 0, .int .i64 0, .int .i64 0, .int .i64 0, .int .i64 0, .int .i64 0, .int .i64 0]) := by kernel_rfl
theorem zr83 : (Tryd.prog.info? 83).bind (·.zero) = some (.agg #[.int .i64 0, .int .i64 0, .int .i64 0]) := by kernel_rfl
theorem zr85 : (Tryd.prog.info? 85).bind (·.zero) = some (.agg #[.int .i64 0, .int .i64 0, .int .i64 0, .int .i64 0, .int .i64 0, .int .i64 0, .int .i64 0, .int .i64 0, .int .i64 0, .bool false, .int .i64 0, .int .i64 0, .int .i64 0]) := by kernel_rfl
theorem zr92 : (Tryd.prog.info? 92).bind (·.zero) = some (.agg #[.pointer none, .slice none 0 0]) := by kernel_rfl
theorem zr93 : (Tryd.prog.info? 93).bind (·.zero) = some (.nilFunc) := by kernel_rfl
theorem zr96 : (Tryd.prog.info? 96).bind (·.zero) = some (.agg #[.nilFunc, .nilFunc]) := by kernel_rfl
end Go.Proofs.YtflmncjhonmmhaaDoor.Vn
