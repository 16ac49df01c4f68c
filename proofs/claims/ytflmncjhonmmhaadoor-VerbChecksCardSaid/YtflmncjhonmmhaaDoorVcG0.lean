/- Walks of functions, written by my program g2.py out of Lean's print. -/
import Derived.Test.YtflmncjhonmmhaaDoorProg
import Derived.Test.YtflmncjhonmmhaaDoorVcAdp
namespace Go.Proofs.YtflmncjhonmmhaaDoor.Vc
open Go
set_option linter.unusedVariables false
set_option linter.unusedSimpArgs false
set_option maxRecDepth 4000
set_option maxHeartbeats 4000000
abbrev vfn (n : Nat) : Value := .func (.func n) #[] #[]
theorem al81 : ((Tryd.prog.info? 81).bind (·.zero)).map (·.cells) = some ((encI .i64).flat (List.replicate 3 (0 : Int))).toArray := by kernel_rfl
theorem ar122 : arSz Tryd.prog 122 = some (7, 1) := by kernel_rfl
theorem ar123 : arSz Tryd.prog 123 = some (7, 1) := by kernel_rfl
theorem ar81 : arSz Tryd.prog 81 = some (3, 1) := by kernel_rfl
theorem bd0 (a0 : Str) (a1 : Int) (a2 : Int) : Tryd.prog.built 77 [(0, vS a0), (1, .int .i64 a1), (2, .int .i64 a2)] = some #[vS a0, .int .i64 a1, .int .i64 a2] := by kernel_rfl
theorem bd1 (a0 : Str) (p1 : Option Addr) (n1 c1 : Nat) : Tryd.prog.built 116 [(0, vS a0), (1, .slice p1 n1 c1)] = some #[vS a0, .slice p1 n1 c1] := by kernel_rfl
theorem bd10 (a0 : Int) (a1 : Int) : Tryd.prog.built 66 [(0, .int .i64 a0), (1, .int .i64 a1)] = some #[.int .i64 a0, .int .i64 a1, .int .i64 0, .int .i64 0] := by kernel_rfl
theorem bd2 (a0 : Str) : Tryd.prog.built 116 [(0, vS a0)] = some #[vS a0, .slice none 0 0] := by kernel_rfl
theorem bd3 (a0 : Str) (a1 : Int) : Tryd.prog.built 77 [(0, vS a0), (2, .int .i64 a1)] = some #[vS a0, .int .i64 0, .int .i64 a1] := by kernel_rfl
theorem bd4  : Tryd.prog.built 116 [] = some #[vS [], .slice none 0 0] := by kernel_rfl
theorem bd5 (a0 : Int) (a1 : Int) (a2 : Int) : Tryd.prog.built 81 [(0, .int .i64 a0), (1, .int .i64 a1), (2, .int .i64 a2)] = some #[.int .i64 a0, .int .i64 a1, .int .i64 a2] := by kernel_rfl
theorem bd6 (a0 : Int) : Tryd.prog.built 66 [(0, .int .i64 a0)] = some #[.int .i64 a0, .int .i64 0, .int .i64 0, .int .i64 0] := by kernel_rfl
theorem bd7  : Tryd.prog.built 66 [] = some #[.int .i64 0, .int .i64 0, .int .i64 0, .int .i64 0] := by kernel_rfl
theorem bd8 (p0 : Option Addr) (p1 : Option Addr) (p2 : Option Addr) : Tryd.prog.built 121 [(0, .pointer p0), (1, .pointer p1), (2, .pointer p2)] = some #[.pointer p0, .pointer p1, .pointer p2] := by kernel_rfl
theorem bd9 (a0 : Int) (a1 : Int) (a2 : Int) : Tryd.prog.built 66 [(0, .int .i64 a0), (1, .int .i64 a1), (2, .int .i64 a2)] = some #[.int .i64 a0, .int .i64 a1, .int .i64 a2, .int .i64 0] := by kernel_rfl
theorem cf112 : Callable Tryd.prog 112 := ⟨⟨_, Tryd.func112, rfl, by decide⟩⟩
theorem cf113 : Callable Tryd.prog 113 := ⟨⟨_, Tryd.func113, rfl, by decide⟩⟩
theorem cf114 : Callable Tryd.prog 114 := ⟨⟨_, Tryd.func114, rfl, by decide⟩⟩
theorem cf115 : Callable Tryd.prog 115 := ⟨⟨_, Tryd.func115, rfl, by decide⟩⟩
theorem cf116 : Callable Tryd.prog 116 := ⟨⟨_, Tryd.func116, rfl, by decide⟩⟩
theorem cf117 : Callable Tryd.prog 117 := ⟨⟨_, Tryd.func117, rfl, by decide⟩⟩
theorem cf35 : Callable Tryd.prog 35 := ⟨⟨_, Tryd.func35, rfl, by decide⟩⟩
theorem cf36 : Callable Tryd.prog 36 := ⟨⟨_, Tryd.func36, rfl, by decide⟩⟩
theorem cf37 : Callable Tryd.prog 37 := ⟨⟨_, Tryd.func37, rfl, by decide⟩⟩
theorem cf38 : Callable Tryd.prog 38 := ⟨⟨_, Tryd.func38, rfl, by decide⟩⟩
theorem cf40 : Callable Tryd.prog 40 := ⟨⟨_, Tryd.func40, rfl, by decide⟩⟩
theorem cf43 : Callable Tryd.prog 43 := ⟨⟨_, Tryd.func43, rfl, by decide⟩⟩
theorem cf45 : Callable Tryd.prog 45 := ⟨⟨_, Tryd.func45, rfl, by decide⟩⟩
theorem cf47 : Callable Tryd.prog 47 := ⟨⟨_, Tryd.func47, rfl, by decide⟩⟩
theorem cf52 : Callable Tryd.prog 52 := ⟨⟨_, Tryd.func52, rfl, by decide⟩⟩
theorem cf62 : Callable Tryd.prog 62 := ⟨⟨_, Tryd.func62, rfl, by decide⟩⟩
theorem cf63 : Callable Tryd.prog 63 := ⟨⟨_, Tryd.func63, rfl, by decide⟩⟩
theorem cf65 : Callable Tryd.prog 65 := ⟨⟨_, Tryd.func65, rfl, by decide⟩⟩
theorem cf66 : Callable Tryd.prog 66 := ⟨⟨_, Tryd.func66, rfl, by decide⟩⟩
theorem cf95 : Callable Tryd.prog 95 := ⟨⟨_, Tryd.func95, rfl, by decide⟩⟩
theorem eg66 : Tryd.prog.eqGuardType Tryd.prog.depth 66 = false := by kernel_rfl
theorem eq66 (a0 b0 : Int) (a1 b1 : Int) (a2 b2 : Int) (a3 b3 : Int) : eqT Tryd.prog 10000 66 (.agg #[.int .i64 a0, .int .i64 a1, .int .i64 a2, .int .i64 a3]) (.agg #[.int .i64 b0, .int .i64 b1, .int .i64 b2, .int .i64 b3]) = some ((a0 == b0) && ((a1 == b1) && ((a2 == b2) && ((a3 == b3) && true)))) := by kernel_rfl
theorem fo116_0 : fieldOff Tryd.prog 116 0 = some 0 := by kernel_rfl
theorem fo116_1 : fieldOff Tryd.prog 116 1 = some 1 := by kernel_rfl
theorem fo66_0 : fieldOff Tryd.prog 66 0 = some 0 := by kernel_rfl
theorem fo66_1 : fieldOff Tryd.prog 66 1 = some 1 := by kernel_rfl
theorem fo66_2 : fieldOff Tryd.prog 66 2 = some 2 := by kernel_rfl
theorem fo66_3 : fieldOff Tryd.prog 66 3 = some 3 := by kernel_rfl
theorem fo77_1 : fieldOff Tryd.prog 77 1 = some 1 := by kernel_rfl
theorem fo77_2 : fieldOff Tryd.prog 77 2 = some 2 := by kernel_rfl
theorem ia77 : (Tryd.prog.info? 77).map (fun i => (i.zero, i.size, i.bytes)) = some (some (.agg #[.string ⟨#[]⟩, .int .i64 0, .int .i64 0]), 3, 32) := by kernel_rfl
theorem in77 : (Tryd.prog.info? 77).map (fun i => (i.zero, i.size)) = some (some (.agg #[.string ⟨#[]⟩, .int .i64 0, .int .i64 0]), 3) := by kernel_rfl
theorem isz120 : (Tryd.prog.info? 120).map (·.size) = some 1 := by kernel_rfl
theorem lz139 : (Tryd.prog.info? 137).bind (·.zero) = some (.nilFunc) := by kernel_rfl
theorem mix : Tryd.prog.follows .mixedOrders = true := by kernel_rfl
theorem sh116 : shapeOf Tryd.prog 116 = some (true, 2) := by kernel_rfl
theorem sh120 : shapeOf Tryd.prog 120 = some (false, 1) := by kernel_rfl
theorem sh3 : shapeOf Tryd.prog 3 = some (false, 1) := by kernel_rfl
theorem sh66 : shapeOf Tryd.prog 66 = some (true, 4) := by kernel_rfl
theorem sh73 : shapeOf Tryd.prog 73 = some (false, 1) := by kernel_rfl
theorem sh77 : shapeOf Tryd.prog 77 = some (true, 3) := by kernel_rfl
theorem sh9 : shapeOf Tryd.prog 9 = some (false, 1) := by kernel_rfl
theorem ss105 : slSz Tryd.prog 105 = some (9, 1) := by kernel_rfl
theorem ss73 : slSz Tryd.prog 73 = some (77, 3) := by kernel_rfl
theorem sz116 : (Tryd.prog.info? 116).map (·.size) = some 2 := by kernel_rfl
theorem sz3 : (Tryd.prog.info? 3).map (·.size) = some 1 := by kernel_rfl
theorem sz66 : (Tryd.prog.info? 66).map (·.size) = some 4 := by kernel_rfl
theorem sz77 : (Tryd.prog.info? 77).map (·.size) = some 3 := by kernel_rfl
theorem sz81 : (Tryd.prog.info? 81).map (·.size) = some 3 := by kernel_rfl
theorem u105 : Tryd.prog.underlying 105 = some (.slice 9) := by kernel_rfl
theorem u121 : Tryd.prog.underlying 121 = some (.array 3 120) := by kernel_rfl
theorem u139 : Tryd.prog.underlying 139 = some (.map 141 137) := by kernel_rfl
theorem u73 : Tryd.prog.underlying 73 = some (.slice 77) := by kernel_rfl
theorem u81 : Tryd.prog.underlying 81 = some (.array 3 3) := by kernel_rfl
theorem ui99 : Tryd.prog.underlying 99 = some (.interface (Tryd.prog.methodsAt 99)) := by kernel_rfl
theorem uk139 : Tryd.prog.underlying 141 = some (.int .i64) := by kernel_rfl
theorem zr116 : (Tryd.prog.info? 116).bind (·.zero) = some (.agg #[.string ⟨#[]⟩, .slice none 0 0]) := by kernel_rfl
theorem zr66 : (Tryd.prog.info? 66).bind (·.zero) = some (.agg #[.int .i64 0, .int .i64 0, .int .i64 0, .int .i64 0]) := by kernel_rfl
theorem zr77 : (Tryd.prog.info? 77).bind (·.zero) = some (.agg #[.string ⟨#[]⟩, .int .i64 0, .int .i64 0]) := by kernel_rfl
end Go.Proofs.YtflmncjhonmmhaaDoor.Vc
