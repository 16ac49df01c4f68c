/- Plain laws: the examples that every law begins with. -/
import Derived.Test.YtlppoapbkmbipaaDoorPureA
namespace Go.Proofs.YtlppoapbkmbipaaDoor.Pure
open Go Ga
set_option linter.unusedVariables false
set_option linter.unusedSimpArgs false
theorem root512 : fixed_Root 512 = some (362, 0) := by
  unfold fixed_Root
  rw [Bound]
  have hb : B 512 = 512 := by decide
  simp only [Option.bind_some, hb]
  rw [show decide (W (512 * 256) < 0) = false by decide +kernel]
  simp only [Bool.false_eq_true, if_false]
  rw [(Loop.run_iff (b := (362 : Int))).2 ⟨30, by decide +kernel⟩]
  rfl
theorem dec1 : fixed_decimal [49] = some (1, true) := by
  unfold fixed_decimal
  rw [(Loop.run_iff (b := (.inl 1 : Int ⊕ (Int × Bool)))).2 ⟨5, by decide +kernel⟩]
  rfl
theorem dec5 : fixed_decimal [53, 48, 48, 48, 48, 48, 48, 48] = some (50000000, true) := by
  unfold fixed_decimal
  rw [(Loop.run_iff (b := (.inl 50000000 : Int ⊕ (Int × Bool)))).2 ⟨10, by decide +kernel⟩]
  rfl
theorem itoa0 : lib_Itoa 0 = some [48] := by decide +kernel
theorem print_1 : fixed_Print (-1) = some [45, 48, 46, 48, 48, 51, 57, 48, 54, 50, 53] := by
  unfold fixed_Print fixed_Abs fixed_size
  rw [Bound]
  decide +kernel
theorem print384 : fixed_Print 384 = some [49, 46, 53] := by
  unfold fixed_Print fixed_Abs fixed_size
  rw [Bound]
  decide +kernel
theorem parse15 : fixed_Parse [49, 46, 53] = some (384, 0) := by
  unfold fixed_Parse
  rw [show lib_CutPrefix [49, 46, 53] [45] = some ([49, 46, 53], false) by decide +kernel]
  simp only [Option.bind_some]
  rw [show lib_Cut [49, 46, 53] [46] = some ([49], [53], true) by decide +kernel]
  simp only [Option.bind_some]
  rw [show lib_Repeat [48] (W (8 - (([53] : Str).length : Int))) = some [48, 48, 48, 48, 48, 48, 48] by decide +kernel]
  simp only [Option.bind_some, dec1]
  rw [show cat [53] [48, 48, 48, 48, 48, 48, 48] = some [53, 48, 48, 48, 48, 48, 48, 48] by decide +kernel]
  simp only [Option.bind_some, dec5]
  rw [show W (W (1 * 256) + W (Int.tdiv 50000000 390625)) = 384 by decide +kernel]
  simp only [Bound, print384]
  decide +kernel
theorem awake : echelonlaw01_awake = some true := by
  unfold echelonlaw01_awake
  rw [root512, parse15, print_1]
  unfold fixed_Div fixed_Of fixed_Whole fixed_Add fixed_Sub fixed_Mul fixed_Abs fixed_Clamp fixed_Blend fixed_size fixed_rounded fixed_size
  simp only [Bound]
  decide +kernel
end Go.Proofs.YtlppoapbkmbipaaDoor.Pure
