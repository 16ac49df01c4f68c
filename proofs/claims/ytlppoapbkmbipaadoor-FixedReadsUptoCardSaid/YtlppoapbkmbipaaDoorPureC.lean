/- Plain laws: sums, products, quotients, blends. -/
import Derived.Test.YtlppoapbkmbipaaDoorPureB
namespace Go.Proofs.YtlppoapbkmbipaaDoor.Pure
open Go Ga
set_option linter.unusedVariables false
set_option linter.unusedSimpArgs false
abbrev In (x : Int) : Prop := -2147483647 ≤ x ∧ x ≤ 2147483647
theorem prod_le {x y m k : Int} (hx : -m ≤ x ∧ x ≤ m) (hy : -k ≤ y ∧ y ≤ k) : -(m * k) ≤ x * y ∧ x * y ≤ m * k := by
  have h1 : (x * y).natAbs ≤ m.natAbs * k.natAbs := by
    rw [Int.natAbs_mul]
    exact Nat.mul_le_mul (by omega) (by omega)
  have h2 : (m * k).natAbs = m.natAbs * k.natAbs := Int.natAbs_mul ..
  have h3 : 0 ≤ m * k := Int.mul_nonneg (by omega) (by omega)
  omega
theorem prodB {x y : Int} (hx : In x) (hy : In y) : -4611686014132420609 ≤ x * y ∧ x * y ≤ 4611686014132420609 := by
  have := prod_le (m := 2147483647) (k := 2147483647) hx hy
  omega
theorem Add (a b : Int) : fixed_Add a b = some (B (B a + B b)) := by
  have h1 := B_le a; have h2 := B_le b
  simp only [fixed_Add, Bound, Option.bind_some, W_id (show I64 (B a + B b) by constructor <;> omega)]
theorem rAdd (a b : Int) : echelonref01_Add a b = some (B (B a + B b)) := by
  have h1 := B_le a; have h2 := B_le b
  simp only [echelonref01_Add, rBound, Option.bind_some, W_id (show I64 (B a + B b) by constructor <;> omega)]
theorem Sub (a b : Int) : fixed_Sub a b = some (B (B a - B b)) := by
  have h1 := B_le a; have h2 := B_le b
  simp only [fixed_Sub, Bound, Option.bind_some, W_id (show I64 (B a - B b) by constructor <;> omega)]
theorem rSub (a b : Int) : echelonref01_Sub a b = some (B (B a - B b)) := by
  have h1 := B_le a; have h2 := B_le b
  simp only [echelonref01_Sub, rBound, Option.bind_some, W_id (show I64 (B a - B b) by constructor <;> omega)]
theorem Mul (a b : Int) : fixed_Mul a b = some (B (rnd (B a * B b) 256)) := by
  have h := prodB (B_le a) (B_le b)
  simp only [fixed_Mul, Bound, Option.bind_some, W_id (show I64 (B a * B b) by constructor <;> omega)]
  rw [rounded (by decide) (by decide) (by omega) (.inl rfl)]
  rfl
theorem rMul (a b : Int) : echelonref01_Mul a b = some (B (rnd (B a * B b) 256)) := by
  have h := prodB (B_le a) (B_le b)
  simp only [echelonref01_Mul, rBound, Option.bind_some, W_id (show I64 (B a * B b) by constructor <;> omega)]
  rw [near (by decide) (by decide) (by omega)]
  rfl
/-- The quotient, its sign made plain. -/
def dv (x y : Int) : Int := if y < 0 then B (rnd (-x * 256) (-y)) else B (rnd (x * 256) y)
theorem Div (a b : Int) : fixed_Div a b = some (if B b = 0 then (0, 10) else (dv (B a) (B b), 0)) := by
  have h1 := B_le a; have h2 := B_le b
  simp only [fixed_Div, Bound, Option.bind_some, beq_iff_eq, decide_eq_true_eq]
  by_cases h0 : B b = 0
  · simp only [h0, if_true]
  · simp only [h0, if_false]
    unfold dv
    by_cases hn : B b < 0
    · simp only [hn, if_true, Option.bind_some]
      rw [W_id (x := 0 - B a) (by constructor <;> omega), W_id (x := 0 - B b) (by constructor <;> omega), W_id (by constructor <;> omega), rounded (by omega) (by omega) (by omega) (by omega)]
      simp only [Option.bind_some, Int.zero_sub]
    · simp only [hn, if_false, Option.bind_some]
      rw [W_id (by constructor <;> omega), rounded (by omega) (by omega) (by omega) (by omega)]
      rfl
theorem rDiv (a b : Int) : echelonref01_Div a b = some (if B b = 0 then (0, 10) else (dv (B a) (B b), 0)) := by
  have h1 := B_le a; have h2 := B_le b
  simp only [echelonref01_Div, rBound, Option.bind_some, beq_iff_eq, decide_eq_true_eq]
  by_cases h0 : B b = 0
  · simp only [h0, if_true]
  · simp only [h0, if_false]
    unfold dv
    by_cases hn : B b < 0
    · simp only [hn, if_true, Option.bind_some]
      rw [W_id (x := 0 - B a) (by constructor <;> omega), W_id (x := 0 - B b) (by constructor <;> omega), W_id (by constructor <;> omega), near (by omega) (by omega) (by omega)]
      simp only [Option.bind_some, Int.zero_sub, Int.mul_comm]
    · simp only [hn, if_false, Option.bind_some]
      rw [W_id (by constructor <;> omega), near (by omega) (by omega) (by omega), Int.mul_comm]
      rfl
/-- A blend's share: from nought to 256. -/
def cl (t : Int) : Int := if t < 0 then 0 else if t > 256 then 256 else t
theorem cl_le (t : Int) : 0 ≤ cl t ∧ cl t ≤ 256 := by unfold cl; split <;> (try split) <;> omega
theorem rnd_le {n d m : Int} (hd : 0 < d) (h : -(m * d) ≤ n ∧ n ≤ m * d) : -m ≤ rnd n d ∧ rnd n d ≤ m := by
  unfold rnd
  have key : ∀ k : Int, 0 ≤ k → k ≤ m * d → 0 ≤ (2 * k + d) / (2 * d) ∧ (2 * k + d) / (2 * d) ≤ m := by
    intro k h0 h1
    refine ⟨Int.ediv_nonneg (by omega) (by omega), ?_⟩
    have : (2 * k + d) / (2 * d) < m + 1 := Int.ediv_lt_of_lt_mul (by omega) (by
      have e : (m + 1) * (2 * d) = 2 * (m * d) + 2 * d := by rw [Int.add_mul, Int.mul_left_comm]; omega
      omega)
    omega
  split
  · have := key (-n) (by omega) (by omega); omega
  · have := key n (by omega) (by omega); omega
theorem blendIn (x y t : Int) (hx : In x) (hy : In y) : -4294967294 ≤ rnd ((y - x) * cl t) 256 ∧ rnd ((y - x) * cl t) 256 ≤ 4294967294 := by
  have h := cl_le t
  have hp := prod_le (m := 4294967294) (k := 256) (x := y - x) (y := cl t) (by constructor <;> have := hx.1 <;> have := hx.2 <;> have := hy.1 <;> have := hy.2 <;> omega) (by omega)
  exact rnd_le (by decide) hp
theorem Blend (a b t : Int) (ht : I64 t) : fixed_Blend a b t = some (B a + rnd ((B b - B a) * cl t) 256) := by
  have h1 := B_le a; have h2 := B_le b; have h3 := cl_le t; have h4 := blendIn (B a) (B b) t h1 h2
  have hp := prod_le (m := 4294967294) (k := 256) (x := B b - B a) (y := cl t) (by omega) (by omega)
  have hc : imax 0 (imin t 256) = cl t := by unfold imax imin cl; repeat' split
                                             all_goals omega
  simp only [fixed_Blend, Bound, Option.bind_some, hc]
  rw [W_id (x := B b - B a) (by constructor <;> omega), W_id (x := (B b - B a) * cl t) (by constructor <;> omega), rounded (by decide) (by decide) (by omega) (.inl rfl)]
  simp only [Option.bind_some]
  rw [W_id (by constructor <;> omega)]
theorem rBlend (a b t : Int) (ht : I64 t) : echelonref01_Blend a b t = some (B a + rnd ((B b - B a) * cl t) 256) := by
  have h1 := B_le a; have h2 := B_le b; have h3 := cl_le t; have h4 := blendIn (B a) (B b) t h1 h2
  have hp := prod_le (m := 4294967294) (k := 256) (x := B b - B a) (y := cl t) (by omega) (by omega)
  have hc : ((if decide (t < 0) then some 0 else some t).bind fun (y11 : Int) => (if decide (y11 > 256) then some 256 else some y11)) = some (cl t) := by
    unfold cl
    simp only [decide_eq_true_eq]
    split
    · simp
    · simp
      split <;> simp_all
  simp only [echelonref01_Blend, rBound, Option.bind_some]
  rw [← Option.bind_assoc, hc]
  simp only [Option.bind_some]
  rw [W_id (x := B b - B a) (by constructor <;> omega), W_id (x := (B b - B a) * cl t) (by constructor <;> omega), near (by decide) (by decide) (by omega)]
  simp only [Option.bind_some]
  rw [W_id (by constructor <;> omega)]
def clamp (x lo hi : Int) : Int := imin (imax x lo) hi
theorem Clamp (a b c : Int) : fixed_Clamp a b c = some (clamp (B a) (B b) (B c)) := by
  simp only [fixed_Clamp, Bound, Option.bind_some, clamp]
theorem rClamp (a b c : Int) : echelonref01_Clamp a b c = some (clamp (B a) (B b) (B c)) := by
  simp only [echelonref01_Clamp, rBound, Option.bind_some, clamp, imin, imax, decide_eq_true_eq]
  split
  · simp only [Option.bind_some]
    split <;> rfl
  · simp only [Option.bind_some]
    split <;> rfl
theorem FixedWorks (a b : Int) (ha : I64 a) (hb : I64 b) : echelonlaw01_FixedWorks a b = some true := by
  simp only [echelonlaw01_FixedWorks, awake, Div, rDiv, Add, rAdd, Sub, rSub, Mul, rMul, Option.bind_some, beq_self_eq_true, if_true, Bool.and_self]
theorem FixedBlends (a b t : Int) (ha : I64 a) (hb : I64 b) (ht : I64 t) : echelonlaw01_FixedBlends a b t = some true := by
  simp only [echelonlaw01_FixedBlends, awake, Blend a b t ht, rBlend a b t ht, Clamp, rClamp, Option.bind_some, beq_self_eq_true, if_true, Bool.and_self]
end Go.Proofs.YtlppoapbkmbipaaDoor.Pure
