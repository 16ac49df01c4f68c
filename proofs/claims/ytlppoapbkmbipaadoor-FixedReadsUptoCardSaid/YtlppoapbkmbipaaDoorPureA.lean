/- Plain laws of the numbers: what each function comes to. -/
import Derived.Test.YtlppoapbkmbipaaDoorGa
namespace Go.Proofs.YtlppoapbkmbipaaDoor.Pure
open Go Ga
set_option linter.unusedVariables false
set_option linter.unusedSimpArgs false
abbrev I64 (a : Int) : Prop := -9223372036854775808 ≤ a ∧ a ≤ 9223372036854775807
theorem W_id {x : Int} (h : I64 x) : W x = x := by
  simp only [W, IntKind.wrap, IntKind.signed, IntKind.bits]
  have := h.1; have := h.2
  simp
  omega
def B (a : Int) : Int := if a > 2147483647 then 2147483647 else if a < -2147483647 then -2147483647 else a
theorem B_le (a : Int) : -2147483647 ≤ B a ∧ B a ≤ 2147483647 := by unfold B; split <;> (try split) <;> omega
theorem B_id {a : Int} (h : -2147483647 ≤ a ∧ a ≤ 2147483647) : B a = a := by unfold B; split <;> (try split) <;> omega
theorem B_B (a : Int) : B (B a) = B a := B_id (B_le a)
theorem Bound (a : Int) : fixed_Bound a = some (B a) := by
  simp only [fixed_Bound, Option.bind_some, imax, imin, B]
  congr 1
  repeat' split
  all_goals omega
theorem rBound (a : Int) : echelonref01_Bound a = some (B a) := by
  simp only [echelonref01_Bound, B, decide_eq_true_eq]
  repeat' split
  all_goals first | rfl | omega
/-- n by d, the half away from nought. -/
def rnd (n d : Int) : Int := if n < 0 then -((2 * (-n) + d) / (2 * d)) else (2 * n + d) / (2 * d)
theorem half_odd {n d : Int} (hd : 0 < d) (h : d % 2 = 0) : (n + d / 2) / d = (2 * n + d) / (2 * d) := by
  have : 2 * n + d = 2 * (n + d / 2) := by omega
  rw [this, Int.mul_ediv_mul_of_pos _ _ (by omega)]
theorem rounded {n d : Int} (hd : 0 < d) (hd2 : d ≤ 4294967294) (hn : -4611686018427387904 ≤ n ∧ n ≤ 4611686018427387904) (ho : d % 2 = 0 ∨ (-1099511627776 ≤ n ∧ n ≤ 1099511627776)) : fixed_rounded n d = some (rnd n d) := by
  unfold fixed_rounded fixed_size
  have e0 : W (0 - n) = -n := by rw [W_id (by constructor <;> omega)]; omega
  have e1 : imax n (W (0 - n)) = if n < 0 then -n else n := by rw [e0]; unfold imax; split <;> split <;> omega
  rw [e1]
  generalize hm : (if n < 0 then -n else n) = m
  have hm0 : 0 ≤ m ∧ m ≤ 4611686018427387904 := by subst hm; split <;> omega
  have hm1 : d % 2 = 0 ∨ m ≤ 1099511627776 := by subst hm; split <;> omega
  have hq : (2 * m + d) / (2 * d) ≤ 4611686018427387904 + 1 ∧ 0 ≤ (2 * m + d) / (2 * d) := by
    refine ⟨?_, Int.ediv_nonneg (by omega) (by omega)⟩
    have : (2 * m + d) / (2 * d) < 4611686018427387904 + 2 := Int.ediv_lt_of_lt_mul (by omega) (by omega)
    omega
  have e2 : W (Int.tdiv d 2) = d / 2 := by rw [Int.tdiv_eq_ediv_of_nonneg (by omega)]; exact W_id (by constructor <;> omega)
  have e3 : W (m + d / 2) = m + d / 2 := W_id (by constructor <;> omega)
  have hmod : Int.tmod d 2 = d % 2 := Int.tmod_eq_emod_of_nonneg (by omega)
  have hne : (d != 0) = true := by simp; omega
  have e4 : W (Int.tdiv (m + d / 2) d) = (m + d / 2) / d := by
    rw [Int.tdiv_eq_ediv_of_nonneg (by omega)]
    have h1 : 0 ≤ (m + d / 2) / d := Int.ediv_nonneg (by omega) (by omega)
    have h2 : (m + d / 2) / d ≤ m + d / 2 := Int.ediv_le_self _ (by omega)
    exact W_id (by constructor <;> omega)
  have e5 : W (2 * d) = 2 * d := W_id (by constructor <;> omega)
  have hne2 : (2 * d != 0) = true := by simp; omega
  simp only [Option.bind_some, must, hne, if_true, e2, e3, e4, e5, hne2, hmod]
  by_cases h2 : d % 2 = 0
  · have hb : ((d % 2 : Int) == 1) = false := by rw [h2]; rfl
    simp only [hb, Bool.false_eq_true, if_false, Option.bind_some, decide_eq_true_eq]
    rw [half_odd hd h2]
    unfold rnd
    by_cases hneg : n < 0
    · simp only [hneg, if_true] at hm ⊢
      rw [W_id (by constructor <;> omega), ← hm]; congr 1; omega
    · simp only [hneg, if_false] at hm ⊢
      rw [← hm]
  · have hb : ((d % 2 : Int) == 1) = true := by have : d % 2 = 1 := by omega
                                                rw [this]; rfl
    have e6 : W (2 * m) = 2 * m := W_id (by constructor <;> omega)
    have e7 : W (2 * m + d) = 2 * m + d := W_id (by constructor <;> omega)
    have e8 : W (Int.tdiv (2 * m + d) (2 * d)) = (2 * m + d) / (2 * d) := by
      rw [Int.tdiv_eq_ediv_of_nonneg (by omega)]
      exact W_id (by constructor <;> omega)
    simp only [hb, if_true, e6, e7, e8, Option.bind_some, decide_eq_true_eq]
    unfold rnd
    by_cases hneg : n < 0
    · simp only [hneg, if_true] at hm ⊢
      rw [W_id (by constructor <;> omega), ← hm]; congr 1; omega
    · simp only [hneg, if_false] at hm ⊢
      rw [← hm]
theorem near1 (rec : Int → Int → Option Int) {n d : Int} (hd : 0 < d) (hd2 : d ≤ 4294967294) (hn : 0 ≤ n ∧ n ≤ 4611686018427387904) : echelonref01_Near' rec n d = some (rnd n d) := by
  have h0 : ¬ n < 0 := by omega
  have hq0 : 0 ≤ n / d := Int.ediv_nonneg (by omega) (by omega)
  have hq1 : n / d ≤ n := Int.ediv_le_self _ (by omega)
  have hmul : n / d * d = n - n % d := by have := Int.emod_add_mul_ediv n d; rw [Int.mul_comm] at this; omega
  have hr0 := Int.emod_nonneg n (by omega : d ≠ 0)
  have hr1 := Int.emod_lt_of_pos n hd
  have hr3 := Int.mul_nonneg hq0 (by omega : 0 ≤ d)
  have hr2 : n % d ≤ n := by omega
  unfold echelonref01_Near' rnd
  simp only [h0, decide_false, Bool.false_eq_true, if_false]
  have hne : (d != 0) = true := by simp; omega
  have e1 : W (Int.tdiv n d) = n / d := by
    rw [Int.tdiv_eq_ediv_of_nonneg (by omega)]; exact W_id (by constructor <;> omega)
  simp only [must, hne, if_true, Option.bind_some, e1]
  have e2 : W (n / d * d) = n / d * d := W_id (by constructor <;> omega)
  have e3 : W (n - n / d * d) = n % d := by rw [hmul, W_id (by constructor <;> omega)]; omega
  have e4 : W (2 * (n % d)) = 2 * (n % d) := W_id (by constructor <;> omega)
  have e5 : W (n / d + 1) = n / d + 1 := W_id (by constructor <;> omega)
  rw [e2, e3, e4, e5]
  have hrep : 2 * n + d = 2 * (n % d) + d + (n / d) * (2 * d) := by
    have h2 : n / d * (2 * d) = 2 * (n / d * d) := Int.mul_left_comm ..
    rw [h2]
    omega
  rw [hrep, Int.add_mul_ediv_right _ _ (by omega)]
  by_cases hc : 2 * (n % d) ≥ d
  · simp only [hc, decide_true, if_true, Option.bind_some]
    have : (2 * (n % d) + d) / (2 * d) = 1 := by
      rw [Int.ediv_eq_iff_of_pos (by omega)]
      omega
    rw [this]; congr 1; omega
  · simp only [hc, decide_false, Bool.false_eq_true, if_false, Option.bind_some]
    have : (2 * (n % d) + d) / (2 * d) = 0 := Int.ediv_eq_zero_of_lt (by omega) (by omega)
    rw [this]; congr 1; omega
theorem near {n d : Int} (hd : 0 < d) (hd2 : d ≤ 4294967294) (hn : -4611686018427387904 ≤ n ∧ n ≤ 4611686018427387904) : echelonref01_Near n d = some (rnd n d) := by
  unfold echelonref01_Near
  by_cases h0 : n < 0
  · rw [echelonref01_Near']
    simp only [h0, decide_true, if_true]
    have e0 : W (0 - n) = -n := by rw [W_id (by constructor <;> omega)]; omega
    rw [e0, near1 _ hd hd2 (by omega)]
    simp only [Option.bind_some]
    unfold rnd
    have h1 : ¬ (-n < 0) := by omega
    simp only [h0, h1, if_true, if_false]
    have hq : (2 * -n + d) / (2 * d) ≤ 4611686018427387904 + 1 ∧ 0 ≤ (2 * -n + d) / (2 * d) := by
      refine ⟨?_, Int.ediv_nonneg (by omega) (by omega)⟩
      have : (2 * -n + d) / (2 * d) < 4611686018427387904 + 2 := Int.ediv_lt_of_lt_mul (by omega) (by omega)
      omega
    rw [W_id (by constructor <;> omega)]; congr 1; omega
  · exact near1 _ hd hd2 (by omega)
end Go.Proofs.YtlppoapbkmbipaaDoor.Pure
