/- Plain laws: how near; between. -/
import Derived.Test.YtlppoapbkmbipaaDoorPureD
namespace Go.Proofs.YtlppoapbkmbipaaDoor.Pure
open Go Ga
set_option linter.unusedVariables false
set_option linter.unusedSimpArgs false
theorem size_eq {n : Int} (h : -9223372036854775807 ≤ n ∧ n ≤ 9223372036854775807) : echelonlaw01_size n = some (ab n) := by
  unfold echelonlaw01_size ab
  simp only [decide_eq_true_eq]
  split
  · rw [W_id (by constructor <;> omega)]; congr 1; omega
  · rfl
theorem B_in {n : Int} (h : -2147483647 < B n ∧ B n < 2147483647) : B n = n := by
  revert h
  unfold B
  repeat' split
  all_goals omega
theorem rnd_near {n d : Int} (hd : 0 < d) : -d ≤ 2 * (rnd n d * d) - 2 * n ∧ 2 * (rnd n d * d) - 2 * n ≤ d := by
  have key : ∀ k : Int, -d ≤ 2 * ((2 * k + d) / (2 * d) * d) - 2 * k ∧ 2 * ((2 * k + d) / (2 * d) * d) - 2 * k ≤ d := by
    intro k
    have h1 := Int.emod_add_mul_ediv (2 * k + d) (2 * d)
    have h2 := Int.emod_nonneg (2 * k + d) (show 2 * d ≠ 0 by omega)
    have h3 := Int.emod_lt_of_pos (2 * k + d) (show 0 < 2 * d by omega)
    have h4 : 2 * d * ((2 * k + d) / (2 * d)) = 2 * ((2 * k + d) / (2 * d) * d) := by rw [Int.mul_assoc, Int.mul_comm d]
    omega
  unfold rnd
  split
  · have := key (-n)
    rw [Int.neg_mul]
    omega
  · exact key n
theorem nearMul {x y : Int} (hx : In x) (hy : In y) : ((echelonlaw01_inside (B (rnd (x * y) 256))).bind fun x31 => if !x31 then some true else (echelonlaw01_size (W ((W (256 * (B (rnd (x * y) 256)))) - (W (x * y))))).bind fun x35 => some (decide (x35 ≤ 128))) = some true := by
  have hp := prodB hx hy
  generalize x * y = n at *
  rw [inside_eq]
  simp only [Option.bind_some]
  split
  · rfl
  · rename_i hin
    simp at hin
    have he : B (rnd n 256) = rnd n 256 := B_in (by omega)
    rw [he] at hin ⊢
    have hb := rnd_near (n := n) (d := 256) (by decide)
    rw [W_id (x := 256 * rnd n 256) (by constructor <;> omega), W_id (x := n) (by constructor <;> omega), W_id (by constructor <;> omega), size_eq (by omega)]
    simp only [Option.bind_some]
    congr 1
    unfold ab
    simp
    split <;> omega
theorem nearDiv {x y : Int} (hx : In x) (hy : In y) (h0 : y ≠ 0) : ((echelonlaw01_inside (dv x y)).bind fun x54 => if !x54 then some true else (echelonlaw01_size (W ((W (dv x y * y)) - (W (256 * x))))).bind fun x58 => (echelonlaw01_size y).bind fun x61 => (some (decide ((W (2 * x58)) ≤ x61))).bind fun (x64 : Bool) => some x64) = some true := by
  rw [inside_eq]
  simp only [Option.bind_some]
  split
  · rfl
  · rename_i hin
    simp at hin
    have hq : In (dv x y) := by constructor <;> omega
    have hp := prodB hq hy
    have hbd : 2 * ab (dv x y * y - 256 * x) ≤ ab y := by
      unfold dv at hin ⊢
      split
      · rename_i hneg
        simp only [hneg, if_true] at hin
        have he : B (rnd (-x * 256) (-y)) = rnd (-x * 256) (-y) := B_in (by omega)
        have hb := rnd_near (n := -x * 256) (d := -y) (by omega)
        rw [he]
        rw [Int.mul_neg] at hb
        unfold ab
        split <;> omega
      · rename_i hneg
        simp only [hneg, if_false] at hin
        have he : B (rnd (x * 256) y) = rnd (x * 256) y := B_in (by omega)
        have hb := rnd_near (n := x * 256) (d := y) (by omega)
        rw [he]
        unfold ab
        split <;> omega
    have hy2 : ab y ≤ 2147483647 := by unfold ab; split <;> omega
    have h9 : 0 ≤ ab (dv x y * y - 256 * x) := by unfold ab; split <;> omega
    rw [W_id (x := dv x y * y) (by constructor <;> omega), W_id (x := 256 * x) (by constructor <;> omega), W_id (by constructor <;> omega), size_eq (by omega), size_eq (by omega)]
    simp only [Option.bind_some]
    rw [W_id (by constructor <;> omega)]
    simp [hbd]
theorem FixedNear (a b : Int) (ha : I64 a) (hb : I64 b) : echelonlaw01_FixedNear a b = some true := by
  have h1 := B_le a; have h2 := B_le b
  simp only [echelonlaw01_FixedNear, awake, Bound, Div, Mul, Option.bind_some, B_B]
  have hr : ∃ x, fixed_Root (B a) = some x ∧ ((if x.2 == 0 then if decide (x.1 ≥ 0) then if decide ((W (x.1 * x.1)) ≤ (W (256 * B a))) then (some (decide ((W ((W (x.1 + 1)) * (W (x.1 + 1)))) > (W (256 * B a))))).bind fun (x88 : Bool) => some x88 else some false else some false else some false).bind fun (y79 : Bool) => (if decide (B a < 0) then some ((x.2 == 11) && (x.1 == 0)) else some y79)) = some true := by
    by_cases hneg : B a < 0
    · refine ⟨_, RootNeg (B a) (by rw [B_B]; exact hneg), ?_⟩
      simp [hneg]
    · obtain ⟨r, hr, ⟨h3, h4, h5⟩, h6⟩ := Root (B a) (by rw [B_B]; omega)
      rw [B_B] at h4 h5
      refine ⟨_, hr, ?_⟩
      have h7 := prod_le (m := 1048577) (k := 1048577) (x := r + 1) (y := r + 1) (by omega) (by omega)
      have h8 := prod_le (m := 1048577) (k := 1048577) (x := r) (y := r) (by omega) (by omega)
      rw [W_id (x := r * r) (by constructor <;> omega), W_id (x := 256 * B a) (by constructor <;> omega), W_id (x := r + 1) (by constructor <;> omega), W_id (x := (r + 1) * (r + 1)) (by constructor <;> omega)]
      simp [hneg, h3, h4, h5]
  obtain ⟨xr, hr, hr2⟩ := hr
  generalize hx : B a = x at *
  generalize hy : B b = y at *
  rw [hr]
  have hm := nearMul h1 h2
  simp only [Option.bind_some] at hm hr2 ⊢
  rw [hm]
  simp only [Option.bind_some]
  by_cases h0 : y = 0
  · simp only [h0, if_true, show ((10 : Int) == 0) = false by rfl, Bool.false_eq_true, if_false, Option.bind_some, beq_self_eq_true, Bool.and_self]
    rw [← Option.bind_assoc, hr2]
    rfl
  · have hd := nearDiv h1 h2 h0
    simp only [Option.bind_some] at hd
    simp only [h0, if_false, beq_self_eq_true, if_true]
    rw [hd]
    have : (y == 0) = false := by simp [h0]
    simp only [Option.bind_some, this, Bool.false_eq_true, if_false]
    rw [← Option.bind_assoc, hr2]
    rfl
theorem cl_mono {t u : Int} (h : t ≤ u) : cl t ≤ cl u := by unfold cl; repeat' split
                                                            all_goals omega
theorem rnd0 : rnd 0 256 = 0 := by decide
theorem FixedBetween (a b t u : Int) (ha : I64 a) (hb : I64 b) (ht : I64 t) (hu : I64 u) : echelonlaw01_FixedBetween a b t u = some true := by
  have h1 := B_le a; have h2 := B_le b
  have hsw : ∃ p : Int × Int, (if decide (t > u) then some (u, t) else some (t, u)) = some p ∧ p.1 ≤ p.2 ∧ I64 p.1 ∧ I64 p.2 := by
    by_cases h : t > u
    · exact ⟨(u, t), by simp [h], by simp only; omega, hu, ht⟩
    · exact ⟨(t, u), by simp [h], by simp only; omega, ht, hu⟩
  obtain ⟨⟨p, q⟩, hs, hpq, hp, hq⟩ := hsw
  simp only [echelonlaw01_FixedBetween, awake, Bound, Clamp, hs, Option.bind_some, B_B, Blend _ _ _ hp, Blend _ _ _ hq, Blend _ _ 0 (by decide), Blend _ _ 256 (by decide)]
  simp only at hpq hp hq
  generalize B a = x at *
  generalize B b = y at *
  have c0 := cl_le p; have c1 := cl_le q; have c2 := cl_mono hpq
  have hz : cl 0 = 0 := by decide
  have h256 : cl 256 = 256 := by decide
  simp only [B_id h1, B_id h2, hz, h256, Int.mul_zero, rnd0, rnd256, Int.add_zero, show x + (y - x) = y by omega, beq_self_eq_true, if_true, Option.bind_some]
  have hw : (if decide (x > y) = true then some (decide (x ≥ x + rnd ((y - x) * cl p) 256) && (decide (x + rnd ((y - x) * cl p) 256 ≥ x + rnd ((y - x) * cl q) 256) && decide (x + rnd ((y - x) * cl q) 256 ≥ y)))
      else some (decide (x ≤ x + rnd ((y - x) * cl p) 256) && (decide (x + rnd ((y - x) * cl p) 256 ≤ x + rnd ((y - x) * cl q) 256) && decide (x + rnd ((y - x) * cl q) 256 ≤ y)))) = some true := by
    by_cases hxy : x > y
    · have e1 := rnd256_mono (Int.mul_le_mul_of_nonpos_left (a := y - x) (by omega) c2)
      have e2 := rnd256_mono (Int.mul_le_mul_of_nonpos_left (a := y - x) (by omega) c0.1)
      have e3 := rnd256_mono (Int.mul_le_mul_of_nonpos_left (a := y - x) (by omega) c1.2)
      rw [Int.mul_zero, rnd0] at e2
      rw [rnd256] at e3
      simp [hxy]
      omega
    · have e1 := rnd256_mono (Int.mul_le_mul_of_nonneg_left (c := y - x) c2 (by omega))
      have e2 := rnd256_mono (Int.mul_le_mul_of_nonneg_left (c := y - x) c0.1 (by omega))
      have e3 := rnd256_mono (Int.mul_le_mul_of_nonneg_left (c := y - x) c1.2 (by omega))
      rw [Int.mul_zero, rnd0] at e2
      rw [rnd256] at e3
      simp [hxy]
      omega
  rw [hw]
  simp only [Option.bind_some]
  have hP := B_le p
  generalize B p = s at *
  have hc : In (clamp s x y) := by unfold clamp imin imax; repeat' split
                                   all_goals constructor <;> omega
  rw [B_id hc]
  have hcc : clamp (clamp s x y) x y = clamp s x y := by
    unfold clamp imin imax; repeat' split
    all_goals omega
  simp only [hcc, beq_self_eq_true, if_true, Bool.true_and, Bool.and_true]
  by_cases hxy : x > y
  · have : clamp s x y = y := by
      unfold clamp imin imax; repeat' split
      all_goals omega
    simp [hxy, this]
  · have : x ≤ clamp s x y ∧ clamp s x y ≤ y := by
      unfold clamp imin imax; repeat' split
      all_goals omega
    simp [hxy, this]
end Go.Proofs.YtlppoapbkmbipaaDoor.Pure
