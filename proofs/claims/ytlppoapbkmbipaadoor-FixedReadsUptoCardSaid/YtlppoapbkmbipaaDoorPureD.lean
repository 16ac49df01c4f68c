/- Plain laws: roots and parts; sums; how near; between. -/
import Derived.Test.YtlppoapbkmbipaaDoorPureC
namespace Go.Proofs.YtlppoapbkmbipaaDoor.Pure
open Go Ga
set_option linter.unusedVariables false
set_option linter.unusedSimpArgs false
theorem sq_le {a b : Int} (h0 : 0 ≤ a) (h : a ≤ b) : a * a ≤ b * b := Int.mul_le_mul h h h0 (by omega)
/-- r is the whole root of n. -/
def isRoot (r n : Int) : Prop := 0 ≤ r ∧ r * r ≤ n ∧ n < (r + 1) * (r + 1)
theorem isRoot.eq {r s n : Int} (h : isRoot r n) (k : isRoot s n) : r = s := by
  obtain ⟨h0, h1, h2⟩ := h
  obtain ⟨k0, k1, k2⟩ := k
  rcases Int.lt_trichotomy r s with hl | he | hg
  · have := sq_le (a := r + 1) (b := s) (by omega) (by omega); omega
  · exact he
  · have := sq_le (a := s + 1) (b := r) (by omega) (by omega); omega
theorem Root (a : Int) (h : 0 ≤ B a) : ∃ r, fixed_Root a = some (r, 0) ∧ isRoot r (256 * B a) ∧ r ≤ 1048576 := by
  have hb := B_le a
  unfold fixed_Root
  have e1 : W (B a * 256) = 256 * B a := by rw [W_id (by constructor <;> omega)]; omega
  have hneg : decide (256 * B a < 0) = false := decide_eq_false (by omega)
  simp only [Bound, Option.bind_some, e1, hneg, Bool.false_eq_true, if_false]
  generalize hn : 256 * B a = n
  have hn0 : 0 ≤ n ∧ n ≤ 549755813632 := by omega
  obtain ⟨r, hr, hr2⟩ := Loop.run_ends (step := fun (s44 : Int × Int) => if decide (s44.1 < s44.2) then (some (W (Int.tdiv (W ((W (s44.1 + s44.2)) + 1)) 2))).bind fun (x51 : Int) => if decide ((W (x51 * x51)) ≤ n) then some (.inl (x51, s44.2)) else some (.inl (s44.1, W (x51 - 1))) else some (.inr s44.1))
    (I := fun s => 0 ≤ s.1 ∧ s.1 ≤ s.2 ∧ s.2 ≤ 1048576 ∧ s.1 * s.1 ≤ n ∧ n < (s.2 + 1) * (s.2 + 1)) (R := fun _ (r : Int) => isRoot r n ∧ r ≤ 1048576) (m := fun s => (s.2 - s.1).toNat) (by
      rintro ⟨lo, hi⟩ ⟨h0, h1, h2, h3, h4⟩
      simp only at h0 h1 h2 h3 h4 ⊢
      by_cases hc : lo < hi
      · right
        have e2 : W (Int.tdiv (W ((W (lo + hi)) + 1)) 2) = (lo + hi + 1) / 2 := by
          rw [W_id (x := lo + hi) (by constructor <;> omega), W_id (x := lo + hi + 1) (by constructor <;> omega), Int.tdiv_eq_ediv_of_nonneg (by omega), W_id (by constructor <;> omega)]
        simp only [hc, decide_true, if_true, Option.bind_some, e2]
        generalize hm : (lo + hi + 1) / 2 = mid
        have hmm : lo < mid ∧ mid ≤ hi := by omega
        have hp := prod_le (m := 1048576) (k := 1048576) (x := mid) (y := mid) (by omega) (by omega)
        rw [W_id (x := mid * mid) (by constructor <;> omega), W_id (x := mid - 1) (by constructor <;> omega)]
        by_cases hq : mid * mid ≤ n
        · simp only [hq, decide_true, if_true]
          exact ⟨_, rfl, ⟨by omega, by omega, by omega, hq, h4⟩, by simp only; omega, fun _ h => h⟩
        · simp only [hq, decide_false, Bool.false_eq_true, if_false]
          refine ⟨_, rfl, ⟨h0, by omega, by omega, h3, ?_⟩, by simp only; omega, fun _ h => h⟩
          have : mid - 1 + 1 = mid := by omega
          simp only [this]
          omega
      · left
        simp only [hc, decide_false, Bool.false_eq_true, if_false]
        have : lo = hi := by omega
        subst this
        exact ⟨_, rfl, ⟨h0, h3, h4⟩, h2⟩) (0, 1048576) ⟨by decide, by decide, by decide, by simp; omega, by simp; omega⟩
  simp only [Option.bind_some] at hr
  rw [hr]
  exact ⟨r, rfl, hr2⟩
theorem RootNeg (a : Int) (h : B a < 0) : fixed_Root a = some (0, 11) := by
  have hb := B_le a
  unfold fixed_Root
  have e1 : W (B a * 256) = B a * 256 := by rw [W_id (by constructor <;> omega)]
  have hneg : decide (B a * 256 < 0) = true := decide_eq_true (by omega)
  simp only [Bound, Option.bind_some, e1, hneg, if_true]
theorem rSquare {n : Int} (hn : 0 ≤ n ∧ n ≤ 9223372036854775807) : ∃ r, echelonref01_Square n = some r ∧ isRoot r n := by
  unfold echelonref01_Square
  obtain ⟨r, hr, hr2⟩ := Loop.run_ends (step := fun (s59 : Int × Int) => if decide (s59.2 > 0) then ((some ((decide ((W (s59.1 + s59.2)) ≤ 3037000499)) && (decide ((W ((W (s59.1 + s59.2)) * (W (s59.1 + s59.2)))) ≤ n)))).bind fun (y73 : Bool) => if y73 then some (W (s59.1 + s59.2)) else some s59.1).bind fun (y66 : Int) => some (.inl (y66, W (Int.tdiv s59.2 2))) else some (.inr s59.1))
    (I := fun s => 0 ≤ s.1 ∧ s.1 ≤ 3037000499 ∧ s.1 * s.1 ≤ n ∧ ((s.2 = 0 ∧ n < (s.1 + 1) * (s.1 + 1)) ∨ ∃ k : Nat, k < 32 ∧ s.2 = 2 ^ k ∧ n < (s.1 + 2 * s.2) * (s.1 + 2 * s.2))) (R := fun _ (r : Int) => isRoot r n) (m := fun s => s.2.toNat) (by
      rintro ⟨root, bit⟩ ⟨h0, h1, h2, h3⟩
      simp only at h0 h1 h2 h3 ⊢
      rcases h3 with ⟨rfl, h3⟩ | ⟨k, hk, rfl, h3⟩
      · left
        simp only [show ((0 : Int) > 0) = False by simp, decide_false, Bool.false_eq_true, if_false]
        exact ⟨_, rfl, h0, h2, h3⟩
      · right
        have hpos : (0 : Int) < 2 ^ k := Int.pow_pos (by decide)
        have hle : (2 : Int) ^ k ≤ 2147483648 := by
          have : (2 : Nat) ^ k ≤ 2 ^ 31 := Nat.pow_le_pow_right (by decide) (by omega)
          have h2 : ((2 ^ k : Nat) : Int) ≤ ((2 ^ 31 : Nat) : Int) := Int.ofNat_le.2 this
          simpa using h2
        generalize hb : (2 : Int) ^ k = b at *
        have hgt : (b > 0) = True := by simp; omega
        simp only [hgt, decide_true, if_true, Option.bind_some]
        rw [W_id (x := root + b) (by constructor <;> omega)]
        have htd : W (Int.tdiv b 2) = b / 2 := by rw [Int.tdiv_eq_ediv_of_nonneg (by omega), W_id (by constructor <;> omega)]
        rw [htd]
        have hnext : (b / 2 = 0 ∧ b = 1) ∨ ∃ j : Nat, j < 32 ∧ b / 2 = 2 ^ j ∧ b = 2 * (b / 2) := by
          cases k with
          | zero => left; simp at hb; omega
          | succ j =>
            right
            refine ⟨j, by omega, ?_, ?_⟩
            · rw [← hb, Int.pow_succ, Int.mul_ediv_cancel _ (by decide)]
            · rw [← hb, Int.pow_succ, Int.mul_ediv_cancel _ (by decide)]; omega
        by_cases hc : root + b ≤ 3037000499
        · have hp := prod_le (m := 3037000499) (k := 3037000499) (x := root + b) (y := root + b) (by omega) (by omega)
          rw [W_id (x := (root + b) * (root + b)) (by constructor <;> omega)]
          simp only [hc, decide_true, Bool.true_and]
          by_cases hq : (root + b) * (root + b) ≤ n
          · simp only [hq, decide_true, if_true, Option.bind_some]
            refine ⟨_, rfl, ⟨by omega, hc, hq, ?_⟩, by simp only; omega, fun _ h => h⟩
            simp only
            rcases hnext with ⟨h5, h6⟩ | ⟨j, hj, h5, h6⟩
            · left
              refine ⟨h5, ?_⟩
              rw [show root + b + 1 = root + 2 * b by omega]; exact h3
            · right
              refine ⟨j, hj, h5, ?_⟩
              rw [show root + b + 2 * (b / 2) = root + 2 * b by omega]; exact h3
          · simp only [hq, decide_false, Bool.false_eq_true, if_false, Option.bind_some]
            refine ⟨_, rfl, ⟨h0, h1, h2, ?_⟩, by simp only; omega, fun _ h => h⟩
            simp only
            rcases hnext with ⟨h5, h6⟩ | ⟨j, hj, h5, h6⟩
            · left
              refine ⟨h5, ?_⟩
              rw [show root + 1 = root + b by omega]; omega
            · right
              refine ⟨j, hj, h5, ?_⟩
              rw [show root + 2 * (b / 2) = root + b by omega]; omega
        · simp only [hc, decide_false, Bool.false_and, Bool.false_eq_true, if_false, Option.bind_some]
          have hq := sq_le (a := 3037000500) (b := root + b) (by decide) (by omega)
          refine ⟨_, rfl, ⟨h0, h1, h2, ?_⟩, by simp only; omega, fun _ h => h⟩
          simp only
          rcases hnext with ⟨h5, h6⟩ | ⟨j, hj, h5, h6⟩
          · left
            refine ⟨h5, ?_⟩
            rw [show root + 1 = root + b by omega]; omega
          · right
            refine ⟨j, hj, h5, ?_⟩
            rw [show root + 2 * (b / 2) = root + b by omega]; omega) (0, 2147483648) ⟨by decide, by decide, by simp; omega, .inr ⟨31, by decide, by decide, by simp; omega⟩⟩
  rw [hr]
  exact ⟨r, rfl, hr2⟩
theorem rRoot (a : Int) : echelonref01_Root a = fixed_Root a := by
  have hb := B_le a
  unfold echelonref01_Root
  simp only [rBound, Option.bind_some]
  by_cases h : B a < 0
  · simp only [h, decide_true, if_true]
    exact (RootNeg a h).symm
  · simp only [h, decide_false, Bool.false_eq_true, if_false]
    obtain ⟨r, h1, h2, _⟩ := Root a (by omega)
    rw [W_id (x := 256 * B a) (by constructor <;> omega)]
    obtain ⟨s, h3, h4⟩ := rSquare (n := 256 * B a) (by omega)
    rw [h1, h3, h4.eq h2]
    rfl
theorem rootEnds (a : Int) : ∃ x, fixed_Root a = some x := by
  by_cases h : B a < 0
  · exact ⟨_, RootNeg a h⟩
  · obtain ⟨r, h1, _⟩ := Root a (by omega); exact ⟨_, h1⟩
theorem Of (a : Int) : fixed_Of a = some (B (B a * 256)) := by
  have hb := B_le a
  simp only [fixed_Of, Bound, Option.bind_some, W_id (show I64 (B a * 256) by constructor <;> omega)]
theorem rOf (a : Int) : echelonref01_Of a = some (B (B a * 256)) := by
  simp only [echelonref01_Of, rBound, Option.bind_some, decide_eq_true_eq]
  by_cases h1 : a > 2147483647
  · simp only [h1, if_true]; congr 1; unfold B; repeat' split
    all_goals omega
  · by_cases h2 : a < -2147483647
    · simp only [h1, h2, if_true, if_false]; congr 1; unfold B; repeat' split
      all_goals omega
    · simp only [h1, h2, if_false]
      rw [W_id (by constructor <;> omega), B_id (a := a) (by omega), Int.mul_comm]
theorem Whole (a : Int) : fixed_Whole a = some (B a / 256) := by
  simp only [fixed_Whole, Bound, Option.bind_some, ishr]
  congr 1
  exact Int.fdiv_eq_ediv_of_nonneg _ (by decide)
theorem rWhole (a : Int) : echelonref01_Whole a = some (B a / 256) := by
  have hb := B_le a
  simp only [echelonref01_Whole, rBound, Option.bind_some]
  have ht : Int.tdiv (B a) 256 = if B a < 0 then -((-B a) / 256) else B a / 256 := by
    split
    · have : B a = -(-B a) := by omega
      rw [this, Int.neg_tdiv, Int.tdiv_eq_ediv_of_nonneg (by omega)]; simp
    · exact Int.tdiv_eq_ediv_of_nonneg (by omega)
  rw [ht]
  generalize hq : (if B a < 0 then -((-B a) / 256) else B a / 256) = q
  have hq2 : (B a < 0 ∧ q = -((-B a) / 256)) ∨ (0 ≤ B a ∧ q = B a / 256) := by subst hq; split <;> omega
  rw [W_id (x := q) (by constructor <;> omega), W_id (x := q * 256) (by constructor <;> omega), W_id (x := q - 1) (by constructor <;> omega)]
  by_cases hc : q * 256 > B a
  · simp only [hc, decide_true, if_true, Option.bind_some]; congr 1; omega
  · simp only [hc, decide_false, Bool.false_eq_true, if_false, Option.bind_some]; congr 1; omega
def ab (x : Int) : Int := if x < 0 then -x else x
theorem Abs (a : Int) : fixed_Abs a = some (ab (B a)) := by
  have hb := B_le a
  simp only [fixed_Abs, fixed_size, Bound, Option.bind_some]
  rw [W_id (by constructor <;> omega)]
  congr 1
  unfold imax ab
  split <;> split <;> omega
theorem rAbs (a : Int) : echelonref01_Abs a = some (ab (B a)) := by
  have hb := B_le a
  simp only [echelonref01_Abs, rBound, Option.bind_some, decide_eq_true_eq]
  rw [W_id (by constructor <;> omega)]
  unfold ab
  split
  · congr 1; omega
  · rfl
theorem FixedParts (a : Int) (ha : I64 a) : echelonlaw01_FixedParts a = some true := by
  obtain ⟨x, hx⟩ := rootEnds a
  simp only [echelonlaw01_FixedParts, awake, hx, rRoot, Bound, rBound, Of, rOf, Whole, rWhole, Abs, rAbs, Option.bind_some, beq_self_eq_true, if_true, Bool.and_self]
theorem rnd256 (x : Int) : rnd (x * 256) 256 = x := by unfold rnd; split <;> omega
theorem rnd256_mono {x y : Int} (h : x ≤ y) : rnd x 256 ≤ rnd y 256 := by unfold rnd; split <;> split <;> omega
theorem B_mono {x y : Int} (h : x ≤ y) : B x ≤ B y := by unfold B; repeat' split
                                                         all_goals omega
theorem inside_eq (n : Int) : echelonlaw01_inside n = some (decide (n > -2147483647) && decide (n < 2147483647)) := rfl
theorem FixedSums (a b c : Int) (ha : I64 a) (hb : I64 b) (hc : I64 c) : echelonlaw01_FixedSums a b c = some true := by
  have h1 := B_le a; have h2 := B_le b; have h3 := B_le c
  simp only [echelonlaw01_FixedSums, awake, Bound, Div, Add, Sub, Mul, Option.bind_some, B_B, inside_eq]
  generalize B a = x at *
  generalize B b = y at *
  generalize B c = z at *
  have e256 : B 256 = 256 := by decide
  simp only [e256, show ((256 : Int) = 0) = False by simp, if_false, B_id h1, B_id h2, B_id h3, B_B]
  have ed : dv x 256 = x := by unfold dv; simp only [show ¬ (256 : Int) < 0 by decide, if_false, rnd256]; exact B_id h1
  rw [Int.add_comm y x, Int.mul_comm y x, rnd256, B_id h1, ed]
  have hs := B_le (x + y)
  simp only [beq_self_eq_true, if_true, Option.bind_some, Bool.and_self, Bool.true_and]
  have hback : ((if (!(decide (B (x + y) > -2147483647) && decide (B (x + y) < 2147483647))) = true then some true else some (B (B (x + y) - y) == x)) : Option Bool) = some true := by
    split
    · rfl
    · rename_i hin
      simp at hin
      have : B (x + y) = x + y := by revert hin; unfold B; repeat' split
                                     all_goals omega
      rw [this, show x + y - y = x by omega, B_id h1]
      simp
  rw [hback]
  simp only [Option.bind_some]
  by_cases hxy : x > y
  · simp only [hxy, decide_true, if_true, Option.bind_some, hs, h1, ge_iff_le, Bool.and_self]
  · have hle : B (x + z) ≤ B (y + z) := B_mono (by omega)
    simp only [hxy, decide_false, Bool.false_eq_true, if_false, hle, decide_true, if_true]
    by_cases hz : z < 0
    · simp only [hz, decide_true, if_true, Option.bind_some, hs, h1, ge_iff_le, Bool.and_self]
    · have hm : B (rnd (x * z) 256) ≤ B (rnd (y * z) 256) := B_mono (rnd256_mono (Int.mul_le_mul_of_nonneg_right (by omega) (by omega)))
      simp only [hz, decide_false, Bool.false_eq_true, if_false, hm, decide_true, Option.bind_some, hs, h1, ge_iff_le, Bool.and_self]
end Go.Proofs.YtlppoapbkmbipaaDoor.Pure
