/- Plain laws: printing; signs. -/
import Derived.Test.YtlppoapbkmbipaaDoorPureF
namespace Go.Proofs.YtlppoapbkmbipaaDoor.Pure
open Go Ga
set_option linter.unusedVariables false
set_option linter.unusedSimpArgs false
theorem repeat48 (k : Nat) : Lib.repeatL [48] k = List.replicate k 48 := by
  have := Lib.repeatL_replicate 48 1 k
  simpa using this
theorem trim_eq (l : Str) (h : l.length ≤ 100) : lib_TrimRight l [48] = some (Lib.trimRightB l 48) := by
  simp only [lib_TrimRight]
  rw [if_pos]
  exact ⟨by decide, by omega⟩
theorem frac_zero : Lib.trimRightB (dgs 0 8) 48 = [] := by rw [dgs_zero]; decide
theorem ab_nat (x : Int) : ab x = (x.natAbs : Int) := by unfold ab; split <;> omega
theorem cat_eq {x y : Str} (h : x.length + y.length ≤ 1000) : cat x y = some (x ++ y) := by
  unfold cat
  rw [if_pos (by omega)]
theorem dg1_ne (n : Nat) (h : n % 10 ≠ 0) : dg1 n ≠ 48 := by
  intro e
  have h1 := dg1_nat n
  rw [e] at h1
  have h2 : (48 : UInt8).toNat = 48 := rfl
  omega
/-- Digits of a number that is not nought: not all are noughts. -/
theorem frac_ne : ∀ (k n : Nat), 0 < n → n < 10 ^ k → Lib.trimRightB (dgs n k) 48 ≠ []
  | 0, n, h0, h => by simp at h; omega
  | k + 1, n, h0, h => by
    rw [dgs_step (by omega), Nat.add_sub_cancel]
    unfold Lib.trimRightB
    simp only [List.reverse_append, List.reverse_cons, List.reverse_nil, List.nil_append, List.cons_append]
    by_cases hc : n % 10 = 0
    · have : (dg1 n == 48) = true := by unfold dg1; rw [hc]; decide
      rw [List.dropWhile_cons_of_pos (p := fun x => x == 48) this]
      exact frac_ne k (n / 10) (by omega) (by rw [Nat.pow_succ] at h; omega)
    · have : ¬ (dg1 n == 48) = true := by simp [dg1_ne n hc]
      rw [List.dropWhile_cons_of_neg (p := fun x => x == 48) this]
      simp
theorem Print (a : Int) : fixed_Print a = some (pr (B a)) := by
  have hb := B_le a
  have hneg : (a < 0) ↔ B a < 0 := by unfold B; repeat' split
                                      all_goals omega
  unfold fixed_Print
  rw [Abs, ab_nat]
  generalize hu : (B a).natAbs = u
  have hu2 : u ≤ 2147483647 := by omega
  have e1 : W (Int.tdiv (u : Int) 256) = ((u / 256 : Nat) : Int) := by
    rw [Int.tdiv_eq_ediv_of_nonneg (by omega), W_id (by constructor <;> omega)]; rfl
  have e2 : Int.tmod (u : Int) 256 = ((u % 256 : Nat) : Int) := by rw [Int.tmod_eq_emod_of_nonneg (by omega)]; rfl
  simp only [Option.bind_some, e1, e2, itoa_nat (show u / 256 ≤ 9223372036854775807 by omega)]
  have hlen := dec_length (n := u / 256) (k := 7) (by omega)
  have hml := mag_le u hu2
  have hmag : (if decide (((u % 256 : Nat) : Int) > 0) = true then (lib_Itoa (W (((u % 256 : Nat) : Int) * 390625))).bind fun x36 => (lib_Repeat ([48]) (W (8 - (x36.length : Int)))).bind fun x40 => (cat x40 x36).bind fun (x43 : Str) => (lib_TrimRight x43 ([48])).bind fun x45 => (cat ([46]) x45).bind fun (x48 : Str) => (cat (Lib.decDigits (u / 256)) x48) else some (Lib.decDigits (u / 256))) = some (mag u) := by
    unfold mag
    by_cases hf : u % 256 = 0
    · rw [if_pos hf, if_neg (by simp; omega)]
      simp
    · rw [if_neg hf, if_pos (by simp; omega)]
      have e3 : W (((u % 256 : Nat) : Int) * 390625) = ((u % 256 * 390625 : Nat) : Int) := by rw [W_id (by constructor <;> omega)]; simp
      rw [e3, itoa_nat (by omega)]
      have hp := dgs_pad 8 (u % 256 * 390625) (by omega) (by omega)
      simp only [Option.bind_some]
      have e4 : W (8 - ((Lib.decDigits (u % 256 * 390625)).length : Int)) = ((8 - (Lib.decDigits (u % 256 * 390625)).length : Nat) : Int) := by
        have := hp.2
        rw [W_id (by constructor <;> omega)]
        omega
      rw [e4]
      have e5 : lib_Repeat [48] ((8 - (Lib.decDigits (u % 256 * 390625)).length : Nat) : Int) = some (List.replicate (8 - (Lib.decDigits (u % 256 * 390625)).length) 48) := by
        unfold lib_Repeat
        rw [if_pos, Int.toNat_natCast, repeat48]
        refine ⟨by omega, by omega, ?_⟩
        simp
        omega
      rw [e5]
      simp only [Option.bind_some]
      rw [cat_eq (by simp; have := hp.2; omega), ← hp.1]
      simp only [Option.bind_some]
      have hl8 := dgs_length 8 (u % 256 * 390625) (by omega)
      rw [trim_eq _ (by omega)]
      simp only [Option.bind_some]
      have hfl := frac_le (u % 256) (by omega)
      unfold frac at hfl ⊢
      rw [cat_eq (by simp; omega)]
      simp only [Option.bind_some]
      rw [cat_eq (by simp; omega)]
      rfl
  simp only [Option.bind_some, Option.bind_fun_some] at hmag ⊢
  rw [hmag]
  simp only [Option.bind_some, decide_eq_true_eq, hneg]
  unfold pr
  rw [hu]
  split
  · rw [cat_eq (by simp; omega)]; rfl
  · rfl
theorem rPrint (a : Int) : echelonref01_Print a = some (pr (B a)) := by
  have hb := B_le a
  unfold echelonref01_Print
  rw [rAbs, ab_nat]
  generalize hu : (B a).natAbs = u
  have hu2 : u ≤ 2147483647 := by omega
  have e1 : W (Int.tdiv (u : Int) 256) = ((u / 256 : Nat) : Int) := by
    rw [Int.tdiv_eq_ediv_of_nonneg (by omega), W_id (by constructor <;> omega)]; rfl
  have e2 : Int.tmod (u : Int) 256 = ((u % 256 : Nat) : Int) := by rw [Int.tmod_eq_emod_of_nonneg (by omega)]; rfl
  have e3 : W (((u % 256 : Nat) : Int) * 390625) = ((u % 256 * 390625 : Nat) : Int) := by rw [W_id (by constructor <;> omega)]; simp
  have d1 := digits_eq 8 (u / 256) 1 (by omega) (by omega) (by omega) (by omega)
  have d2 := digits_eq 8 (u % 256 * 390625) 8 (by omega) (by omega) (by omega) (by omega)
  rw [show (1 : Int).toNat = 1 from rfl, dgs_one] at d1
  rw [show (8 : Int).toNat = 8 from rfl] at d2
  have hl8 := dgs_length 8 (u % 256 * 390625) (by omega)
  simp only [Option.bind_some, e1, e2, e3, d1, d2]
  have hst := strip_eq (dgs (u % 256 * 390625) 8) (by omega)
  rw [hst]
  have hlen := dec_length (n := u / 256) (k := 7) (by omega)
  have hml := mag_le u hu2
  simp only [Option.bind_some]
  have hmag : ((if (!Lib.trimRightB (dgs (u % 256 * 390625) 8) 48 == []) = true then (cat (Lib.decDigits (u / 256)) [46]).bind fun x82 => cat x82 (Lib.trimRightB (dgs (u % 256 * 390625) 8) 48) else some (Lib.decDigits (u / 256)))) = some (mag u) := by
    unfold mag
    by_cases hf : u % 256 = 0
    · rw [if_pos hf, hf, Nat.zero_mul, frac_zero]
      simp
    · have hne := frac_ne 8 (u % 256 * 390625) (by omega) (by omega)
      have hfl := frac_le (u % 256) (by omega)
      unfold frac at hfl ⊢
      rw [if_neg hf, if_pos (by simp [hne]), cat_eq (by simp; omega)]
      simp only [Option.bind_some]
      rw [cat_eq (by simp; omega)]
      simp
  simp only [Option.bind_fun_some] at hmag ⊢
  rw [hmag]
  simp only [Option.bind_some, rBound, decide_eq_true_eq]
  unfold pr
  rw [hu]
  split
  · rw [cat_eq (by simp; omega)]; rfl
  · rfl
theorem rnd_neg (n d : Int) (hd : 0 < d) : rnd (-n) d = -rnd n d := by
  rcases Int.lt_trichotomy n 0 with h | h | h
  · unfold rnd
    rw [if_neg (by omega), if_pos h]; simp
  · subst h
    have : rnd 0 d = 0 := by
      unfold rnd
      rw [if_neg (by omega)]
      exact Int.ediv_eq_zero_of_lt (by omega) (by omega)
    simp [this]
  · unfold rnd
    rw [if_pos (by omega), if_neg (by omega)]; simp
theorem B_neg (a : Int) : B (-a) = -B a := by unfold B; repeat' split
                                              all_goals omega
theorem dv_neg (x y : Int) (h : y ≠ 0) : dv (-x) y = -dv x y := by
  unfold dv
  split
  · rw [← B_neg, ← rnd_neg _ _ (by omega)]
    congr 2
    rw [Int.neg_mul, Int.neg_mul]
  · rw [← B_neg, ← rnd_neg _ _ (by omega), Int.neg_mul]
theorem FixedSigns (a b : Int) (ha : I64 a) (hb : I64 b) : echelonlaw01_FixedSigns a b = some true := by
  have h1 := B_le a; have h2 := B_le b
  simp only [echelonlaw01_FixedSigns, awake, Bound, Div, Add, Sub, Mul, Of, Whole, Abs, Print, Option.bind_some, B_B]
  generalize B a = x at *
  generalize B b = y at *
  have e1 : W (0 - x) = -x := by rw [W_id (by constructor <;> omega)]; omega
  have e2 : W (0 - y) = -y := by rw [W_id (by constructor <;> omega)]; omega
  have i1 : In (-x) := by constructor <;> omega
  have i2 : In (-y) := by constructor <;> omega
  simp only [e1, e2, B_id h1, B_id h2, B_id i1, B_id i2, B_B]
  have hp : (if decide (x ≤ 0) = true then some true else (cat [45] (pr x)).bind fun (x36 : Str) => some (pr (-x) == x36)) = some true := by
    by_cases hx : x ≤ 0
    · simp [hx]
    · have hm := mag_le x.natAbs (by omega)
      rw [if_neg (by simp; omega)]
      unfold pr
      rw [if_neg (by omega), if_pos (by omega), cat_eq (by simp; omega)]
      simp
  rw [hp]
  simp only [Option.bind_some]
  have n1 : -x + -y = -(x + y) := by omega
  have n2 : -x * y = -(x * y) := Int.neg_mul ..
  have n3 : y - x = -(x - y) := by omega
  have b1 := B_le (x + y); have b2 := B_le (rnd (x * y) 256); have b3 := B_le (x - y)
  simp only [n1, n2, n3, B_neg, rnd_neg _ 256 (by decide)]
  have w1 : W (0 - B (x + y)) = -B (x + y) := by rw [W_id (by constructor <;> omega)]; omega
  have w2 : W (0 - B (rnd (x * y) 256)) = -B (rnd (x * y) 256) := by rw [W_id (by constructor <;> omega)]; omega
  have w3 : W (0 - B (x - y)) = -B (x - y) := by rw [W_id (by constructor <;> omega)]; omega
  simp only [w1, w2, w3, beq_self_eq_true, if_true, Bool.true_and]
  have hq : ((if y = 0 then ((0, 10) : Int × Int) else (dv x y, 0)).2 == (if y = 0 then ((0, 10) : Int × Int) else (dv (-x) y, 0)).2 && (if y = 0 then ((0, 10) : Int × Int) else (dv (-x) y, 0)).1 == W (0 - (if y = 0 then ((0, 10) : Int × Int) else (dv x y, 0)).1)) = true := by
    by_cases h0 : y = 0
    · simp only [h0, if_true]; decide +kernel
    · have hd := B_le (if y < 0 then rnd (-x * 256) (-y) else rnd (x * 256) y)
      have hd2 : In (dv x y) := by
        unfold dv
        split <;> exact B_le _
      simp only [h0, if_false, dv_neg x y h0]
      rw [W_id (by constructor <;> omega)]
      simp
  have hw : (if decide (B (B (x / 256) * 256) ≤ x) = true then if decide (W (x - B (B (x / 256) * 256)) < 256) = true then some true else if decide (x < B (B (x / 256) * 256)) = true then some (B (B (x / 256) * 256) == -2147483647) else some false
      else if decide (x < B (B (x / 256) * 256)) = true then some (B (B (x / 256) * 256) == -2147483647) else some false) = some true := by
    have h3 : B (x / 256) = x / 256 := B_id (by omega)
    rw [h3]
    by_cases hlow : x / 256 * 256 < -2147483647
    · have : B (x / 256 * 256) = -2147483647 := by unfold B; repeat' split
                                                   all_goals omega
      rw [this, W_id (by constructor <;> omega)]
      have : decide (-2147483647 ≤ x) = true := by simp; omega
      rw [this]
      have : decide (x - -2147483647 < 256) = true := by simp; omega
      rw [this]
      rfl
    · rw [B_id (by omega), W_id (by constructor <;> omega)]
      have : decide (x / 256 * 256 ≤ x) = true := by simp; omega
      rw [this]
      have : decide (x - x / 256 * 256 < 256) = true := by simp; omega
      rw [this]
      rfl
  simp only [Option.bind_some]
  rw [hw]
  simp only [Option.bind_some, hq, if_true]
  have : ab (-x) = ab x := by unfold ab; split <;> split <;> omega
  simp [this]
end Go.Proofs.YtlppoapbkmbipaaDoor.Pure
