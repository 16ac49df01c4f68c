/- Plain laws: reading numbers: the reference's way; any text. -/
import Derived.Test.YtlppoapbkmbipaaDoorPureI
namespace Go.Proofs.YtlppoapbkmbipaaDoor.Pure
open Go Ga
set_option linter.unusedVariables false
set_option linter.unusedSimpArgs false
abbrev vstep (a0 : Str) : Int × Int × Int × Int → Option ((Int × Int × Int × Int) ⊕ ((Int × Int × Int) ⊕ (Int))) := (fun (s288 : Int × Int × Int × Int) => if decide (s288.2.2.2 < (a0.length : Int)) then (((getI a0 s288.2.2.2).bind fun (x344 : UInt8) => some (((x344.toNat : Int) == 46) && (s288.2.2.1 == 0))).bind fun (y340 : Bool) => if y340 then some (.inl (s288.1, s288.2.1, 1)) else ((getI a0 s288.2.2.2).bind fun (x359 : UInt8) => if decide ((x359.toNat : Int) < 48) then some true else (getI a0 s288.2.2.2).bind fun (x362 : UInt8) => some ((decide ((x362.toNat : Int) > 57)) || ((decide (s288.2.2.1 > 8)) || (decide (s288.1 > 2147483647))))).bind fun (y351 : Bool) => if y351 then some (.inr (-1)) else if s288.2.2.1 == 0 then (getI a0 s288.2.2.2).bind fun (x370 : UInt8) => (some (W ((W ((W (10 * s288.1)) + (W (x370.toNat : Int)))) - 48))).bind fun (x372 : Int) => some (.inl (x372, s288.2.1, s288.2.2.1)) else (getI a0 s288.2.2.2).bind fun (x375 : UInt8) => (some (W ((W ((W (10 * s288.2.1)) + (W (x375.toNat : Int)))) - 48))).bind fun (x377 : Int) => some (.inl (s288.1, x377, W (s288.2.2.1 + 1))) : Option ((Int × Int × Int) ⊕ (Int))).bind fun y295 => Sum.elim (fun (y337 : Int × Int × Int) => some (.inl (y337.1, y337.2.1, y337.2.2, W (s288.2.2.2 + 1)))) (fun (z379 : Int) => some (.inr (.inr z379))) y295 else some (.inr (.inl (s288.1, s288.2.1, s288.2.2.1))))
abbrev wstep : Int × Int → Option ((Int × Int) ⊕ Int) := (fun (s410 : Int × Int) => (some ((decide (s410.2 > 0)) && (decide (s410.2 < 9)))).bind fun (y415 : Bool) => if y415 then some (.inl (W (10 * s410.1), W (s410.2 + 1))) else some (.inr s410.1))
theorem value_unf (a0 : Str) : echelonref01_value a0 = (Loop.run (vstep a0) (0, 0, 0, 0)).bind fun y6 => Sum.elim (fun (y193 : Int × Int × Int) => (Loop.run wstep (y193.2.1, y193.2.2)).bind fun (y381 : Int) => (some ((decide (y193.1 > 8388607)) || ((Int.tmod y381 390625) != 0))).bind fun (y422 : Bool) => if y422 then some (-1) else (some (W ((W (256 * y193.1)) + (W (Int.tdiv y381 390625))))).bind fun (x428 : Int) => some x428) (fun (z430 : Int) => some z430) y6 := rfl
/-- One round of the scan. -/
theorem vstep_point {a b : Str} {w f : Int} : vstep (a ++ 46 :: b) (w, f, 0, (a.length : Int)) = some (.inl (w, f, 1, (a.length : Int) + 1)) ∨ 9223372036854775807 ≤ (a.length : Int) := by
  by_cases hl : 9223372036854775807 ≤ (a.length : Int)
  · exact .inr hl
  · left
    have e1 : getI (a ++ 46 :: b) (a.length : Int) = some 46 := by simp [getI]
    have e2 : decide ((a.length : Int) < ((a ++ 46 :: b).length : Int)) = true := by simp; omega
    simp only [vstep, e1, e2, if_true, Option.bind_some]
    rw [W_id (x := (a.length : Int) + 1) (by constructor <;> omega)]
    rfl
/-- Fewer than so many with the point: how the scan stands. -/
def VI (s : Int × Int × Int × Int) : Prop := 0 ≤ s.1 ∧ s.1 ≤ 21474836479 ∧ 0 ≤ s.2.2.2 ∧ ((s.2.2.1 = 0 ∧ s.2.1 = 0) ∨ ∃ j : Nat, j ≤ 8 ∧ s.2.2.1 = (j : Int) + 1 ∧ 0 ≤ s.2.1 ∧ s.2.1 < (10 : Int) ^ j)
def VF (s : Int × Int × Int) : Prop := 0 ≤ s.1 ∧ s.1 ≤ 21474836479 ∧ ((s.2.2 = 0 ∧ s.2.1 = 0) ∨ ∃ j : Nat, j ≤ 8 ∧ s.2.2 = (j : Int) + 1 ∧ 0 ≤ s.2.1 ∧ s.2.1 < (10 : Int) ^ j)
theorem pow8 {j : Nat} (h : j ≤ 8) : (10 : Int) ^ j ≤ 100000000 := by
  have h1 : (10 : Nat) ^ j ≤ 10 ^ 8 := Nat.pow_le_pow_right (by decide) h
  have h2 : ((10 ^ j : Nat) : Int) ≤ ((10 ^ 8 : Nat) : Int) := Int.ofNat_le.2 h1
  simpa using h2
theorem scan_ends (a0 : Str) (hl : a0.length ≤ 4294967296) : ∃ b, Loop.run (vstep a0) (0, 0, 0, 0) = some b ∧ (b = .inr (-1) ∨ ∃ s, b = .inl s ∧ VF s) := by
  obtain ⟨b, hb, hr⟩ := Loop.run_ends (step := vstep a0) (I := VI) (R := fun _ b => b = .inr (-1) ∨ ∃ s, b = .inl s ∧ VF s) (m := fun s => a0.length - s.2.2.2.toNat) (by
    rintro ⟨w, f, k, i⟩ ⟨h0, h1, h2, h3⟩
    simp only at h0 h1 h2 h3 ⊢
    by_cases hi : i < (a0.length : Int)
    · have hlt : i.toNat < a0.length := by omega
      have e1 : getI a0 i = some a0[i.toNat] := by
        unfold getI
        rw [if_pos h2]
        simp [hlt]
      generalize a0[i.toNat] = c at e1
      have hc : c.toNat < 256 := c.toNat_lt
      have ei : W (i + 1) = i + 1 := W_id (by constructor <;> omega)
      simp only [vstep, hi, decide_true, if_true, e1, Option.bind_some, ei]
      by_cases hp : (((c.toNat : Int) == 46) && (k == 0)) = true
      · right
        simp only [hp, if_true, Option.bind_some, Sum.elim_inl]
        refine ⟨_, rfl, ⟨h0, h1, by simp only; omega, .inr ⟨0, by omega, rfl, ?_⟩⟩, by simp only; omega, fun _ h => h⟩
        simp at hp
        rcases h3 with ⟨_, hf⟩ | ⟨j, _, hk, _⟩
        · simp only; omega
        · omega
      · simp only [hp, if_false]
        by_cases hbad : ((if decide ((c.toNat : Int) < 48) = true then some true else some ((decide ((c.toNat : Int) > 57)) || ((decide (k > 8)) || (decide (w > 2147483647))))) : Option Bool) = some true
        · left
          rw [hbad]
          simp only [Option.bind_some, if_true, Sum.elim_inr]
          exact ⟨_, rfl, .inl rfl⟩
        · have hgood : ((if decide ((c.toNat : Int) < 48) = true then some true else some ((decide ((c.toNat : Int) > 57)) || ((decide (k > 8)) || (decide (w > 2147483647))))) : Option Bool) = some false := by
            revert hbad
            split
            · intro h; exact absurd rfl h
            · intro h; cases hx : (decide ((c.toNat : Int) > 57) || (decide (k > 8) || decide (w > 2147483647))) with
              | true => rw [hx] at h; exact absurd rfl h
              | false => rfl
          have hr : 48 ≤ c.toNat ∧ c.toNat ≤ 57 ∧ k ≤ 8 ∧ w ≤ 2147483647 := by
            revert hgood
            split
            · intro h; cases h
            · intro h; simp at h; rename_i h'; simp at h'; omega
          rw [hgood]
          simp only [Option.bind_some, Bool.false_eq_true, if_false]
          right
          rcases h3 with ⟨rfl, rfl⟩ | ⟨j, hj, rfl, hf0, hf1⟩
          · simp only [beq_self_eq_true, if_true, Option.bind_some, Sum.elim_inl]
            rw [W_id (x := 10 * w) (by constructor <;> omega), W_id (x := (c.toNat : Int)) (by constructor <;> omega), W_id (x := 10 * w + (c.toNat : Int)) (by constructor <;> omega), W_id (x := 10 * w + (c.toNat : Int) - 48) (by constructor <;> omega)]
            exact ⟨_, rfl, ⟨by simp only; omega, by simp only; omega, by simp only; omega, .inl ⟨rfl, rfl⟩⟩, by simp only; omega, fun _ h => h⟩
          · have hk0 : ((j : Int) + 1 == 0) = false := by rw [beq_eq_false_iff_ne]; omega
            have hp8 := pow8 hj
            simp only [hk0, Bool.false_eq_true, if_false, Option.bind_some, Sum.elim_inl]
            rw [W_id (x := 10 * f) (by constructor <;> omega), W_id (x := (c.toNat : Int)) (by constructor <;> omega), W_id (x := 10 * f + (c.toNat : Int)) (by constructor <;> omega), W_id (x := 10 * f + (c.toNat : Int) - 48) (by constructor <;> omega), W_id (x := (j : Int) + 1 + 1) (by constructor <;> omega)]
            refine ⟨_, rfl, ⟨h0, h1, by simp only; omega, .inr ⟨j + 1, by omega, by simp only; omega, by simp only; omega, ?_⟩⟩, by simp only; omega, fun _ h => h⟩
            rw [Int.pow_succ]
            simp only
            omega
    · left
      simp only [vstep, hi, decide_false, Bool.false_eq_true, if_false]
      exact ⟨_, rfl, .inr ⟨_, rfl, h0, h1, h3⟩⟩) (0, 0, 0, 0) ⟨by decide, by decide, by decide, .inl ⟨rfl, rfl⟩⟩
  exact ⟨b, hb, hr⟩
/-- The noughts that are put behind. -/
theorem wrun (f : Nat) : ∀ (d j : Nat), j + d = 8 → ∀ f : Int, 0 ≤ f → f < 10 ^ j → Loop.run wstep (f, (j : Int) + 1) = some (f * 10 ^ d)
  | 0, j, h, f, h0, h1 => by
    rw [Loop.run_inr]
    unfold wstep
    have : ¬ ((j : Int) + 1 < 9) := by omega
    simp [this]
  | d + 1, j, h, f, h0, h1 => by
    have hp8 := pow8 (show j ≤ 8 by omega)
    rw [Loop.run_inl (s' := (10 * f, ((j + 1 : Nat) : Int) + 1))]
    · rw [wrun 0 d (j + 1) (by omega) (10 * f) (by omega) (by rw [Int.pow_succ]; omega), Int.pow_succ, Int.mul_comm 10 f, Int.mul_assoc, Int.mul_comm 10]
    · unfold wstep
      have h2 : (decide ((j : Int) + 1 > 0) && decide ((j : Int) + 1 < 9)) = true := by simp; omega
      simp only [h2, Option.bind_some, if_true]
      rw [W_id (x := 10 * f) (by constructor <;> omega), W_id (x := (j : Int) + 1 + 1) (by constructor <;> omega)]
      simp
theorem wrun0 : Loop.run wstep (0, 0) = some 0 := by
  rw [Loop.run_inr]
  rfl
theorem pow_lt {j d : Nat} {f : Int} (h : j + d = 8) (h0 : 0 ≤ f) (h1 : f < 10 ^ j) : 0 ≤ f * 10 ^ d ∧ f * 10 ^ d < 100000000 := by
  have hd : (0 : Int) < 10 ^ d := Int.pow_pos (by decide)
  refine ⟨Int.mul_nonneg h0 (by omega), ?_⟩
  have : f * 10 ^ d < 10 ^ j * 10 ^ d := Int.mul_lt_mul_of_pos_right h1 hd
  rw [← Int.pow_add, h] at this
  simpa using this
/-- The value of a text: below nought, or a number of the kind. -/
theorem value_ends (a0 : Str) (hl : a0.length ≤ 4294967296) : ∃ v, echelonref01_value a0 = some v ∧ (v = -1 ∨ (0 ≤ v ∧ v ≤ 2147483647)) := by
  rw [value_unf]
  obtain ⟨b, hb, hr⟩ := scan_ends a0 hl
  rw [hb]
  rcases hr with rfl | ⟨⟨w, f, k⟩, rfl, h0, h1, h2⟩
  · exact ⟨-1, rfl, .inl rfl⟩
  · simp only at h0 h1 h2
    have hw : ∃ g, Loop.run wstep (f, k) = some g ∧ 0 ≤ g ∧ g < 100000000 := by
      rcases h2 with ⟨rfl, rfl⟩ | ⟨j, hj, rfl, hf0, hf1⟩
      · exact ⟨0, wrun0, by decide, by decide⟩
      · obtain ⟨d, hd⟩ : ∃ d, j + d = 8 := ⟨8 - j, by omega⟩
        exact ⟨_, wrun 0 d j hd f hf0 hf1, pow_lt hd hf0 hf1⟩
    obtain ⟨g, hg, g0, g1⟩ := hw
    simp only [Option.bind_some, Sum.elim_inl, hg]
    by_cases hbad : (decide (w > 8388607) || Int.tmod g 390625 != 0) = true
    · rw [if_pos hbad]
      exact ⟨-1, rfl, .inl rfl⟩
    · rw [if_neg hbad]
      simp at hbad
      rw [Int.tdiv_eq_ediv_of_nonneg g0, W_id (x := g / 390625) (by constructor <;> omega), W_id (x := 256 * w) (by constructor <;> omega), W_id (x := 256 * w + g / 390625) (by constructor <;> omega)]
      exact ⟨_, rfl, .inr ⟨by omega, by omega⟩⟩
/-- Digits before the point. -/
theorem scan_whole (post : Str) : ∀ (suf pre : Str) (a : Nat), (∀ c ∈ suf, IsDig c) → vf a suf ≤ 2147483647 → pre.length + suf.length ≤ 1000 →
    Loop.run (vstep (pre ++ (suf ++ post))) ((a : Int), 0, 0, (pre.length : Int)) = Loop.run (vstep (pre ++ (suf ++ post))) (((vf a suf : Nat) : Int), 0, 0, ((pre ++ suf).length : Int)) := by
  intro suf
  induction suf with
  | nil => intro pre a _ _ _; simp [vf]
  | cons c suf ih =>
    intro pre a hd hv hl
    obtain ⟨h1, h2⟩ := hd c (by simp)
    have hge := vf_ge suf (10 * a + (c.toNat - 48))
    rw [vf_cons] at hv
    rw [Loop.run_inl (s' := (((10 * a + (c.toNat - 48) : Nat) : Int), 0, 0, ((pre ++ [c]).length : Int)))]
    · have := ih (pre ++ [c]) (10 * a + (c.toNat - 48)) (fun c hc => hd c (by simp [hc])) hv (by simp at hl ⊢; omega)
      simp only [List.append_assoc, List.cons_append, List.nil_append] at this
      rw [vf_cons]
      exact this
    · have e1 : getI (pre ++ (c :: suf ++ post)) (pre.length : Int) = some c := by simp [getI]
      have e2 : decide ((pre.length : Int) < ((pre ++ (c :: suf ++ post)).length : Int)) = true := by simp; omega
      have e3 : ((c.toNat : Int) == 46) = false := by rw [beq_eq_false_iff_ne]; omega
      have e4 : decide ((c.toNat : Int) < 48) = false := by simp; omega
      have e5 : (decide ((c.toNat : Int) > 57) || (decide ((0 : Int) > 8) || decide ((a : Int) > 2147483647))) = false := by simp; omega
      simp at hl
      simp only [vstep, e1, e2, e3, e4, e5, if_true, Option.bind_some, Bool.false_and, Bool.false_eq_true, if_false, beq_self_eq_true, Sum.elim_inl]
      rw [W_id (x := 10 * (a : Int)) (by constructor <;> omega), W_id (x := (c.toNat : Int)) (by constructor <;> omega), W_id (x := 10 * (a : Int) + (c.toNat : Int)) (by constructor <;> omega), W_id (x := 10 * (a : Int) + (c.toNat : Int) - 48) (by constructor <;> omega), W_id (x := (pre.length : Int) + 1) (by constructor <;> omega)]
      congr 3
      · omega
      · simp
/-- Digits behind the point. -/
theorem scan_frac (w : Int) (hw : 0 ≤ w ∧ w ≤ 2147483647) : ∀ (suf pre : Str) (a j : Nat), (∀ c ∈ suf, IsDig c) → vf a suf ≤ 2147483647 → pre.length + suf.length ≤ 1000 → j + suf.length ≤ 8 →
    Loop.run (vstep (pre ++ suf)) (w, (a : Int), (j : Int) + 1, (pre.length : Int)) = some (.inl (w, ((vf a suf : Nat) : Int), ((j + suf.length : Nat) : Int) + 1)) := by
  intro suf
  induction suf with
  | nil =>
    intro pre a j _ _ _ _
    rw [Loop.run_inr]
    simp [vstep]
    rfl
  | cons c suf ih =>
    intro pre a j hd hv hl hj
    obtain ⟨h1, h2⟩ := hd c (by simp)
    have hge := vf_ge suf (10 * a + (c.toNat - 48))
    rw [vf_cons] at hv
    rw [Loop.run_inl (s' := (w, ((10 * a + (c.toNat - 48) : Nat) : Int), ((j + 1 : Nat) : Int) + 1, ((pre ++ [c]).length : Int)))]
    · have := ih (pre ++ [c]) (10 * a + (c.toNat - 48)) (j + 1) (fun c hc => hd c (by simp [hc])) hv (by simp at hl ⊢; omega) (by simp at hj; omega)
      simp only [List.append_assoc, List.cons_append, List.nil_append] at this
      rw [vf_cons, this, List.length_cons, show j + 1 + suf.length = j + (suf.length + 1) by omega]
    · have e1 : getI (pre ++ (c :: suf)) (pre.length : Int) = some c := by simp [getI]
      have e2 : decide ((pre.length : Int) < ((pre ++ (c :: suf)).length : Int)) = true := by simp; omega
      have e3 : ((c.toNat : Int) == 46) = false := by rw [beq_eq_false_iff_ne]; omega
      have e4 : decide ((c.toNat : Int) < 48) = false := by simp; omega
      simp at hl hj
      have e5 : (decide ((c.toNat : Int) > 57) || (decide ((j : Int) + 1 > 8) || decide (w > 2147483647))) = false := by simp; omega
      have e6 : ((j : Int) + 1 == 0) = false := by rw [beq_eq_false_iff_ne]; omega
      simp only [vstep, e1, e2, e3, e4, e5, e6, if_true, Option.bind_some, Bool.false_and, Bool.false_eq_true, if_false, Sum.elim_inl]
      rw [W_id (x := 10 * (a : Int)) (by constructor <;> omega), W_id (x := (c.toNat : Int)) (by constructor <;> omega), W_id (x := 10 * (a : Int) + (c.toNat : Int)) (by constructor <;> omega), W_id (x := 10 * (a : Int) + (c.toNat : Int) - 48) (by constructor <;> omega), W_id (x := (pre.length : Int) + 1) (by constructor <;> omega), W_id (x := (j : Int) + 1 + 1) (by constructor <;> omega)]
      congr 3
      congr 1
      · omega
      · congr 1
        simp
theorem value_mag (u : Nat) (hu : u ≤ 2147483647) : echelonref01_value (mag u) = some (u : Int) := by
  rw [value_unf]
  have hq : vf 0 (Lib.decDigits (u / 256)) = u / 256 := vf_dec _
  have hql := dec_length (n := u / 256) (k := 7) (by omega)
  by_cases hf : u % 256 = 0
  · have hm : mag u = [] ++ (Lib.decDigits (u / 256) ++ []) := by unfold mag; rw [if_pos hf]; simp
    have h1 := scan_whole [] (Lib.decDigits (u / 256)) [] 0 (dig_dec _) (by rw [hq]; omega) (by simp; omega)
    rw [hq, ← hm] at h1
    have h2 : Loop.run (vstep (mag u)) (((u / 256 : Nat) : Int), 0, 0, (([] ++ Lib.decDigits (u / 256)).length : Int)) = some (.inl (((u / 256 : Nat) : Int), 0, 0)) := by
      rw [hm, Loop.run_inr]
      simp [vstep]
    rw [h2] at h1
    rw [show ((0 : Int), (0 : Int), (0 : Int), (0 : Int)) = (((0 : Nat) : Int), 0, 0, (([] : Str).length : Int)) from rfl, h1]
    simp only [Option.bind_some, Sum.elim_inl, wrun0]
    have hbad : (decide (((u / 256 : Nat) : Int) > 8388607) || Int.tmod 0 390625 != 0) = false := by simp; omega
    rw [hbad]
    simp only [Bool.false_eq_true, if_false]
    rw [Int.zero_tdiv, W_id (x := 0) (by decide), W_id (x := 256 * ((u / 256 : Nat) : Int)) (by constructor <;> omega), W_id (by constructor <;> omega)]
    congr 1
    omega
  · have hm : mag u = [] ++ (Lib.decDigits (u / 256) ++ 46 :: frac (u % 256)) := by unfold mag; rw [if_neg hf]; simp
    have h1 := scan_whole (46 :: frac (u % 256)) (Lib.decDigits (u / 256)) [] 0 (dig_dec _) (by rw [hq]; omega) (by simp; omega)
    have hfl := frac_le (u % 256) (by omega)
    rw [hq] at h1
    simp only [List.nil_append] at h1 hm
    have h2 := (vstep_point (a := Lib.decDigits (u / 256)) (b := frac (u % 256)) (w := ((u / 256 : Nat) : Int)) (f := 0)).resolve_right (by omega)
    have h3 := Loop.run_inl h2
    have hpad := frac_back (u % 256) (by omega)
    have hval : vf 0 (frac (u % 256)) * 10 ^ (8 - (frac (u % 256)).length) = u % 256 * 390625 := by
      rw [← vf_zeros, ← vf_app, hpad, vf_dgs _ _ _ (Nat.le_refl _)]
    have hpos : 0 < 10 ^ (8 - (frac (u % 256)).length) := Nat.pow_pos (by decide)
    have hle : vf 0 (frac (u % 256)) ≤ u % 256 * 390625 := by rw [← hval]; exact Nat.le_mul_of_pos_right _ hpos
    have h4 := scan_frac ((u / 256 : Nat) : Int) (by omega) (frac (u % 256)) (Lib.decDigits (u / 256) ++ [46]) 0 0 (dig_frac _) (by omega) (by simp; omega) (by omega)
    simp only [List.append_assoc, List.cons_append, List.nil_append, List.length_append, List.length_cons, List.length_nil, Nat.zero_add] at h4
    have h5 : Loop.run (vstep (mag u)) (0, 0, 0, 0) = some (.inl (((u / 256 : Nat) : Int), ((vf 0 (frac (u % 256)) : Nat) : Int), (((frac (u % 256)).length : Nat) : Int) + 1)) := by
      rw [hm]
      refine h1.trans (h3.trans ?_)
      rw [← h4]
      rfl
    have hlt : vf 0 (frac (u % 256)) < 10 ^ (frac (u % 256)).length := by
      have h8 : (10 : Nat) ^ 8 = 10 ^ (frac (u % 256)).length * 10 ^ (8 - (frac (u % 256)).length) := by rw [← Nat.pow_add]; congr 1; omega
      refine Nat.lt_of_mul_lt_mul_right (a := 10 ^ (8 - (frac (u % 256)).length)) ?_
      rw [hval, ← h8]
      omega
    have h6 := wrun 0 (8 - (frac (u % 256)).length) (frac (u % 256)).length (by omega) ((vf 0 (frac (u % 256)) : Nat) : Int) (by omega) (by
      have : ((vf 0 (frac (u % 256)) : Nat) : Int) < ((10 ^ (frac (u % 256)).length : Nat) : Int) := Int.ofNat_lt.2 hlt
      simpa using this)
    have h7 : ((vf 0 (frac (u % 256)) : Nat) : Int) * 10 ^ (8 - (frac (u % 256)).length) = ((u % 256 * 390625 : Nat) : Int) := by
      rw [← hval]; simp
    rw [h7] at h6
    rw [h5]
    simp only [Option.bind_some, Sum.elim_inl, h6]
    have hbad : (decide (((u / 256 : Nat) : Int) > 8388607) || Int.tmod ((u % 256 * 390625 : Nat) : Int) 390625 != 0) = false := by
      rw [Int.tmod_eq_emod_of_nonneg (by omega)]
      simp
      omega
    rw [hbad]
    simp only [Bool.false_eq_true, if_false]
    rw [Int.tdiv_eq_ediv_of_nonneg (by omega), W_id (x := ((u % 256 * 390625 : Nat) : Int) / 390625) (by constructor <;> omega), W_id (x := 256 * ((u / 256 : Nat) : Int)) (by constructor <;> omega), W_id (by constructor <;> omega)]
    congr 1
    omega
end Go.Proofs.YtlppoapbkmbipaaDoor.Pure
