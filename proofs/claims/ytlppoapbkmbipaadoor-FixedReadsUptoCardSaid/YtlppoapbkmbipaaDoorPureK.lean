/- Plain laws: reading numbers: any text. -/
import Derived.Test.YtlppoapbkmbipaaDoorPureJ
namespace Go.Proofs.YtlppoapbkmbipaaDoor.Pure
open Go Ga
set_option linter.unusedVariables false
set_option linter.unusedSimpArgs false
/-- The reference, its sign taken off. -/
theorem rparse_eq (s t : Str) (neg : Bool) (hs : s.length ≤ 4294967296) (ht : (neg = true ∧ s = 45 :: t) ∨ (neg = false ∧ s = t ∧ t[0]? ≠ some 45)) :
    echelonref01_Parse s = (echelonref01_value t).bind fun x21 => (echelonref01_Print x21).bind fun x25 => if ((decide (x21 < 0)) || ((!(x25 == t)) || (neg && (x21 == 0)))) then some (0, 12) else (if neg then some (W (0 - x21)) else some x21).bind fun (y40 : Int) => some (y40, 0) := by
  have h1 : (if decide ((s.length : Int) > 0) then (getI s 0).bind fun (x8 : UInt8) => some ((x8.toNat : Int) == 45) else some false) = some neg := by
    rcases ht with ⟨rfl, rfl⟩ | ⟨rfl, rfl, h⟩
    · simp [getI]
    · cases s with
      | nil => rfl
      | cons c l =>
        simp at h
        have : ((c.toNat : Int) == 45) = false := by
          rw [beq_eq_false_iff_ne]
          intro e
          apply h
          apply UInt8.toNat_inj.1
          show c.toNat = 45
          omega
        simp [getI, this]
  have h2 : (if neg then (sub s 1 (s.length : Int)).bind fun (x18 : Str) => some x18 else some s) = some t := by
    rcases ht with ⟨rfl, rfl⟩ | ⟨rfl, rfl, h⟩
    · simp [sub]
      omega
    · rfl
  unfold echelonref01_Parse
  rw [h1]
  simp only [Option.bind_some]
  rw [h2]
  simp only [Option.bind_some]
theorem split_sign (s : Str) : ∃ t neg, (neg = true ∧ s = 45 :: t) ∨ (neg = false ∧ s = t ∧ t[0]? ≠ some 45) := by
  cases s with
  | nil => exact ⟨[], false, .inr ⟨rfl, rfl, by simp⟩⟩
  | cons c l =>
    by_cases h : c = 45
    · exact ⟨l, true, .inl ⟨rfl, by rw [h]⟩⟩
    · exact ⟨c :: l, false, .inr ⟨rfl, rfl, by simpa using h⟩⟩
theorem rparse_sound (s : Str) (hs : s.length ≤ 4294967296) : echelonref01_Parse s = some (0, 12) ∨ ∃ y, In y ∧ pr y = s ∧ echelonref01_Parse s = some (y, 0) := by
  obtain ⟨t, neg, ht⟩ := split_sign s
  have htl : t.length ≤ 4294967296 := by
    rcases ht with ⟨_, rfl⟩ | ⟨_, rfl, _⟩
    · simp at hs; omega
    · exact hs
  rw [rparse_eq s t neg hs ht]
  obtain ⟨v, hv, hv2⟩ := value_ends t htl
  rw [hv]
  simp only [Option.bind_some, rPrint]
  by_cases hbad : (decide (v < 0) || (!pr (B v) == t || (neg && v == 0))) = true
  · rw [if_pos hbad]
    exact .inl rfl
  · rw [if_neg hbad]
    right
    simp only [Bool.or_eq_true, not_or, decide_eq_true_eq, Bool.not_eq_true', Bool.and_eq_true, beq_iff_eq] at hbad
    obtain ⟨b1, b2, b3⟩ := hbad
    have hv3 : 0 ≤ v ∧ v ≤ 2147483647 := by omega
    have hp : pr v = t := by
      rw [B_id (by omega)] at b2
      simpa using b2
    rcases ht with ⟨rfl, rfl⟩ | ⟨rfl, rfl, _⟩
    · have hv0 : v ≠ 0 := fun e => b3 ⟨rfl, e⟩
      refine ⟨-v, by constructor <;> omega, ?_, ?_⟩
      · unfold pr at hp ⊢
        rw [if_neg (by omega)] at hp
        rw [if_pos (by omega), Int.natAbs_neg, hp]
      · rw [W_id (by constructor <;> omega)]
        simp
    · exact ⟨v, by constructor <;> omega, hp, by simp⟩
theorem rparse_pr (x : Int) (hx : In x) : echelonref01_Parse (pr x) = some (x, 0) := by
  have hml := mag_le x.natAbs (by omega)
  have hlen : (pr x).length ≤ 21 := by
    unfold pr
    split
    · rw [List.length_cons]; omega
    · omega
  have hh : (mag x.natAbs)[0]? ≠ some 45 := by
    intro e
    exact absurd (mag_head _ _ e).1 (by decide)
  rw [rparse_eq (pr x) (mag x.natAbs) (decide (x < 0)) (by omega) (by
    unfold pr
    split
    · rename_i h; exact .inl ⟨by simp [h], rfl⟩
    · rename_i h; exact .inr ⟨by simp [h], rfl, hh⟩)]
  rw [value_mag _ (by omega)]
  simp only [Option.bind_some, rPrint]
  have hpm : pr (B (x.natAbs : Int)) = mag x.natAbs := by
    rw [B_id (by constructor <;> omega)]
    unfold pr
    rw [if_neg (by omega)]
    simp
  rw [hpm]
  have hbad : (decide ((x.natAbs : Int) < 0) || (!mag x.natAbs == mag x.natAbs || (decide (x < 0) && (x.natAbs : Int) == 0))) = false := by
    simp
    omega
  rw [hbad]
  simp only [Bool.false_eq_true, if_false, decide_eq_true_eq]
  split
  · rw [W_id (by constructor <;> omega)]
    simp only [Option.bind_some]
    congr 2
    omega
  · simp only [Option.bind_some]
    congr 2
    omega
theorem FixedReads (s : Str) (hl : s.length ≤ 1048576) : echelonlaw01_FixedReads s = some true := by
  have hs : s.length < 4294967281 := by omega
  simp only [echelonlaw01_FixedReads, awake, Option.bind_some, if_true]
  rcases parse_sound s hs with h | ⟨y, hy, hp, h⟩
  · rcases rparse_sound s (by omega) with k | ⟨z, hz, kp, k⟩
    · rw [h, k]; rfl
    · have := parse_pr z hz
      rw [kp, h] at this
      cases this
  · have k := rparse_pr y hy
    rw [hp] at k
    rw [h, k]
    simp [Print, B_id hy, hp]
end Go.Proofs.YtlppoapbkmbipaaDoor.Pure
