/- Plain laws: reading numbers: the program's way. -/
import Derived.Test.YtlppoapbkmbipaaDoorPureH
namespace Go.Proofs.YtlppoapbkmbipaaDoor.Pure
open Go Ga
set_option linter.unusedVariables false
set_option linter.unusedSimpArgs false
theorem rep_zeros (k : Nat) (hk : k ≤ 8) : lib_Repeat [48] (k : Int) = some (List.replicate k 48) := by
  unfold lib_Repeat
  rw [if_pos ⟨by omega, by omega, by simp; omega⟩, Int.toNat_natCast, repeat48]
/-- The end of the reading: the number must print as the text did. -/
theorem parse_end (s : Str) (y : Int) (hy : I64 y) : (((fixed_Bound y).bind fun x53 => if y != x53 then some true else (fixed_Print y).bind fun x57 => some (!(x57 == s))).bind fun (y45 : Bool) => if y45 then some ((0 : Int), (12 : Int)) else some (y, 0)) = if In y ∧ pr y = s then some (y, 0) else some (0, 12) := by
  rw [Bound, Print]
  simp only [Option.bind_some]
  have hb := B_le y
  by_cases he : y = B y
  · have h1 : (y != B y) = false := by simp; exact he
    have h2 : In y := by rw [he]; exact hb
    rw [h1]
    simp only [Bool.false_eq_true, if_false, Option.bind_some, ← he]
    by_cases hp : pr y = s
    · simp [hp, h2]
    · simp [hp]
  · have h1 : (y != B y) = true := by simp; exact he
    have h2 : ¬ In y := fun h => he (B_id h).symm
    rw [h1]
    simp [h2]
/-- What the reading comes to, given its parts. -/
theorem parse_parts (s t a b : Str) (neg pt : Bool) (hs : s.length < 4294967281) (h1 : lib_CutPrefix s [45] = some (t, neg)) (ht : t.length ≤ s.length) (h2 : Lib.cut t [46] = (a, b, pt)) :
    (∃ y, fixed_Parse s = if In y ∧ pr y = s then some (y, 0) else some (0, 12)) ∨ fixed_Parse s = some (0, 12) := by
  unfold fixed_Parse
  rw [h1]
  simp only [Option.bind_some]
  rw [show lib_Cut t [46] = some (a, b, pt) by unfold lib_Cut; rw [if_pos (by omega), h2]]
  simp only [Option.bind_some]
  by_cases hb : (b.length : Int) > 8
  · right
    rw [if_pos (by simp; omega)]
  · left
    rw [if_neg (by simp; omega)]
    obtain ⟨n, o1, hn, n0, n1⟩ := decimal_ends a
    rw [hn]
    simp only [Option.bind_some]
    rw [show W (8 - (b.length : Int)) = ((8 - b.length : Nat) : Int) by rw [W_id (by constructor <;> omega)]; omega, rep_zeros _ (by omega)]
    simp only [Option.bind_some]
    rw [cat_eq (by simp; omega)]
    simp only [Option.bind_some]
    obtain ⟨m, o2, hm, m0, m1⟩ := decimal_ends (b ++ List.replicate (8 - b.length) 48)
    rw [hm]
    simp only [Option.bind_some]
    by_cases ho : (!o1 || !o2) = true
    · rw [if_pos ho]
      refine ⟨2147483648, ?_⟩
      rw [if_neg]
      intro h
      have := h.1.2
      omega
    · rw [if_neg ho]
      rw [Int.tdiv_eq_ediv_of_nonneg m0, W_id (x := m / 390625) (by constructor <;> omega), W_id (x := n * 256) (by constructor <;> omega), W_id (x := n * 256 + m / 390625) (by constructor <;> omega)]
      have hneg : (if neg = true then some (W (0 - (n * 256 + m / 390625))) else some (n * 256 + m / 390625)) = some (if neg = true then -(n * 256 + m / 390625) else n * 256 + m / 390625) := by
        split
        · rw [W_id (by constructor <;> omega)]; congr 1; omega
        · rfl
      rw [hneg]
      simp only [Option.bind_some]
      refine ⟨if neg = true then -(n * 256 + m / 390625) else n * 256 + m / 390625, ?_⟩
      have := parse_end s (if neg = true then -(n * 256 + m / 390625) else n * 256 + m / 390625) (by split <;> constructor <;> omega)
      exact this
theorem cutp (s : Str) : ∃ t neg, lib_CutPrefix s [45] = some (t, neg) ∧ t.length ≤ s.length := by
  refine ⟨_, _, rfl, ?_⟩
  unfold Lib.trimPrefix
  split
  · simp
  · exact Nat.le_refl _
/-- Soundness. -/
theorem parse_sound (s : Str) (hs : s.length < 4294967281) : fixed_Parse s = some (0, 12) ∨ ∃ y, In y ∧ pr y = s ∧ fixed_Parse s = some (y, 0) := by
  obtain ⟨t, neg, h1, ht⟩ := cutp s
  rcases parse_parts s t _ _ neg _ hs h1 ht rfl with ⟨y, h⟩ | h
  · by_cases hp : In y ∧ pr y = s
    · rw [if_pos hp] at h
      exact .inr ⟨y, hp.1, hp.2, h⟩
    · rw [if_neg hp] at h
      exact .inl h
  · exact .inl h
theorem mag_head (u : Nat) : ∀ c, (mag u)[0]? = some c → IsDig c := by
  intro c hc
  unfold mag at hc
  have hne := dec_ne (u / 256)
  rw [List.getElem?_append_left (by have := List.length_pos_iff.2 hne; omega)] at hc
  exact dig_dec _ c (List.mem_of_getElem? hc)
theorem cutp_neg (t : Str) : lib_CutPrefix (45 :: t) [45] = some (t, true) := by
  simp [lib_CutPrefix, Lib.trimPrefix, Lib.hasPrefix]
theorem cutp_mag (u : Nat) : lib_CutPrefix (mag u) [45] = some (mag u, false) := by
  have h := mag_head u
  cases hm : mag u with
  | nil => rfl
  | cons c l =>
    have hc := h c (by rw [hm]; rfl)
    have : ((45 : UInt8) == c) = false := by
      simp
      intro e
      subst e
      exact absurd hc.1 (by decide)
    have hp : List.isPrefixOf [45] (c :: l) = false := by simp [List.isPrefixOf, this]
    simp [lib_CutPrefix, Lib.trimPrefix, Lib.hasPrefix, hp]
/-- The parts of a number's text. -/
theorem cut_mag (u : Nat) : Lib.cut (mag u) [46] = (Lib.decDigits (u / 256), if u % 256 = 0 then [] else frac (u % 256), !decide (u % 256 = 0)) := by
  unfold mag
  split
  · rename_i h
    simp only [List.append_nil]
    rw [cut_no (noPoint (dig_dec _))]
    simp [h]
  · rename_i h
    rw [cut_at (noPoint (dig_dec _))]
    simp [h]
theorem pad_frac (u : Nat) : (if u % 256 = 0 then [] else frac (u % 256)) ++ List.replicate (8 - (if u % 256 = 0 then ([] : Str) else frac (u % 256)).length) 48 = dgs (u % 256 * 390625) 8 := by
  split
  · rename_i h
    rw [h, Nat.zero_mul, dgs_zero]; rfl
  · exact frac_back _ (by omega)
/-- The way back. -/
theorem parse_pr (x : Int) (hx : In x) : fixed_Parse (pr x) = some (x, 0) := by
  have hml := mag_le x.natAbs (by omega)
  have hlen : (pr x).length ≤ 21 := by
    unfold pr
    split
    · rw [List.length_cons]; omega
    · omega
  have hcp : lib_CutPrefix (pr x) [45] = some (mag x.natAbs, decide (x < 0)) := by
    unfold pr
    split
    · rename_i h; rw [cutp_neg]; simp [h]
    · rename_i h; rw [cutp_mag]; simp [h]
  have hend := parse_end (pr x) x (by constructor <;> omega)
  rw [if_pos ⟨hx, rfl⟩] at hend
  unfold fixed_Parse
  rw [hcp]
  generalize hu : x.natAbs = u at *
  have hu2 : u ≤ 2147483647 := by omega
  simp only [Option.bind_some]
  rw [show lib_Cut (mag u) [46] = some (Lib.decDigits (u / 256), if u % 256 = 0 then [] else frac (u % 256), !decide (u % 256 = 0)) by unfold lib_Cut; rw [if_pos (by omega), cut_mag]]
  simp only [Option.bind_some]
  have hpad := pad_frac u
  have hfl : (if u % 256 = 0 then ([] : Str) else frac (u % 256)).length ≤ 8 := by
    split
    · simp
    · exact frac_le _ (by omega)
  generalize hf : (if u % 256 = 0 then ([] : Str) else frac (u % 256)) = fr at *
  rw [if_neg (by simp; omega)]
  have d1 := decimal_dig (Lib.decDigits (u / 256)) (dig_dec _) (by rw [vf_dec]; omega)
  have d2 := decimal_dig (dgs (u % 256 * 390625) 8) (dig_dgs _ _ _ (Nat.le_refl _)) (by rw [vf_dgs _ _ _ (Nat.le_refl _)]; omega)
  rw [vf_dec] at d1
  rw [vf_dgs _ _ _ (Nat.le_refl _)] at d2
  have e1 : (Lib.decDigits (u / 256) == []) = false := by simpa using dec_ne (u / 256)
  have e2 : (dgs (u % 256 * 390625) 8 == []) = false := by
    have := dgs_length 8 (u % 256 * 390625) (by omega)
    cases hd : dgs (u % 256 * 390625) 8 with
    | nil => rw [hd] at this; simp at this
    | cons c l => rfl
  rw [e1] at d1
  rw [e2] at d2
  rw [d1]
  simp only [Option.bind_some]
  rw [show W (8 - (fr.length : Int)) = ((8 - fr.length : Nat) : Int) by rw [W_id (by constructor <;> omega)]; omega, rep_zeros _ (by omega)]
  simp only [Option.bind_some]
  rw [cat_eq (by simp; omega), hpad]
  simp only [Option.bind_some, d2, Bool.not_false, Bool.not_true, Bool.or_self, Bool.false_eq_true, if_false]
  rw [Int.tdiv_eq_ediv_of_nonneg (by omega), W_id (x := ((u % 256 * 390625 : Nat) : Int) / 390625) (by constructor <;> omega), W_id (x := ((u / 256 : Nat) : Int) * 256) (by constructor <;> omega), W_id (x := ((u / 256 : Nat) : Int) * 256 + ((u % 256 * 390625 : Nat) : Int) / 390625) (by constructor <;> omega)]
  have hval : ((u / 256 : Nat) : Int) * 256 + ((u % 256 * 390625 : Nat) : Int) / 390625 = (u : Int) := by omega
  rw [hval]
  have hy : (if decide (x < 0) = true then some (W (0 - (u : Int))) else some (u : Int)) = some x := by
    simp only [decide_eq_true_eq]
    split
    · rw [W_id (by constructor <;> omega)]; congr 1; omega
    · congr 1; omega
  rw [hy]
  simp only [Option.bind_some] at hend ⊢
  exact hend
theorem FixedPrints (a : Int) (ha : I64 a) : echelonlaw01_FixedPrints a = some true := by
  have hb := B_le a
  simp only [echelonlaw01_FixedPrints, awake, Print, rPrint, rBound, Option.bind_some, parse_pr (B a) hb, beq_self_eq_true, if_true, Bool.and_self]
end Go.Proofs.YtlppoapbkmbipaaDoor.Pure
