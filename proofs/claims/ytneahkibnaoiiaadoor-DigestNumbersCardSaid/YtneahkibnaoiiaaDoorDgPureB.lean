/- Plain laws of sums: their texts. -/
import Derived.Test.YtneahkibnaoiiaaDoorDgPureA
namespace Go.Proofs.YtneahkibnaoiiaaDoor.Dg.Pure
open Go Dg
set_option linter.unusedVariables false
set_option linter.unusedSimpArgs false
set_option maxRecDepth 8000
/-- A digit of sixteen. -/
def hx (d : Nat) : UInt8 := UInt8.ofNat (if d % 16 < 10 then 48 + d % 16 else 87 + d % 16)
theorem hx_nat (d : Nat) : (hx d).toNat = if d % 16 < 10 then 48 + d % 16 else 87 + d % 16 := by
  unfold hx
  rw [UInt8.toNat_ofNat_of_lt']
  show (if d % 16 < 10 then 48 + d % 16 else 87 + d % 16) < 256
  split <;> omega
/-- So many digits of a number. -/
def hx16 : Nat → Nat → Str
  | 0, _ => []
  | k + 1, n => hx16 k (n / 16) ++ [hx n]
theorem hx16_len : ∀ k n, (hx16 k n).length = k
  | 0, _ => rfl
  | k + 1, n => by simp [hx16, hx16_len k]
theorem hx16_cons : ∀ k n, hx16 (k + 1) n = hx (n / 16 ^ k) :: hx16 k n
  | 0, n => by simp [hx16]
  | k + 1, n => by
    rw [hx16, hx16_cons k (n / 16), Nat.div_div_eq_div_mul, ← Nat.pow_succ']
    rfl
theorem hx16_pad : ∀ (d m n : Nat), n < 16 ^ m → hx16 (m + d) n = List.replicate d 48 ++ hx16 m n
  | 0, m, n, _ => by simp
  | d + 1, m, n, h => by
    rw [← Nat.add_assoc, hx16_cons, hx16_pad d m n h, List.replicate_succ]
    have : n / 16 ^ (m + d) = 0 := Nat.div_eq_of_lt (Nat.lt_of_lt_of_le h (Nat.pow_le_pow_right (by decide) (by omega)))
    rw [this]
    rfl
theorem cat_eq {x y : Str} (h : x.length + y.length ≤ 1000) : cat x y = some (x ++ y) := by
  unfold cat
  rw [if_pos (by omega)]
theorem W8_id {x : Int} (h : 0 ≤ x ∧ x < 256) : W8 x = x := by
  simp only [W8, IntKind.wrap, IntKind.signed, IntKind.bits]
  simp
  omega
theorem rPrint (a : Nat) (ha : a < two64) : echelonref03_Print (a : Int) = some (hx16 16 a) := by
  unfold echelonref03_Print
  have key : ∀ (k i a : Nat) (s : Str), i + k = 16 → a < two64 → s.length ≤ 16 - k →
      Loop.run (fun (s88 : Int × Str × Int) => if decide (s88.2.2 < 16) then (some (W8 (48 + (W8 (Int.tmod s88.1 16))))).bind fun (x97 : Int) => (if decide ((W8 (Int.tmod s88.1 16)) > 9) then (some (W8 ((W8 (97 + (W8 (Int.tmod s88.1 16)))) - 10))).bind fun (x107 : Int) => some x107 else some x97).bind fun (y100 : Int) => (cat (text ([y100])) s88.2.1).bind fun (x113 : Str) => some (.inl (WU (Int.tdiv s88.1 16), x113, W (s88.2.2 + 1))) else some (.inr s88.2.1)) ((a : Int), s, (i : Int)) = some (hx16 k a ++ s) := by
    intro k
    induction k with
    | zero =>
      intro i a s hi ha hs
      rw [Loop.run_inr (b := s)]
      · rfl
      · have : ¬ ((i : Int) < 16) := by omega
        simp [this]
    | succ k ih =>
      intro i a s hi ha hs
      have hlt : decide ((i : Int) < 16) = true := by simp; omega
      have e1 : W8 (Int.tmod (a : Int) 16) = ((a % 16 : Nat) : Int) := by
        rw [Int.tmod_eq_emod_of_nonneg (by omega), W8_id (by omega)]; rfl
      have e2 : WU (Int.tdiv (a : Int) 16) = ((a / 16 : Nat) : Int) := by
        rw [Int.tdiv_eq_ediv_of_nonneg (by omega), WU_id (by have h2 : a < 18446744073709551616 := ha; omega)]; rfl
      have e3 : ((if decide ((((a % 16 : Nat) : Int)) > 9) then (some (W8 ((W8 (97 + (((a % 16 : Nat) : Int)))) - 10))).bind fun (x107 : Int) => some x107 else some (W8 (48 + ((a % 16 : Nat) : Int)))) : Option Int) = some ((hx a).toNat : Int) := by
        rw [hx_nat]
        by_cases h9 : (((a % 16 : Nat) : Int)) > 9
        · rw [if_pos (by simp; omega), W8_id (x := 97 + ((a % 16 : Nat) : Int)) (by omega), W8_id (by omega), if_neg (by omega)]
          simp only [Option.bind_some]
          congr 1
          omega
        · rw [if_neg (by simp; omega), W8_id (by omega), if_pos (by omega)]; try rfl
      have e4 : text [((hx a).toNat : Int)] = [hx a] := by simp [text]
      rw [Loop.run_inl (s' := (((a / 16 : Nat) : Int), hx a :: s, ((i + 1 : Nat) : Int)))]
      · rw [ih (i + 1) (a / 16) (hx a :: s) (by omega) (Nat.lt_of_le_of_lt (Nat.div_le_self _ _) ha) (by simp; omega)]
        simp [hx16]
      · simp only [hlt, if_true, e1, e2, Option.bind_some]
        simp only [Option.bind_some] at e3
        rw [e3]
        simp only [Option.bind_some, e4]
        rw [cat_eq (by simp; omega), W_id (by constructor <;> omega)]
        rfl
  have := key 16 0 a [] (by decide) ha (by simp)
  simp only [List.append_nil] at this
  rw [show ((a : Int), ([] : Str), (0 : Int)) = ((a : Int), ([] : Str), ((0 : Nat) : Int)) from rfl, this]
  rfl
theorem digs (d : Nat) (h : d < 16) : getI ([48, 49, 50, 51, 52, 53, 54, 55, 56, 57, 97, 98, 99, 100, 101, 102, 103, 104, 105, 106, 107, 108, 109, 110, 111, 112, 113, 114, 115, 116, 117, 118, 119, 120, 121, 122] : Str) (d : Int) = some (hx d) := by
  have : ∀ d : Fin 16, getI ([48, 49, 50, 51, 52, 53, 54, 55, 56, 57, 97, 98, 99, 100, 101, 102, 103, 104, 105, 106, 107, 108, 109, 110, 111, 112, 113, 114, 115, 116, 117, 118, 119, 120, 121, 122] : Str) ((d.val : Nat) : Int) = some (hx d.val) := by decide +kernel
  exact this ⟨d, h⟩
theorem and15 (u : Nat) : u &&& 15 = u % 16 := Nat.and_two_pow_sub_one_eq_mod u 4
theorem hx_mod (u : Nat) : hx (u % 16) = hx u := by unfold hx; rw [Nat.mod_mod]
def ints (s : Str) : List Int := s.map fun c => (c.toNat : Int)
theorem text_ints (s : Str) : text (ints s) = s := by
  unfold text ints
  rw [List.map_map]
  conv => rhs; rw [← List.map_id s]
  apply List.map_congr_left
  intro c _
  simp
theorem drop_set (arr : List Int) (k : Nat) (v : Int) (h : k < arr.length) : (arr.set k v).drop k = v :: arr.drop (k + 1) := by
  rw [List.drop_eq_getElem_cons (by simpa using h)]
  simp [List.drop_set]
/-- The digits that are laid from the end of an array on. -/
theorem formatBits (a : Nat) (ha : a < two64) : ∃ m v, 1 ≤ m ∧ m ≤ 16 ∧ a < 16 ^ m ∧ internal_strconv_formatBits (.slice none 0 0) (a : Int) 16 false false = some (v, hx16 m a) := by
  unfold internal_strconv_formatBits
  have hp : internal_strconv_isPowerOfTwo 16 = some true := by decide +kernel
  have ht : bits_TrailingZeros 16 = some 4 := by decide +kernel
  have hc : (decide ((16 : Int) < 2) || ((16 : Int) == 10 || decide ((16 : Int) > 36))) = false := by decide
  have w16 : WU 16 = 16 := by decide
  have w4 : WU 4 = 4 := by decide
  have w15 : WU (16 - 1) = ((15 : Nat) : Int) := by decide
  simp only [hc, hp, ht, Option.bind_some, Bool.false_eq_true, if_false, if_true, w16, w4, w15]
  have hsh : ∀ u : Nat, ishr .u64 (u : Int) 4 = ((u / 16 : Nat) : Int) := fun u => ishrN u 4 (by decide)
  obtain ⟨r, hr, hr2⟩ := Loop.run_ends (step := (fun (s239 : Int × Int × List Int) => if decide (s239.1 ≥ 16) then (getI ([48, 49, 50, 51, 52, 53, 54, 55, 56, 57, 97, 98, 99, 100, 101, 102, 103, 104, 105, 106, 107, 108, 109, 110, 111, 112, 113, 114, 115, 116, 117, 118, 119, 120, 121, 122]) (iand .u64 s239.1 ((15 : Nat) : Int))).bind fun (x247 : UInt8) => (must (s239.2.2.length == 65)).bind fun _ => (getI s239.2.2 (W (s239.2.1 - 1))).bind fun (x249 : Int) => (must (decide ((0 : Int) ≤ 4))).bind fun _ => (some (ishr .u64 s239.1 4)).bind fun (x253 : Int) => some (.inl (x253, W (s239.2.1 - 1), s239.2.2.set (W (s239.2.1 - 1)).toNat (x247.toNat : Int))) else some (.inr (s239.1, s239.2.1, s239.2.2)) : Int × Int × List Int → Option ((Int × Int × List Int) ⊕ (Int × Int × List Int))))
    (I := fun s => ∃ j : Nat, j ≤ 15 ∧ s.1 = ((a / 16 ^ j : Nat) : Int) ∧ s.2.1 = 65 - (j : Int) ∧ s.2.2.length = 65 ∧ s.2.2.drop (65 - j) = ints (hx16 j a)) (R := fun _ r => ∃ j : Nat, j ≤ 15 ∧ a / 16 ^ j < 16 ∧ r.1 = ((a / 16 ^ j : Nat) : Int) ∧ r.2.1 = 65 - (j : Int) ∧ r.2.2.length = 65 ∧ r.2.2.drop (65 - j) = ints (hx16 j a)) (m := fun s => s.1.toNat) (by
      rintro ⟨u, i, arr⟩ ⟨j, hj, hu, hi, hlen, hdrop⟩
      simp only at hu hi hlen hdrop ⊢
      subst hu; subst hi
      by_cases hge : 16 ≤ a / 16 ^ j
      · right
        have hlt : a / 16 ^ j < two64 := Nat.lt_of_le_of_lt (Nat.div_le_self _ _) ha
        have hj15 : j < 15 := by
          rcases Nat.lt_or_ge j 15 with h | h
          · exact h
          · have : j = 15 := by omega
            subst this
            have : a / 16 ^ 15 < 16 := by
              rw [Nat.div_lt_iff_lt_mul (by decide)]
              exact ha
            omega
        have hd : decide (((a / 16 ^ j : Nat) : Int) ≥ 16) = true := decide_eq_true (Int.ofNat_le.2 hge)
        have hw : W (65 - (j : Int) - 1) = ((64 - j : Nat) : Int) := by rw [W_id (by constructor <;> omega)]; omega
        have hget : getI arr ((64 - j : Nat) : Int) = some (arr[64 - j]'(by omega)) := by
          unfold getI
          rw [if_pos (by omega), Int.toNat_natCast, List.getElem?_eq_getElem]
        have hbeq : (arr.length == 65) = true := by simp [hlen]
        simp only [hd, if_true, hw, hget, iandN hlt (by decide : 15 < two64), and15, digs _ (Nat.mod_lt _ (by decide : 0 < 16)), hx_mod, hsh, must, hbeq, Option.bind_some, decide_true, Int.toNat_natCast, show decide ((0 : Int) ≤ 4) = true from rfl]
        refine ⟨_, rfl, ⟨j + 1, by omega, ?_, by simp only; omega, by simpa using hlen, ?_⟩, ?_, fun _ h => h⟩
        · simp only
          rw [Nat.div_div_eq_div_mul, ← Nat.pow_succ]
        · simp only
          rw [show 65 - (j + 1) = 64 - j by omega, drop_set _ _ _ (by omega), show 64 - j + 1 = 65 - j by omega, hdrop, hx16_cons]
          rfl
        · simp only [Int.toNat_natCast]
          exact Nat.div_lt_self (by omega) (by decide)
      · left
        have hd : decide (((a / 16 ^ j : Nat) : Int) ≥ 16) = false := decide_eq_false (fun h => hge (Int.ofNat_le.1 h))
        simp only [hd, Bool.false_eq_true, if_false]
        exact ⟨_, rfl, j, hj, by omega, rfl, rfl, hlen, hdrop⟩) ((a : Int), 65, List.replicate 65 0) ⟨0, by decide, by simp, by simp, by simp, by simp [hx16, ints]⟩
  simp only [Option.bind_some] at hr
  rw [hr]
  obtain ⟨j, hj, hlt, h1, h2, h3, h4⟩ := hr2
  obtain ⟨u, i, arr⟩ := r
  simp only at h1 h2 h3 h4
  subst h1; subst h2
  have hw : W (65 - (j : Int) - 1) = ((64 - j : Nat) : Int) := by rw [W_id (by constructor <;> omega)]; omega
  have hget : getI arr ((64 - j : Nat) : Int) = some (arr[64 - j]'(by omega)) := by
    unfold getI
    rw [if_pos (by omega), Int.toNat_natCast, List.getElem?_eq_getElem]
  have hbeq : (arr.length == 65) = true := by simp [h3]
  have hset : ((arr.set (64 - j) ((hx (a / 16 ^ j)).toNat : Int)).length == 65) = true := by simp [h3]
  have hle1 : decide ((0 : Int) ≤ ((64 - j : Nat) : Int)) = true := by simp
  have hle2 : decide (((64 - j : Nat) : Int) ≤ 65) = true := by simp; omega
  have hA : a < 16 ^ (j + 1) := by
    rw [Nat.pow_succ, Nat.mul_comm]
    exact (Nat.div_lt_iff_lt_mul (Nat.pow_pos (by decide))).1 hlt
  refine ⟨j + 1, .slice none 0 0, by omega, by omega, hA, ?_⟩
  rw [Option.bind_some]
  simp only
  rw [digs _ hlt, Option.bind_some, hbeq, show must true = some () from rfl, Option.bind_some, hw, hget, Option.bind_some, Option.bind_some]
  simp only
  rw [hle1, hle2, Int.toNat_natCast, hset, show must true = some () from rfl, Option.bind_some, Option.bind_some, Option.bind_some]
  rw [drop_set _ _ _ (by omega), show 64 - j + 1 = 65 - j by omega, h4]
  have e : ((hx (a / 16 ^ j)).toNat : Int) :: ints (hx16 j a) = ints (hx (a / 16 ^ j) :: hx16 j a) := by simp only [ints, List.map_cons]
  rw [e, text_ints, hx16_cons]
theorem repeat48 (k : Nat) : Lib.repeatL [48] k = List.replicate k 48 := by
  have := Lib.repeatL_replicate 48 1 k
  simpa using this
theorem rep_zeros (k : Nat) (hk : k ≤ 16) : lib_Repeat [48] (k : Int) = some (List.replicate k 48) := by
  unfold lib_Repeat
  rw [if_pos ⟨by omega, by omega, by simp; omega⟩, Int.toNat_natCast, repeat48]
theorem Print (a : Nat) (ha : a < two64) : digest_Print (a : Int) = some (hx16 16 a) := by
  obtain ⟨m, v, h1, h2, h3, h4⟩ := formatBits a ha
  unfold digest_Print strconv_FormatUint internal_strconv_FormatUint
  rw [if_neg (by decide), h4]
  simp only [Option.bind_some, hx16_len]
  rw [show W (16 - (m : Int)) = ((16 - m : Nat) : Int) by rw [W_id (by constructor <;> omega)]; omega, rep_zeros _ (by omega)]
  simp only [Option.bind_some]
  rw [cat_eq (by simp [hx16_len]; omega)]
  simp only [Option.bind_some]
  rw [← hx16_pad (16 - m) m a h3, show m + (16 - m) = 16 by omega]
end Go.Proofs.YtneahkibnaoiiaaDoor.Dg.Pure
