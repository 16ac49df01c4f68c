/- Plain laws: numbers as texts. -/
import Derived.Test.YtlppoapbkmbipaaDoorPureE
namespace Go.Proofs.YtlppoapbkmbipaaDoor.Pure
open Go Ga
set_option linter.unusedVariables false
set_option linter.unusedSimpArgs false
/-- The digit of a number below ten. -/
def dg1 (n : Nat) : UInt8 := UInt8.ofNat (48 + n % 10)
theorem dg1_nat (n : Nat) : (dg1 n).toNat = 48 + n % 10 := by
  unfold dg1
  rw [UInt8.toNat_ofNat_of_lt']
  show 48 + n % 10 < 256
  omega
/-- n in k places at least (no digit for nought). -/
def dgs (n k : Nat) : Str := if h : n = 0 ∧ k = 0 then [] else dgs (n / 10) (k - 1) ++ [dg1 n]
termination_by n + k
decreasing_by omega
theorem dgs_nil : dgs 0 0 = [] := by rw [dgs]; simp
theorem dgs_step {n k : Nat} (h : ¬ (n = 0 ∧ k = 0)) : dgs n k = dgs (n / 10) (k - 1) ++ [dg1 n] := by rw [dgs, dif_neg h]
theorem dgs_zero (k : Nat) : dgs 0 k = List.replicate k 48 := by
  induction k with
  | zero => exact dgs_nil
  | succ k ih => rw [dgs_step (by omega), List.replicate_succ']; simp only [Nat.zero_div, Nat.add_sub_cancel, ih]; rfl
theorem dgs_dec : ∀ (n k : Nat), 0 < n → k ≤ 1 → dgs n k = Lib.decDigits n := by
  intro n
  induction n using Nat.strongRecOn with
  | _ n ih =>
    intro k hn hk
    rw [dgs_step (by omega), Lib.decDigits]
    by_cases h : n < 10
    · rw [dif_pos h, Nat.div_eq_of_lt h, show k - 1 = 0 by omega, dgs_nil]
      unfold dg1
      rw [Nat.mod_eq_of_lt h]; rfl
    · rw [dif_neg h, ih (n / 10) (by omega) _ (by omega) (by omega)]; rfl
theorem dgs_one (n : Nat) : dgs n 1 = Lib.decDigits n := by
  by_cases h : n = 0
  · subst h; rw [dgs_zero, Lib.decDigits_one (by decide)]; decide
  · exact dgs_dec n 1 (by omega) (by omega)
theorem dgs_length : ∀ (k n : Nat), n < 10 ^ k → (dgs n k).length = k
  | 0, n, h => by
    have : n = 0 := by simpa using h
    subst this; rw [dgs_nil]; rfl
  | k + 1, n, h => by
    rw [dgs_step (by omega), List.length_append, Nat.add_sub_cancel, dgs_length k (n / 10) (by rw [Nat.pow_succ] at h; omega)]; rfl
theorem dgs_pad : ∀ (k n : Nat), 0 < n → n < 10 ^ k → dgs n k = List.replicate (k - (Lib.decDigits n).length) 48 ++ Lib.decDigits n ∧ (Lib.decDigits n).length ≤ k
  | 0, n, h0, h => by simp at h; omega
  | k + 1, n, h0, h => by
    rw [dgs_step (by omega), Nat.add_sub_cancel]
    by_cases hs : n < 10
    · rw [Nat.div_eq_of_lt hs, dgs_zero, Lib.decDigits, dif_pos hs]
      refine ⟨?_, by simp⟩
      unfold dg1
      rw [Nat.mod_eq_of_lt hs]; rfl
    · have ih := dgs_pad k (n / 10) (by omega) (by rw [Nat.pow_succ] at h; omega)
      have e : Lib.decDigits n = Lib.decDigits (n / 10) ++ [dg1 n] := by rw [Lib.decDigits, dif_neg hs]; rfl
      rw [ih.1, e]
      refine ⟨?_, by simp; omega⟩
      rw [List.append_assoc]
      congr 2
      simp
theorem dec_length {n k : Nat} (h : n < 10 ^ (k + 1)) : (Lib.decDigits n).length ≤ k + 1 := by
  by_cases h0 : n = 0
  · subst h0; rw [Lib.decDigits_one (by decide)]; simp
  · exact (dgs_pad (k + 1) n (by omega) h).2
/-- The loop of digits comes to the digits. -/
theorem digits_eq (m n : Nat) (k : Int) (hn : n < 10 ^ m) (hk : k ≤ m) (hm : m ≤ 18) (hk0 : (m : Int) - 200 ≤ k) : echelonref01_digits n k = some (dgs n k.toNat) := by
  unfold echelonref01_digits
  have key : ∀ (m n : Nat) (k : Int) (s : Str), n < 10 ^ m → k ≤ m → m ≤ 18 → (m : Int) - 200 ≤ k → s.length + m ≤ 200 →
      Loop.run (fun (s53 : Int × Int × Str) => (some ((decide (s53.1 > 0)) || (decide (s53.2.1 > 0)))).bind fun (y58 : Bool) => if y58 then (cat (text ([W8 (W (48 + (Int.tmod s53.1 10)))])) s53.2.2).bind fun (x66 : Str) => some (.inl (W (Int.tdiv s53.1 10), W (s53.2.1 - 1), x66)) else some (.inr s53.2.2)) ((n : Int), k, s) = some (dgs n k.toNat ++ s) := by
    intro m
    induction m with
    | zero =>
      intro n k s hn hk _ _ _
      have h0 : n = 0 := by simpa using hn
      subst h0
      rw [Loop.run_inr (b := s)]
      · have : k.toNat = 0 := by simp at hk; omega
        rw [this, dgs_nil]; rfl
      · have : ¬ k > 0 := by simp at hk; omega
        simp [this]
    | succ m ih =>
      intro n k s hn hk hm hk0 hs
      by_cases hstop : n = 0 ∧ k ≤ 0
      · obtain ⟨rfl, hk1⟩ := hstop
        rw [Loop.run_inr (b := s)]
        · have : k.toNat = 0 := by omega
          rw [this, dgs_nil]; rfl
        · have : ¬ k > 0 := by omega
          simp [this]
      · have hgo : (decide ((n : Int) > 0) || decide (k > 0)) = true := by simp; omega
        have hn18 : n < 10 ^ 18 := Nat.lt_of_lt_of_le hn (Nat.pow_le_pow_right (by decide) hm)
        have hdiv : n / 10 < 10 ^ m := by rw [Nat.pow_succ] at hn; omega
        rw [Loop.run_inl (s' := (((n / 10 : Nat) : Int), k - 1, dg1 n :: s))]
        · rw [ih (n / 10) (k - 1) (dg1 n :: s) hdiv (by omega) (by omega) (by omega) (by simp; omega)]
          congr 1
          rw [dgs_step (n := n) (k := k.toNat) (by omega), show (k - 1).toNat = k.toNat - 1 by omega]
          simp
        · simp only [hgo, Option.bind_some, if_true]
          have e1 : Int.tmod (n : Int) 10 = ((n % 10 : Nat) : Int) := by rw [Int.tmod_eq_emod_of_nonneg (by omega)]; rfl
          have e2 : W (Int.tdiv (n : Int) 10) = ((n / 10 : Nat) : Int) := by
            rw [Int.tdiv_eq_ediv_of_nonneg (by omega), W_id (by constructor <;> omega)]; rfl
          have e3 : text [W8 (W (48 + Int.tmod (n : Int) 10))] = [dg1 n] := by
            rw [e1, W_id (by constructor <;> omega)]
            simp only [text, List.map_cons, List.map_nil, W8, IntKind.wrap, IntKind.signed, IntKind.bits, dg1]
            congr 2
            simp
            omega
          rw [e2, e3, W_id (x := k - 1) (by constructor <;> omega)]
          simp only [cat]
          rw [if_pos (by simp; omega)]
          simp
  rw [key m n k [] hn hk hm hk0 (by simp; omega)]
  simp
/-- Nought digits behind are stripped. -/
theorem strip_eq (l : Str) (hl : l.length ≤ 100) : (Loop.run (fun (s57 : Str) => (if decide ((s57.length : Int) > 0) then (getI s57 (W ((s57.length : Int) - 1))).bind fun (x67 : UInt8) => some ((x67.toNat : Int) == 48) else some false).bind fun (y62 : Bool) => if y62 then (sub s57 0 (W ((s57.length : Int) - 1))).bind fun (x70 : Str) => some (.inl x70) else some (.inr s57)) l) = some (Lib.trimRightB l 48) := by
  have key : ∀ (r : Str), r.length ≤ 100 → (Loop.run (fun (s57 : Str) => (if decide ((s57.length : Int) > 0) then (getI s57 (W ((s57.length : Int) - 1))).bind fun (x67 : UInt8) => some ((x67.toNat : Int) == 48) else some false).bind fun (y62 : Bool) => if y62 then (sub s57 0 (W ((s57.length : Int) - 1))).bind fun (x70 : Str) => some (.inl x70) else some (.inr s57)) r.reverse) = some (r.dropWhile (· == 48)).reverse := by
    intro r
    induction r with
    | nil => intro _; rw [Loop.run_inr (b := [])]; · rfl
             · rfl
    | cons c r ih =>
      intro hr
      have hr' : r.length ≤ 99 := by simpa using hr
      have e1 : W (((c :: r).reverse.length : Int) - 1) = (r.length : Int) := by rw [W_id (by simp; constructor <;> omega)]; simp
      have e2 : getI (c :: r).reverse (r.length : Int) = some c := by simp [getI]
      have e3 : decide (((c :: r).reverse.length : Int) > 0) = true := by simp
      have e4 : sub (c :: r).reverse 0 (r.length : Int) = some r.reverse := by
        unfold sub
        rw [if_pos (by simp; omega)]
        simp
      by_cases hc : c = 48
      · subst hc
        rw [Loop.run_inl (s' := r.reverse), ih (by omega)]
        · simp
        · rw [e1, e2, e3, e4]; rfl
      · have hc2 : ((c.toNat : Int) == 48) = false := by
          simp
          intro h
          apply hc
          apply UInt8.toNat_inj.1
          show c.toNat = 48
          omega
        rw [Loop.run_inr (b := (c :: r).reverse)]
        · simp [hc]
        · rw [e1, e2, e3]; simp [hc2]
  have := key l.reverse (by simpa using hl)
  simpa [Lib.trimRightB] using this
/-- The part behind the point, of f parts in 256. -/
def frac (f : Nat) : Str := Lib.trimRightB (dgs (f * 390625) 8) 48
/-- The text of a number without its sign. -/
def mag (u : Nat) : Str := Lib.decDigits (u / 256) ++ (if u % 256 = 0 then [] else 46 :: frac (u % 256))
def pr (x : Int) : Str := if x < 0 then 45 :: mag x.natAbs else mag x.natAbs
theorem itoa_nat {n : Nat} (h : n ≤ 9223372036854775807) : lib_Itoa (n : Int) = some (Lib.decDigits n) := by
  unfold lib_Itoa Lib.itoa
  rw [if_pos (by omega), if_neg (by omega)]
  rfl
theorem trim_le (l : Str) (c : UInt8) : (Lib.trimRightB l c).length ≤ l.length := by
  unfold Lib.trimRightB
  rw [List.length_reverse]
  have := (List.dropWhile_sublist (· == c) (l := l.reverse)).length_le
  simpa using this
theorem frac_le (f : Nat) (h : f < 256) : (frac f).length ≤ 8 := by
  have := trim_le (dgs (f * 390625) 8) 48
  rw [dgs_length 8 _ (by omega)] at this
  exact this
theorem mag_le (u : Nat) (h : u ≤ 2147483647) : (mag u).length ≤ 20 := by
  unfold mag
  have h1 := dec_length (n := u / 256) (k := 7) (by omega)
  have h2 := frac_le (u % 256) (by omega)
  split <;> simp <;> omega
end Go.Proofs.YtlppoapbkmbipaaDoor.Pure
