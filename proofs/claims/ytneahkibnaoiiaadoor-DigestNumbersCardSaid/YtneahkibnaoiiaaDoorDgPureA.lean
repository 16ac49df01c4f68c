/- Plain laws of sums: numbers that are mixed. -/
import Derived.Test.YtneahkibnaoiiaaDoorDgGa
namespace Go.Proofs.YtneahkibnaoiiaaDoor.Dg.Pure
open Go Dg
set_option linter.unusedVariables false
set_option linter.unusedSimpArgs false
abbrev I64 (a : Int) : Prop := -9223372036854775808 ≤ a ∧ a ≤ 9223372036854775807
theorem W_id {x : Int} (h : I64 x) : W x = x := by
  simp only [W, IntKind.wrap, IntKind.signed, IntKind.bits]
  have := h.1; have := h.2
  simp
  omega
theorem WU_mod (x : Int) : WU x = x % 18446744073709551616 := by
  simp only [WU, IntKind.wrap, IntKind.signed, IntKind.bits]
  simp
theorem WU_id {x : Int} (h : 0 ≤ x ∧ x < 18446744073709551616) : WU x = x := by
  rw [WU_mod]; omega
theorem WU_nat (n : Nat) : WU (n : Int) = ((n % 18446744073709551616 : Nat) : Int) := by rw [WU_mod]; rfl
abbrev two64 : Nat := 18446744073709551616
theorem wrapU (n : Nat) (h : n < two64) : IntKind.u64.wrap (n : Int) = (n : Int) := WU_id ⟨by omega, by have h2 : n < 18446744073709551616 := h; omega⟩
theorem ixorN {a b : Nat} (ha : a < two64) (hb : b < two64) : ixor .u64 (a : Int) (b : Int) = ((a ^^^ b : Nat) : Int) := by
  have hx : a ^^^ b < 2 ^ 64 := Nat.xor_lt_two_pow (by exact ha) (by exact hb)
  unfold ixor
  show IntKind.u64.wrap (((BitVec.ofInt 64 (a : Int) ^^^ BitVec.ofInt 64 (b : Int)).toNat : Nat) : Int) = _
  rw [BitVec.ofInt_natCast, BitVec.ofInt_natCast, BitVec.toNat_xor, BitVec.toNat_ofNat, BitVec.toNat_ofNat, Nat.mod_eq_of_lt (by exact ha), Nat.mod_eq_of_lt (by exact hb)]
  exact wrapU _ hx
theorem iandN {a b : Nat} (ha : a < two64) (hb : b < two64) : iand .u64 (a : Int) (b : Int) = ((a &&& b : Nat) : Int) := by
  have hx : a &&& b < 2 ^ 64 := Nat.lt_of_le_of_lt Nat.and_le_left ha
  unfold iand
  show IntKind.u64.wrap (((BitVec.ofInt 64 (a : Int) &&& BitVec.ofInt 64 (b : Int)).toNat : Nat) : Int) = _
  rw [BitVec.ofInt_natCast, BitVec.ofInt_natCast, BitVec.toNat_and, BitVec.toNat_ofNat, BitVec.toNat_ofNat, Nat.mod_eq_of_lt (by exact ha), Nat.mod_eq_of_lt (by exact hb)]
  exact wrapU _ hx
theorem ishrN (a k : Nat) (hk : k ≤ 64) : ishr .u64 (a : Int) (k : Int) = ((a / 2 ^ k : Nat) : Int) := by
  unfold ishr
  simp only [IntKind.bits, Int.toNat_natCast]
  rw [Nat.min_eq_left hk, Int.fdiv_eq_ediv_of_nonneg _ (Int.le_of_lt (Int.pow_pos (by decide)))]
  simp
def xs (k n : Nat) : Nat := n ^^^ (n / 2 ^ k)
theorem xs_lt {k n : Nat} (h : n < two64) : xs k n < two64 :=
  Nat.xor_lt_two_pow (n := 64) (by exact h) (Nat.lt_of_le_of_lt (Nat.div_le_self _ _) h)
def f0 : Nat := 13787848793156543929
def f1 : Nat := 10723151780598845931
def mixN (n : Nat) : Nat := xs 31 (xs 27 (xs 30 n * f0 % two64) * f1 % two64)
theorem mixN_lt (n : Nat) : mixN n < two64 := xs_lt (Nat.mod_lt _ (by decide))
theorem Mix (a : Nat) (ha : a < two64) : digest_Mix (a : Int) = some ((mixN a : Nat) : Int) := by
  unfold digest_Mix
  have s0 : ∀ (n : Nat), n < two64 → ishr .u64 (n : Int) 30 = ((n / 2 ^ 30 : Nat) : Int) := fun n _ => ishrN n 30 (by decide)
  have s1 : ∀ (n : Nat), n < two64 → ishr .u64 (n : Int) 27 = ((n / 2 ^ 27 : Nat) : Int) := fun n _ => ishrN n 27 (by decide)
  have s2 : ∀ (n : Nat), n < two64 → ishr .u64 (n : Int) 31 = ((n / 2 ^ 31 : Nat) : Int) := fun n _ => ishrN n 31 (by decide)
  have dl : ∀ (n k : Nat), n < two64 → n / 2 ^ k < two64 := fun n k h => Nat.lt_of_le_of_lt (Nat.div_le_self _ _) h
  have step : ∀ (n f : Nat) (k : Nat), n < two64 → WU (ixor .u64 (n : Int) ((n / 2 ^ k : Nat) : Int) * (f : Int)) = ((xs k n * f % two64 : Nat) : Int) := by
    intro n f k h
    rw [ixorN h (dl n k h), ← Int.natCast_mul, WU_nat]; rfl
  have h1 : xs 30 a * f0 % two64 < two64 := Nat.mod_lt _ (by decide)
  have h2 : xs 27 (xs 30 a * f0 % two64) * f1 % two64 < two64 := Nat.mod_lt _ (by decide)
  rw [Loop.run_inl (s' := (((xs 30 a * f0 % two64 : Nat) : Int), 1)), Loop.run_inl (s' := (((xs 27 (xs 30 a * f0 % two64) * f1 % two64 : Nat) : Int), 2)), Loop.run_inr (b := ((xs 27 (xs 30 a * f0 % two64) * f1 % two64 : Nat) : Int))]
  · have t1 : getI tab1 2 = some 31 := by decide
    simp only [Option.bind_some, t1, must]
    rw [s2 _ h2, ixorN h2 (dl _ _ h2)]
    rfl
  · rfl
  · have t0 : getI tab0 1 = some 10723151780598845931 := by decide
    have t1 : getI tab1 1 = some 27 := by decide
    simp only [t0, t1, must, Option.bind_some]
    have := step _ f1 27 h1
    rw [← s1 _ h1] at this
    simp only [f1] at this ⊢
    rw [show ((10723151780598845931 : Nat) : Int) = 10723151780598845931 from rfl] at this
    rw [this]
    rfl
  · have t0 : getI tab0 0 = some 13787848793156543929 := by decide
    have t1 : getI tab1 0 = some 30 := by decide
    simp only [t0, t1, must, Option.bind_some]
    have := step _ f0 30 ha
    rw [← s0 _ ha] at this
    simp only [f0] at this ⊢
    rw [show ((13787848793156543929 : Nat) : Int) = 13787848793156543929 from rfl] at this
    rw [this]
    rfl
theorem rMix (a : Nat) (ha : a < two64) : echelonref03_Mix (a : Int) = some ((mixN a : Nat) : Int) := by
  unfold echelonref03_Mix
  have dl : ∀ (n k : Nat), n < two64 → n / 2 ^ k < two64 := fun n k h => Nat.lt_of_le_of_lt (Nat.div_le_self _ _) h
  have dv : ∀ (n k : Nat), n < two64 → WU (Int.tdiv (n : Int) ((2 ^ k : Nat) : Int)) = ((n / 2 ^ k : Nat) : Int) := by
    intro n k h
    rw [Int.tdiv_eq_ediv_of_nonneg (by omega), ← Int.natCast_ediv]
    exact wrapU _ (dl n k h)
  have h1 : xs 30 a * f0 % two64 < two64 := Nat.mod_lt _ (by decide)
  have h2 : xs 27 (xs 30 a * f0 % two64) * f1 % two64 < two64 := Nat.mod_lt _ (by decide)
  simp only [Option.bind_some]
  have e1 := dv a 30 ha
  rw [show ((2 ^ 30 : Nat) : Int) = 1073741824 from rfl] at e1
  rw [e1, ixorN ha (dl _ _ ha), show (13787848793156543929 : Int) = ((f0 : Nat) : Int) from rfl, ← Int.natCast_mul, WU_nat]
  have e2 := dv _ 27 h1
  rw [show ((2 ^ 27 : Nat) : Int) = 134217728 from rfl] at e2
  show some (ixor IntKind.u64 (WU (ixor IntKind.u64 ((xs 30 a * f0 % two64 : Nat) : Int) (WU (Int.tdiv ((xs 30 a * f0 % two64 : Nat) : Int) 134217728)) * 10723151780598845931)) (WU (Int.tdiv (WU (ixor IntKind.u64 ((xs 30 a * f0 % two64 : Nat) : Int) (WU (Int.tdiv ((xs 30 a * f0 % two64 : Nat) : Int) 134217728)) * 10723151780598845931)) 2147483648))) = _
  rw [e2, ixorN h1 (dl _ _ h1), show (10723151780598845931 : Int) = ((f1 : Nat) : Int) from rfl, ← Int.natCast_mul, WU_nat]
  have e3 := dv _ 31 h2
  rw [show ((2 ^ 31 : Nat) : Int) = 2147483648 from rfl] at e3
  show some (ixor IntKind.u64 ((xs 27 (xs 30 a * f0 % two64) * f1 % two64 : Nat) : Int) (WU (Int.tdiv ((xs 27 (xs 30 a * f0 % two64) * f1 % two64 : Nat) : Int) 2147483648))) = _
  rw [e3, ixorN h2 (dl _ _ h2)]
  rfl
/-! Mixing is one to one. -/
theorem xs_inj {k a b : Nat} (hk : 0 < k) (h : xs k a = xs k b) : a = b := by
  unfold xs at h
  have h1 : (a ^^^ b) = (a ^^^ b) / 2 ^ k := by
    have e : (a ^^^ b) / 2 ^ k = (a / 2 ^ k) ^^^ (b / 2 ^ k) := by
      rw [← Nat.shiftRight_eq_div_pow, ← Nat.shiftRight_eq_div_pow, ← Nat.shiftRight_eq_div_pow, Nat.shiftRight_xor_distrib]
    rw [e]
    apply Nat.eq_of_testBit_eq
    intro i
    have := congrArg (fun n => n.testBit i) h
    simp only [Nat.testBit_xor] at this ⊢
    cases h1 : a.testBit i <;> cases h2 : b.testBit i <;> cases h3 : (a / 2 ^ k).testBit i <;> cases h4 : (b / 2 ^ k).testBit i <;> simp_all
  have h2 : a ^^^ b = 0 := by
    by_cases h0 : a ^^^ b = 0
    · exact h0
    · have : (a ^^^ b) / 2 ^ k < a ^^^ b := Nat.div_lt_self (by omega) (Nat.one_lt_two_pow (by omega))
      omega
  apply Nat.eq_of_testBit_eq
  intro i
  have := congrArg (fun n => n.testBit i) h2
  simp only [Nat.testBit_xor, Nat.zero_testBit] at this
  cases h1 : a.testBit i <;> cases h2 : b.testBit i <;> simp_all
theorem mul_inj {f g a b : Nat} (hfg : f * g % two64 = 1) (ha : a < two64) (hb : b < two64) (h : a * f % two64 = b * f % two64) : a = b := by
  have key : ∀ x : Nat, x < two64 → (x * f % two64) * g % two64 = x := by
    intro x hx
    rw [Nat.mod_mul_mod, Nat.mul_assoc, ← Nat.mul_mod_mod, hfg, Nat.mul_one, Nat.mod_eq_of_lt hx]
  rw [← key a ha, ← key b hb, h]
def g0 : Nat := 10871156337175269513
def g1 : Nat := 3573116690164977347
theorem mixN_inj {a b : Nat} (ha : a < two64) (hb : b < two64) (h : mixN a = mixN b) : a = b := by
  unfold mixN at h
  have h1 := xs_inj (by decide) h
  have h2 := mul_inj (g := g1) (by decide) (xs_lt (Nat.mod_lt _ (by decide))) (xs_lt (Nat.mod_lt _ (by decide))) h1
  have h3 := xs_inj (by decide) h2
  have h4 := mul_inj (g := g0) (by decide) (xs_lt ha) (xs_lt hb) h3
  exact xs_inj (by decide) h4
end Go.Proofs.YtneahkibnaoiiaaDoor.Dg.Pure
