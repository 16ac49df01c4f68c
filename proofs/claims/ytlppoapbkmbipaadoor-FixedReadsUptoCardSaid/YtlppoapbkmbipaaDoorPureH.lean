/- Plain laws: reading numbers. -/
import Derived.Test.YtlppoapbkmbipaaDoorPureG
import Derived.Laws.RangeAny
import Derived.Lib.IndexLaws
namespace Go.Proofs.YtlppoapbkmbipaaDoor.Pure
open Go Ga
set_option linter.unusedVariables false
set_option linter.unusedSimpArgs false
def IsDig (c : UInt8) : Prop := 48 ≤ c.toNat ∧ c.toNat ≤ 57
/-- What digits come to, from a on. -/
def vf (a : Nat) (l : Str) : Nat := l.foldl (fun a c => 10 * a + (c.toNat - 48)) a
theorem vf_nil (a : Nat) : vf a [] = a := rfl
theorem vf_cons (a : Nat) (c : UInt8) (l : Str) : vf a (c :: l) = vf (10 * a + (c.toNat - 48)) l := by unfold vf; rw [List.foldl_cons]
theorem vf_app (a : Nat) (l r : Str) : vf a (l ++ r) = vf (vf a l) r := by unfold vf; rw [List.foldl_append]
theorem vf_ge (l : Str) : ∀ a, a ≤ vf a l := by
  induction l with
  | nil => intro a; exact Nat.le_refl _
  | cons c l ih => intro a; rw [vf_cons]; exact Nat.le_trans (by omega) (ih _)
theorem vf_zeros (j : Nat) : ∀ a, vf a (List.replicate j 48) = a * 10 ^ j := by
  induction j with
  | zero => intro a; simp [vf]
  | succ j ih =>
    intro a
    rw [List.replicate_succ, vf_cons, ih, Nat.pow_succ]
    have : (48 : UInt8).toNat - 48 = 0 := rfl
    rw [this, Nat.add_zero, Nat.mul_comm 10 a, Nat.mul_assoc, Nat.mul_comm 10]
theorem vf_dgs : ∀ (m n k : Nat), n + k ≤ m → vf 0 (dgs n k) = n
  | 0, n, k, h => by
    have h1 : n = 0 := by omega
    have h2 : k = 0 := by omega
    subst h1; subst h2; rw [dgs_nil]; rfl
  | m + 1, n, k, h => by
    by_cases h0 : n = 0 ∧ k = 0
    · obtain ⟨rfl, rfl⟩ := h0; rw [dgs_nil]; rfl
    · rw [dgs_step h0, vf_app, vf_dgs m (n / 10) (k - 1) (by omega)]
      rw [vf_cons, vf_nil, dg1_nat]
      omega
theorem dig_dgs : ∀ (m n k : Nat), n + k ≤ m → ∀ c ∈ dgs n k, IsDig c
  | 0, n, k, h => by
    have h1 : n = 0 := by omega
    have h2 : k = 0 := by omega
    subst h1; subst h2; rw [dgs_nil]; intro c hc; cases hc
  | m + 1, n, k, h => by
    by_cases h0 : n = 0 ∧ k = 0
    · obtain ⟨rfl, rfl⟩ := h0; rw [dgs_nil]; intro c hc; cases hc
    · rw [dgs_step h0]
      intro c hc
      rcases List.mem_append.1 hc with hc | hc
      · exact dig_dgs m (n / 10) (k - 1) (by omega) c hc
      · simp at hc
        subst hc
        unfold IsDig
        rw [dg1_nat]
        omega
theorem vf_dec (n : Nat) : vf 0 (Lib.decDigits n) = n := by rw [← dgs_one]; exact vf_dgs _ n 1 (Nat.le_refl _)
theorem dig_dec (n : Nat) : ∀ c ∈ Lib.decDigits n, IsDig c := by rw [← dgs_one]; exact dig_dgs _ n 1 (Nat.le_refl _)
theorem dec_ne (n : Nat) : Lib.decDigits n ≠ [] := by
  rw [Lib.decDigits]
  split <;> simp
theorem trim_back (l : Str) : Lib.trimRightB l 48 ++ List.replicate (l.length - (Lib.trimRightB l 48).length) 48 = l := by
  have h1 := List.takeWhile_append_dropWhile (p := (· == (48 : UInt8))) (l := l.reverse)
  have h2 : l.reverse.takeWhile (· == (48 : UInt8)) = List.replicate (l.length - (Lib.trimRightB l 48).length) 48 := by
    refine List.eq_replicate_iff.2 ⟨?_, fun b hb => ?_⟩
    · have := congrArg List.length h1
      rw [List.length_append, List.length_reverse] at this
      unfold Lib.trimRightB
      rw [List.length_reverse]
      omega
    · have := List.all_eq_true.1 List.all_takeWhile b hb
      simpa using this
  have h3 := congrArg List.reverse h1
  rw [List.reverse_append, List.reverse_reverse, h2, List.reverse_replicate] at h3
  exact h3
theorem frac_back (f : Nat) (h : f < 256) : frac f ++ List.replicate (8 - (frac f).length) 48 = dgs (f * 390625) 8 := by
  have := trim_back (dgs (f * 390625) 8)
  rw [dgs_length 8 _ (by omega)] at this
  exact this
theorem trim_mem {l : Str} {c : UInt8} (h : c ∈ Lib.trimRightB l 48) : c ∈ l := by
  rw [← trim_back l]
  exact List.mem_append_left _ h
theorem dig_frac (f : Nat) : ∀ c ∈ frac f, IsDig c := fun c hc => dig_dgs _ _ 8 (Nat.le_refl _) c (trim_mem hc)
/-! A rune: how wide, how great. -/
theorem rune_ge {s : Str} {p : Nat} (h : p < s.length) : 1 ≤ (rune s p).2 ∧ (rune s p).1 ≤ 2147483647 := by
  have hsz : p < (⟨s.toArray⟩ : ByteArray).size := by rw [size_str]; exact h
  refine ⟨?_, decode_le _ _⟩
  unfold rune
  by_cases ha : ((⟨s.toArray⟩ : ByteArray)[p]'hsz).toNat < 128
  · rw [decode_ascii _ _ hsz ha]; exact Nat.le_refl _
  · exact (decode_high _ _ hsz (by omega)).2
theorem rune_dig {a b : Str} {c : UInt8} (h : c.toNat < 128) : rune (a ++ c :: b) a.length = (c.toNat, 1) := by
  have hsz : a.length < (⟨(a ++ c :: b).toArray⟩ : ByteArray).size := by rw [size_str]; simp
  have hc : ((⟨(a ++ c :: b).toArray⟩ : ByteArray)[a.length]'hsz) = c := by
    show (a ++ c :: b).toArray[a.length]'_ = c
    simp
  unfold rune
  rw [decode_ascii _ _ hsz (by rw [hc]; exact h), hc]
/-! A decimal number. -/
abbrev dstep (a0 : Str) : Int × Nat → Option ((Int × Nat) ⊕ ((Int) ⊕ (Int × Bool))) := fun (s69 : Int × Nat) => if decide (s69.2 < a0.length) then (some ((rune a0 s69.2).1 : Int)).bind fun (x76 : Int) => (some ((decide (x76 < 48)) || ((decide (x76 > 57)) || (decide (s69.1 > 2147483647))))).bind fun (y80 : Bool) => if y80 then some (.inr (.inr (0, false))) else (some (W ((W (10 * s69.1)) + (W (W32 (x76 - 48)))))).bind fun (x87 : Int) => some (.inl (x87, s69.2 + (rune a0 s69.2).2)) else some (.inr (.inl s69.1))
theorem decimal_unf (a0 : Str) : fixed_decimal a0 = (Loop.run (dstep a0) (0, 0)).bind fun y4 => Sum.elim (fun (y47 : Int) => some (y47, !(a0 == ([])))) (fun (z91 : Int × Bool) => some (z91.1, z91.2)) y4 := rfl
theorem W32_id {x : Int} (h : -2147483648 ≤ x ∧ x ≤ 2147483647) : W32 x = x := by
  simp only [W32, IntKind.wrap, IntKind.signed, IntKind.bits]
  have := h.1; have := h.2
  simp
  omega
theorem decimal_ends (a0 : Str) : ∃ r b, fixed_decimal a0 = some (r, b) ∧ 0 ≤ r ∧ r ≤ 21474836479 := by
  obtain ⟨b, hb, hr⟩ := Loop.run_ends (step := dstep a0) (I := fun s => 0 ≤ s.1 ∧ s.1 ≤ 21474836479) (R := fun _ b => match b with
      | .inl r => 0 ≤ r ∧ r ≤ 21474836479
      | .inr (r, _) => 0 ≤ r ∧ r ≤ 21474836479) (m := fun s => a0.length - s.2) (by
    rintro ⟨acc, p⟩ ⟨h0, h1⟩
    simp only at h0 h1 ⊢
    unfold dstep
    by_cases hp : p < a0.length
    · obtain ⟨hw, hm⟩ := rune_ge hp
      simp only [hp, decide_true, if_true, Option.bind_some]
      by_cases hbad : (decide (((rune a0 p).1 : Int) < 48) || (decide (((rune a0 p).1 : Int) > 57) || decide (acc > 2147483647))) = true
      · left
        simp only [hbad, if_true]
        exact ⟨_, rfl, by decide⟩
      · right
        simp only [hbad, Bool.false_eq_true, if_false]
        simp at hbad
        rw [W32_id (by constructor <;> omega), W_id (x := 10 * acc) (by constructor <;> omega), W_id (x := ((rune a0 p).1 : Int) - 48) (by constructor <;> omega), W_id (by constructor <;> omega)]
        exact ⟨_, rfl, ⟨by simp only; omega, by simp only; omega⟩, by simp only; omega, fun _ h => h⟩
    · left
      simp only [hp, decide_false, Bool.false_eq_true, if_false]
      exact ⟨_, rfl, h0, h1⟩) (0, 0) ⟨by decide, by decide⟩
  rw [decimal_unf, hb]
  cases b with
  | inl r => exact ⟨r, _, rfl, hr⟩
  | inr z => exact ⟨z.1, z.2, rfl, hr⟩
theorem decimal_dig (l : Str) (hd : ∀ c ∈ l, IsDig c) (hv : vf 0 l ≤ 2147483647) : fixed_decimal l = some (((vf 0 l : Nat) : Int), !(l == [])) := by
  have key : ∀ (suf pre : Str) (a : Nat), (∀ c ∈ suf, IsDig c) → vf a suf ≤ 2147483647 → Loop.run (dstep (pre ++ suf)) ((a : Int), pre.length) = some (.inl ((vf a suf : Nat) : Int)) := by
    intro suf
    induction suf with
    | nil =>
      intro pre a _ _
      rw [Loop.run_inr]
      unfold dstep
      simp
      rfl
    | cons c suf ih =>
      intro pre a hd hv
      obtain ⟨h1, h2⟩ := hd c (by simp)
      have hge := vf_ge suf (10 * a + (c.toNat - 48))
      rw [vf_cons] at hv
      rw [Loop.run_inl (s' := (((10 * a + (c.toNat - 48) : Nat) : Int), (pre ++ [c]).length))]
      · have := ih (pre ++ [c]) (10 * a + (c.toNat - 48)) (fun c hc => hd c (by simp [hc])) hv
        rw [List.append_assoc] at this
        exact this
      · unfold dstep
        have hlt : decide (pre.length < (pre ++ c :: suf).length) = true := by simp
        simp only [hlt, if_true, Option.bind_some, rune_dig (show c.toNat < 128 by omega)]
        have hb : (decide ((c.toNat : Int) < 48) || (decide ((c.toNat : Int) > 57) || decide ((a : Int) > 2147483647))) = false := by simp; omega
        simp only [hb, Bool.false_eq_true, if_false]
        rw [W32_id (by constructor <;> omega), W_id (x := 10 * (a : Int)) (by constructor <;> omega), W_id (x := (c.toNat : Int) - 48) (by constructor <;> omega), W_id (by constructor <;> omega)]
        simp
        omega
  rw [decimal_unf]
  have := key l [] 0 hd hv
  simp only [List.nil_append, List.length_nil] at this
  rw [show ((0 : Int), (0 : Nat)) = (((0 : Nat) : Int), 0) from rfl, this]
  rfl
/-! Cutting. -/
theorem noPoint {l : Str} (h : ∀ c ∈ l, IsDig c) : ∀ c ∈ l, c ≠ 46 := by
  intro c hc e
  have := h c hc
  subst e
  exact absurd this.1 (by decide)
theorem index_no : ∀ {l : Str}, (∀ c ∈ l, c ≠ 46) → Lib.indexByte l 46 = -1
  | [], _ => rfl
  | c :: l, h => by
    unfold Lib.indexByte
    have : (c == 46) = false := by simpa using h c (by simp)
    rw [this, index_no (fun c hc => h c (by simp [hc]))]
    rfl
theorem index_at : ∀ {l r : Str}, (∀ c ∈ l, c ≠ 46) → Lib.indexByte (l ++ 46 :: r) 46 = l.length
  | [], r, _ => rfl
  | c :: l, r, h => by
    have ih := index_at (l := l) (r := r) (fun c hc => h c (by simp [hc]))
    rw [List.cons_append]
    unfold Lib.indexByte
    have : (c == 46) = false := by simpa using h c (by simp)
    rw [this, ih]
    have : ((l.length : Int) == -1) = false := by rw [beq_eq_false_iff_ne]; omega
    simp [this]
theorem cut_no {l : Str} (h : ∀ c ∈ l, c ≠ 46) : Lib.cut l [46] = (l, [], false) := by
  unfold Lib.cut
  rw [Lib.index_one, index_no h]
  rfl
theorem cut_at {l r : Str} (h : ∀ c ∈ l, c ≠ 46) : Lib.cut (l ++ 46 :: r) [46] = (l, r, true) := by
  unfold Lib.cut
  rw [Lib.index_one, index_at h, if_pos (by omega)]
  simp
end Go.Proofs.YtlppoapbkmbipaaDoor.Pure
