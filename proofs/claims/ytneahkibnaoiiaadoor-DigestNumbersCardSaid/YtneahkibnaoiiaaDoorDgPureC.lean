/- Plain laws of sums: texts that are read. -/
import Derived.Test.YtneahkibnaoiiaaDoorDgPureB
namespace Go.Proofs.YtneahkibnaoiiaaDoor.Dg.Pure
open Go Dg
set_option linter.unusedVariables false
set_option linter.unusedSimpArgs false
set_option maxRecDepth 8000
/-- What digits of sixteen come to, from v on. -/
def nv (v : Nat) (l : List Nat) : Nat := l.foldl (fun v d => 16 * v + d % 16) v
theorem nv_cons (v d : Nat) (l : List Nat) : nv v (d :: l) = nv (16 * v + d % 16) l := by unfold nv; rw [List.foldl_cons]
theorem nv_snoc (v d : Nat) (l : List Nat) : nv v (l ++ [d]) = 16 * nv v l + d % 16 := by unfold nv; rw [List.foldl_append]; rfl
theorem nv_ge (l : List Nat) : ∀ v, v ≤ nv v l := by
  induction l with
  | nil => intro v; exact Nat.le_refl _
  | cons d l ih => intro v; rw [nv_cons]; exact Nat.le_trans (by omega) (ih _)
def digs16 : Nat → Nat → List Nat
  | 0, _ => []
  | k + 1, n => digs16 k (n / 16) ++ [n]
theorem hx16_map : ∀ k n, hx16 k n = (digs16 k n).map hx
  | 0, _ => rfl
  | k + 1, n => by rw [hx16, digs16, hx16_map k, List.map_append]; rfl
theorem nv_digs : ∀ k n, n < 16 ^ k → nv 0 (digs16 k n) = n
  | 0, n, h => by simp at h; subst h; rfl
  | k + 1, n, h => by
    rw [digs16, nv_snoc, nv_digs k (n / 16) (by rw [Nat.pow_succ] at h; omega)]
    omega
theorem digs16_len : ∀ k n, (digs16 k n).length = k
  | 0, _ => rfl
  | k + 1, n => by simp [digs16, digs16_len k]
/-! The library's way. -/
noncomputable def inner (x920 : Int) (f : Bool) : Option ((Bool × Int) ⊕ ((Unit) ⊕ (Int × Value))) := (some ((x920 == 95) && ((16 : Int) == 0))).bind fun (y961 : Bool) => if y961 then some (.inr (.inl ())) else (some ((decide (48 ≤ x920)) && (decide (x920 ≤ 57)))).bind fun (y967 : Bool) => if y967 then some (.inl (f, W8 (x920 - 48))) else ((internal_strconv_lower x920).bind fun x980 => if decide (97 ≤ x980) then (internal_strconv_lower x920).bind fun x984 => some (decide (x984 ≤ 122)) else some false).bind fun (y972 : Bool) => if y972 then (internal_strconv_lower x920).bind fun x988 => (some (W8 ((W8 (x988 - 97)) + 10))).bind fun (x991 : Int) => some (.inl (f, x991)) else some (.inr (.inr (0, .iface 126 (.int .i64 2))))
abbrev big : Int := WU ((ishl .u64 1 (WU 64)) - 1)
noncomputable def pstep (s : Str) : Bool × Int × Int → Option ((Bool × Int × Int) ⊕ ((Bool × Int) ⊕ (Int × Value))) := (fun (s814 : Bool × Int × Int) => if decide (s814.2.2 < ((bytes s).length : Int)) then ((getI (bytes s) s814.2.2).bind fun (x920 : Int) => (inner x920 s814.1).bind fun y924 => Sum.elim (fun (y959 : Bool × Int) => if decide (y959.2 ≥ (W8 16)) then some (.inr (0, .iface 126 (.int .i64 2))) else if decide (s814.2.1 ≥ 1152921504606846976) then some (.inr (big, .iface 126 (.int .i64 1))) else (some (WU (s814.2.1 * (WU 16)))).bind fun (x1003 : Int) => (some ((decide ((WU (x1003 + (WU y959.2))) < x1003)) || (decide ((WU (x1003 + (WU y959.2))) > big)))).bind fun (y1008 : Bool) => if y1008 then some (.inr (big, .iface 126 (.int .i64 1))) else some (.inl (y959.1, WU (x1003 + (WU y959.2))))) (Sum.elim (fun (z1013 : Unit) => some (.inl (true, s814.2.1))) (fun (z1014 : Int × Value) => some (.inr (z1014.1, z1014.2)))) y924 : Option ((Bool × Int) ⊕ (Int × Value))).bind fun y821 => Sum.elim (fun (y918 : Bool × Int) => some (.inl (y918.1, y918.2, W (s814.2.2 + 1)))) (fun (z1015 : Int × Value) => some (.inr (.inr (z1015.1, z1015.2)))) y821 else some (.inr (.inl (s814.1, s814.2.1))))
theorem pu_unf (s : Str) (h : (s == []) = false) : internal_strconv_ParseUint s 16 64 = ((must (decide (s.length ≤ 9223372036854775807))).bind fun _ => Loop.run (pstep s) (false, 0, 0)).bind fun y196 => Sum.elim (fun (y606 : Bool × Int) => (if y606.1 then none else some false).bind fun (y1018 : Bool) => if y1018 then some (0, .iface 126 (.int .i64 2)) else some (y606.2, .nilIface)) (fun (z1024 : Int × Value) => some (z1024.1, z1024.2)) y196 := by
  unfold internal_strconv_ParseUint
  rw [if_neg (by rw [h]; decide)]
  rfl
theorem W8_range (x : Int) : 0 ≤ W8 x ∧ W8 x < 256 := by
  simp only [W8, IntKind.wrap, IntKind.signed, IntKind.bits]
  simp
  omega
theorem inner_cases (c : Int) (f : Bool) : (∃ d, inner c f = some (.inl (f, d)) ∧ 0 ≤ d ∧ d < 256) ∨ inner c f = some (.inr (.inr (0, .iface 126 (.int .i64 2)))) := by
  unfold inner
  have h0 : ((c == 95) && ((16 : Int) == 0)) = false := by simp
  simp only [h0, Option.bind_some, Bool.false_eq_true, if_false, internal_strconv_lower]
  by_cases h1 : (decide (48 ≤ c) && decide (c ≤ 57)) = true
  · left
    rw [if_pos h1]
    exact ⟨_, rfl, W8_range _⟩
  · rw [if_neg h1]
    by_cases h2 : decide (97 ≤ ior .u8 c 32) = true
    · rw [if_pos h2]
      simp only [Option.bind_some]
      by_cases h3 : decide (ior .u8 c 32 ≤ 122) = true
      · left
        rw [if_pos h3]
        exact ⟨_, rfl, W8_range _⟩
      · right
        rw [if_neg h3]
    · right
      rw [if_neg h2]
      rfl
theorem big_eq : big = 18446744073709551615 := by decide
theorem bytes_get (s : Str) (i : Int) (h0 : 0 ≤ i) (h1 : i < (bytes s).length) : ∃ c, getI (bytes s) i = some c ∧ 0 ≤ c ∧ c < 256 := by
  have hlt : i.toNat < s.length := by rw [bytes_length] at h1; omega
  refine ⟨(s[i.toNat].toNat : Int), ?_, by omega, ?_⟩
  · unfold getI
    rw [if_pos h0]
    simp [bytes, hlt]
  · have := s[i.toNat].toNat_lt
    omega
def PE (z : Int × Value) : Prop := ∃ k : Int, (k = 1 ∨ k = 2) ∧ z.2 = .iface 126 (.int .i64 k)
theorem WU_range (x : Int) : 0 ≤ WU x ∧ WU x < 18446744073709551616 := by rw [WU_mod]; omega
theorem pscan_ends (s : Str) (hl : s.length ≤ 9223372036854775806) : ∃ b, Loop.run (pstep s) (false, 0, 0) = some b ∧ ((∃ n : Int, b = .inl (false, n) ∧ 0 ≤ n ∧ n < 18446744073709551616) ∨ ∃ z, b = .inr z ∧ PE z) := by
  have hbl := bytes_length s
  obtain ⟨b, hb, hr⟩ := Loop.run_ends (step := pstep s) (I := fun t => t.1 = false ∧ 0 ≤ t.2.1 ∧ t.2.1 < 18446744073709551616 ∧ 0 ≤ t.2.2) (R := fun _ b => ((∃ n : Int, b = .inl (false, n) ∧ 0 ≤ n ∧ n < 18446744073709551616) ∨ ∃ z, b = .inr z ∧ PE z)) (m := fun t => (bytes s).length - t.2.2.toNat) (by
    rintro ⟨f, n, i⟩ ⟨h0, h1, h2, h3⟩
    simp only at h0 h1 h2 h3 ⊢
    subst h0
    unfold pstep
    by_cases hi : i < ((bytes s).length : Int)
    · obtain ⟨c, hc, _⟩ := bytes_get s i h3 hi
      simp only [hi, decide_true, if_true, hc, Option.bind_some]
      rcases inner_cases c false with ⟨d, hd, d0, d1⟩ | hd
      · rw [hd]
        simp only [Option.bind_some, Sum.elim_inl]
        by_cases ha : d ≥ W8 16
        · left
          simp only [ha, decide_true, if_true, Option.bind_some, Sum.elim_inr]
          exact ⟨_, rfl, .inr ⟨_, rfl, 2, .inr rfl, rfl⟩⟩
        · simp only [ha, decide_false, Bool.false_eq_true, if_false]
          by_cases hb : n ≥ 1152921504606846976
          · left
            simp only [hb, decide_true, if_true, Option.bind_some, Sum.elim_inr]
            exact ⟨_, rfl, .inr ⟨_, rfl, 1, .inl rfl, rfl⟩⟩
          · simp only [hb, decide_false, Bool.false_eq_true, if_false]
            by_cases ho : (decide (WU (WU (n * WU 16) + WU d) < WU (n * WU 16)) || decide (WU (WU (n * WU 16) + WU d) > big)) = true
            · left
              simp only [ho, if_true, Option.bind_some, Sum.elim_inr]
              exact ⟨_, rfl, .inr ⟨_, rfl, 1, .inl rfl, rfl⟩⟩
            · right
              simp only [ho, if_false, Option.bind_some, Sum.elim_inl]
              rw [W_id (x := i + 1) (by constructor <;> omega)]
              have := WU_range (WU (n * WU 16) + WU d)
              exact ⟨_, rfl, ⟨rfl, this.1, this.2, by simp only; omega⟩, by simp only; omega, fun _ h => h⟩
      · left
        rw [hd]
        simp only [Option.bind_some, Sum.elim_inr]
        exact ⟨_, rfl, .inr ⟨_, rfl, 2, .inr rfl, rfl⟩⟩
    · left
      simp only [hi, decide_false, Bool.false_eq_true, if_false]
      exact ⟨_, rfl, .inl ⟨n, rfl, h1, h2⟩⟩) (false, 0, 0) ⟨rfl, by decide, by decide, by decide⟩
  exact ⟨b, hb, hr⟩
/-- The library's reading: a number, or an error. -/
theorem pu_ends (s : Str) (hl : s.length ≤ 281474976710656) : ∃ n b, strconv_ParseUint s 16 64 = some (n, b) ∧ (b = false → ∃ k : Nat, n = (k : Int) ∧ k < two64) := by
  unfold strconv_ParseUint
  have herr : ∀ z : Int × Value, PE z → ((some z).bind fun x3 => (isErr x3.2).bind fun (x8 : Bool) => if x8 then (lib_toError ([80, 97, 114, 115, 101, 85, 105, 110, 116]) s 16 64 x3.2).bind fun x12 => some (x3.1, x12) else some (x3.1, false)) = some (z.1, true) := by
    rintro ⟨v, e⟩ ⟨k, hk, he⟩
    simp only at he
    subst he
    simp only [Option.bind_some, isErr, if_true, lib_toError]
    rw [if_pos (by refine ⟨?_, hk, hl⟩; trivial)]
    rfl
  cases hs : (s == []) with
  | true =>
    have : internal_strconv_ParseUint s 16 64 = some (0, .iface 126 (.int .i64 2)) := by
      unfold internal_strconv_ParseUint
      rw [if_pos hs]
    rw [this]
    exact ⟨_, _, herr _ ⟨2, .inr rfl, rfl⟩, fun h => by cases h⟩
  | false =>
    rw [pu_unf s hs]
    obtain ⟨b, hb, hr⟩ := pscan_ends s (by omega)
    rw [hb]
    have hm : must (decide (s.length ≤ 9223372036854775807)) = some () := by unfold must; rw [if_pos (by simp; omega)]
    rw [hm]
    rcases hr with ⟨n, rfl, h0, h1⟩ | ⟨z, rfl, hz⟩
    · obtain ⟨k, rfl⟩ := Int.eq_ofNat_of_zero_le h0
      refine ⟨_, _, rfl, fun _ => ⟨k, rfl, ?_⟩⟩
      show k < 18446744073709551616
      omega
    · exact ⟨_, _, herr z hz, fun h => by cases h⟩
theorem inner_hx (d : Nat) (f : Bool) : inner ((hx d).toNat : Int) f = some (.inl (f, ((d % 16 : Nat) : Int))) := by
  have hn := hx_nat d
  have hlt : d % 16 < 16 := Nat.mod_lt _ (by decide)
  generalize (hx d).toNat = c at hn
  generalize d % 16 = e at hn hlt
  unfold inner
  have h0 : (((c : Int) == 95) && ((16 : Int) == 0)) = false := by simp
  simp only [h0, Option.bind_some, Bool.false_eq_true, if_false, internal_strconv_lower]
  by_cases h9 : e < 10
  · rw [if_pos h9] at hn
    have c1 : (decide (48 ≤ (c : Int)) && decide ((c : Int) ≤ 57)) = true := by simp; omega
    rw [if_pos c1, W8_id (by omega)]
    congr 3
    omega
  · rw [if_neg h9] at hn
    have c1 : ¬ (decide (48 ≤ (c : Int)) && decide ((c : Int) ≤ 57)) = true := by simp; omega
    have hl : ior .u8 (c : Int) 32 = (c : Int) := by
      have key : ∀ e : Fin 16, 10 ≤ e.val → ior .u8 ((87 + e.val : Nat) : Int) 32 = ((87 + e.val : Nat) : Int) := by decide +kernel
      have := key ⟨e, hlt⟩ (by simp only; omega)
      rw [hn]
      exact this
    have c2 : decide (97 ≤ (c : Int)) = true := by simp; omega
    have c3 : decide ((c : Int) ≤ 122) = true := by simp; omega
    rw [if_neg c1, hl, if_pos c2]
    simp only [Option.bind_some, c3, if_true]
    rw [W8_id (x := (c : Int) - 97) (by omega), W8_id (by omega)]
    congr 3
    omega
theorem pscan_hx : ∀ (l : List Nat) (pre : Str) (v : Nat), nv v l < two64 → pre.length + l.length ≤ 1000 →
    Loop.run (pstep (pre ++ l.map hx)) (false, (v : Int), (pre.length : Int)) = some (.inl (false, ((nv v l : Nat) : Int))) := by
  intro l
  induction l with
  | nil =>
    intro pre v _ _
    rw [Loop.run_inr]
    unfold pstep
    simp [bytes_length]
    rfl
  | cons d l ih =>
    intro pre v hv hlen
    rw [nv_cons] at hv
    have hge := nv_ge l (16 * v + d % 16)
    have hlt : 16 * v + d % 16 < 18446744073709551616 := Nat.lt_of_le_of_lt hge hv
    simp at hlen
    rw [Loop.run_inl (s' := (false, ((16 * v + d % 16 : Nat) : Int), ((pre ++ [hx d]).length : Int)))]
    · have := ih (pre ++ [hx d]) (16 * v + d % 16) hv (by simp; omega)
      simp only [List.append_assoc, List.cons_append, List.nil_append] at this
      rw [nv_cons, List.map_cons]
      exact this
    · unfold pstep
      have e1 : getI (bytes (pre ++ (d :: l).map hx)) (pre.length : Int) = some ((hx d).toNat : Int) := by simp [getI, bytes]
      have e2 : decide ((pre.length : Int) < ((bytes (pre ++ (d :: l).map hx)).length : Int)) = true := by rw [bytes_length]; simp; omega
      have e3 : ¬ (((d % 16 : Nat) : Int) ≥ W8 16) := by have : W8 16 = 16 := by decide
                                                         rw [this]; omega
      have e4 : ¬ ((v : Int) ≥ 1152921504606846976) := by omega
      have e5 : WU ((v : Int) * WU 16) = ((16 * v : Nat) : Int) := by
        have : WU 16 = 16 := by decide
        rw [this, WU_id (by omega)]; omega
      have e6 : WU ((d % 16 : Nat) : Int) = ((d % 16 : Nat) : Int) := WU_id (by omega)
      have e7 : WU (((16 * v : Nat) : Int) + ((d % 16 : Nat) : Int)) = ((16 * v + d % 16 : Nat) : Int) := by rw [WU_id (by omega)]; omega
      have e8 : (decide (((16 * v + d % 16 : Nat) : Int) < ((16 * v : Nat) : Int)) || decide (((16 * v + d % 16 : Nat) : Int) > big)) = false := by rw [big_eq]; simp; omega
      simp only [e1, e2, if_true, Option.bind_some, inner_hx, Sum.elim_inl, e3, e4, decide_false, Bool.false_eq_true, if_false, e5, e6, e7, e8]
      rw [W_id (by constructor <;> omega)]
      simp
theorem parse_hx (a : Nat) (ha : a < two64) : digest_Parse (hx16 16 a) = some ((a : Int), 0) := by
  have h16 : a < 16 ^ 16 := ha
  have hn := nv_digs 16 a h16
  have hs := pscan_hx (digs16 16 a) [] 0 (by rw [hn]; exact ha) (by simp [digs16_len])
  rw [List.nil_append, ← hx16_map, hn] at hs
  have hlen := hx16_len 16 a
  have hne : (hx16 16 a == []) = false := by
    cases h : hx16 16 a with
    | nil => rw [h] at hlen; simp at hlen
    | cons c l => rfl
  have hpu : strconv_ParseUint (hx16 16 a) 16 64 = some ((a : Int), false) := by
    unfold strconv_ParseUint
    rw [pu_unf _ hne]
    have hm : must (decide ((hx16 16 a).length ≤ 9223372036854775807)) = some () := by unfold must; rw [if_pos (by rw [hlen]; decide)]
    rw [hm]
    simp only [Option.bind_some]
    rw [show ((false, (0 : Int), (0 : Int)) : Bool × Int × Int) = (false, ((0 : Nat) : Int), (([] : Str).length : Int)) from rfl, hs]
    rfl
  unfold digest_Parse
  rw [hpu]
  simp only [Option.bind_some, Bool.false_eq_true, if_false, Print a ha, beq_self_eq_true, Bool.not_true]
theorem parse_sound (s : Str) (hl : s.length ≤ 281474976710656) : digest_Parse s = some (0, 30) ∨ ∃ a, a < two64 ∧ s = hx16 16 a ∧ digest_Parse s = some ((a : Int), 0) := by
  obtain ⟨n, b, h, hb⟩ := pu_ends s hl
  unfold digest_Parse
  rw [h]
  cases b with
  | true => left; rfl
  | false =>
    obtain ⟨k, rfl, hk⟩ := hb rfl
    simp only [Option.bind_some, Bool.false_eq_true, if_false, Print k hk]
    by_cases he : hx16 16 k = s
    · right
      exact ⟨k, hk, he.symm, by simp [he]⟩
    · left
      simp [he]
/-! The reference's way. -/
def rstep (a0 : Str) : Int × Int → Option ((Int × Int) ⊕ Int) := (fun (s189 : Int × Int) => if decide (s189.2 < (a0.length : Int)) then ((getI a0 s189.2).bind fun (x224 : UInt8) => ((some ((decide ((x224.toNat : Int) ≥ 48)) && (decide ((x224.toNat : Int) ≤ 57)))).bind fun (y236 : Bool) => if y236 then (some (WU ((WU (16 * s189.1)) + (WU (W8 ((x224.toNat : Int) - 48)))))).bind fun (x240 : Int) => some x240 else some s189.1).bind fun (y227 : Int) => (some ((decide ((x224.toNat : Int) ≥ 97)) && (decide ((x224.toNat : Int) ≤ 102)))).bind fun (y243 : Bool) => if y243 then (some (WU ((WU ((WU (16 * y227)) + (WU (W8 ((x224.toNat : Int) - 97))))) + 10))).bind fun (x247 : Int) => some x247 else some y227).bind fun (y196 : Int) => some (.inl (y196, W (s189.2 + 1))) else some (.inr s189.1))
theorem rp_unf (a0 : Str) : echelonref03_Parse a0 = if (a0.length : Int) != 16 then some (0, 30) else (Loop.run (rstep a0) (0, 0)).bind fun (y8 : Int) => (echelonref03_Print y8).bind fun x250 => if !(x250 == a0) then some (0, 30) else some (y8, 0) := rfl
theorem rscan_ends (s : Str) (hl : s.length = 16) : ∃ n : Nat, Loop.run (rstep s) (0, 0) = some (n : Int) ∧ n < two64 := by
  obtain ⟨b, hb, hr⟩ := Loop.run_ends (step := rstep s) (I := fun t => 0 ≤ t.1 ∧ t.1 < 18446744073709551616 ∧ 0 ≤ t.2) (R := fun _ b => 0 ≤ b ∧ b < 18446744073709551616) (m := fun t => s.length - t.2.toNat) (by
    rintro ⟨n, i⟩ ⟨h0, h1, h2⟩
    simp only at h0 h1 h2 ⊢
    unfold rstep
    by_cases hi : i < (s.length : Int)
    · right
      have hlt : i.toNat < s.length := by omega
      have e1 : getI s i = some s[i.toNat] := by unfold getI; rw [if_pos h2]; simp [hlt]
      simp only [hi, decide_true, if_true, e1, Option.bind_some]
      generalize s[i.toNat] = c
      have hw : W (i + 1) = i + 1 := W_id (by constructor <;> omega)
      rw [hw]
      have ha : ∃ y : Int, ((if (decide ((c.toNat : Int) ≥ 48) && decide ((c.toNat : Int) ≤ 57)) = true then some (WU (WU (16 * n) + WU (W8 ((c.toNat : Int) - 48)))) else some n) : Option Int) = some y ∧ 0 ≤ y ∧ y < 18446744073709551616 := by
        split
        · exact ⟨_, rfl, WU_range _⟩
        · exact ⟨_, rfl, h0, h1⟩
      obtain ⟨y, hy, y0, y1⟩ := ha
      rw [hy]
      simp only [Option.bind_some]
      have hb : ∃ z : Int, ((if (decide ((c.toNat : Int) ≥ 97) && decide ((c.toNat : Int) ≤ 102)) = true then some (WU (WU (WU (16 * y) + WU (W8 ((c.toNat : Int) - 97))) + 10)) else some y) : Option Int) = some z ∧ 0 ≤ z ∧ z < 18446744073709551616 := by
        split
        · exact ⟨_, rfl, WU_range _⟩
        · exact ⟨_, rfl, y0, y1⟩
      obtain ⟨z, hz, z0, z1⟩ := hb
      rw [hz]
      exact ⟨_, rfl, ⟨z0, z1, by simp only; omega⟩, by simp only; omega, fun _ h => h⟩
    · left
      simp only [hi, decide_false, Bool.false_eq_true, if_false]
      exact ⟨_, rfl, h0, h1⟩) (0, 0) ⟨by decide, by decide, by decide⟩
  obtain ⟨k, rfl⟩ := Int.eq_ofNat_of_zero_le hr.1
  refine ⟨k, hb, ?_⟩
  show k < 18446744073709551616
  omega
theorem rscan_hx : ∀ (l : List Nat) (pre : Str) (v : Nat), nv v l < two64 → pre.length + l.length ≤ 1000 →
    Loop.run (rstep (pre ++ l.map hx)) ((v : Int), (pre.length : Int)) = some ((nv v l : Nat) : Int) := by
  intro l
  induction l with
  | nil =>
    intro pre v _ _
    rw [Loop.run_inr]
    unfold rstep
    simp
    rfl
  | cons d l ih =>
    intro pre v hv hlen
    rw [nv_cons] at hv
    have hge := nv_ge l (16 * v + d % 16)
    have hlt : 16 * v + d % 16 < 18446744073709551616 := Nat.lt_of_le_of_lt hge hv
    simp at hlen
    rw [Loop.run_inl (s' := (((16 * v + d % 16 : Nat) : Int), ((pre ++ [hx d]).length : Int)))]
    · have := ih (pre ++ [hx d]) (16 * v + d % 16) hv (by simp; omega)
      simp only [List.append_assoc, List.cons_append, List.nil_append] at this
      rw [nv_cons, List.map_cons]
      exact this
    · unfold rstep
      have e1 : getI (pre ++ (d :: l).map hx) (pre.length : Int) = some (hx d) := by simp [getI]
      have e2 : decide ((pre.length : Int) < ((pre ++ (d :: l).map hx).length : Int)) = true := by simp; omega
      simp only [e1, e2, if_true, Option.bind_some, hx_nat]
      rw [W_id (x := (pre.length : Int) + 1) (by constructor <;> omega)]
      by_cases h9 : d % 16 < 10
      · simp only [h9, if_true]
        have c1 : (decide (((48 + d % 16 : Nat) : Int) ≥ 48) && decide (((48 + d % 16 : Nat) : Int) ≤ 57)) = true := by simp; omega
        have c2 : (decide (((48 + d % 16 : Nat) : Int) ≥ 97) && decide (((48 + d % 16 : Nat) : Int) ≤ 102)) = false := by simp; omega
        simp only [c1, c2, if_true, Option.bind_some, Bool.false_eq_true, if_false]
        rw [W8_id (x := ((48 + d % 16 : Nat) : Int) - 48) (by omega), WU_id (x := 16 * (v : Int)) (by omega), WU_id (x := ((48 + d % 16 : Nat) : Int) - 48) (by omega), WU_id (by omega)]
        congr 3
        · omega
        · simp
      · simp only [h9, if_false]
        have c1 : (decide (((87 + d % 16 : Nat) : Int) ≥ 48) && decide (((87 + d % 16 : Nat) : Int) ≤ 57)) = false := by simp; omega
        have c2 : (decide (((87 + d % 16 : Nat) : Int) ≥ 97) && decide (((87 + d % 16 : Nat) : Int) ≤ 102)) = true := by simp; omega
        simp only [c1, c2, if_true, Option.bind_some, Bool.false_eq_true, if_false]
        rw [W8_id (x := ((87 + d % 16 : Nat) : Int) - 97) (by omega), WU_id (x := 16 * (v : Int)) (by omega), WU_id (x := ((87 + d % 16 : Nat) : Int) - 97) (by omega), WU_id (x := 16 * (v : Int) + (((87 + d % 16 : Nat) : Int) - 97)) (by omega), WU_id (by omega)]
        congr 3
        · omega
        · simp
theorem rparse_hx (a : Nat) (ha : a < two64) : echelonref03_Parse (hx16 16 a) = some ((a : Int), 0) := by
  have h16 : a < 16 ^ 16 := ha
  have hn := nv_digs 16 a h16
  have hs := rscan_hx (digs16 16 a) [] 0 (by rw [hn]; exact ha) (by simp [digs16_len])
  rw [List.nil_append, ← hx16_map, hn] at hs
  rw [rp_unf, hx16_len, if_neg (by decide)]
  rw [show (((0 : Int), (0 : Int)) : Int × Int) = (((0 : Nat) : Int), (([] : Str).length : Int)) from rfl, hs]
  simp only [Option.bind_some, rPrint a ha, beq_self_eq_true, Bool.not_true, Bool.false_eq_true, if_false]
theorem rparse_sound (s : Str) : echelonref03_Parse s = some (0, 30) ∨ ∃ a, a < two64 ∧ s = hx16 16 a ∧ echelonref03_Parse s = some ((a : Int), 0) := by
  rw [rp_unf]
  by_cases hl : s.length = 16
  · rw [if_neg (by rw [hl]; decide)]
    obtain ⟨k, h, hk⟩ := rscan_ends s hl
    rw [h]
    simp only [Option.bind_some, rPrint k hk]
    by_cases he : hx16 16 k = s
    · right
      exact ⟨k, hk, he.symm, by simp [he]⟩
    · left
      simp [he]
  · left
    rw [if_pos]
    simp
    omega
theorem awake : echelonlaw03_awake = some true := by
  unfold echelonlaw03_awake
  have h1 := parse_hx 255 (by decide)
  have h2 := Print 255 (by decide)
  have h3 := Mix 1 (by decide)
  have e : hx16 16 255 = [48, 48, 48, 48, 48, 48, 48, 48, 48, 48, 48, 48, 48, 48, 102, 102] := by decide +kernel
  rw [e] at h1 h2
  rw [h1]
  simp only [Option.bind_some]
  rw [show (1 : Int) = ((1 : Nat) : Int) from rfl, h3, show (255 : Int) = ((255 : Nat) : Int) from rfl, h2]
  decide +kernel
theorem DigestReads (s : Str) (hl : s.length ≤ 1048576) : echelonlaw03_DigestReads s = some true := by
  simp only [echelonlaw03_DigestReads, awake, Option.bind_some]
  rcases parse_sound s (by omega) with h | ⟨a, ha, hs, h⟩
  · rcases rparse_sound s with k | ⟨b, hb, hs, k⟩
    · rw [h, k]; rfl
    · have := parse_hx b hb
      rw [← hs, h] at this
      cases this
  · have k := rparse_hx a ha
    rw [← hs] at k
    rw [h, k]
    simp
theorem Chain (a b : Nat) (ha : a < two64) (hb : b < two64) : digest_Chain (a : Int) (b : Int) = echelonref03_Chain (a : Int) (b : Int) ∧ ∃ z, digest_Chain (a : Int) (b : Int) = some z := by
  unfold digest_Chain echelonref03_Chain
  rw [Mix b hb, rMix b hb]
  simp only [Option.bind_some]
  have := WU_range (WU ((a : Int) * 11400714819323198485) + ((mixN b : Nat) : Int))
  obtain ⟨k, hk⟩ := Int.eq_ofNat_of_zero_le this.1
  rw [hk]
  have hk2 : k < two64 := by show k < 18446744073709551616; omega
  rw [Mix k hk2, rMix k hk2]
  exact ⟨rfl, _, rfl⟩
theorem DigestNumbers (a b : Int) (ha : 0 ≤ a ∧ a ≤ 18446744073709551615) (hb : 0 ≤ b ∧ b ≤ 18446744073709551615) : echelonlaw03_DigestNumbers a b = some true := by
  obtain ⟨k, rfl⟩ := Int.eq_ofNat_of_zero_le ha.1
  obtain ⟨m, rfl⟩ := Int.eq_ofNat_of_zero_le hb.1
  have hk : k < two64 := by show k < 18446744073709551616; omega
  have hm : m < two64 := by show m < 18446744073709551616; omega
  obtain ⟨hc, z, hz⟩ := Chain k m hk hm
  rw [hz] at hc
  obtain ⟨u, u1, u2⟩ : ∃ u : Int, digest_Mix (k : Int) = some u ∧ echelonref03_Mix (k : Int) = some u := ⟨_, Mix k hk, rMix k hk⟩
  obtain ⟨t, p1, p2, p3⟩ : ∃ t : Str, digest_Print (k : Int) = some t ∧ echelonref03_Print (k : Int) = some t ∧ digest_Parse t = some ((k : Int), 0) := ⟨_, Print k hk, rPrint k hk, parse_hx k hk⟩
  simp only [echelonlaw03_DigestNumbers, awake, Option.bind_some, p1, p2, p3, u1, u2, hz, ← hc, beq_self_eq_true, if_true, Bool.and_self]
theorem hx16_inj {a b : Nat} (ha : a < two64) (hb : b < two64) (h : hx16 16 a = hx16 16 b) : a = b := by
  have h1 := parse_hx a ha
  have h2 := parse_hx b hb
  rw [h, h2] at h1
  have := (Prod.mk.inj (Option.some.inj h1)).1
  omega
theorem DigestUnlike (a b : Int) (ha : 0 ≤ a ∧ a ≤ 18446744073709551615) (hb : 0 ≤ b ∧ b ≤ 18446744073709551615) : echelonlaw03_DigestUnlike a b = some true := by
  obtain ⟨k, rfl⟩ := Int.eq_ofNat_of_zero_le ha.1
  obtain ⟨m, rfl⟩ := Int.eq_ofNat_of_zero_le hb.1
  have hk : k < two64 := by show k < 18446744073709551616; omega
  have hm : m < two64 := by show m < 18446744073709551616; omega
  obtain ⟨u, v, u1, u2, u3⟩ : ∃ u v : Int, digest_Mix (k : Int) = some u ∧ digest_Mix (m : Int) = some v ∧ (u = v ↔ k = m) :=
    ⟨_, _, Mix k hk, Mix m hm, ⟨fun h => mixN_inj hk hm (Int.natCast_inj.1 h), fun h => by rw [h]⟩⟩
  obtain ⟨s, t, p1, p2, p3⟩ : ∃ s t : Str, digest_Print (k : Int) = some s ∧ digest_Print (m : Int) = some t ∧ (s = t ↔ k = m) :=
    ⟨_, _, Print k hk, Print m hm, ⟨fun h => hx16_inj hk hm h, fun h => by rw [h]⟩⟩
  have e1 : (u == v) = ((k : Int) == (m : Int)) := by
    rw [Bool.eq_iff_iff]
    simp only [beq_iff_eq, Int.natCast_inj]
    exact u3
  have e2 : (s == t) = ((k : Int) == (m : Int)) := by
    rw [Bool.eq_iff_iff]
    simp only [beq_iff_eq, Int.natCast_inj]
    exact p3
  simp only [echelonlaw03_DigestUnlike, awake, Option.bind_some, p1, p2, u1, u2, if_true, e1, e2, beq_self_eq_true]
end Go.Proofs.YtneahkibnaoiiaaDoor.Dg.Pure
