/- The plain law of ViewNotes. -/
import Derived.Test.YtflmncjhonmmhaaDoorVnPureA
namespace Go.Proofs.YtflmncjhonmmhaaDoor.Vn.Pure
open Go Go.RowKit Go.ChangeShapes Go.WideShapes
set_option linter.unusedVariables false
set_option linter.unusedSimpArgs false
set_option maxRecDepth 100000
theorem loopE {σ α γ : Type} {f : σ → Option (σ ⊕ γ)} (xs : List α) (ok : α → Bool) (st : Nat → σ) (r e : γ) (hy : ∀ i x, xs[i]? = some x → ok x = true → f (st i) = some (.inl (st (i + 1))))
    (hn : ∀ i x, xs[i]? = some x → ok x = false → f (st i) = some (.inr e)) (he : f (st xs.length) = some (.inr r)) : Loop.run f (st 0) = some (if xs.all ok then r else e) := by
  have key : ∀ k i, i + k = xs.length → Loop.run f (st i) = some (if (xs.drop i).all ok then r else e) := by
    intro k
    induction k with
    | zero => intro i h; obtain rfl : i = xs.length := by omega
              rw [List.drop_length]; exact Loop.run_inr he
    | succ k ih =>
      intro i h
      have hi : i < xs.length := by omega
      rw [List.drop_eq_getElem_cons hi, List.all_cons]
      cases hk : ok xs[i] with
      | true => rw [Loop.run_inl (hy i _ (List.getElem?_eq_getElem hi) hk), ih (i + 1) (by omega), Bool.true_and]
      | false => rw [Loop.run_inr (hn i _ (List.getElem?_eq_getElem hi) hk)]; rfl
  exact key xs.length 0 (by omega)
theorem getI_nat {α : Type} (xs : List α) (i : Nat) : getI xs (i : Int) = xs[i]? := by simp [getI]
theorem W_in {x : Int} (h : -9223372036854775808 ≤ x ∧ x ≤ 9223372036854775807) : W x = x := by unfold W; rw [IntKind.wrap_i64]; omega
theorem ltT {i n : Nat} (h : i < n) : decide ((i : Int) < (n : Int)) = true := by simp; exact h
theorem ltF (n : Nat) : decide ((n : Int) < (n : Int)) = false := by simp
def sa (a : Int) : Bool := decide (a ≥ 0) && decide (a ≤ 5)
def kd (b : Int) : Bool := decide (b ≥ 1) && decide (b ≤ 3)
def le (a : Int) : Str := ([65, 66, 67, 68, 69, 70].drop a.toNat).take 1
def th (b : Int) : Str := if b == 1 then [104, 101, 97, 108] else if b == 2 then [99, 104, 97, 114, 103, 101] else [112, 114, 105, 122, 101]
theorem le_len (a : Int) : (le a).length ≤ 1 := by simp only [le, List.length_take]; omega
theorem th_len (b : Int) : (th b).length ≤ 6 := by unfold th; split; · decide
                                                   · split <;> decide
theorem seatV (a : Int) : view_isSeat a = some (sa a) := by
  unfold view_isSeat sa
  have : decide (a < 6) = decide (a ≤ 5) := decide_eq_decide.2 (by omega)
  rw [this]
  cases decide (a ≥ 0) <;> rfl
theorem seatR (a : Int) : echelonref23_seat a = some (sa a) := by
  unfold echelonref23_seat sa
  cases decide (a ≥ 0) <;> rfl
theorem kindV (b : Int) : view_isKind b = some (kd b) := by
  unfold view_isKind kd
  cases decide (b ≥ 1) <;> rfl
theorem kindR (b : Int) : echelonref23_kind b = some (kd b) := by
  unfold echelonref23_kind kd
  cases decide (b ≥ 1) <;> rfl
theorem six {a : Int} (h : sa a = true) : a = 0 ∨ a = 1 ∨ a = 2 ∨ a = 3 ∨ a = 4 ∨ a = 5 := by
  simp only [sa, Bool.and_eq_true, decide_eq_true_eq] at h; omega
theorem three {b : Int} (h : kd b = true) : b = 1 ∨ b = 2 ∨ b = 3 := by
  simp only [kd, Bool.and_eq_true, decide_eq_true_eq] at h; omega
theorem letV {a : Int} (h : sa a = true) : view_letter a = some (le a) := by
  rcases six h with rfl | rfl | rfl | rfl | rfl | rfl <;> kernel_rfl
theorem letR {a : Int} (h : sa a = true) : echelonref23_letter a = some (le a) := by
  rcases six h with rfl | rfl | rfl | rfl | rfl | rfl <;> kernel_rfl
theorem nameV {b : Int} (h : kd b = true) : view_kindName b = some (th b) := by
  rcases three h with rfl | rfl | rfl <;> kernel_rfl
theorem nameR (b : Int) : echelonref23_thing b = some (th b) := by
  unfold echelonref23_thing th
  split
  · rfl
  · split <;> rfl
theorem must_ok {b : Bool} (h : b = true) : must b = some () := by rw [h]; rfl
def okN (x : GNote) : Bool := if x.Kind == 1 then sa x.A else if x.Kind == 2 then sa x.A && sa x.B else if x.Kind == 3 then sa x.A && sa x.B else if x.Kind == 4 then sa x.A else if x.Kind == 5 then sa x.A && kd x.B else if x.Kind == 6 then kd x.B else if x.Kind == 7 then sa x.A && sa x.B else if x.Kind == 8 then sa x.A else false
def lnN (x : GNote) : Str := if x.Kind == 1 then le x.A ++ [32, 102, 105, 114, 101, 100, 32] ++ Lib.itoa x.B else if x.Kind == 2 then le x.A ++ [32, 104, 105, 116, 32, 98, 121, 32] ++ le x.B else if x.Kind == 3 then le x.A ++ [32, 111, 117, 116, 32, 98, 121, 32] ++ le x.B else if x.Kind == 4 then le x.A ++ [32, 98, 97, 99, 107] else if x.Kind == 5 then le x.A ++ [32, 116, 111, 111, 107, 32] ++ th x.B else if x.Kind == 6 then [115, 112, 111, 116, 32] ++ Lib.itoa x.A ++ [32] ++ th x.B else if x.Kind == 7 then le x.A ++ [32, 98, 111, 117, 110, 99, 101, 115, 32] ++ le x.B else if x.Kind == 8 then le x.A ++ [32, 115, 97, 121, 115, 32] ++ Lib.itoa x.B else []
def outN (xs : List GNote) : Str := xs.flatMap fun x => lnN x ++ [10]
noncomputable def vf (a0 : List GNote) : Int × Str → Option ((Int × Str) ⊕ (Str ⊕ (Str × Int))) := (fun (s438 : Int × Str) => if decide (s438.1 < (a0.length : Int)) then (getI a0 s438.1).bind fun (x446 : GNote) => if x446.Kind == 8 then ((view_rows_1 x446).bind fun x457 => some (!x457)).bind fun (y456 : Bool) => if y456 then some (.inr (.inr ([], 230))) else ((view_letter x446.A).bind fun x468 => (cat x468 ([32, 115, 97, 121, 115, 32])).bind fun (x470 : Str) => (lib_Itoa x446.B).bind fun x472 => (cat x470 x472).bind fun (x474 : Str) => some x474).bind fun (y462 : Str) => (cat y462 ([10])).bind fun (x476 : Str) => (must (decide (s438.2.length + x476.length ≤ 200000000000000 ∧ x476.length ≤ 140737488355328))).bind fun _ => some (.inl (W (s438.1 + 1), s438.2 ++ x476)) else if x446.Kind == 7 then ((view_rows_2 x446).bind fun x485 => some (!x485)).bind fun (y484 : Bool) => if y484 then some (.inr (.inr ([], 230))) else ((view_letter x446.A).bind fun x496 => (cat x496 ([32, 98, 111, 117, 110, 99, 101, 115, 32])).bind fun (x498 : Str) => (view_letter x446.B).bind fun x500 => (cat x498 x500).bind fun (x502 : Str) => some x502).bind fun (y490 : Str) => (cat y490 ([10])).bind fun (x504 : Str) => (must (decide (s438.2.length + x504.length ≤ 200000000000000 ∧ x504.length ≤ 140737488355328))).bind fun _ => some (.inl (W (s438.1 + 1), s438.2 ++ x504)) else if x446.Kind == 6 then ((view_rows_8 x446).bind fun x513 => some (!x513)).bind fun (y512 : Bool) => if y512 then some (.inr (.inr ([], 230))) else (view_rows_9 x446).bind fun x518 => (cat x518 ([10])).bind fun (x521 : Str) => (must (decide (s438.2.length + x521.length ≤ 200000000000000 ∧ x521.length ≤ 140737488355328))).bind fun _ => some (.inl (W (s438.1 + 1), s438.2 ++ x521)) else if x446.Kind == 5 then ((view_rows_6 x446).bind fun x530 => some (!x530)).bind fun (y529 : Bool) => if y529 then some (.inr (.inr ([], 230))) else (view_rows_7 x446).bind fun x535 => (cat x535 ([10])).bind fun (x538 : Str) => (must (decide (s438.2.length + x538.length ≤ 200000000000000 ∧ x538.length ≤ 140737488355328))).bind fun _ => some (.inl (W (s438.1 + 1), s438.2 ++ x538)) else if x446.Kind == 4 then ((view_rows_1 x446).bind fun x547 => some (!x547)).bind fun (y546 : Bool) => if y546 then some (.inr (.inr ([], 230))) else (view_rows_5 x446).bind fun x552 => (cat x552 ([10])).bind fun (x555 : Str) => (must (decide (s438.2.length + x555.length ≤ 200000000000000 ∧ x555.length ≤ 140737488355328))).bind fun _ => some (.inl (W (s438.1 + 1), s438.2 ++ x555)) else if x446.Kind == 3 then ((view_rows_2 x446).bind fun x564 => some (!x564)).bind fun (y563 : Bool) => if y563 then some (.inr (.inr ([], 230))) else ((view_letter x446.A).bind fun x575 => (cat x575 ([32, 111, 117, 116, 32, 98, 121, 32])).bind fun (x577 : Str) => (view_letter x446.B).bind fun x579 => (cat x577 x579).bind fun (x581 : Str) => some x581).bind fun (y569 : Str) => (cat y569 ([10])).bind fun (x583 : Str) => (must (decide (s438.2.length + x583.length ≤ 200000000000000 ∧ x583.length ≤ 140737488355328))).bind fun _ => some (.inl (W (s438.1 + 1), s438.2 ++ x583)) else if x446.Kind == 2 then ((view_rows_2 x446).bind fun x592 => some (!x592)).bind fun (y591 : Bool) => if y591 then some (.inr (.inr ([], 230))) else ((view_letter x446.A).bind fun x603 => (cat x603 ([32, 104, 105, 116, 32, 98, 121, 32])).bind fun (x605 : Str) => (view_letter x446.B).bind fun x607 => (cat x605 x607).bind fun (x609 : Str) => some x609).bind fun (y597 : Str) => (cat y597 ([10])).bind fun (x611 : Str) => (must (decide (s438.2.length + x611.length ≤ 200000000000000 ∧ x611.length ≤ 140737488355328))).bind fun _ => some (.inl (W (s438.1 + 1), s438.2 ++ x611)) else if x446.Kind == 1 then ((view_rows_1 x446).bind fun x620 => some (!x620)).bind fun (y619 : Bool) => if y619 then some (.inr (.inr ([], 230))) else ((view_letter x446.A).bind fun x631 => (cat x631 ([32, 102, 105, 114, 101, 100, 32])).bind fun (x633 : Str) => (lib_Itoa x446.B).bind fun x635 => (cat x633 x635).bind fun (x637 : Str) => some x637).bind fun (y625 : Str) => (cat y625 ([10])).bind fun (x639 : Str) => (must (decide (s438.2.length + x639.length ≤ 200000000000000 ∧ x639.length ≤ 140737488355328))).bind fun _ => some (.inl (W (s438.1 + 1), s438.2 ++ x639)) else (some ()).bind fun (y646 : Unit) => some (.inr (.inr ([], 230))) else some (.inr ((.inl s438.2))))
noncomputable def rf (a0 : List GNote) : Str × Int → Option ((Str × Int) ⊕ (Str ⊕ (Str × Int))) := (fun (s129 : Str × Int) => if decide (s129.2 < (a0.length : Int)) then (getI a0 s129.2).bind fun (x137 : GNote) => (echelonref23_line x137).bind fun x139 => if !x139.2 then some (.inr (.inr ([], 230))) else (cat s129.1 x139.1).bind fun (x146 : Str) => (cat x146 ([10])).bind fun (x148 : Str) => some (.inl (x148, W (s129.2 + 1))) else some (.inr ((.inl s129.1))))
theorem lenN (x : GNote) (w : wf_GNote x) : (lnN x).length ≤ 33 := by
  obtain ⟨K, A, B⟩ := x
  obtain ⟨_, wA, wB⟩ := w
  have lA := le_len A
  have lB := le_len B
  have tB := th_len B
  obtain ⟨iA, jA⟩ := it (n := A) wA
  obtain ⟨iB, jB⟩ := it (n := B) wB
  unfold lnN
  simp only
  repeat' split
  all_goals (try simp only [List.length_append, List.length_cons, List.length_nil]); omega
theorem lineR (x : GNote) (w : wf_GNote x) : echelonref23_line x = some (if okN x then (lnN x, true) else ([], false)) := by
  obtain ⟨K, A, B⟩ := x
  obtain ⟨_, wA, wB⟩ := w
  have lA := le_len A
  have lB := le_len B
  have tB := th_len B
  obtain ⟨iA, jA⟩ := it (n := A) wA
  obtain ⟨iB, jB⟩ := it (n := B) wB
  unfold echelonref23_line okN lnN
  have e0 : (if sa A = true then some (sa B) else some false) = some (sa A && sa B) := by cases sa A <;> rfl
  simp only [seatR, kindR, Option.bind_some, e0]
  by_cases k1 : K = 1
  · subst k1
    simp only [Int.reduceBEq, if_true, if_false, Bool.false_eq_true, Option.bind_some]
    cases h : sa A with
    | false => simp
    | true =>
      simp only [if_true, Option.bind_some]
      rw [letR h, Option.bind_some]
      rw [cat_ok (by simp only [List.length_append, List.length_cons, List.length_nil]; omega), Option.bind_some]
      rw [iB, Option.bind_some]
      rw [cat_ok (by simp only [List.length_append, List.length_cons, List.length_nil]; omega), Option.bind_some]
  by_cases k2 : K = 2
  · subst k2
    simp only [Int.reduceBEq, if_true, if_false, Bool.false_eq_true, Option.bind_some]
    cases h1 : sa A with
    | false => simp
    | true =>
    cases h2 : sa B with
    | false => simp
    | true =>
      have h := And.intro h1 h2
      simp only [if_true, Option.bind_some, Bool.and_self]
      rw [letR h.1, Option.bind_some]
      rw [cat_ok (by simp only [List.length_append, List.length_cons, List.length_nil]; omega), Option.bind_some]
      rw [letR h.2, Option.bind_some]
      rw [cat_ok (by simp only [List.length_append, List.length_cons, List.length_nil]; omega), Option.bind_some]
  by_cases k3 : K = 3
  · subst k3
    simp only [Int.reduceBEq, if_true, if_false, Bool.false_eq_true, Option.bind_some]
    cases h1 : sa A with
    | false => simp
    | true =>
    cases h2 : sa B with
    | false => simp
    | true =>
      have h := And.intro h1 h2
      simp only [if_true, Option.bind_some, Bool.and_self]
      rw [letR h.1, Option.bind_some]
      rw [cat_ok (by simp only [List.length_append, List.length_cons, List.length_nil]; omega), Option.bind_some]
      rw [letR h.2, Option.bind_some]
      rw [cat_ok (by simp only [List.length_append, List.length_cons, List.length_nil]; omega), Option.bind_some]
  by_cases k4 : K = 4
  · subst k4
    simp only [Int.reduceBEq, if_true, if_false, Bool.false_eq_true, Option.bind_some]
    cases h : sa A with
    | false => simp
    | true =>
      simp only [if_true, Option.bind_some]
      rw [letR h, Option.bind_some]
      rw [cat_ok (by simp only [List.length_append, List.length_cons, List.length_nil]; omega), Option.bind_some]
  by_cases k5 : K = 5
  · subst k5
    simp only [Int.reduceBEq, if_true, if_false, Bool.false_eq_true, Option.bind_some]
    cases h1 : sa A with
    | false => simp
    | true =>
    cases h2 : kd B with
    | false => simp
    | true =>
      have h := And.intro h1 h2
      simp only [if_true, Option.bind_some, Bool.and_self]
      rw [letR h.1, Option.bind_some]
      rw [cat_ok (by simp only [List.length_append, List.length_cons, List.length_nil]; omega), Option.bind_some]
      rw [nameR, Option.bind_some]
      rw [cat_ok (by simp only [List.length_append, List.length_cons, List.length_nil]; omega), Option.bind_some]
  by_cases k6 : K = 6
  · subst k6
    simp only [Int.reduceBEq, if_true, if_false, Bool.false_eq_true, Option.bind_some]
    cases h : kd B with
    | false => simp
    | true =>
      simp only [if_true, Option.bind_some]
      rw [iA, Option.bind_some]
      rw [cat_ok (by simp only [List.length_append, List.length_cons, List.length_nil]; omega), Option.bind_some]
      rw [cat_ok (by simp only [List.length_append, List.length_cons, List.length_nil]; omega), Option.bind_some]
      rw [nameR, Option.bind_some]
      rw [cat_ok (by simp only [List.length_append, List.length_cons, List.length_nil]; omega), Option.bind_some]
  by_cases k7 : K = 7
  · subst k7
    simp only [Int.reduceBEq, if_true, if_false, Bool.false_eq_true, Option.bind_some]
    cases h1 : sa A with
    | false => simp
    | true =>
    cases h2 : sa B with
    | false => simp
    | true =>
      have h := And.intro h1 h2
      simp only [if_true, Option.bind_some, Bool.and_self]
      rw [letR h.1, Option.bind_some]
      rw [cat_ok (by simp only [List.length_append, List.length_cons, List.length_nil]; omega), Option.bind_some]
      rw [letR h.2, Option.bind_some]
      rw [cat_ok (by simp only [List.length_append, List.length_cons, List.length_nil]; omega), Option.bind_some]
  by_cases k8 : K = 8
  · subst k8
    simp only [Int.reduceBEq, if_true, if_false, Bool.false_eq_true, Option.bind_some]
    cases h : sa A with
    | false => simp
    | true =>
      simp only [if_true, Option.bind_some]
      rw [letR h, Option.bind_some]
      rw [cat_ok (by simp only [List.length_append, List.length_cons, List.length_nil]; omega), Option.bind_some]
      rw [iB, Option.bind_some]
      rw [cat_ok (by simp only [List.length_append, List.length_cons, List.length_nil]; omega), Option.bind_some]
  simp [k1, k2, k3, k4, k5, k6, k7, k8]
theorem stepV (xs : List GNote) (i : Nat) (s : Str) (x : GNote) (hx : xs[i]? = some x) (hi : (i : Int) + 1 ≤ 9223372036854775807) (w : wf_GNote x) (hs : s.length + 34 ≤ 200000000000000) :
    vf xs ((i : Int), s) = if okN x then some (.inl (((i + 1 : Nat) : Int), s ++ (lnN x ++ [10]))) else some (.inr (.inr ([], 230))) := by
  have hl : i < xs.length := (List.getElem?_eq_some_iff.1 hx).1
  have e : W ((i : Int) + 1) = ((i + 1 : Nat) : Int) := by rw [W_in (by omega)]; simp
  have ln := lenN x w
  obtain ⟨K, A, B⟩ := x
  obtain ⟨_, wA, wB⟩ := w
  have lA := le_len A
  have lB := le_len B
  have tB := th_len B
  obtain ⟨iA, jA⟩ := it (n := A) wA
  obtain ⟨iB, jB⟩ := it (n := B) wB
  unfold vf okN
  unfold lnN at ln ⊢
  simp only [ltT hl, if_true, getI_nat, hx, Option.bind_some, e, view_rows_1, view_rows_2, view_rows_5, view_rows_6, view_rows_7, view_rows_8, view_rows_9, seatV, kindV] at ln ⊢
  by_cases k1 : K = 1
  · subst k1
    simp only [Int.reduceBEq, if_true, if_false, Bool.false_eq_true, Option.bind_some] at ln ⊢
    cases h : sa A with
    | false => simp
    | true =>
      simp only [if_true, Option.bind_some, Bool.not_true, Bool.false_eq_true, if_false]
      rw [letV h, Option.bind_some]
      rw [cat_ok (by simp only [List.length_append, List.length_cons, List.length_nil]; omega), Option.bind_some]
      rw [iB, Option.bind_some]
      rw [cat_ok (by simp only [List.length_append, List.length_cons, List.length_nil]; omega), Option.bind_some]
      try simp only [Option.bind_some]
      rw [cat_ok (by simp only [List.length_append, List.length_cons, List.length_nil]; omega), Option.bind_some]
      rw [must_ok (decide_eq_true (by simp only [List.length_append, List.length_cons, List.length_nil] at ln ⊢; omega)), Option.bind_some]
  by_cases k2 : K = 2
  · subst k2
    simp only [Int.reduceBEq, if_true, if_false, Bool.false_eq_true, Option.bind_some] at ln ⊢
    cases h1 : sa A with
    | false => simp
    | true =>
    cases h2 : sa B with
    | false => simp
    | true =>
      have h := And.intro h1 h2
      simp only [if_true, Option.bind_some, Bool.and_self, Bool.not_true, Bool.false_eq_true, if_false]
      rw [letV h.1, Option.bind_some]
      rw [cat_ok (by simp only [List.length_append, List.length_cons, List.length_nil]; omega), Option.bind_some]
      rw [letV h.2, Option.bind_some]
      rw [cat_ok (by simp only [List.length_append, List.length_cons, List.length_nil]; omega), Option.bind_some]
      try simp only [Option.bind_some]
      rw [cat_ok (by simp only [List.length_append, List.length_cons, List.length_nil]; omega), Option.bind_some]
      rw [must_ok (decide_eq_true (by simp only [List.length_append, List.length_cons, List.length_nil] at ln ⊢; omega)), Option.bind_some]
  by_cases k3 : K = 3
  · subst k3
    simp only [Int.reduceBEq, if_true, if_false, Bool.false_eq_true, Option.bind_some] at ln ⊢
    cases h1 : sa A with
    | false => simp
    | true =>
    cases h2 : sa B with
    | false => simp
    | true =>
      have h := And.intro h1 h2
      simp only [if_true, Option.bind_some, Bool.and_self, Bool.not_true, Bool.false_eq_true, if_false]
      rw [letV h.1, Option.bind_some]
      rw [cat_ok (by simp only [List.length_append, List.length_cons, List.length_nil]; omega), Option.bind_some]
      rw [letV h.2, Option.bind_some]
      rw [cat_ok (by simp only [List.length_append, List.length_cons, List.length_nil]; omega), Option.bind_some]
      try simp only [Option.bind_some]
      rw [cat_ok (by simp only [List.length_append, List.length_cons, List.length_nil]; omega), Option.bind_some]
      rw [must_ok (decide_eq_true (by simp only [List.length_append, List.length_cons, List.length_nil] at ln ⊢; omega)), Option.bind_some]
  by_cases k4 : K = 4
  · subst k4
    simp only [Int.reduceBEq, if_true, if_false, Bool.false_eq_true, Option.bind_some] at ln ⊢
    cases h : sa A with
    | false => simp
    | true =>
      simp only [if_true, Option.bind_some, Bool.not_true, Bool.false_eq_true, if_false]
      rw [letV h, Option.bind_some]
      rw [cat_ok (by simp only [List.length_append, List.length_cons, List.length_nil]; omega), Option.bind_some]
      try simp only [Option.bind_some]
      rw [cat_ok (by simp only [List.length_append, List.length_cons, List.length_nil]; omega), Option.bind_some]
      rw [must_ok (decide_eq_true (by simp only [List.length_append, List.length_cons, List.length_nil] at ln ⊢; omega)), Option.bind_some]
  by_cases k5 : K = 5
  · subst k5
    simp only [Int.reduceBEq, if_true, if_false, Bool.false_eq_true, Option.bind_some] at ln ⊢
    cases h1 : sa A with
    | false => simp
    | true =>
    cases h2 : kd B with
    | false => simp
    | true =>
      have h := And.intro h1 h2
      simp only [if_true, Option.bind_some, Bool.and_self, Bool.not_true, Bool.false_eq_true, if_false]
      rw [letV h.1, Option.bind_some]
      rw [cat_ok (by simp only [List.length_append, List.length_cons, List.length_nil]; omega), Option.bind_some]
      rw [nameV h.2, Option.bind_some]
      rw [cat_ok (by simp only [List.length_append, List.length_cons, List.length_nil]; omega), Option.bind_some]
      try simp only [Option.bind_some]
      rw [cat_ok (by simp only [List.length_append, List.length_cons, List.length_nil]; omega), Option.bind_some]
      rw [must_ok (decide_eq_true (by simp only [List.length_append, List.length_cons, List.length_nil] at ln ⊢; omega)), Option.bind_some]
  by_cases k6 : K = 6
  · subst k6
    simp only [Int.reduceBEq, if_true, if_false, Bool.false_eq_true, Option.bind_some] at ln ⊢
    cases h : kd B with
    | false => simp
    | true =>
      simp only [if_true, Option.bind_some, Bool.not_true, Bool.false_eq_true, if_false]
      rw [iA, Option.bind_some]
      rw [cat_ok (by simp only [List.length_append, List.length_cons, List.length_nil]; omega), Option.bind_some]
      rw [cat_ok (by simp only [List.length_append, List.length_cons, List.length_nil]; omega), Option.bind_some]
      rw [nameV h, Option.bind_some]
      rw [cat_ok (by simp only [List.length_append, List.length_cons, List.length_nil]; omega), Option.bind_some]
      try simp only [Option.bind_some]
      rw [cat_ok (by simp only [List.length_append, List.length_cons, List.length_nil]; omega), Option.bind_some]
      rw [must_ok (decide_eq_true (by simp only [List.length_append, List.length_cons, List.length_nil] at ln ⊢; omega)), Option.bind_some]
  by_cases k7 : K = 7
  · subst k7
    simp only [Int.reduceBEq, if_true, if_false, Bool.false_eq_true, Option.bind_some] at ln ⊢
    cases h1 : sa A with
    | false => simp
    | true =>
    cases h2 : sa B with
    | false => simp
    | true =>
      have h := And.intro h1 h2
      simp only [if_true, Option.bind_some, Bool.and_self, Bool.not_true, Bool.false_eq_true, if_false]
      rw [letV h.1, Option.bind_some]
      rw [cat_ok (by simp only [List.length_append, List.length_cons, List.length_nil]; omega), Option.bind_some]
      rw [letV h.2, Option.bind_some]
      rw [cat_ok (by simp only [List.length_append, List.length_cons, List.length_nil]; omega), Option.bind_some]
      try simp only [Option.bind_some]
      rw [cat_ok (by simp only [List.length_append, List.length_cons, List.length_nil]; omega), Option.bind_some]
      rw [must_ok (decide_eq_true (by simp only [List.length_append, List.length_cons, List.length_nil] at ln ⊢; omega)), Option.bind_some]
  by_cases k8 : K = 8
  · subst k8
    simp only [Int.reduceBEq, if_true, if_false, Bool.false_eq_true, Option.bind_some] at ln ⊢
    cases h : sa A with
    | false => simp
    | true =>
      simp only [if_true, Option.bind_some, Bool.not_true, Bool.false_eq_true, if_false]
      rw [letV h, Option.bind_some]
      rw [cat_ok (by simp only [List.length_append, List.length_cons, List.length_nil]; omega), Option.bind_some]
      rw [iB, Option.bind_some]
      rw [cat_ok (by simp only [List.length_append, List.length_cons, List.length_nil]; omega), Option.bind_some]
      try simp only [Option.bind_some]
      rw [cat_ok (by simp only [List.length_append, List.length_cons, List.length_nil]; omega), Option.bind_some]
      rw [must_ok (decide_eq_true (by simp only [List.length_append, List.length_cons, List.length_nil] at ln ⊢; omega)), Option.bind_some]
  simp [k1, k2, k3, k4, k5, k6, k7, k8]
theorem stepR (xs : List GNote) (i : Nat) (s : Str) (x : GNote) (hx : xs[i]? = some x) (hi : (i : Int) + 1 ≤ 9223372036854775807) (w : wf_GNote x) (hs : s.length + 34 ≤ 200000000000000) :
    rf xs (s, (i : Int)) = if okN x then some (.inl (s ++ (lnN x ++ [10]), ((i + 1 : Nat) : Int))) else some (.inr (.inr ([], 230))) := by
  have hl : i < xs.length := (List.getElem?_eq_some_iff.1 hx).1
  have e : W ((i : Int) + 1) = ((i + 1 : Nat) : Int) := by rw [W_in (by omega)]; simp
  have ln := lenN x w
  unfold rf
  simp only [ltT hl, if_true, getI_nat, hx, Option.bind_some, e, lineR x w]
  cases h : okN x with
  | false => simp
  | true =>
    simp only [if_true, Bool.not_true, Bool.false_eq_true, if_false]
    rw [cat_ok (by omega), Option.bind_some, cat_ok (by simp only [List.length_append, List.length_cons, List.length_nil]; omega), Option.bind_some, List.append_assoc]
theorem out_take (xs : List GNote) (i : Nat) (x : GNote) (hx : xs[i]? = some x) : outN (xs.take (i + 1)) = outN (xs.take i) ++ (lnN x ++ [10]) := by
  rw [List.take_add_one, hx]
  simp [outN]
theorem out_len (xs : List GNote) (w : ∀ x ∈ xs, wf_GNote x) : (outN xs).length ≤ 34 * xs.length := by
  induction xs with
  | nil => simp [outN]
  | cons x xs ih =>
    have h1 := ih (fun y hy => w y (.tail _ hy))
    have h2 := lenN x (w x (.head _))
    have h3 : outN (x :: xs) = (lnN x ++ [10]) ++ outN xs := by simp [outN]
    rw [h3]
    simp only [List.length_append, List.length_cons, List.length_nil]
    omega
def resN (xs : List GNote) : Str × Int := if xs.all okN then (outN xs, 0) else ([], 230)
section
variable (xs : List GNote) (w : ∀ x ∈ xs, wf_GNote x) (hn : xs.length * 24 ≤ reachBytes)
include w hn
theorem fitN (i : Nat) (hi : i < xs.length) : (outN (xs.take i)).length + 34 ≤ 200000000000000 ∧ (i : Int) + 1 ≤ 9223372036854775807 := by
  have h1 := out_len (xs.take i) (fun x hx => w x (List.mem_of_mem_take hx))
  have h2 : (xs.take i).length ≤ i := by simp only [List.length_take]; omega
  have : reachBytes = 140737488351232 := rfl
  omega
theorem viewN : view_Notes xs = some (resN xs) := by
  have h := loopE (f := vf xs) xs okN (fun i => ((i : Int), outN (xs.take i))) (.inl (outN xs)) (.inr ([], 230)) (fun i x hx hk => by
      have hi := (List.getElem?_eq_some_iff.1 hx).1
      have hf := fitN xs w hn i hi
      rw [stepV xs i _ x hx hf.2 (w x (List.mem_of_getElem? hx)) hf.1, hk, out_take xs i x hx]; rfl) (fun i x hx hk => by
      have hi := (List.getElem?_eq_some_iff.1 hx).1
      have hf := fitN xs w hn i hi
      rw [stepV xs i _ x hx hf.2 (w x (List.mem_of_getElem? hx)) hf.1, hk]; rfl) (by
      unfold vf
      simp only [ltF, Bool.false_eq_true, if_false, List.take_length])
  unfold view_Notes
  simp only [Option.bind_some]
  refine (congrArg (fun o => Option.bind o _) h).trans ?_
  unfold resN
  cases xs.all okN <;> rfl
theorem refN : echelonref23_Notes xs = some (resN xs) := by
  have h := loopE (f := rf xs) xs okN (fun i => (outN (xs.take i), (i : Int))) (.inl (outN xs)) (.inr ([], 230)) (fun i x hx hk => by
      have hi := (List.getElem?_eq_some_iff.1 hx).1
      have hf := fitN xs w hn i hi
      rw [stepR xs i _ x hx hf.2 (w x (List.mem_of_getElem? hx)) hf.1, hk, out_take xs i x hx]; rfl) (fun i x hx hk => by
      have hi := (List.getElem?_eq_some_iff.1 hx).1
      have hf := fitN xs w hn i hi
      rw [stepR xs i _ x hx hf.2 (w x (List.mem_of_getElem? hx)) hf.1, hk]; rfl) (by
      unfold rf
      simp only [ltF, Bool.false_eq_true, if_false, List.take_length])
  unfold echelonref23_Notes
  refine (congrArg (fun o => Option.bind o _) h).trans ?_
  unfold resN
  cases xs.all okN <;> rfl
theorem ViewNotes : echelonlaw23_ViewNotes xs = some true := by
  unfold echelonlaw23_ViewNotes
  rw [awake, viewN xs w hn, refN xs w hn]
  simp
end
end Go.Proofs.YtflmncjhonmmhaaDoor.Vn.Pure
