/- The plain law of Correct: program and reference come to one list. -/
import Derived.Test.YtflmncjhonmmhaaDoorVwPureA
import Derived.IntWalk
namespace Go.Proofs.YtflmncjhonmmhaaDoor.Vw.Pure
open Go Go.RowKit Go.ChangeShapes Go.WideShapes
set_option linter.unusedVariables false
set_option linter.unusedSimpArgs false
set_option maxRecDepth 100000
theorem loopN {σ γ : Type} {f : σ → Option (σ ⊕ γ)} (st : Nat → σ) (n : Nat) (r : γ) (hs : ∀ i, i < n → f (st i) = some (.inl (st (i + 1)))) (he : f (st n) = some (.inr r)) : Loop.run f (st 0) = some r := by
  have key : ∀ k i, i + k = n → Loop.run f (st i) = some r := by
    intro k
    induction k with
    | zero => intro i h; obtain rfl : i = n := by omega
              exact Loop.run_inr he
    | succ k ih => intro i h; rw [Loop.run_inl (hs i (by omega))]; exact ih (i + 1) (by omega)
  exact key n 0 (by omega)
theorem getI_nat {α : Type} (xs : List α) (i : Nat) : getI xs (i : Int) = xs[i]? := by simp [getI]
theorem W_in {x : Int} (h : -9223372036854775808 ≤ x ∧ x ≤ 9223372036854775807) : W x = x := by unfold W; rw [IntKind.wrap_i64]; omega
theorem W_range (x : Int) : -9223372036854775808 ≤ W x ∧ W x ≤ 9223372036854775807 := by unfold W; rw [IntKind.wrap_i64]; omega
theorem W_sub0 {x y : Int} (hx : wfI .i64 x) (hy : wfI .i64 y) : W (x - y) = 0 ↔ y = x := by
  have h1 := bounds_i64 hx
  have h2 := bounds_i64 hy
  unfold W; rw [IntKind.wrap_i64]; omega
theorem W_neg (x y : Int) : W (0 - W (x - y)) = W (y - x) := by
  unfold W; simp only [IntKind.wrap_i64]; omega
theorem or3 (a b c : Bool) : (if a then some true else if b then some true else some c) = some (a || (b || c)) := by cases a <;> cases b <;> rfl

/-- Has a seat changed. -/
def chg (x y : GMover) (s t : GScore) : Bool := !((x.At.X == y.At.X) && ((x.At.Y == y.At.Y) && true)) || (x.Health != y.Health || s.Points != t.Points)
def cmk (i : Nat) (x y : GMover) (s t : GScore) : GCorrection := GCorrection.mk (i : Int) x.At y.At (W (y.Health - x.Health)) (W (t.Points - s.Points))
def crn (a b : GWorld) (i : Nat) : List GCorrection :=
  match a.Movers[i]?, b.Movers[i]?, a.Scores[i]?, b.Scores[i]? with
  | some x, some y, some s, some t => if chg x y s t then [cmk i x y s t] else []
  | _, _, _, _ => []
def cors (a b : GWorld) (n : Nat) : List GCorrection := (List.range n).flatMap (crn a b)
theorem cors_succ (a b : GWorld) (n : Nat) : cors a b (n + 1) = cors a b n ++ crn a b n := by simp [cors, List.range_succ]
theorem crn_len (a b : GWorld) (i : Nat) : (crn a b i).length ≤ 1 := by
  unfold crn
  split
  · split <;> simp
  · simp
theorem cors_len (a b : GWorld) (n : Nat) : (cors a b n).length ≤ n := by
  induction n with
  | zero => simp [cors]
  | succ n ih => rw [cors_succ, List.length_append]; have := crn_len a b n; omega
theorem crn_at {a b : GWorld} {i : Nat} {x y : GMover} {s t : GScore} (h1 : a.Movers[i]? = some x) (h2 : b.Movers[i]? = some y) (h3 : a.Scores[i]? = some s) (h4 : b.Scores[i]? = some t) :
    crn a b i = if chg x y s t then [cmk i x y s t] else [] := by simp [crn, h1, h2, h3, h4]
def lok (a b : GWorld) : Bool := (b.Movers.length == a.Movers.length) && ((a.Scores.length == a.Movers.length) && (b.Scores.length == a.Movers.length))
def cor (a b : GWorld) : List GCorrection × Int := if lok a b then (cors a b a.Movers.length, 0) else ([], 230)
theorem lok_iff {a b : GWorld} : lok a b = true ↔ b.Movers.length = a.Movers.length ∧ a.Scores.length = a.Movers.length ∧ b.Scores.length = a.Movers.length := by simp [lok]
theorem bneE {α β : Type} [DecidableEq α] [DecidableEq β] {a b : α} {c d : β} (h : a = b ↔ c = d) : (a != b) = (c != d) := by
  rw [Bool.eq_iff_iff, bne_iff_ne, bne_iff_ne, ne_eq, ne_eq, h]
theorem neN (m n : Nat) : ((m : Int) != (n : Int)) = (m != n) := bneE (by omega)
/-- The head of both: the lengths. -/
theorem lens (a b : GWorld) : ((some ((b.Movers.length : Int) != (a.Movers.length : Int))).bind fun (x118 : Bool) => if x118 then some true else (some ((a.Scores.length : Int) != (a.Movers.length : Int))).bind fun (x121 : Bool) => if x121 then some true else (some ((b.Scores.length : Int) != (a.Movers.length : Int))).bind fun (x124 : Bool) => some x124) = some (!lok a b) := by
  simp only [Option.bind_some, neN, lok]
  unfold bne
  cases (b.Movers.length == a.Movers.length) <;> cases (a.Scores.length == a.Movers.length) <;> cases (b.Scores.length == a.Movers.length) <;> rfl
theorem four {a b : GWorld} (h : lok a b = true) {i : Nat} (hi : i < a.Movers.length) : ∃ x y s t, a.Movers[i]? = some x ∧ b.Movers[i]? = some y ∧ a.Scores[i]? = some s ∧ b.Scores[i]? = some t := by
  obtain ⟨h1, h2, h3⟩ := lok_iff.1 h
  exact ⟨_, _, _, _, List.getElem?_eq_getElem hi, List.getElem?_eq_getElem (by omega), List.getElem?_eq_getElem (by omega), List.getElem?_eq_getElem (by omega)⟩
theorem fits {a b : GWorld} {n i : Nat} (hn : n * 104 ≤ reachBytes) (hi : i < n) (c : GCorrection) : must (decide (((cors a b i).length + [c].length) * 56 ≤ 140737488355328)) = some () := by
  have h1 := cors_len a b i
  have : reachBytes < 2 ^ 47 := reachBytes_lt
  have : ((cors a b i).length + [c].length) * 56 ≤ 140737488355328 := by simp only [List.length_cons, List.length_nil]; omega
  rw [decide_eq_true this]; rfl
theorem Wi {i n : Nat} (h : i < n) (hn : n * 104 ≤ reachBytes) : W ((i : Int) + 1) = ((i + 1 : Nat) : Int) := by
  have : reachBytes < 2 ^ 47 := reachBytes_lt
  rw [W_in (by omega)]; simp
theorem ltT {i n : Nat} (h : i < n) : decide ((i : Int) < (n : Int)) = true := by simp; exact h
theorem ltF (n : Nat) : decide ((n : Int) < (n : Int)) = false := by simp

theorem viewC (a b : GWorld) (wa : wf_GWorld a) (wb : wf_GWorld b) : view_Correct a b = some (cor a b) := by
  obtain ⟨_, ⟨wm, hn⟩, ⟨ws, _⟩, _⟩ := wa
  obtain ⟨_, ⟨vm, _⟩, ⟨vs, _⟩, _⟩ := wb
  unfold view_Correct
  rw [lens, Option.bind_some]
  cases hl : lok a b with
  | false => simp [cor, hl]
  | true =>
    have := loopN (f := (fun (s192 : Int × List GCorrection) => (some (decide (s192.1 < (a.Movers.length : Int)))).bind fun (x196 : Bool) => if x196 then ((getI a.Movers s192.1).bind fun (x210 : GMover) => (getI b.Movers s192.1).bind fun (x212 : GMover) => (getI b.Scores s192.1).bind fun (x225 : GScore) => (getI a.Scores s192.1).bind fun (x227 : GScore) => ((some (!((x210.At.X == x212.At.X) && ((x210.At.Y == x212.At.Y) && true)))).bind fun (x233 : Bool) => if x233 then some true else if (W (x212.Health - x210.Health)) != 0 then some true else some ((W (x225.Points - x227.Points)) != 0)).bind fun (y232 : Bool) => if y232 then (must (decide ((s192.2.length + ([GCorrection.mk s192.1 x210.At x212.At (W (x212.Health - x210.Health)) (W (x225.Points - x227.Points))]).length) * 56 ≤ 140737488355328))).bind fun _ => some (s192.2 ++ ([GCorrection.mk s192.1 x210.At x212.At (W (x212.Health - x210.Health)) (W (x225.Points - x227.Points))])) else some s192.2).bind fun (y201 : List GCorrection) => some (.inl (W (s192.1 + 1), y201)) else some (.inr (s192.2))))
      (fun i => ((i : Int), cors a b i)) a.Movers.length (cors a b a.Movers.length) (fun i hi => by
        obtain ⟨x, y, s, t, h1, h2, h3, h4⟩ := four hl hi
        have e1 : ((W (y.Health - x.Health)) != 0) = (x.Health != y.Health) := bneE (W_sub0 (vm y (List.mem_of_getElem? h2)).2.2.2.2.1 (wm x (List.mem_of_getElem? h1)).2.2.2.2.1)
        have e2 : ((W (t.Points - s.Points)) != 0) = (s.Points != t.Points) := bneE (W_sub0 (vs t (List.mem_of_getElem? h4)).1 (ws s (List.mem_of_getElem? h3)).1)
        simp only [ltT hi, Option.bind_some, if_true, getI_nat, h1, h2, h3, h4, or3, e1, e2]
        rw [show (!((x.At.X == y.At.X) && ((x.At.Y == y.At.Y) && true)) || (x.Health != y.Health || s.Points != t.Points)) = chg x y s t from rfl, cors_succ, crn_at h1 h2 h3 h4]
        cases hc : chg x y s t
        · simp only [Bool.false_eq_true, if_false, Option.bind_some, Wi hi hn, List.append_nil]
        · simp only [if_true, fits hn hi, Option.bind_some, Wi hi hn]
          rfl) (by simp only [ltF, Option.bind_some, Bool.false_eq_true, if_false])
    simp only [Bool.not_true, Bool.false_eq_true, if_false, cor, hl, if_true]
    refine (congrArg (fun o => o.bind fun (y131 : List GCorrection) => some (y131, (0 : Int))) this).trans rfl
end Go.Proofs.YtflmncjhonmmhaaDoor.Vw.Pure
