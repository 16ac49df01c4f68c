/- The plain laws of ViewCorrects and ViewTurns. -/
import Derived.Test.YtflmncjhonmmhaaDoorVwPureB
namespace Go.Proofs.YtflmncjhonmmhaaDoor.Vw.Pure
open Go Go.RowKit Go.ChangeShapes Go.WideShapes
set_option linter.unusedVariables false
set_option linter.unusedSimpArgs false
set_option maxRecDepth 100000
theorem refC (a b : GWorld) (wa : wf_GWorld a) (wb : wf_GWorld b) : echelonref23_Correct a b = some (cor a b) := by
  obtain ⟨_, ⟨wm, hn⟩, ⟨ws, _⟩, _⟩ := wa
  unfold echelonref23_Correct
  rw [lens, Option.bind_some]
  cases hl : lok a b with
  | false => simp [cor, hl]
  | true =>
    have := loopN (f := (fun (s193 : Int × List GCorrection) => (some (decide (s193.1 < (a.Movers.length : Int)))).bind fun (x198 : Bool) => if x198 then ((getI a.Movers s193.1).bind fun (x210 : GMover) => (getI b.Movers s193.1).bind fun (x212 : GMover) => (getI b.Scores s193.1).bind fun (x227 : GScore) => (getI a.Scores s193.1).bind fun (x229 : GScore) => (if !((x210.At.X == x212.At.X) && ((x210.At.Y == x212.At.Y) && true)) then some true else if x210.Health != x212.Health then some true else (getI a.Scores s193.1).bind fun (x235 : GScore) => (getI b.Scores s193.1).bind fun (x237 : GScore) => some (x235.Points != x237.Points)).bind fun (y232 : Bool) => if y232 then (must (decide ((s193.2.length + ([GCorrection.mk s193.1 x210.At x212.At (W (x212.Health - x210.Health)) (W (x227.Points - x229.Points))]).length) * 56 ≤ 140737488355328))).bind fun _ => some (s193.2 ++ ([GCorrection.mk s193.1 x210.At x212.At (W (x212.Health - x210.Health)) (W (x227.Points - x229.Points))])) else some s193.2).bind fun (y202 : List GCorrection) => some (.inl (W (s193.1 + 1), y202)) else some (.inr (s193.2))))
      (fun i => ((i : Int), cors a b i)) a.Movers.length (cors a b a.Movers.length) (fun i hi => by
        obtain ⟨x, y, s, t, h1, h2, h3, h4⟩ := four hl hi
        simp only [ltT hi, Option.bind_some, if_true, getI_nat, h1, h2, h3, h4, or3]
        rw [show (!((x.At.X == y.At.X) && ((x.At.Y == y.At.Y) && true)) || (x.Health != y.Health || s.Points != t.Points)) = chg x y s t from rfl, cors_succ, crn_at h1 h2 h3 h4]
        cases hc : chg x y s t
        · simp only [Bool.false_eq_true, if_false, Option.bind_some, Wi hi hn, List.append_nil]
        · simp only [if_true, fits hn hi, Option.bind_some, Wi hi hn]
          rfl) (by simp only [ltF, Option.bind_some, Bool.false_eq_true, if_false])
    simp only [Bool.not_true, Bool.false_eq_true, if_false, cor, hl, if_true]
    refine (congrArg (fun o => o.bind fun (y131 : List GCorrection) => some (y131, (0 : Int))) this).trans rfl

theorem same (X : List GCorrection) (hX : X.length ≤ 9223372036854775807) : echelonref23_SameCorrections X X = some true := by
  unfold echelonref23_SameCorrections
  rw [if_neg (by simp)]
  refine (congrArg (fun o => Option.bind o _) (loopN (fun i => (i : Int)) X.length (.inl ()) (fun i hi => ?_) ?_)).trans rfl
  · have e : W ((i : Int) + 1) = ((i + 1 : Nat) : Int) := by rw [W_in (by omega)]; simp
    simp only [ltT hi, if_true, getI_nat, List.getElem?_eq_getElem hi, Option.bind_some, beq_self_eq_true, Bool.and_self, Bool.not_true, Bool.false_eq_true, if_false, e]
  · simp only [ltF, Bool.false_eq_true, if_false]

theorem cor_len (a b : GWorld) : (cor a b).1.length ≤ a.Movers.length := by
  unfold cor
  split
  · exact cors_len a b _
  · simp

theorem spoil (X : List GCorrection) (hX : X.length ≤ 9223372036854775807) : ∃ Y : List GCorrection, Y.length = X.length ∧ Loop.run (fun (s148 : Int × List GCorrection) => if decide (s148.1 < (s148.2.length : Int)) then (getI s148.2 s148.1).bind fun (x155 : GCorrection) => some (.inl (W (s148.1 + 1), s148.2.set s148.1.toNat (GCorrection.mk (-1) x155.Before x155.After x155.Health x155.Points))) else some (.inr (s148.2))) (0, X) = some Y := by
  have key : ∀ (k i : Nat) (Z : List GCorrection), Z.length = X.length → i + k = X.length → ∃ Y : List GCorrection, Y.length = X.length ∧ Loop.run (fun (s148 : Int × List GCorrection) => if decide (s148.1 < (s148.2.length : Int)) then (getI s148.2 s148.1).bind fun (x155 : GCorrection) => some (.inl (W (s148.1 + 1), s148.2.set s148.1.toNat (GCorrection.mk (-1) x155.Before x155.After x155.Health x155.Points))) else some (.inr (s148.2))) ((i : Int), Z) = some Y := by
    intro k
    induction k with
    | zero =>
      intro i Z hz hi
      obtain rfl : i = Z.length := by omega
      exact ⟨Z, hz, Loop.run_inr (by simp only [ltF, Bool.false_eq_true, if_false])⟩
    | succ k ih =>
      intro i Z hz hi
      have h1 : i < Z.length := by omega
      obtain ⟨Y, h2, h3⟩ := ih (i + 1) (Z.set i (GCorrection.mk (-1) Z[i].Before Z[i].After Z[i].Health Z[i].Points)) (by simpa using hz) (by omega)
      refine ⟨Y, h2, (Loop.run_inl ?_).trans h3⟩
      have e : W ((i : Int) + 1) = ((i + 1 : Nat) : Int) := by rw [W_in (by omega)]; simp
      simp only [ltT h1, if_true, getI_nat, List.getElem?_eq_getElem h1, Option.bind_some, e, Int.toNat_natCast]
  exact key X.length 0 X rfl (by omega)

theorem ViewCorrects (a b : GWorld) (wa : wf_GWorld a) (wb : wf_GWorld b) : echelonlaw23_ViewCorrects a b = some true := by
  have hn := wa.2.1.2
  have hr : reachBytes < 2 ^ 47 := reachBytes_lt
  have hl := cor_len a b
  obtain ⟨Y, hy, hY⟩ := spoil (cor a b).1 (by omega)
  unfold echelonlaw23_ViewCorrects
  rw [awake, Option.bind_some, viewC a b wa wb, Option.bind_some, refC a b wa wb, Option.bind_some, same _ (by omega), Option.bind_some, hY, Option.bind_some]
  have e : W (((cor a b).1.length : Int) + 1) = (((cor a b).1.length + 1 : Nat) : Int) := by rw [W_in (by omega)]; simp
  have m : must (decide ((Y.length + ([GCorrection.mk (-2) (GPoint.mk 0 0) (GPoint.mk 0 0) 0 0]).length) * 56 ≤ 140737488355328)) = some () := by
    rw [decide_eq_true (by simp only [List.length_cons, List.length_nil]; omega)]; rfl
  rw [m, Option.bind_some]
  simp only [Option.bind_some, same _ (show (cor a b).1.length ≤ 9223372036854775807 by omega), if_true, beq_self_eq_true, List.length_append, List.length_cons, List.length_nil, hy, e]

end Go.Proofs.YtflmncjhonmmhaaDoor.Vw.Pure
