/- The plain law of ViewTurns: the list of two worlds turned about is the list, each of its items turned about. -/
import Derived.Test.YtflmncjhonmmhaaDoorVwPureC
namespace Go.Proofs.YtflmncjhonmmhaaDoor.Vw.Pure
open Go Go.RowKit Go.ChangeShapes Go.WideShapes
set_option linter.unusedVariables false
set_option linter.unusedSimpArgs false
set_option maxRecDepth 100000
def flp (c : GCorrection) : GCorrection := GCorrection.mk c.Peer c.After c.Before (W (0 - c.Health)) (W (0 - c.Points))
theorem beqE {α β : Type} [DecidableEq α] [DecidableEq β] {a b : α} {c d : β} (h : a = b ↔ c = d) : (a == b) = (c == d) := by
  rw [Bool.eq_iff_iff, beq_iff_eq, beq_iff_eq, h]
theorem chg_symm (x y : GMover) (s t : GScore) : chg y x t s = chg x y s t := by
  unfold chg
  rw [beqE (a := y.At.X) (b := x.At.X) (c := x.At.X) (d := y.At.X) eq_comm, beqE (a := y.At.Y) (b := x.At.Y) (c := x.At.Y) (d := y.At.Y) eq_comm, bneE (a := y.Health) (b := x.Health) (c := x.Health) (d := y.Health) eq_comm,
    bneE (a := t.Points) (b := s.Points) (c := s.Points) (d := t.Points) eq_comm]
theorem flp_cmk (i : Nat) (x y : GMover) (s t : GScore) : flp (cmk i x y s t) = cmk i y x t s := by
  simp only [flp, cmk, W_neg]
theorem crn_flp (a b : GWorld) (i : Nat) : crn b a i = (crn a b i).map flp := by
  unfold crn
  cases a.Movers[i]? <;> cases b.Movers[i]? <;> cases a.Scores[i]? <;> cases b.Scores[i]? <;> simp only [List.map_nil]
  rename_i x y s t
  rw [chg_symm]
  cases chg x y s t
  · rfl
  · simp only [if_true, List.map_cons, List.map_nil, flp_cmk]
theorem cors_flp (a b : GWorld) (n : Nat) : cors b a n = (cors a b n).map flp := by
  induction n with
  | zero => rfl
  | succ n ih => rw [cors_succ, cors_succ, List.map_append, ih, crn_flp]
theorem lok_symm (a b : GWorld) : lok b a = lok a b := by
  rw [Bool.eq_iff_iff, lok_iff, lok_iff]; omega
theorem cor_flp (a b : GWorld) : cor b a = ((cor a b).1.map flp, (cor a b).2) := by
  unfold cor
  rw [lok_symm]
  cases h : lok a b with
  | false => rfl
  | true =>
    simp only [if_true]
    rw [(lok_iff.1 h).1, cors_flp]
theorem chg_self (x : GMover) (s : GScore) : chg x x s s = false := by simp [chg]
theorem cors_self (a : GWorld) (n : Nat) : cors a a n = [] := by
  induction n with
  | zero => rfl
  | succ n ih =>
    rw [cors_succ, ih]
    unfold crn
    cases a.Movers[n]? <;> cases a.Scores[n]? <;> simp [chg_self]
theorem cor_self (a : GWorld) : cor a a = ([], if a.Scores.length = a.Movers.length then 0 else 230) := by
  unfold cor
  rw [cors_self]
  cases h : lok a a with
  | false =>
    have : ¬ a.Scores.length = a.Movers.length := fun e => by rw [lok_iff.2 ⟨rfl, e, e⟩] at h; cases h
    simp [this]
  | true => simp [(lok_iff.1 h).2.1]

/-- What holds of each item. -/
def Gd (c : GCorrection) : Prop := W (0 - W (0 - c.Health)) = c.Health ∧ W (0 - W (0 - c.Points)) = c.Points ∧ ((c.Before.X == c.After.X) && ((c.Before.Y == c.After.Y) && true) && ((c.Health == 0) && (c.Points == 0))) = false
theorem gd_cmk {i : Nat} {x y : GMover} {s t : GScore} (hx : wf_GMover x) (hy : wf_GMover y) (hs : wf_GScore s) (ht : wf_GScore t) (h : chg x y s t = true) : Gd (cmk i x y s t) := by
  refine ⟨by simp only [cmk, W_neg], by simp only [cmk, W_neg], ?_⟩
  have e1 : ((W (y.Health - x.Health)) == 0) = (x.Health == y.Health) := beqE (W_sub0 hy.2.2.2.2.1 hx.2.2.2.2.1)
  have e2 : ((W (t.Points - s.Points)) == 0) = (s.Points == t.Points) := beqE (W_sub0 ht.1 hs.1)
  simp only [cmk, e1, e2]
  unfold chg bne at h
  revert h
  cases (x.At.X == y.At.X) <;> cases (x.At.Y == y.At.Y) <;> cases (x.Health == y.Health) <;> cases (s.Points == t.Points) <;> simp
theorem gd_crn {a b : GWorld} (wa : wf_GWorld a) (wb : wf_GWorld b) (i : Nat) : ∀ c ∈ crn a b i, Gd c := by
  intro c hc
  unfold crn at hc
  split at hc
  · rename_i x y s t h1 h2 h3 h4
    cases hg : chg x y s t with
    | false => rw [hg] at hc; simp at hc
    | true =>
      rw [hg] at hc
      simp only [if_true, List.mem_cons, List.not_mem_nil, or_false] at hc
      subst hc
      exact gd_cmk (wa.2.1.1 x (List.mem_of_getElem? h1)) (wb.2.1.1 y (List.mem_of_getElem? h2)) (wa.2.2.1.1 s (List.mem_of_getElem? h3)) (wb.2.2.1.1 t (List.mem_of_getElem? h4)) hg
  · simp at hc
theorem gd_cor {a b : GWorld} (wa : wf_GWorld a) (wb : wf_GWorld b) : ∀ c ∈ (cor a b).1, Gd c := by
  intro c hc
  unfold cor at hc
  split at hc
  · simp only [cors, List.mem_flatMap] at hc
    obtain ⟨i, _, hi⟩ := hc
    exact gd_crn wa wb i c hi
  · simp at hc
theorem and3 (a b c : Bool) : (if a then if b then some c else some false else some false) = some (a && (b && c)) := by cases a <;> cases b <;> rfl

theorem ViewTurns (a b : GWorld) (wa : wf_GWorld a) (wb : wf_GWorld b) : echelonlaw23_ViewTurns a b = some true := by
  have hn := wa.2.1.2
  have hr : reachBytes < 2 ^ 47 := reachBytes_lt
  have hl := cor_len a b
  have hg := gd_cor wa wb
  unfold echelonlaw23_ViewTurns
  rw [awake, Option.bind_some, viewC a b wa wb, Option.bind_some, viewC b a wb wa, Option.bind_some, viewC a a wa wa, Option.bind_some, Option.bind_some, cor_self, cor_flp a b]
  generalize (cor a b).2 = e at *
  generalize (cor a b).1 = X at *
  have e2 : (!(((if a.Scores.length = a.Movers.length then 0 else 230 : Int) == 0) == ((a.Movers.length : Int) == (a.Scores.length : Int)))) = false := by
    rw [beqE (a := (a.Movers.length : Int)) (b := (a.Scores.length : Int)) (c := a.Scores.length) (d := a.Movers.length) (by omega)]
    by_cases h : a.Scores.length = a.Movers.length <;> simp [h]
  rw [e2]
  simp only [List.length_nil, List.length_map, Bool.false_eq_true, if_false, Option.bind_some, bne_self_eq_false, Int.ofNat_zero, Int.natCast_zero]
  refine (congrArg (fun o => Option.bind o _) (loopN (fun i => (i : Int)) X.length (.inl ()) (fun i hi => ?_) ?_)).trans rfl
  · have e : W ((i : Int) + 1) = ((i + 1 : Nat) : Int) := by rw [W_in (by omega)]; simp
    obtain ⟨g1, g2, g3⟩ := hg X[i] (List.getElem_mem hi)
    have m1 : (X.map flp)[i]? = some (flp X[i]) := by rw [List.getElem?_map, List.getElem?_eq_getElem hi]; rfl
    simp only [ltT hi, if_true, getI_nat, List.getElem?_eq_getElem hi, m1, Option.bind_some, flp, g1, g2, bne_self_eq_false, beq_self_eq_true, Bool.and_self, Bool.not_true, Bool.false_eq_true, if_false, and3, g3, e]
  · simp only [ltF, Bool.false_eq_true, if_false]
end Go.Proofs.YtflmncjhonmmhaaDoor.Vw.Pure
