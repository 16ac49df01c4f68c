/- Regions in any order, with memory that is made in them; maps with few entries. -/
import Derived.Test.YtflmncjhonmmhaaDoorLib17
namespace Go.Proofs.YtflmncjhonmmhaaDoor
open Go
set_option linter.unusedVariables false
set_option linter.unusedSimpArgs false

/-! ### any order -/
def AEmp : Asn := ⟨fun _ F => ∀ x, ¬ F x, fun h _ => h⟩
def updD (dn : Nat → Bool) (i : Nat) : Nat → Bool := fun j => Nat.beq j i || dn j
def noneD : Nat → Bool := fun _ => false
def allD (m : Nat) : Nat → Bool := fun j => Nat.blt j m
def afterB (o : Oper) (dn : Nat → Bool) : Bool := o.after.toList.all fun e => !Region.binds .any e || dn e.on
def backB : Nat → List Oper → Bool
  | _, [] => true
  | k, o :: l => (o.after.toList.all fun e => !Region.binds .any e || Nat.blt e.on k) && backB (k + 1) l
theorem backB_get : ∀ (l : List Oper) (k j : Nat) (o : Oper), backB k l = true → l[j]? = some o → ∀ e ∈ o.after.toList, Region.binds .any e = true → e.on < k + j := by
  intro l
  induction l with
  | nil => intro k j o _ h; simp at h
  | cons x l ih =>
    intro k j o hb hj e he hbd
    simp only [backB, Bool.and_eq_true] at hb
    cases j with
    | zero =>
      simp at hj; subst hj
      have := List.all_eq_true.1 hb.1 e he
      simp [hbd, Nat.blt_eq] at this
      simpa using this
    | succ j => have := ih (k + 1) j o hb.2 (by simpa using hj) e he hbd; omega
/-- What one operation must do, whenever its turn comes. -/
def StepI (P : Program) (ops : Array Oper) (Q : Post) (I : (Nat → Bool) → Act → World → Prop) (k : Nat) (o : Oper) : Prop :=
  ∀ dn : Nat → Bool, dn k = false → (∀ (j : Nat) o', ops[j]? = some o' → dn j = true → afterB o' dn = true) → afterB o dn = true → ∀ a w, I dn a w → wpList P ops (Exit.then (I (updD dn k)) Q) [o] a w
theorem wp_post {P : Program} {o : Oper} {a : Act} {w : World} {K K' : Act → World → Prop} {Q Q' : Post} (hk : ∀ a w, K a w → K' a w) (hq : ∀ e a w, e ≠ .normal → Q e a w → Q' e a w) (h : o.wp P a w K Q) : o.wp P a w K' Q' := by
  unfold Oper.wp at *
  have hL : LetsOut Q → LetsOut Q' := fun ⟨a, w, h⟩ => ⟨a, w, hq _ _ _ (by simp) h⟩
  generalize (execOp a.eval o).run P w = r at *
  cases r with
  | ok n w' =>
    cases n <;> simp only [Oper.upon] at h ⊢ <;>
      first
        | exact hk _ _ h
        | exact Calls.mono h (fun e w'' he => by cases e <;> first | exact hk _ _ he | exact hq _ _ _ (by simp) he | exact hL he)
        | exact Rows.mono h (fun _ _ he => hk _ _ he)
  | halt x w' => cases x <;> simp only [Oper.upon] at h ⊢ <;> first | exact hq _ _ _ (by simp) h | exact h
def dnOf (listed : Array Bool) : Nat → Bool := fun j => listed.getD j false
theorem dnOf_set (listed : Array Bool) (i : Nat) (hi : i < listed.size) : dnOf (listed.setIfInBounds i true) = updD (dnOf listed) i := by
  funext j
  simp only [dnOf, updD, Array.getD_eq_getD_getElem?, Array.getElem?_setIfInBounds]
  by_cases h : i = j
  · subst h; simp [hi]
  · have : Nat.beq j i = false := by
      cases hb : Nat.beq j i
      · rfl
      · exact absurd (Nat.eq_of_beq_eq_true hb).symm h
    simp [h, this]
theorem wpAny_inv {P : Program} {ops : Array Oper} {Q : Post} {I : (Nat → Bool) → Act → World → Prop} (hb : backB 0 ops.toList = true) (hs : ∀ (k : Nat) o, ops[k]? = some o → StepI P ops Q I k o) (hend : ∀ a w, I (allD ops.size) a w → Q .normal a w) :
    ∀ (fuel : Nat) (listed : Array Bool) (a : Act) (w : World), listed.size = ops.size → listed.toList.count false = fuel → (∀ (j : Nat) o', ops[j]? = some o' → dnOf listed j = true → afterB o' (dnOf listed) = true) → I (dnOf listed) a w → wpAny P .any ops Q fuel listed a w := by
  intro fuel
  induction fuel with
  | zero =>
    intro listed a w hsz hc hcl hI
    have hall : ∀ j, j < listed.size → listed.getD j true = true := by
      intro j hj
      have hn : false ∉ listed.toList := by rw [← List.count_eq_zero]; exact hc
      have hm : listed[j] ∈ listed.toList := by simp
      have : listed[j] ≠ false := fun e => hn (e ▸ hm)
      simp [Array.getD, hj]
      simpa using this
    refine ⟨?_, ?_⟩
    · unfold Region.ready
      rw [List.filter_eq_nil_iff]
      intro i hi
      have := hall i (by rw [hsz]; simpa using hi)
      simp [this]
    · refine hend a w ?_
      have e : dnOf listed = allD ops.size := by
        funext j
        unfold dnOf allD
        by_cases hj : j < listed.size
        · have := hall j hj
          simp [Array.getD, hj] at this ⊢
          rw [this]
          exact (by rw [← hsz]; simpa [Nat.blt_eq] using hj : true = Nat.blt j ops.size)
        · have h2 : Nat.blt j ops.size = false := by
            cases hbb : Nat.blt j ops.size
            · rfl
            · rw [Nat.blt_eq] at hbb; omega
          simp [Array.getD, hj, h2]
      rw [← e]; exact hI
  | succ fuel ih =>
    intro listed a w hsz hc hcl hI
    refine ⟨?_, ?_⟩
    · intro hr
      exfalso
      have hmem : false ∈ listed.toList := by
        rw [← List.count_pos_iff]; omega
      have hex : ∃ j, j < listed.size ∧ listed.getD j true = false := by
        obtain ⟨j, hj, he⟩ := List.getElem_of_mem hmem
        refine ⟨j, by simpa using hj, ?_⟩
        have hj' : j < listed.size := by simpa using hj
        simp [Array.getD, hj']
        simpa using he
      -- the least one that has not come up is ready
      have hleast : ∃ j, (j < listed.size ∧ listed.getD j true = false) ∧ ∀ i, i < j → ¬ (i < listed.size ∧ listed.getD i true = false) := by
        obtain ⟨j, hj⟩ := hex
        induction j using Nat.strongRecOn with
        | ind j ihj =>
          by_cases hx : ∃ i, i < j ∧ (i < listed.size ∧ listed.getD i true = false)
          · obtain ⟨i, hi1, hi2⟩ := hx; exact ihj i hi1 hi2
          · exact ⟨j, hj, fun i hi hh => hx ⟨i, hi, hh⟩⟩
      obtain ⟨j, ⟨hj1, hj2⟩, hmin⟩ := hleast
      have hjo : j < ops.size := by omega
      have hin : j ∈ Region.ready .any ops listed := by
        unfold Region.ready
        rw [List.mem_filter]
        refine ⟨by simpa using hjo, ?_⟩
        simp only [hj2, Bool.not_false, Bool.true_and, Array.getElem?_eq_getElem hjo, Option.map_some, Option.getD_some]
        rw [← Array.all_toList, List.all_eq_true]
        intro e he
        by_cases hbd : Region.binds .any e = true
        · have hlt := backB_get ops.toList 0 j ops[j] hb (by simp [hjo]) e he hbd
          have := hmin e.on (by omega)
          have hes : e.on < listed.size := by omega
          have h2 : listed.getD e.on true = true := by
            cases hx : listed.getD e.on true
            · exact absurd ⟨hes, hx⟩ this
            · rfl
          simp [Array.getD, hes] at h2 ⊢
          simp [h2]
        · simp [hbd]
      rw [hr] at hin
      cases hin
    · intro i hi
      unfold Region.ready at hi
      rw [List.mem_filter] at hi
      obtain ⟨hi1, hi2⟩ := hi
      have hio : i < ops.size := by simpa using hi1
      have hil : i < listed.size := by omega
      simp only [Bool.and_eq_true, Bool.not_eq_true', Array.getElem?_eq_getElem hio, Option.map_some, Option.getD_some] at hi2
      obtain ⟨hu, haf⟩ := hi2
      have hdi : dnOf listed i = false := by
        unfold dnOf
        simp [Array.getD, hil] at hu ⊢
        exact hu
      have haf' : afterB ops[i] (dnOf listed) = true := by
        unfold afterB dnOf
        rw [Array.all_toList]
        exact haf
      have hst := hs i ops[i] (Array.getElem?_eq_getElem hio) (dnOf listed) hdi hcl haf' a w hI
      have hcnt : (listed.setIfInBounds i true).toList.count false = fuel := by
        have hli : listed[i] = false := by
          have : listed.getD i true = false := hu
          simpa [Array.getD, hil] using this
        have hsplit : listed.toList = listed.toList.take i ++ false :: listed.toList.drop (i + 1) := by
          rw [← hli, ← Array.getElem_toList (h := by simpa using hil), List.getElem_cons_drop, List.take_append_drop]
        have hset : (listed.setIfInBounds i true).toList = listed.toList.take i ++ true :: listed.toList.drop (i + 1) := by
          rw [Array.toList_setIfInBounds, List.set_eq_take_append_cons_drop, if_pos (by simpa using hil)]
        rw [hset]
        rw [hsplit] at hc
        simp only [List.count_append, List.count_cons] at hc ⊢
        simp at hc ⊢
        omega
      have hnext : ∀ a' w', I (updD (dnOf listed) i) a' w' → wpAny P .any ops Q fuel (listed.setIfInBounds i true) a' w' := by
        intro a' w' hI'
        refine ih _ a' w' (by simpa using hsz) hcnt ?_ (by rw [dnOf_set _ _ hil]; exact hI')
        intro j o' hj hdj
        rw [dnOf_set _ _ hil] at hdj ⊢
        have mono : ∀ o'' : Oper, afterB o'' (dnOf listed) = true → afterB o'' (updD (dnOf listed) i) = true := by
          intro o'' h
          unfold afterB at *
          rw [List.all_eq_true] at *
          intro e he
          have := h e he
          simp only [Bool.or_eq_true] at this ⊢
          rcases this with h1 | h1
          · exact .inl h1
          · exact .inr (by simp [updD, h1])
        by_cases hji : j = i
        · subst hji
          rw [Array.getElem?_eq_getElem hio] at hj
          cases hj
          exact mono _ haf'
        · refine mono _ (hcl j o' hj ?_)
          simp only [updD, Bool.or_eq_true] at hdj
          rcases hdj with h1 | h1
          · exact absurd (Nat.eq_of_beq_eq_true h1) hji
          · exact h1
      unfold wpOp
      simp only [Array.getElem?_eq_getElem hio]
      unfold wpList at hst
      split
      · rename_i hw
        rw [if_pos hw] at hst
        refine hst.imp (fun h => wp_post (fun a' w' h' => hnext a' w' h') (fun e a' w' hne h' => ?_) h) (fun ⟨h1, h2⟩ => ⟨h1, ?_⟩)
        · cases e <;> first | exact absurd rfl hne | exact h'
        · obtain ⟨a', w', h'⟩ := h2; exact ⟨a', w', h'⟩
      · rename_i hw
        rw [if_neg hw] at hst
        exact hnext _ _ hst
def allSteps (P : Program) (ops : Array Oper) (Q : Post) (I : (Nat → Bool) → Act → World → Prop) : Nat → List Oper → Prop
  | _, [] => True
  | k, o :: l => StepI P ops Q I k o ∧ allSteps P ops Q I (k + 1) l
theorem allSteps_get {P : Program} {ops : Array Oper} {Q : Post} {I : (Nat → Bool) → Act → World → Prop} : ∀ (l : List Oper) (k j : Nat) (o : Oper), allSteps P ops Q I k l → l[j]? = some o → StepI P ops Q I (k + j) o := by
  intro l
  induction l with
  | nil => intro k j o _ h; simp at h
  | cons x l ih =>
    intro k j o hb hj
    cases j with
    | zero => simp at hj; subst hj; exact hb.1
    | succ j => have := ih (k + 1) j o hb.2 (by simpa using hj); rwa [show k + 1 + j = k + (j + 1) by omega] at this
theorem T.regionI {P : Program} {n : Nat} {Q : Post} {σ : Sto} {w : World} {i : Nat} {l : List Oper} (I : (Nat → Bool) → Act → World → Prop) (hm : P.follows .mixedOrders = true) (hb : backB 0 l = true)
    (h0 : ∀ a, Agr n σ a → I noneD a { w with drawn := w.drawn + 1 }) (hs : allSteps P l.toArray Q I 0 l) (hend : ∀ a w, I (allD l.length) a w → Q .normal a w) : T P n (.region i l.toArray true) Q σ w := by
  intro a ha
  refine wp_region_any hm (wpAny_inv (I := I) (by simpa using hb) (fun k o hk => ?_) (by simpa using hend) _ _ a _ (by simp) (by simp) ?_ ?_)
  · have := allSteps_get l 0 k o hs (by simpa using hk)
    simpa using this
  · intro j o' hj hd
    simp [dnOf, Array.getD] at hd
  · have e : dnOf (Array.replicate l.toArray.size false) = noneD := by
      funext j
      simp [dnOf, noneD, Array.getD]
    rw [e]; exact h0 a ha
/-- Every slot holds something. -/
theorem Agr.anyv {n : Nat} {σ : Sto} {a : Act} (h : Agr n σ a) (t : Nat) (ht : Nat.blt t n = true) : ∃ u, Agr n ((t, u) :: σ) a ∨ look σ t = Option.some u ∧ Agr n ((t, u) :: σ) a := by
  have hlt : t < a.tmps.size := by rw [h.size]; simpa [Nat.blt_eq] using ht
  refine ⟨a.tmps[t], .inl ⟨h.defers, h.size, ?_⟩⟩
  intro s v hs
  simp only [look] at hs
  cases hb : Nat.beq t s
  · rw [hb] at hs; exact h.slots s v (by simpa using hs)
  · rw [hb] at hs
    have := Nat.eq_of_beq_eq_true hb
    subst this
    simp at hs
    subst hs
    simp [hlt]
theorem Agr.ex {n : Nat} {σ : Sto} {a : Act} (h : Agr n σ a) (t : Nat) (ht : Nat.blt t n = true) : ∃ u, Agr n ((t, u) :: σ) a := by
  obtain ⟨u, h1 | h1⟩ := h.anyv t ht
  · exact ⟨u, h1⟩
  · exact ⟨u, h1.2⟩

section
variable {W0 w w' : World} {S : FP} {D L : List Asn}
theorem H.emp (h : H W0 S w D L) : H W0 S w D (L ++ [AEmp]) := h.new (Fr.refl _ _) (F' := fun _ => False) (fun _ h => h) (fun _ h => h.elim)
theorem H.cT {b : Bool} {A B : Asn} (h : H W0 S w D L) (i : Nat) (hi : L[i]? = some (bif b then A else B)) (hb : b = true) : H W0 S w D (L.set i A) := by
  subst hb
  have e : L.set i A = L := by
    apply List.ext_getElem?
    intro j
    by_cases hj : i = j
    · subst hj; rw [List.getElem?_set_self (List.getElem?_eq_some_iff.1 hi).1, hi]; rfl
    · rw [List.getElem?_set_ne hj]
  rw [e]; exact h
theorem H.cF {b : Bool} {A B : Asn} (h : H W0 S w D L) (i : Nat) (hi : L[i]? = some (bif b then A else B)) (hb : b = false) : H W0 S w D (L.set i B) := by
  subst hb
  have e : L.set i B = L := by
    apply List.ext_getElem?
    intro j
    by_cases hj : i = j
    · subst hj; rw [List.getElem?_set_self (List.getElem?_eq_some_iff.1 hi).1, hi]; rfl
    · rw [List.getElem?_set_ne hj]
  rw [e]; exact h
theorem H.wF {b : Bool} {A B : Asn} (h : H W0 S w D L) (i : Nat) (hi : L[i]? = some B) (hb : b = false) : H W0 S w D (L.set i (bif b then A else B)) := by
  subst hb
  have e : L.set i (bif false then A else B) = L := by
    apply List.ext_getElem?
    intro j
    by_cases hj : i = j
    · subst hj; rw [List.getElem?_set_self (List.getElem?_eq_some_iff.1 hi).1, hi]; rfl
    · rw [List.getElem?_set_ne hj]
  rw [e]; exact h
end
end Go.Proofs.YtflmncjhonmmhaaDoor
