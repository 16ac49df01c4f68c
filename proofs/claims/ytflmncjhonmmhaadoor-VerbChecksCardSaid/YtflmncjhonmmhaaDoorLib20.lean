/- Helpers for regions in any order. -/
import Derived.Test.YtflmncjhonmmhaaDoorLib19
namespace Go.Proofs.YtflmncjhonmmhaaDoor
open Go
set_option linter.unusedVariables false

theorem R.use {P : Program} {n : Nat} {ops : Array Oper} {l : List Oper} {Q : Post} {σ : Sto} {w : World} {a : Act} (h : R P n ops l Q σ w) (ha : Agr n σ a) : wpList P ops Q l a w := h a ha
theorem Go1.use {n : Nat} {K : Act → World → Prop} {σ : Sto} {w : World} {a : Act} (h : Go1 n K σ w) (ha : Agr n σ a) : K a w := h a ha
theorem afterB_at {o : Oper} {dn : Nat → Bool} (h : afterB o dn = true) (k : Nat) {e : Edge} (hk : o.after.toList[k]? = some e) (hb : Region.binds .any e = true) : dn e.on = true := by
  have := List.all_eq_true.1 h e (List.mem_iff_getElem?.2 ⟨k, hk⟩)
  simpa [hb] using this
theorem dnF {dn : Nat → Bool} {i m : Nat} (h : dn m = true → dn i = true) (hn : dn i = false) : dn m = false := by
  cases hm : dn m
  · rfl
  · rw [h hm] at hn; cases hn
theorem dnX {b : Bool} {p : Prop} (h : b = false) : b = true → p := fun hj => absurd (h.symm.trans hj) Bool.false_ne_true
theorem elimL {α β γ : Type} {f : α → Option γ} {g : β → Option γ} {y : α} {r : γ} (h : Sum.elim f g (.inl y) = some r) : f y = some r := h
theorem elimR {α β γ : Type} {f : α → Option γ} {g : β → Option γ} {y : β} {r : γ} (h : Sum.elim f g (.inr y) = some r) : g y = some r := h
theorem noneX {j : Nat} {p : Prop} : noneD j = true → p := fun h => by cases h
theorem H.wT {W0 w : World} {S : FP} {D L : List Asn} {b : Bool} {A B : Asn} (h : H W0 S w D L) (i : Nat) (hi : L[i]? = some A) (hb : b = true) : H W0 S w D (L.set i (bif b then A else B)) := by
  subst hb
  have e : L.set i (bif true then A else B) = L := by
    apply List.ext_getElem?
    intro j
    by_cases hj : i = j
    · subst hj; rw [List.getElem?_set_self (List.getElem?_eq_some_iff.1 hi).1, hi]; rfl
    · rw [List.getElem?_set_ne hj]
  rw [e]; exact h
/-! ### what is known of slots, by what is done -/
def Kn (dn : Nat → Bool) : List (Nat × Nat × Value) → Act → Prop
  | [], _ => True
  | (i, t, v) :: r, a => (dn i = true → a.tmps[t]? = some v) ∧ Kn dn r a
theorem Kn.mem {dn : Nat → Bool} {a : Act} : ∀ {K : List (Nat × Nat × Value)}, Kn dn K a ↔ ∀ x ∈ K, dn x.1 = true → a.tmps[x.2.1]? = some x.2.2 := by
  intro K
  induction K with
  | nil => simp [Kn]
  | cons x r ih =>
    obtain ⟨i, t, v⟩ := x
    simp [Kn, ih]
theorem Kn.get {dn : Nat → Bool} {a : Act} {K : List (Nat × Nat × Value)} (h : Kn dn K a) (k : Nat) {i t : Nat} {v : Value} (hk : K[k]? = some (i, t, v)) (hd : dn i = true) : a.tmps[t]? = some v :=
  Kn.mem.1 h _ (List.mem_iff_getElem?.2 ⟨k, hk⟩) hd
def KnSw (dn : Nat → Bool) : List (Nat × Nat × Value) → List (Nat × Nat × Value) → Prop
  | [], [] => True
  | (i, t, v) :: r, (j, s, u) :: q => (i = j ∧ t = s ∧ (v = u ∨ dn i = false)) ∧ KnSw dn r q
  | _, _ => False
theorem Kn.sw {dn : Nat → Bool} {a : Act} : ∀ {K K' : List (Nat × Nat × Value)}, Kn dn K a → KnSw dn K K' → Kn dn K' a := by
  intro K
  induction K with
  | nil => intro K' _ hs; cases K' with | nil => trivial | cons x r => exact hs.elim
  | cons x r ih =>
    intro K' h hs
    cases K' with
    | nil => exact hs.elim
    | cons y q =>
      obtain ⟨i, t, v⟩ := x
      obtain ⟨j, s, u⟩ := y
      obtain ⟨⟨rfl, rfl, hv⟩, hr⟩ := hs
      refine ⟨fun hd => ?_, ih h.2 hr⟩
      rcases hv with rfl | hf
      · exact h.1 hd
      · rw [hf] at hd; cases hd
def knc (i d : Nat) (K : List (Nat × Nat × Value)) : Bool := K.all (fun x => Nat.beq x.1 i == Nat.beq x.2.1 d) && Nat.ble (K.filter (fun x => Nat.beq x.1 i)).length 1
theorem put_get (a : Act) (d : Nat) (v : Value) (t : Nat) (h : t ≠ d) : (a.put (some d) v).tmps[t]? = a.tmps[t]? := by
  simp [Act.put, Array.getElem?_setIfInBounds_ne (Ne.symm h)]
theorem Kn.put {n : Nat} {σ : Sto} {dn : Nat → Bool} {a a' : Act} {K : List (Nat × Nat × Value)} (h : Kn dn K a) (hA : Agr n σ a) (k : Nat) {i d : Nat} {v : Value} (hk : K[k]? = some (i, d, v)) (hc : knc i d K = true) (hd : Nat.blt d n = true) (ht : a'.tmps = (a.put (some d) v).tmps) : Kn (updD dn i) K a' := by
  rw [Kn.mem] at h ⊢
  simp only [knc, Bool.and_eq_true] at hc
  have hdn : d < a.tmps.size := by rw [hA.size]; simpa [Nat.blt_eq] using hd
  intro x hx hdx
  have hx1 := List.all_eq_true.1 hc.1 x hx
  by_cases hi : x.1 = i
  · have hmem : (i, d, v) ∈ K := List.mem_iff_getElem?.2 ⟨k, hk⟩
    have hxf : x ∈ K.filter (fun x => Nat.beq x.1 i) := List.mem_filter.2 ⟨hx, by rw [hi]; simp⟩
    have hvf : (i, d, v) ∈ K.filter (fun x => Nat.beq x.1 i) := List.mem_filter.2 ⟨hmem, by simp⟩
    have hl := Nat.le_of_ble_eq_true hc.2
    have : x = (i, d, v) := by
      generalize K.filter (fun x => Nat.beq x.1 i) = l at *
      match l, hxf, hvf, hl with
      | [y], h1, h2, _ => rw [List.mem_singleton] at h1 h2; rw [h1, h2]
      | _ :: _ :: _, _, _, h3 => simp at h3
    subst this
    rw [ht]
    simp [Act.put, hdn]
  · have hxd : x.2.1 ≠ d := by
      intro he
      have hb : Nat.beq x.1 i = false := by
        cases hb : Nat.beq x.1 i
        · rfl
        · exact absurd (Nat.eq_of_beq_eq_true hb) hi
      rw [hb, he] at hx1
      simp at hx1
    rw [ht, put_get a d v _ hxd]
    refine h x hx ?_
    simp only [updD, Bool.or_eq_true] at hdx
    rcases hdx with h1 | h1
    · exact absurd (Nat.eq_of_beq_eq_true h1) hi
    · exact h1
theorem Kn.none {dn : Nat → Bool} {a a' : Act} {K : List (Nat × Nat × Value)} (h : Kn dn K a) {i : Nat} (hc : K.all (fun x => !Nat.beq x.1 i) = true) (ht : a'.tmps = a.tmps) : Kn (updD dn i) K a' := by
  rw [Kn.mem] at h ⊢
  intro x hx hdx
  rw [ht]
  refine h x hx ?_
  have h1 := List.all_eq_true.1 hc x hx
  simp only [updD, Bool.or_eq_true] at hdx
  rcases hdx with h2 | h2
  · rw [h2] at h1; cases h1
  · exact h2
theorem Kn.start {a : Act} : ∀ (K : List (Nat × Nat × Value)), Kn noneD K a := by
  intro K
  rw [Kn.mem]
  intro x _ h
  cases h
theorem Agr.add {n : Nat} {σ : Sto} {a : Act} (h : Agr n σ a) {t : Nat} {v : Value} (hs : a.tmps[t]? = some v) : Agr n ((t, v) :: σ) a := by
  refine ⟨h.defers, h.size, ?_⟩
  intro s u hu
  simp only [look] at hu
  cases hb : Nat.beq t s
  · rw [hb] at hu; exact h.slots s u (by simpa using hu)
  · rw [hb] at hu
    have := Nat.eq_of_beq_eq_true hb
    subst this
    simp at hu
    subst hu
    exact hs
theorem look_mem : ∀ {σ : Sto} {t : Nat} {v : Value}, look σ t = some v → (t, v) ∈ σ := by
  intro σ
  induction σ with
  | nil => intro t v h; cases h
  | cons x r ih =>
    obtain ⟨s, u⟩ := x
    intro t v h
    simp only [look] at h
    cases hb : Nat.beq s t
    · rw [hb] at h; exact List.mem_cons_of_mem _ (ih (by simpa using h))
    · rw [hb] at h
      have := Nat.eq_of_beq_eq_true hb
      subst this
      simp at h
      subst h
      simp
theorem Agr.putS {n : Nat} {σ : Sto} {a a' : Act} (h : Agr n σ a) {d : Nat} {v : Value} (hc : σ.all (fun x => !Nat.beq x.1 d) = true) (ht : a'.tmps = (a.put (some d) v).tmps) (hdf : a'.defers = []) : Agr n σ a' := by
  refine ⟨hdf, by rw [ht]; simp [Act.put, h.size], ?_⟩
  intro t u hu
  have hm := List.all_eq_true.1 hc _ (look_mem hu)
  have hne : t ≠ d := by
    rintro rfl
    simp at hm
  rw [ht, put_get a d v t hne]
  exact h.slots t u hu
theorem Agr.same {n : Nat} {σ : Sto} {a a' : Act} (h : Agr n σ a) (ht : a'.tmps = a.tmps) (hdf : a'.defers = []) : Agr n σ a' := ⟨hdf, by rw [ht]; exact h.size, fun t u hu => by rw [ht]; exact h.slots t u hu⟩
/-- What an operation does to a frame. -/
theorem wp_put {P : Program} {o : Oper} {a : Act} {w : World} {K : Act → World → Prop} {Q : Post} (h : o.wp P a w K Q) : o.wp P a w (fun a' w' => K a' w' ∧ ∃ v, a'.tmps = (a.put o.dst v).tmps) Q := by
  unfold Oper.wp at *
  generalize (execOp a.eval o).run P w = r at *
  cases r with
  | ok nx w' =>
    cases nx <;> simp only [Oper.upon] at h ⊢ <;>
      first
        | exact ⟨h, _, rfl⟩
        | (refine ⟨h, undef, ?_⟩; cases o.dst <;> rfl)
        | exact Calls.mono h (fun e w'' he => by cases e <;> first | exact ⟨he, _, rfl⟩ | exact he)
        | exact Rows.mono h (fun _ _ he => ⟨he, _, rfl⟩)
  | halt x w' => cases x <;> simp only [Oper.upon] at h ⊢ <;> exact h
theorem R.step {P : Program} {n : Nat} {ops : Array Oper} {o : Oper} {Q : Post} {σ : Sto} {w : World} {a : Act} {d : Nat} {I' : Act → World → Prop} {Φ : Value → World → Prop}
    (hR : R P n ops [o] (Exit.then (fun a' w' => ∃ v, a'.tmps[d]? = some v ∧ Φ v w' ∧ a'.defers = [] ∧ a'.tmps.size = n) Q) σ w) (ha : Agr n σ a) (ho : o.dst = some d) (hd : Nat.blt d n = true)
    (hk : ∀ a' v w', a'.tmps = (a.put (some d) v).tmps → a'.defers = [] → Φ v w' → I' a' w') : wpList P ops (Exit.then I' Q) [o] a w := by
  have h := hR a ha
  have hdn : d < a.tmps.size := by rw [ha.size]; simpa [Nat.blt_eq] using hd
  have fin : ∀ (a' : Act) (w' : World), (∃ v, a'.tmps[d]? = some v ∧ Φ v w' ∧ a'.defers = [] ∧ a'.tmps.size = n) → (∃ v, a'.tmps = (a.put o.dst v).tmps) → I' a' w' := by
    rintro a' w' ⟨v, h1, h2, h3, _⟩ ⟨u, hu⟩
    rw [ho] at hu
    have e : u = v := by
      rw [hu] at h1
      simpa [Act.put, hdn] using h1
    subst e
    exact hk a' u w' hu h3 h2
  unfold wpList at h ⊢
  split
  · rename_i hw
    rw [if_pos hw] at h
    refine h.imp (fun h => wp_post (fun a' w' h' => fin a' w' h'.1 h'.2) (fun e a' w' hne h' => ?_) (wp_put h)) (fun ⟨h1, a', w', h2⟩ => ⟨h1, a', w', h2⟩)
    cases e <;> first | exact absurd rfl hne | exact h'
  · rename_i hw
    rw [if_neg hw] at h
    exact fin _ _ h ⟨undef, rfl⟩
theorem R.stepU {P : Program} {n : Nat} {ops : Array Oper} {o : Oper} {Q : Post} {σ : Sto} {w : World} {a : Act} {I' : Act → World → Prop} {Φ : World → Prop}
    (hR : R P n ops [o] (Exit.then (fun a' w' => Φ w' ∧ a'.defers = []) Q) σ w) (ha : Agr n σ a) (ho : o.dst = none)
    (hk : ∀ a' w', a'.tmps = a.tmps → a'.defers = [] → Φ w' → I' a' w') : wpList P ops (Exit.then I' Q) [o] a w := by
  have h := hR a ha
  have fin : ∀ (a' : Act) (w' : World), (Φ w' ∧ a'.defers = []) → (∃ v, a'.tmps = (a.put o.dst v).tmps) → I' a' w' := by
    rintro a' w' ⟨h2, h3⟩ ⟨u, hu⟩
    rw [ho] at hu
    exact hk a' w' hu h3 h2
  unfold wpList at h ⊢
  split
  · rename_i hw
    rw [if_pos hw] at h
    refine h.imp (fun h => wp_post (fun a' w' h' => fin a' w' h'.1 h'.2) (fun e a' w' hne h' => ?_) (wp_put h)) (fun ⟨h1, a', w', h2⟩ => ⟨h1, a', w', h2⟩)
    cases e <;> first | exact absurd rfl hne | exact h'
  · rename_i hw
    rw [if_neg hw] at h
    exact fin _ _ h ⟨undef, rfl⟩
/-- A slot under another name. -/
theorem R.rl {P : Program} {n : Nat} {ops : Array Oper} {l : List Oper} {Q : Post} {σ : Sto} {w : World} (t : Nat) {v v' : Value} (ht : look σ t = some v) (e : v = v') (k : R P n ops l Q ((t, v') :: σ) w) : R P n ops l Q σ w :=
  fun a ha => k a (ha.add ((ha.slots t v ht).trans (congrArg some e)))
/-- A thing that is owned under another name. -/
theorem H.reL {W0 w : World} {S : FP} {D L : List Asn} (h : H W0 S w D L) (i : Nat) {A A' : Asn} (hi : L[i]? = some A) (e : A = A') : H W0 S w D (L.set i A') := by
  subst e
  have e2 : L.set i A = L := by
    apply List.ext_getElem?
    intro j
    by_cases hj : i = j
    · subst hj; rw [List.getElem?_set_self (List.getElem?_eq_some_iff.1 hi).1, hi]
    · rw [List.getElem?_set_ne hj]
  rw [e2]; exact h
end Go.Proofs.YtflmncjhonmmhaaDoor
