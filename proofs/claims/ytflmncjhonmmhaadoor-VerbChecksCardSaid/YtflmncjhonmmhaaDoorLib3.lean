/- Memory: what a call owns (blocks that nothing else names), what it may read, and what stays as it was. -/
import Derived.Test.YtflmncjhonmmhaaDoorLib2
import Derived.Deep.AppendLies
namespace Go.Proofs.YtflmncjhonmmhaaDoor
open Go
set_option linter.unusedVariables false
set_option linter.unusedSimpArgs false

abbrev FP := Nat → Prop

/-- A fact on some blocks of memory alone. -/
structure Asn where
  holds : World → FP → Prop
  loc : ∀ {w w' : World} {F : FP}, holds w F → (∀ b, F b → w'.heap[b]? = w.heap[b]?) → holds w' F

/-- w' has w's streams and tape; no block has gone; outside S no block has turned. -/
structure Fr (S : FP) (w w' : World) : Prop where
  os : w'.os = w.os
  tape : w'.tape = w.tape
  output : w'.output = w.output
  size : w.heap.size ≤ w'.heap.size
  block : ∀ b, b < w.heap.size → ¬ S b → w'.heap[b]? = w.heap[b]?

theorem Fr.refl (S : FP) (w : World) : Fr S w w := ⟨rfl, rfl, rfl, Nat.le_refl _, fun _ _ _ => rfl⟩
theorem Fr.trans {S S' : FP} {a b c : World} (h : Fr S a b) (k : Fr S' b c) (hs : ∀ x, S' x → S x ∨ a.heap.size ≤ x) : Fr S a c :=
  ⟨k.os.trans h.os, k.tape.trans h.tape, k.output.trans h.output, Nat.le_trans h.size k.size, fun x hx hn => by
    rw [k.block x (Nat.lt_of_lt_of_le hx h.size) (fun h' => by rcases hs x h' with h'' | h''; exact hn h''; omega)]
    exact h.block x hx hn⟩
theorem Fr.below {w w' : World} (h : Fr (fun _ => False) w w') : RowKit.Below w.heap.size w w' := ⟨h.os, h.tape, h.output, h.size, fun b hb => h.block b hb (fun h => h)⟩
theorem Fr.of_below {w w' : World} (h : RowKit.Below w.heap.size w w') : Fr (fun _ => False) w w' := ⟨h.os, h.tape, h.output, h.size, fun b hb _ => h.block b hb⟩

/-- From W0 on, where S might be written: D is what may be read, L what is owned. -/
structure Hp (W0 : World) (S : FP) (w : World) (D L : List Asn) (FD FL : Nat → FP) : Prop where
  fr : Fr S W0 w
  dh : ∀ (i : Nat) A, D[i]? = some A → A.holds w (FD i)
  db : ∀ (i : Nat) A, D[i]? = some A → ∀ b, FD i b → b < w.heap.size
  lh : ∀ (i : Nat) A, L[i]? = some A → A.holds w (FL i)
  lb : ∀ (i : Nat) A, L[i]? = some A → ∀ b, FL i b → b < w.heap.size ∧ (S b ∨ W0.heap.size ≤ b)
  dl : ∀ (i j : Nat) A B, D[i]? = some A → L[j]? = some B → ∀ b, FD i b → ¬ FL j b
  ll : ∀ (i j : Nat) A B, i ≠ j → L[i]? = some A → L[j]? = some B → ∀ b, FL i b → ¬ FL j b

def H (W0 : World) (S : FP) (w : World) (D L : List Asn) : Prop := ∃ FD FL, Hp W0 S w D L FD FL

section
variable {W0 w w' : World} {S : FP} {D L : List Asn}

theorem H.frame (h : H W0 S w D L) : Fr S W0 w := let ⟨_, _, h⟩ := h; h.fr
theorem H.d (h : H W0 S w D L) (i : Nat) {A : Asn} (hi : D[i]? = some A) : ∃ F, A.holds w F := let ⟨_, _, h⟩ := h; ⟨_, h.dh i A hi⟩
theorem H.l (h : H W0 S w D L) (i : Nat) {A : Asn} (hi : L[i]? = some A) : ∃ F, A.holds w F := let ⟨_, _, h⟩ := h; ⟨_, h.lh i A hi⟩

/-- Nothing but draws. -/
theorem H.same (h : H W0 S w D L) (hf : Fr (fun _ => False) w w') : H W0 S w' D L := by
  obtain ⟨FD, FL, h⟩ := h
  have hb : ∀ b, b < w.heap.size → w'.heap[b]? = w.heap[b]? := fun b hb => hf.block b hb (fun h => h)
  exact ⟨FD, FL, h.fr.trans hf (fun _ h => h.elim), fun i A hi => A.loc (h.dh i A hi) (fun b hF => hb b (h.db i A hi b hF)),
    fun i A hi b hF => Nat.lt_of_lt_of_le (h.db i A hi b hF) hf.size, fun i A hi => A.loc (h.lh i A hi) (fun b hF => hb b (h.lb i A hi b hF).1),
    fun i A hi b hF => ⟨Nat.lt_of_lt_of_le (h.lb i A hi b hF).1 hf.size, (h.lb i A hi b hF).2⟩, h.dl, h.ll⟩

/-- One thing that is owned is written; it may move into new blocks. -/
theorem H.upd (h : H W0 S w D L) (i : Nat) {A A' : Asn} (hi : L[i]? = some A)
    (hs : ∀ F, A.holds w F → (∀ b, F b → b < w.heap.size) → Fr F w w' ∧ ∃ F', A'.holds w' F' ∧ ∀ b, F' b → b < w'.heap.size ∧ (F b ∨ w.heap.size ≤ b)) :
    H W0 S w' D (L.set i A') := by
  obtain ⟨FD, FL, h⟩ := h
  obtain ⟨hf, F', hA', hF'⟩ := hs (FL i) (h.lh i A hi) (fun b hb => (h.lb i A hi b hb).1)
  have hil : i < L.length := (List.getElem?_eq_some_iff.1 hi).1
  have keep : ∀ j B, j ≠ i → (L.set i A')[j]? = some B → L[j]? = some B := by
    intro j B hj hB
    rwa [List.getElem?_set_ne (Ne.symm hj)] at hB
  have self : ∀ B, (L.set i A')[i]? = some B → B = A' := by
    intro B hB
    rw [List.getElem?_set_self hil] at hB
    exact (Option.some.inj hB).symm
  refine ⟨FD, fun j => if j = i then F' else FL j, ?_, ?_, ?_, ?_, ?_, ?_, ?_⟩
  · exact h.fr.trans hf (fun b hb => (h.lb i A hi b hb).2.imp id (fun h' => h'))
  · intro j B hB
    exact B.loc (h.dh j B hB) (fun b hb => hf.block b (h.db j B hB b hb) (h.dl j i B A hB hi b hb))
  · intro j B hB b hb
    exact Nat.lt_of_lt_of_le (h.db j B hB b hb) hf.size
  · intro j B hB
    by_cases e : j = i
    · subst e
      rw [self B hB]
      simpa using hA'
    · simp only [if_neg e]
      have hB' := keep j B e hB
      exact B.loc (h.lh j B hB') (fun b hb => hf.block b (h.lb j B hB' b hb).1 (h.ll j i B A e hB' hi b hb))
  · intro j B hB b hb
    by_cases e : j = i
    · subst e
      simp only [if_true] at hb
      obtain ⟨h1, h2⟩ := hF' b hb
      refine ⟨h1, ?_⟩
      rcases h2 with h2 | h2
      · exact (h.lb j A hi b h2).2
      · exact .inr (Nat.le_trans h.fr.size h2)
    · simp only [if_neg e] at hb
      have hB' := keep j B e hB
      exact ⟨Nat.lt_of_lt_of_le (h.lb j B hB' b hb).1 hf.size, (h.lb j B hB' b hb).2⟩
  · intro j k B C hB hC b hb
    by_cases e : k = i
    · subst e
      simp only [if_true]
      intro hb'
      rcases (hF' b hb').2 with h2 | h2
      · exact h.dl j k B A hB hi b hb h2
      · have := h.db j B hB b hb; omega
    · simp only [if_neg e]
      exact h.dl j k B C hB (keep k C e hC) b hb
  · intro j k B C hjk hB hC b hb
    by_cases e : j = i
    · subst e
      have e' : k ≠ j := fun h => hjk h.symm
      simp only [if_true, if_neg e'] at hb ⊢
      have hC' := keep k C e' hC
      intro hb'
      rcases (hF' b hb).2 with h2 | h2
      · exact h.ll j k A C hjk hi hC' b h2 hb'
      · have := (h.lb k C hC' b hb').1; omega
    · by_cases e' : k = i
      · subst e'
        simp only [if_true, if_neg e] at hb ⊢
        have hB' := keep j B e hB
        intro hb'
        rcases (hF' b hb').2 with h2 | h2
        · exact h.ll j k B A hjk hB' hi b hb h2
        · have := (h.lb j B hB' b hb).1; omega
      · simp only [if_neg e, if_neg e'] at hb ⊢
        exact h.ll j k B C hjk (keep j B e hB) (keep k C e' hC) b hb

/-- Something new that is owned. -/
theorem H.new (h : H W0 S w D L) {A' : Asn} (hf : Fr (fun _ => False) w w') {F' : FP} (hA : A'.holds w' F') (hN : ∀ b, F' b → b < w'.heap.size ∧ w.heap.size ≤ b) :
    H W0 S w' D (L ++ [A']) := by
  obtain ⟨FD, FL, h⟩ := h
  have hb : ∀ b, b < w.heap.size → w'.heap[b]? = w.heap[b]? := fun b hb => hf.block b hb (fun h => h)
  have keep : ∀ j B, j ≠ L.length → (L ++ [A'])[j]? = some B → L[j]? = some B := by
    intro j B hj hB
    rcases Nat.lt_or_ge j L.length with hl | hl
    · rwa [List.getElem?_append_left hl] at hB
    · rw [List.getElem?_append_right hl] at hB
      have : j - L.length ≠ 0 := by omega
      obtain ⟨m, hm⟩ := Nat.exists_eq_succ_of_ne_zero this
      rw [hm] at hB
      simp at hB
  have self : ∀ B, (L ++ [A'])[L.length]? = some B → B = A' := by
    intro B hB
    simp at hB
    exact hB.symm
  have hlt : ∀ j B, L[j]? = some B → j ≠ L.length := fun j B hB e => by
    have := (List.getElem?_eq_some_iff.1 hB).1; omega
  refine ⟨FD, fun j => if j = L.length then F' else FL j, h.fr.trans hf (fun _ h => h.elim), ?_, ?_, ?_, ?_, ?_, ?_⟩
  · intro j B hB; exact B.loc (h.dh j B hB) (fun b hF => hb b (h.db j B hB b hF))
  · intro j B hB b hF; exact Nat.lt_of_lt_of_le (h.db j B hB b hF) hf.size
  · intro j B hB
    by_cases e : j = L.length
    · subst e
      rw [self B hB]; simpa using hA
    · simp only [if_neg e]
      have hB' := keep j B e hB
      exact B.loc (h.lh j B hB') (fun b hF => hb b (h.lb j B hB' b hF).1)
  · intro j B hB b hF
    by_cases e : j = L.length
    · simp only [if_pos e] at hF
      exact ⟨(hN b hF).1, .inr (Nat.le_trans h.fr.size (hN b hF).2)⟩
    · simp only [if_neg e] at hF
      have hB' := keep j B e hB
      exact ⟨Nat.lt_of_lt_of_le (h.lb j B hB' b hF).1 hf.size, (h.lb j B hB' b hF).2⟩
  · intro j k B C hB hC b hF
    by_cases e : k = L.length
    · simp only [if_pos e]
      intro hF'
      have := h.db j B hB b hF
      have := (hN b hF').2
      omega
    · simp only [if_neg e]
      exact h.dl j k B C hB (keep k C e hC) b hF
  · intro j k B C hjk hB hC b hF
    by_cases e : j = L.length
    · have e' : k ≠ L.length := by omega
      simp only [if_pos e, if_neg e'] at hF ⊢
      intro hF'
      have := (h.lb k C (keep k C e' hC) b hF').1
      have := (hN b hF).2
      omega
    · by_cases e' : k = L.length
      · simp only [if_neg e, if_pos e'] at hF ⊢
        intro hF'
        have := (h.lb j B (keep j B e hB) b hF).1
        have := (hN b hF').2
        omega
      · simp only [if_neg e, if_neg e'] at hF ⊢
        exact h.ll j k B C hjk (keep j B e hB) (keep k C e' hC) b hF
end
end Go.Proofs.YtflmncjhonmmhaaDoor
