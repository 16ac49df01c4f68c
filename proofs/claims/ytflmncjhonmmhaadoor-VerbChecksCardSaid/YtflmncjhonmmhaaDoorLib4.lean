/- Memory and calls: what is handed to a callee, what comes back, what is let go. -/
import Derived.Test.YtflmncjhonmmhaaDoorLib3
namespace Go.Proofs.YtflmncjhonmmhaaDoor
open Go
set_option linter.unusedVariables false
set_option linter.unusedSimpArgs false

/-- What a callee may read: out of the caller's D (false) or L (true). -/
def pickD (D L : List Asn) : List (Bool × Nat) → Option (List Asn)
  | [] => some []
  | (false, i) :: r => match D[i]?, pickD D L r with | some A, some l => some (A :: l) | _, _ => none
  | (true, i) :: r => match L[i]?, pickD D L r with | some A, some l => some (A :: l) | _, _ => none
def pickL (L : List Asn) : List Nat → Option (List Asn)
  | [] => some []
  | i :: r => match L[i]?, pickL L r with | some A, some l => some (A :: l) | _, _ => none
/-- What comes back: in its place, the new behind all. -/
def putL : List Asn → List Nat → List Asn → List Asn
  | L, [], L2 => L ++ L2
  | L, i :: is, A :: L2 => putL (L.set i A) is L2
  | L, _ :: _, [] => L

theorem nodup_idx {ls : List Nat} (h : ls.Nodup) : ∀ {a b x : Nat}, ls[a]? = some x → ls[b]? = some x → a = b := by
  induction ls with
  | nil => intro a b x ha; simp at ha
  | cons y r ih =>
    intro a b x ha hb
    have hn := List.nodup_cons.1 h
    cases a <;> cases b
    · rfl
    · simp at ha hb; subst ha; exact absurd (List.mem_iff_getElem?.2 ⟨_, hb⟩) hn.1
    · simp at ha hb; subst hb; exact absurd (List.mem_iff_getElem?.2 ⟨_, ha⟩) hn.1
    · simp only [List.getElem?_cons_succ] at ha hb; exact congrArg Nat.succ (ih hn.2 ha hb)

theorem pickL_spec {L : List Asn} : ∀ {ls : List Nat} {L' : List Asn}, pickL L ls = some L' → L'.length = ls.length ∧ ∀ (k : Nat) i, ls[k]? = some i → ∃ A, L[i]? = some A ∧ L'[k]? = some A := by
  intro ls
  induction ls with
  | nil => intro L' h; simp [pickL] at h; subst h; simp
  | cons i r ih =>
    intro L' h
    simp only [pickL] at h
    split at h
    · rename_i A l hA hl
      cases h
      obtain ⟨h1, h2⟩ := ih hl
      refine ⟨by simp [h1], ?_⟩
      intro k j hk
      cases k with
      | zero => simp at hk; subst hk; exact ⟨A, hA, rfl⟩
      | succ k => simpa using h2 k j (by simpa using hk)
    · cases h

theorem pickD_spec {D L : List Asn} : ∀ {ds : List (Bool × Nat)} {D' : List Asn}, pickD D L ds = some D' → ∀ (k : Nat) A, D'[k]? = some A → ∃ b i, ds[k]? = some (b, i) ∧ (if b then L else D)[i]? = some A := by
  intro ds
  induction ds with
  | nil => intro D' h; simp [pickD] at h; subst h; simp
  | cons p r ih =>
    obtain ⟨b, i⟩ := p
    intro D' h k A hk
    cases b <;> simp only [pickD] at h <;> split at h
    · rename_i B l hB hl
      cases h
      cases k with
      | zero => simp at hk; subst hk; exact ⟨false, i, rfl, by simpa using hB⟩
      | succ k => simpa using ih hl k A (by simpa using hk)
    · cases h
    · rename_i B l hB hl
      cases h
      cases k with
      | zero => simp at hk; subst hk; exact ⟨true, i, rfl, by simpa using hB⟩
      | succ k => simpa using ih hl k A (by simpa using hk)
    · cases h

theorem putL_in {ls : List Nat} : ∀ {L L2 : List Asn}, ls.length ≤ L2.length → ls.Nodup → (∀ i ∈ ls, i < L.length) → ∀ (k : Nat) i, ls[k]? = some i → (putL L ls L2)[i]? = L2[k]? := by
  induction ls with
  | nil => intro L L2 _ _ _ k i h; simp at h
  | cons j is ih =>
    intro L L2 hl hn hb k i hk
    cases L2 with
    | nil => simp at hl
    | cons A L2 =>
      simp only [putL]
      have hn' := List.nodup_cons.1 hn
      cases k with
      | zero =>
        simp at hk
        subst hk
        have : ∀ {is : List Nat} {L L2 : List Asn}, is.length ≤ L2.length → j ∉ is → j < L.length → (putL L is L2)[j]? = L[j]? := by
          intro is
          induction is with
          | nil => intro L L2 _ _ hj; simp [putL, List.getElem?_append_left hj]
          | cons m is ih2 =>
            intro L L2 hl hm hj
            cases L2 with
            | nil => simp at hl
            | cons B L2 =>
              simp only [putL]
              simp at hm hl
              rw [ih2 hl hm.2 (by simpa using hj), List.getElem?_set_ne (fun e => hm.1 e.symm)]
        rw [this (by simpa using hl) hn'.1 (by simpa using hb j (by simp))]
        rw [List.getElem?_set_self (hb j (by simp))]
        simp
      | succ k =>
        simp only [List.getElem?_cons_succ] at hk ⊢
        exact ih (by simpa using hl) hn'.2 (fun i hi => by simpa using hb i (by simp [hi])) k i hk

theorem putL_out {ls : List Nat} : ∀ {L L2 : List Asn}, ls.length ≤ L2.length → ∀ i, i < L.length → i ∉ ls → (putL L ls L2)[i]? = L[i]? := by
  induction ls with
  | nil => intro L L2 _ i hi _; simp [putL, List.getElem?_append_left hi]
  | cons j is ih =>
    intro L L2 hl i hi hn
    cases L2 with
    | nil => simp at hl
    | cons A L2 =>
      simp only [putL]
      simp at hn hl
      rw [ih hl i (by simpa using hi) hn.2, List.getElem?_set_ne (fun e => hn.1 e.symm)]

theorem putL_new {ls : List Nat} : ∀ {L L2 : List Asn}, ls.length ≤ L2.length → ∀ i, L.length ≤ i → (putL L ls L2)[i]? = L2[i - L.length + ls.length]? := by
  induction ls with
  | nil => intro L L2 _ i hi; simp [putL, List.getElem?_append_right hi]
  | cons j is ih =>
    intro L L2 hl i hi
    cases L2 with
    | nil => simp at hl
    | cons A L2 =>
      simp only [putL]
      rw [ih (by simpa using hl) i (by simpa using hi)]
      simp only [List.length_set, List.length_cons]
      rw [← Nat.add_assoc, List.getElem?_cons_succ]

theorem H.call {W0 w : World} {S : FP} {D L : List Asn} (h : H W0 S w D L) (ds : List (Bool × Nat)) (ls : List Nat) {D' L' : List Asn} (hD : pickD D L ds = some D') (hL : pickL L ls = some L')
    (hn : ls.Nodup) (hdj : ∀ i, (true, i) ∈ ds → i ∉ ls) :
    ∃ S', H w S' w D' L' ∧ ∀ w2 D2 L2, L'.length ≤ L2.length → H w S' w2 D2 L2 → H W0 S w2 D (putL L ls L2) := by
  obtain ⟨FD, FL, h⟩ := h
  obtain ⟨hlen, hpick⟩ := pickL_spec hL
  have hpd := pickD_spec hD
  have hls : ∀ (k : Nat) i, ls[k]? = some i → i < L.length := fun k i hk => by
    obtain ⟨A, hA, _⟩ := hpick k i hk
    exact (List.getElem?_eq_some_iff.1 hA).1
  have hlm : ∀ i ∈ ls, i < L.length := fun i hi => by
    obtain ⟨k, hk⟩ := List.mem_iff_getElem?.1 hi
    exact hls k i hk
  -- which footprint stands at which place
  let fd : Nat → FP := fun k => match ds[k]? with | some (b, i) => if b then FL i else FD i | none => fun _ => False
  let fl : Nat → FP := fun k => match ls[k]? with | some i => FL i | none => fun _ => False
  let S' : FP := fun b => ∃ (k : Nat) (i : Nat), ls[k]? = some i ∧ FL i b
  have hlk : ∀ (k : Nat) A, L'[k]? = some A → ∃ i, ls[k]? = some i ∧ L[i]? = some A := by
    intro k A hA
    have hk : k < ls.length := by rw [← hlen]; exact (List.getElem?_eq_some_iff.1 hA).1
    obtain ⟨B, hB, hB'⟩ := hpick k ls[k] (List.getElem?_eq_getElem hk)
    rw [hA] at hB'
    cases hB'
    exact ⟨ls[k], List.getElem?_eq_getElem hk, hB⟩
  refine ⟨S', ⟨fd, fl, Fr.refl _ _, ?_, ?_, ?_, ?_, ?_, ?_⟩, ?_⟩
  · intro k A hA
    obtain ⟨b, i, hk, hi⟩ := hpd k A hA
    simp only [fd, hk]
    cases b
    · exact h.dh i A (by simpa using hi)
    · exact h.lh i A (by simpa using hi)
  · intro k A hA b hb
    obtain ⟨c, i, hk, hi⟩ := hpd k A hA
    simp only [fd, hk] at hb
    cases c
    · exact h.db i A (by simpa using hi) b (by simpa using hb)
    · exact (h.lb i A (by simpa using hi) b (by simpa using hb)).1
  · intro k A hA
    obtain ⟨i, hk, hi⟩ := hlk k A hA
    simp only [fl, hk]
    exact h.lh i A hi
  · intro k A hA b hb
    obtain ⟨i, hk, hi⟩ := hlk k A hA
    simp only [fl, hk] at hb
    exact ⟨(h.lb i A hi b hb).1, .inl ⟨k, i, hk, hb⟩⟩
  · intro k j A B hA hB b hb
    obtain ⟨c, i, hk, hi⟩ := hpd k A hA
    obtain ⟨i', hj, hi'⟩ := hlk j B hB
    simp only [fd, hk] at hb
    simp only [fl, hj]
    cases c
    · exact h.dl i i' A B (by simpa using hi) hi' b (by simpa using hb)
    · have hne : i ≠ i' := by
        rintro rfl
        exact hdj i (List.mem_iff_getElem?.2 ⟨k, hk⟩) (List.mem_iff_getElem?.2 ⟨j, hj⟩)
      exact h.ll i i' A B hne (by simpa using hi) hi' b (by simpa using hb)
  · intro k j A B hkj hA hB b hb
    obtain ⟨i, hk, hi⟩ := hlk k A hA
    obtain ⟨i', hj, hi'⟩ := hlk j B hB
    simp only [fl, hk] at hb
    simp only [fl, hj]
    have hne : i ≠ i' := by
      rintro rfl
      exact hkj (nodup_idx hn hk hj)
    exact h.ll i i' A B hne hi hi' b hb
  · rintro w2 D2 L2 hl2 ⟨GD, GL, g⟩
    rw [hlen] at hl2
    have old : ∀ b, b < w.heap.size → ¬ S' b → w2.heap[b]? = w.heap[b]? := g.fr.block
    -- the place j of the new list: one of the handed, an untouched one, a new one
    have cases3 : ∀ (j : Nat) A, (putL L ls L2)[j]? = some A →
        (∃ k : Nat, ls[k]? = some j ∧ L2[k]? = some A) ∨ (j ∉ ls ∧ L[j]? = some A) ∨ (L.length ≤ j ∧ L2[j - L.length + ls.length]? = some A) := by
      intro j A hA
      by_cases hj : j ∈ ls
      · obtain ⟨k, hk⟩ := List.mem_iff_getElem?.1 hj
        rw [putL_in hl2 hn hlm k j hk] at hA
        exact .inl ⟨k, hk, hA⟩
      · rcases Nat.lt_or_ge j L.length with hlt | hge
        · rw [putL_out hl2 j hlt hj] at hA
          exact .inr (.inl ⟨hj, hA⟩)
        · rw [putL_new hl2 j hge] at hA
          exact .inr (.inr ⟨hge, hA⟩)
    let idx : Nat → Option Nat := fun j => if j ∈ ls then ls.idxOf? j else if j < L.length then none else some (j - L.length + ls.length)
    let gl : Nat → FP := fun j => match idx j with | some k => GL k | none => FL j
    have idx_in : ∀ (k j : Nat), ls[k]? = some j → idx j = some k := by
      intro k j hk
      have hm : j ∈ ls := List.mem_iff_getElem?.2 ⟨k, hk⟩
      simp only [idx, if_pos hm]
      obtain ⟨hk1, hk2⟩ := List.getElem?_eq_some_iff.1 hk
      rw [List.idxOf?_eq_some_iff]
      refine ⟨hk1, by simpa using hk2, ?_⟩
      intro m hm
      have : ls[m] ≠ ls[k] := fun e => by
        have := nodup_idx hn (List.getElem?_eq_getElem (show m < ls.length by omega)) ((List.getElem?_eq_getElem hk1).trans (congrArg some e.symm)); omega
      simpa [hk2] using this
    have idx_out : ∀ j A, j ∉ ls → L[j]? = some A → idx j = none := by
      intro j A hj hA
      simp only [idx, if_neg hj, if_pos (List.getElem?_eq_some_iff.1 hA).1]
    have idx_new : ∀ j, L.length ≤ j → idx j = some (j - L.length + ls.length) := by
      intro j hj
      have : j ∉ ls := fun hm => by have := hlm j hm; omega
      simp only [idx, if_neg this, if_neg (show ¬ j < L.length by omega)]
    have glb : ∀ (k : Nat) A, L2[k]? = some A → ∀ b, GL k b → b < w2.heap.size ∧ ((∃ (m : Nat) (i : Nat), ls[m]? = some i ∧ FL i b) ∨ w.heap.size ≤ b) := fun k A hA b hb => g.lb k A hA b hb
    have keepL : ∀ j A, j ∉ ls → L[j]? = some A → ∀ b, FL j b → w2.heap[b]? = w.heap[b]? := by
      intro j A hj hA b hb
      refine old b (h.lb j A hA b hb).1 ?_
      rintro ⟨m, i, hm, hi⟩
      have hne : j ≠ i := fun e => hj (e ▸ List.mem_iff_getElem?.2 ⟨m, hm⟩)
      obtain ⟨B, hB, _⟩ := hpick m i hm
      exact h.ll j i A B hne hA hB b hb hi
    have keepD : ∀ (j : Nat) A, D[j]? = some A → ∀ b, FD j b → w2.heap[b]? = w.heap[b]? := by
      intro j A hA b hb
      refine old b (h.db j A hA b hb) ?_
      rintro ⟨m, i, hm, hi⟩
      obtain ⟨B, hB, _⟩ := hpick m i hm
      exact h.dl j i A B hA hB b hb hi
    -- a footprint that came back and one that was not handed over
    have apart : ∀ (k : Nat) A j B, L2[k]? = some A → j ∉ ls → L[j]? = some B → ∀ b, GL k b → ¬ FL j b := by
      intro k A j B hA hj hB b hb hb'
      rcases (glb k A hA b hb).2 with ⟨m, i, hm, hi⟩ | hnew
      · have hne : i ≠ j := fun e => hj (e ▸ List.mem_iff_getElem?.2 ⟨m, hm⟩)
        obtain ⟨C, hC, _⟩ := hpick m i hm
        exact h.ll i j C B hne hC hB b hi hb'
      · have := (h.lb j B hB b hb').1; omega
    refine ⟨FD, gl, ?_, ?_, ?_, ?_, ?_, ?_, ?_⟩
    · refine h.fr.trans g.fr ?_
      rintro b ⟨m, i, hm, hi⟩
      obtain ⟨B, hB, _⟩ := hpick m i hm
      exact (h.lb i B hB b hi).2
    · exact fun j A hA => A.loc (h.dh j A hA) (keepD j A hA)
    · exact fun j A hA b hb => Nat.lt_of_lt_of_le (h.db j A hA b hb) g.fr.size
    · intro j A hA
      rcases cases3 j A hA with ⟨k, hk, hA'⟩ | ⟨hj, hA'⟩ | ⟨hj, hA'⟩
      · simp only [gl, idx_in k j hk]; exact g.lh k A hA'
      · simp only [gl, idx_out j A hj hA']; exact A.loc (h.lh j A hA') (keepL j A hj hA')
      · simp only [gl, idx_new j hj]; exact g.lh _ A hA'
    · intro j A hA b hb
      have back : ∀ (k : Nat), L2[k]? = some A → GL k b → b < w2.heap.size ∧ (S b ∨ W0.heap.size ≤ b) := by
        intro k hA' hb
        refine ⟨(glb k A hA' b hb).1, ?_⟩
        rcases (glb k A hA' b hb).2 with ⟨m, i, hm, hi⟩ | hnew
        · obtain ⟨C, hC, _⟩ := hpick m i hm
          exact (h.lb i C hC b hi).2
        · exact .inr (Nat.le_trans h.fr.size hnew)
      rcases cases3 j A hA with ⟨k, hk, hA'⟩ | ⟨hj, hA'⟩ | ⟨hj, hA'⟩
      · simp only [gl, idx_in k j hk] at hb; exact back k hA' hb
      · simp only [gl, idx_out j A hj hA'] at hb
        exact ⟨Nat.lt_of_lt_of_le (h.lb j A hA' b hb).1 g.fr.size, (h.lb j A hA' b hb).2⟩
      · simp only [gl, idx_new j hj] at hb; exact back _ hA' hb
    · intro i j A B hA hB b hb
      have back : ∀ (k : Nat), L2[k]? = some B → ¬ GL k b := by
        intro k hB' hb'
        rcases (glb k B hB' b hb').2 with ⟨m, i', hm, hi⟩ | hnew
        · obtain ⟨C, hC, _⟩ := hpick m i' hm
          exact h.dl i i' A C hA hC b hb hi
        · have := h.db i A hA b hb; omega
      rcases cases3 j B hB with ⟨k, hk, hB'⟩ | ⟨hj, hB'⟩ | ⟨hj, hB'⟩
      · simp only [gl, idx_in k j hk]; exact back k hB'
      · simp only [gl, idx_out j B hj hB']; exact h.dl i j A B hA hB' b hb
      · simp only [gl, idx_new j hj]; exact back _ hB'
    · intro i j A B hij hA hB b hb
      rcases cases3 i A hA with ⟨k, hk, hA'⟩ | ⟨hi, hA'⟩ | ⟨hi, hA'⟩ <;> rcases cases3 j B hB with ⟨m, hm, hB'⟩ | ⟨hj, hB'⟩ | ⟨hj, hB'⟩
      · simp only [gl, idx_in k i hk, idx_in m j hm] at hb ⊢
        exact g.ll k m A B (fun e => hij (by subst e; rw [hk] at hm; exact Option.some.inj hm)) hA' hB' b hb
      · simp only [gl, idx_in k i hk, idx_out j B hj hB'] at hb ⊢
        exact apart k A j B hA' hj hB' b hb
      · simp only [gl, idx_in k i hk, idx_new j hj] at hb ⊢
        have hk' := (List.getElem?_eq_some_iff.1 hk).1
        exact g.ll k _ A B (by omega) hA' hB' b hb
      · simp only [gl, idx_out i A hi hA', idx_in m j hm] at hb ⊢
        exact fun hb' => apart m B i A hB' hi hA' b hb' hb
      · simp only [gl, idx_out i A hi hA', idx_out j B hj hB'] at hb ⊢
        exact h.ll i j A B hij hA' hB' b hb
      · simp only [gl, idx_out i A hi hA', idx_new j hj] at hb ⊢
        exact fun hb' => apart _ B i A hB' hi hA' b hb' hb
      · simp only [gl, idx_new i hi, idx_in m j hm] at hb ⊢
        have hm' := (List.getElem?_eq_some_iff.1 hm).1
        exact g.ll _ m A B (by omega) hA' hB' b hb
      · simp only [gl, idx_new i hi, idx_out j B hj hB'] at hb ⊢
        exact apart _ A j B hA' hj hB' b hb
      · simp only [gl, idx_new i hi, idx_new j hj] at hb ⊢
        exact g.ll _ _ A B (by omega) hA' hB' b hb

/-- Keep some of what is owned, in another order; the rest is let go. -/
theorem H.sel {W0 w : World} {S : FP} {D L L' : List Asn} (h : H W0 S w D L) (ls : List Nat) (hL : pickL L ls = some L') (hn : ls.Nodup) : H W0 S w D L' := by
  obtain ⟨FD, FL, h⟩ := h
  obtain ⟨hlen, hpick⟩ := pickL_spec hL
  have hlk : ∀ (k : Nat) A, L'[k]? = some A → ∃ i, ls[k]? = some i ∧ L[i]? = some A := by
    intro k A hA
    have hk : k < ls.length := by rw [← hlen]; exact (List.getElem?_eq_some_iff.1 hA).1
    obtain ⟨B, hB, hB'⟩ := hpick k ls[k] (List.getElem?_eq_getElem hk)
    rw [hA] at hB'
    cases hB'
    exact ⟨ls[k], List.getElem?_eq_getElem hk, hB⟩
  let fl : Nat → FP := fun k => match ls[k]? with | some i => FL i | none => fun _ => False
  refine ⟨FD, fl, h.fr, h.dh, h.db, ?_, ?_, ?_, ?_⟩
  · intro k A hA
    obtain ⟨i, hk, hi⟩ := hlk k A hA
    simp only [fl, hk]; exact h.lh i A hi
  · intro k A hA b hb
    obtain ⟨i, hk, hi⟩ := hlk k A hA
    simp only [fl, hk] at hb; exact h.lb i A hi b hb
  · intro k j A B hA hB b hb
    obtain ⟨i, hk, hi⟩ := hlk j B hB
    simp only [fl, hk]; exact h.dl k i A B hA hi b hb
  · intro k j A B hkj hA hB b hb
    obtain ⟨i, hk, hi⟩ := hlk k A hA
    obtain ⟨i', hj, hi'⟩ := hlk j B hB
    simp only [fl, hk] at hb
    simp only [fl, hj]
    have hne : i ≠ i' := by
      rintro rfl
      exact hkj (nodup_idx hn hk hj)
    exact h.ll i i' A B hne hi hi' b hb

/-- What may be read, in a weaker form. -/
theorem H.dweak {W0 w : World} {S : FP} {D D2 L : List Asn} (h : H W0 S w D L)
    (hw : ∀ (k : Nat) A2, D2[k]? = some A2 → ∃ (i : Nat) (A : Asn), D[i]? = some A ∧ ∀ F, A.holds w F → ∃ F', A2.holds w F' ∧ ∀ x, F' x → F x) : H W0 S w D2 L := by
  obtain ⟨FD, FL, h⟩ := h
  have key : ∀ k : Nat, ∃ F' : FP, ∀ A2, D2[k]? = some A2 → A2.holds w F' ∧ ∃ (i : Nat) (A : Asn), D[i]? = some A ∧ ∀ x, F' x → FD i x := by
    intro k
    cases hk : D2[k]? with
    | none => exact ⟨fun _ => False, fun _ h => by cases h⟩
    | some A2 =>
      obtain ⟨i, A, hi, hh⟩ := hw k A2 hk
      obtain ⟨F', h1, h2⟩ := hh (FD i) (h.dh i A hi)
      exact ⟨F', fun A3 h3 => by cases h3; exact ⟨h1, i, A, hi, h2⟩⟩
  obtain ⟨G, hG⟩ := Classical.axiomOfChoice key
  refine ⟨G, FL, h.fr, fun k A hk => (hG k A hk).1, ?_, h.lh, h.lb, ?_, h.ll⟩
  · intro k A hk b hb
    obtain ⟨_, i, B, hi, hs⟩ := hG k A hk
    exact h.db i B hi b (hs b hb)
  · intro k j A B hA hB b hb
    obtain ⟨_, i, C, hi, hs⟩ := hG k A hA
    exact h.dl i j C B hi hB b (hs b hb)
end Go.Proofs.YtflmncjhonmmhaaDoor
