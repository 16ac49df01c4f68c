/- Views of slices. -/
import Derived.Test.YtflmncjhonmmhaaDoorLib13
namespace Go.Proofs.YtflmncjhonmmhaaDoor
open Go
set_option linter.unusedVariables false
set_option linter.unusedSimpArgs false

theorem adr_add (p : Addr) (n j : Nat) : (p.add n).add j = p.add (n + j) := Addr.add_add ..
/-- The pointer of a slice that is cut at lo. -/
def cutP (p : Option Addr) (c lo k : Nat) : Option Addr := if c = lo then p else p.map (·.add (lo * k))
/-- A piece of a slice that is read. -/
theorem DSl.sub {α : Type} {e : Enc α} {p : Option Addr} {xs : List α} {w : World} {F : FP} (h : (DSl e p xs).holds w F) (c lo m : Nat) (hc : xs.length ≤ c) :
    ∃ F', (DSl e (cutP p c lo e.k) ((xs.drop lo).take m)).holds w F' ∧ ∀ x, F' x → F x := by
  obtain ⟨h1, h2, h3, h4⟩ := h
  by_cases h0 : ((xs.drop lo).take m).length = 0
  · have hn := List.eq_nil_of_length_eq_zero h0
    rw [hn]
    exact ⟨fun _ => False, ⟨by simp, by simp [Enc.flat], by simp, by simp [Enc.flat]⟩, fun _ h => h.elim⟩
  · have hlo : lo < xs.length := by
      rcases Nat.lt_or_ge lo xs.length with h | h
      · exact h
      · exact absurd (by simp [List.drop_eq_nil_of_le h]) h0
    have hp := h1 (by omega)
    have hcl : ¬ c = lo := by omega
    have hpp : cutP p c lo e.k = some ((adr p).add (lo * e.k)) := by
      unfold cutP
      rw [if_neg hcl, hp]
      rfl
    rw [hpp]
    have hblk : ((adr p).add (lo * e.k)).block = (adr p).block := by unfold Addr.add; split <;> rfl
    refine ⟨fun x => 0 < (e.flat ((xs.drop lo).take m)).length ∧ x = (adr p).block, ⟨fun _ => rfl, ?_, ?_, ?_⟩, ?_⟩
    · intro j u hu
      show w.cell? (((adr p).add (lo * e.k)).add j) = some u
      rw [Addr.add_add]
      refine h2 (lo * e.k + j) u ?_
      have hsplit : xs = xs.take lo ++ ((xs.drop lo).take m ++ (xs.drop lo).drop m) := by rw [List.take_append_drop, List.take_append_drop]
      have hlen : (e.flat (xs.take lo)).length = lo * e.k := by rw [Enc.flat_len, List.length_take, Nat.min_eq_left (by omega)]
      rw [hsplit, e.flat_append, e.flat_append, List.getElem?_append_right (by omega), hlen, Nat.add_sub_cancel_left, List.getElem?_append_left (List.getElem?_eq_some_iff.1 hu).1]
      exact hu
    · have : ((xs.drop lo).take m).length ≤ xs.length := by simp; omega
      omega
    · intro x
      show _ ↔ _ ∧ x = ((adr p).add (lo * e.k)).block
      rw [hblk]
    · rintro x ⟨hx, rfl⟩
      refine (h4 _).2 ⟨?_, rfl⟩
      rw [Enc.flat_len] at hx ⊢
      have hk : 0 < e.k := by
        rcases Nat.eq_zero_or_pos e.k with hk | hk
        · rw [hk] at hx; simp at hx
        · exact hk
      exact Nat.mul_pos (by omega) hk

theorem DSl.lt {α : Type} {e : Enc α} {p : Option Addr} {xs : List α} {w : World} {F : FP} (h : (DSl e p xs).holds w F) : ∀ b, F b → b < w.heap.size := by
  obtain ⟨h1, h2, h3, h4⟩ := h
  intro b hb
  obtain ⟨hpos, rfl⟩ := (h4 b).1 hb
  have hc := h2 0 _ (List.getElem?_eq_getElem hpos)
  have := World.block_lt_of_cell? w _ hc
  have hblk : ((adr p).add 0).block = (adr p).block := by unfold Addr.add; split <;> rfl
  rwa [hblk] at this
/-- The start of a function that reads what its arguments name, and owns nothing yet. -/
theorem H.ofD {W : World} {D : List Asn} (h : ∀ (k : Nat) A, D[k]? = some A → ∃ F, A.holds W F ∧ ∀ b, F b → b < W.heap.size) : H W (fun _ => False) W D [] := by
  have key : ∀ k : Nat, ∃ F : FP, ∀ A, D[k]? = some A → A.holds W F ∧ ∀ b, F b → b < W.heap.size := by
    intro k
    cases hk : D[k]? with
    | none => exact ⟨fun _ => False, fun _ h => by cases h⟩
    | some A => obtain ⟨F, h1⟩ := h k A hk; exact ⟨F, fun B hB => by cases hB; exact h1⟩
  obtain ⟨G, hG⟩ := Classical.axiomOfChoice key
  exact ⟨G, fun _ _ => False, Fr.refl _ _, fun k A hk => (hG k A hk).1, fun k A hk => (hG k A hk).2, fun k A hk => by simp at hk, fun k A hk => by simp at hk, fun i j A B _ hj => by simp at hj, fun i j A B _ hi => by simp at hi⟩
theorem H.ofD1 {W : World} {α : Type} {e : Enc α} {p : Option Addr} {xs : List α} (h : ∃ F, (DSl e p xs).holds W F) : H W (fun _ => False) W [DSl e p xs] [] :=
  H.ofD fun k A hk => by
    cases k with
    | zero => simp at hk; subst hk; obtain ⟨F, h⟩ := h; exact ⟨F, h, DSl.lt h⟩
    | succ k => simp at hk
theorem H.ofD2 {W : World} {α β : Type} {e : Enc α} {p : Option Addr} {xs : List α} {e' : Enc β} {p' : Option Addr} {ys : List β} (h : ∃ F, (DSl e p xs).holds W F) (h' : ∃ F, (DSl e' p' ys).holds W F) : H W (fun _ => False) W [DSl e p xs, DSl e' p' ys] [] :=
  H.ofD fun k A hk => by
    match k, hk with
    | 0, hk => simp at hk; subst hk; obtain ⟨F, h⟩ := h; exact ⟨F, h, DSl.lt h⟩
    | 1, hk => simp at hk; subst hk; obtain ⟨F, h⟩ := h'; exact ⟨F, h, DSl.lt h⟩
    | k + 2, hk => simp at hk
theorem DSl.ofL {α : Type} {E : TypeId} {e : Enc α} {p : Option Addr} {c : Nat} {xs : List α} {w : World} (h : ∃ F, (ASl E e p c xs).holds w F) : ∃ F, (DSl e p xs).holds w F := by
  obtain ⟨F, h⟩ := h
  obtain ⟨F', h', _⟩ := DSl.of_ASl h
  exact ⟨F', h'⟩
/-- A slice that a call has made. -/
def NewSl {α : Type} (E : TypeId) (e : Enc α) (p : Option Addr) (c : Nat) (xs : List α) (W0 w : World) : Prop := ∃ F, (ASl E e p c xs).holds w F ∧ ∀ b, F b → W0.heap.size ≤ b ∧ b < w.heap.size
theorem H.outSl {α : Type} {E : TypeId} {e : Enc α} {p : Option Addr} {c : Nat} {xs : List α} {W0 w : World} {D L : List Asn} (h : H W0 (fun _ => False) w D L) (i : Nat) (hi : L[i]? = some (ASl E e p c xs)) : NewSl E e p c xs W0 w := by
  obtain ⟨FD, FL, h⟩ := h
  refine ⟨FL i, h.lh i _ hi, fun b hb => ?_⟩
  obtain ⟨h1, h2⟩ := h.lb i _ hi b hb
  exact ⟨h2.resolve_left (fun h => h), h1⟩
theorem H.takeSl {α : Type} {E : TypeId} {e : Enc α} {p : Option Addr} {c : Nat} {xs : List α} {W0 w w2 : World} {S : FP} {D L : List Asn} (h : H W0 S w D L) (hf : Fr0 w w2) (hn : NewSl E e p c xs w w2) : H W0 S w2 D (L ++ [ASl E e p c xs]) := by
  obtain ⟨F, hA, hN⟩ := hn
  exact h.new hf hA (fun b hb => ⟨(hN b hb).2, (hN b hb).1⟩)
end Go.Proofs.YtflmncjhonmmhaaDoor
