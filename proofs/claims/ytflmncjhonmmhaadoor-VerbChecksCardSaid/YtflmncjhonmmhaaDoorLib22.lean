/- One thing as two, two as one; a strings.Builder. -/
import Derived.Test.YtflmncjhonmmhaaDoorLib21
import Derived.Lib.Builder
import Derived.Laws.Externs
namespace Go.Proofs.YtflmncjhonmmhaaDoor
open Go
set_option linter.unusedVariables false
set_option linter.unusedSimpArgs false

abbrev byt (s : Str) : List Int := bytes s
section
variable {W0 w : World} {S : FP} {D L : List Asn}
/-- One thing that is owned, as two. -/
theorem H.split (h : H W0 S w D L) (i : Nat) {C A B : Asn} (hi : L[i]? = some C) (hs : ∀ F, C.holds w F → ∃ F1 F2, A.holds w F1 ∧ B.holds w F2 ∧ (∀ x, F1 x → F x) ∧ (∀ x, F2 x → F x) ∧ ∀ x, F1 x → ¬ F2 x) :
    H W0 S w D (L.set i A ++ [B]) := by
  obtain ⟨FD, FL, h⟩ := h
  obtain ⟨F1, F2, hA, hB, h1, h2, h12⟩ := hs (FL i) (h.lh i C hi)
  have hil : i < L.length := (List.getElem?_eq_some_iff.1 hi).1
  have hln : (L.set i A).length = L.length := List.length_set
  let G : Nat → FP := fun j => if j = L.length then F2 else if j = i then F1 else FL j
  have cs : ∀ (j : Nat) (X : Asn), (L.set i A ++ [B])[j]? = some X → (j = L.length ∧ X = B) ∨ (j = i ∧ X = A) ∨ (j ≠ L.length ∧ j ≠ i ∧ L[j]? = some X) := by
    intro j X hX
    rcases Nat.lt_or_ge j L.length with hl | hl
    · rw [List.getElem?_append_left (by omega)] at hX
      by_cases e : j = i
      · subst e; rw [List.getElem?_set_self hil] at hX; exact .inr (.inl ⟨rfl, (Option.some.inj hX).symm⟩)
      · rw [List.getElem?_set_ne (Ne.symm e)] at hX; exact .inr (.inr ⟨by omega, e, hX⟩)
    · rw [List.getElem?_append_right (by omega), hln] at hX
      rcases Nat.eq_zero_or_pos (j - L.length) with h0 | h0
      · rw [h0] at hX; exact .inl ⟨by omega, (by simpa using hX.symm)⟩
      · obtain ⟨m, hm⟩ := Nat.exists_eq_succ_of_ne_zero (show j - L.length ≠ 0 by omega)
        rw [hm] at hX; simp at hX
  have sub : ∀ (j : Nat) (X : Asn), (L.set i A ++ [B])[j]? = some X → ∃ (k : Nat) (Y : Asn), L[k]? = some Y ∧ (∀ x, G j x → FL k x) ∧ ((j = L.length ∧ k = i) ∨ (j ≠ L.length ∧ k = j)) := by
    intro j X hX
    rcases cs j X hX with ⟨rfl, _⟩ | ⟨rfl, _⟩ | ⟨hj1, hj2, hX'⟩
    · exact ⟨i, C, hi, fun x hx => h2 x (by simpa [G] using hx), .inl ⟨rfl, rfl⟩⟩
    · have : j ≠ L.length := by omega
      exact ⟨j, C, hi, fun x hx => h1 x (by simpa [G, this] using hx), .inr ⟨this, rfl⟩⟩
    · exact ⟨j, X, hX', fun x hx => by simpa [G, hj1, hj2] using hx, .inr ⟨hj1, rfl⟩⟩
  refine ⟨FD, G, h.fr, h.dh, h.db, ?_, ?_, ?_, ?_⟩
  · intro j X hX
    rcases cs j X hX with ⟨rfl, rfl⟩ | ⟨rfl, rfl⟩ | ⟨hj1, hj2, hX'⟩
    · simpa [G] using hB
    · have : j ≠ L.length := by omega
      simpa [G, this] using hA
    · simpa [G, hj1, hj2] using h.lh j X hX'
  · intro j X hX b hb
    obtain ⟨k, Y, hY, hs, _⟩ := sub j X hX
    exact h.lb k Y hY b (hs b hb)
  · intro k j X Y hX hY b hb hc
    obtain ⟨m, Z, hZ, hs, _⟩ := sub j Y hY
    exact h.dl k m X Z hX hZ b hb (hs b hc)
  · intro j k X Y hjk hX hY b hb hc
    obtain ⟨m1, Z1, hZ1, hs1, c1⟩ := sub j X hX
    obtain ⟨m2, Z2, hZ2, hs2, c2⟩ := sub k Y hY
    by_cases e : m1 = m2
    · subst e
      rcases c1 with ⟨rfl, e1⟩ | ⟨n1, e1⟩ <;> rcases c2 with ⟨e3, e2⟩ | ⟨n2, e2⟩
      · exact hjk e3.symm
      · subst e1; subst e2
        simp only [G, if_true] at hb
        simp only [G, if_neg n2, if_true] at hc
        exact h12 b hc hb
      · subst e1; subst e3; subst e2
        simp only [G, if_true] at hc
        simp only [G, if_neg n1, if_true] at hb
        exact h12 b hb hc
      · exact hjk (e1.symm.trans e2)
    · exact h.ll m1 m2 Z1 Z2 e hZ1 hZ2 b (hs1 b hb) (hs2 b hc)
/-- Two things that are owned, as one. -/
theorem H.merge (h : H W0 S w D L) (i j : Nat) {C A B : Asn} (hi : L[i]? = some A) (hj : L[j]? = some B) (hij : i ≠ j) (hs : ∀ F1 F2, A.holds w F1 → B.holds w F2 → (∀ x, F1 x → ¬ F2 x) → C.holds w (fun x => F1 x ∨ F2 x)) :
    H W0 S w D ((L.set i C).set j AEmp) := by
  obtain ⟨FD, FL, h⟩ := h
  have hil : i < L.length := (List.getElem?_eq_some_iff.1 hi).1
  have hjl : j < L.length := (List.getElem?_eq_some_iff.1 hj).1
  have hC := hs (FL i) (FL j) (h.lh i A hi) (h.lh j B hj) (fun x hx => h.ll i j A B hij hi hj x hx)
  let G : Nat → FP := fun k => if k = j then fun _ => False else if k = i then fun x => FL i x ∨ FL j x else FL k
  have cs : ∀ (k : Nat) (X : Asn), ((L.set i C).set j AEmp)[k]? = some X → (k = j ∧ X = AEmp) ∨ (k ≠ j ∧ k = i ∧ X = C) ∨ (k ≠ j ∧ k ≠ i ∧ L[k]? = some X) := by
    intro k X hX
    by_cases e : k = j
    · subst e
      rw [List.getElem?_set_self (by simpa using hjl)] at hX
      exact .inl ⟨rfl, (Option.some.inj hX).symm⟩
    · rw [List.getElem?_set_ne (Ne.symm e)] at hX
      by_cases e2 : k = i
      · subst e2
        rw [List.getElem?_set_self hil] at hX
        exact .inr (.inl ⟨e, rfl, (Option.some.inj hX).symm⟩)
      · rw [List.getElem?_set_ne (Ne.symm e2)] at hX
        exact .inr (.inr ⟨e, e2, hX⟩)
  refine ⟨FD, G, h.fr, h.dh, h.db, ?_, ?_, ?_, ?_⟩
  · intro k X hX
    rcases cs k X hX with ⟨rfl, rfl⟩ | ⟨h1, rfl, rfl⟩ | ⟨h1, h2, h3⟩
    · simp [G, AEmp]
    · simpa [G, h1] using hC
    · simpa [G, h1, h2] using h.lh k X h3
  · intro k X hX b hb
    rcases cs k X hX with ⟨rfl, rfl⟩ | ⟨h1, rfl, rfl⟩ | ⟨h1, h2, h3⟩
    · simp [G] at hb
    · simp only [G, if_neg h1, if_true] at hb
      rcases hb with hb | hb
      · exact h.lb k A hi b hb
      · exact h.lb j B hj b hb
    · exact h.lb k X h3 b (by simpa [G, h1, h2] using hb)
  · intro m k X Y hX hY b hb hc
    rcases cs k Y hY with ⟨rfl, rfl⟩ | ⟨h1, rfl, rfl⟩ | ⟨h1, h2, h3⟩
    · simp [G] at hc
    · simp only [G, if_neg h1, if_true] at hc
      rcases hc with hc | hc
      · exact h.dl m k X A hX hi b hb hc
      · exact h.dl m j X B hX hj b hb hc
    · exact h.dl m k X Y hX h3 b hb (by simpa [G, h1, h2] using hc)
  · intro k m X Y hkm hX hY b hb hc
    have key : ∀ (k : Nat) (X : Asn), ((L.set i C).set j AEmp)[k]? = some X → G k b → (∃ Y, L[k]? = some Y ∧ FL k b ∧ k ≠ j) ∨ (k = i ∧ FL j b) := by
      intro k X hX hb
      rcases cs k X hX with ⟨rfl, rfl⟩ | ⟨h1, rfl, rfl⟩ | ⟨h1, h2, h3⟩
      · simp [G] at hb
      · simp only [G, if_neg h1, if_true] at hb
        rcases hb with hb | hb
        · exact .inl ⟨A, hi, hb, h1⟩
        · exact .inr ⟨rfl, hb⟩
      · exact .inl ⟨X, h3, by simpa [G, h1, h2] using hb, h1⟩
    rcases key k X hX hb with ⟨Y1, a1, a2, a3⟩ | ⟨a1, a2⟩ <;> rcases key m Y hY hc with ⟨Y2, b1, b2, b3⟩ | ⟨b1, b2⟩
    · exact h.ll k m Y1 Y2 hkm a1 b1 b a2 b2
    · exact h.ll k j Y1 B a3 a1 hj b a2 b2
    · exact h.ll m j Y2 B b3 b1 hj b b2 a2
    · exact hkm (a1.trans b1.symm)
end

/-- A strings.Builder in block b, of type T (its bytes of type E), that holds s. -/
def ABld (T E : TypeId) (b : Nat) (s : Str) : Asn where
  holds w F := ∃ a p c G, (a = none ∨ a = some ⟨b, 0, none⟩) ∧ w.heap[b]? = some (.cells #[.pointer a, .slice p (byt s).length c] T (0, 0)) ∧ (ASl E (encI .u8) p c (byt s)).holds w G ∧ ¬ G b ∧ ∀ x, F x ↔ (x = b ∨ G x)
  loc := by
    rintro w w' F ⟨a, p, c, G, h1, h2, h3, h4, h5⟩ hF
    exact ⟨a, p, c, G, h1, (hF b ((h5 b).2 (.inl rfl))).trans h2, (ASl E (encI .u8) p c (byt s)).loc h3 (fun x hx => hF x ((h5 x).2 (.inr hx))), h4, h5⟩
section
variable {W0 w : World} {S : FP} {D L : List Asn} {T E : TypeId}
theorem H.openBld (h : H W0 S w D L) (i : Nat) {b : Nat} {s : Str} (hi : L[i]? = some (ABld T E b s)) : ∃ a p c, (a = none ∨ a = some (⟨b, 0, none⟩ : Addr)) ∧ H W0 S w D (L.set i (ABox b T #[.pointer a, .slice p (byt s).length c]) ++ [ASl E (encI .u8) p c (byt s)]) := by
  obtain ⟨F0, a, p, c, G0, h1, h2, h3, h4, h5⟩ := h.l i hi
  refine ⟨a, p, c, h1, h.split i hi fun F hF => ?_⟩
  obtain ⟨a', p', c', G, h1', h2', h3', h4', h5'⟩ := hF
  rw [h2] at h2'
  injection h2' with h2'
  injection h2' with e1 e2 e3
  simp only [Array.mk.injEq, List.cons.injEq, Value.pointer.injEq, Value.slice.injEq, and_true, true_and] at e1
  obtain ⟨rfl, rfl, rfl⟩ := e1
  exact ⟨fun x => x = b, G, ⟨h2, fun x => Iff.rfl⟩, h3', fun x hx => (h5' x).2 (.inl hx), fun x hx => (h5' x).2 (.inr hx), fun x hx hg => h4' (hx ▸ hg)⟩
theorem H.closeBld (h : H W0 S w D L) (i j : Nat) {b : Nat} {s : Str} {a p : Option Addr} {c : Nat} (hi : L[i]? = some (ABox b T #[.pointer a, .slice p (byt s).length c])) (hj : L[j]? = some (ASl E (encI .u8) p c (byt s))) (hij : i ≠ j)
    (ha : a = none ∨ a = some ⟨b, 0, none⟩) : H W0 S w D ((L.set i (ABld T E b s)).set j AEmp) :=
  h.merge i j hi hj hij fun F1 F2 hA hB hd => ⟨a, p, c, F2, ha, hA.1, hB, hd b ((hA.2 b).2 rfl), fun x => by
    show F1 x ∨ F2 x ↔ _
    rw [hA.2 x]⟩
/-- A Builder that is new. -/
theorem H.newBld (h : H W0 S w D L) (i : Nat) {b : Nat} (hi : L[i]? = some (ABox b T #[.pointer none, .slice none 0 0])) : H W0 S w D (L.set i (ABld T E b [])) :=
  h.upd i hi fun F hA hF => ⟨Fr.refl _ _, F, ⟨none, none, 0, fun _ => False, .inl rfl, hA.1, ⟨⟨rfl, .inl ⟨rfl, rfl⟩⟩, fun x => by simp [Value.ownBlock, byt, Proofs.YtflmncjhonmmhaaDoor.bytes]⟩, fun h => h, fun x => by rw [hA.2 x]; simp⟩, fun b hb => ⟨hF b hb, .inl hb⟩⟩
theorem set_app {L : List Asn} {i : Nat} {A B X : Asn} (hi : L[i]? = some X) : (L.set i A ++ [B])[i]? = some A ∧ (L.set i A ++ [B])[L.length]? = some B ∧ i ≠ L.length := by
  have hl := (List.getElem?_eq_some_iff.1 hi).1
  refine ⟨by rw [List.getElem?_append_left (by simpa using hl), List.getElem?_set_self hl], by simp, by omega⟩
theorem set_app_set {L : List Asn} {i : Nat} {A B A' : Asn} (hl : i < L.length) : (L.set i A ++ [B]).set i A' = L.set i A' ++ [B] := by
  rw [List.set_append_left _ _ (by simpa using hl), List.set_set]
theorem set_app_last {L : List Asn} {i : Nat} {A B B' : Asn} : (L.set i A ++ [B]).set L.length B' = L.set i A ++ [B'] := by
  rw [List.set_append_right _ _ (by simp)]
  simp
/-- The last one is let go. -/
theorem H.drop (h : H W0 S w D (L ++ [AEmp])) : H W0 S w D L := by
  refine h.sel (List.range L.length) ?_ List.nodup_range
  have key : ∀ (n : Nat), n ≤ L.length → pickL (L ++ [AEmp]) ((List.range L.length).drop n) = some (L.drop n) := by
    intro n
    induction hk : L.length - n generalizing n with
    | zero =>
      intro hn
      have : n = L.length := by omega
      subst this
      rw [List.drop_eq_nil_of_le (by simp), List.drop_eq_nil_of_le (Nat.le_refl _)]
      rfl
    | succ k ih =>
      intro hn
      have hlt : n < L.length := by omega
      rw [List.drop_eq_getElem_cons (by simpa using hlt), List.drop_eq_getElem_cons hlt]
      simp only [pickL, List.getElem_range, List.getElem?_append_left hlt, List.getElem?_eq_getElem hlt, ih (n + 1) (by omega) (by omega)]
  have := key 0 (Nat.zero_le _)
  simpa using this
end
section
variable {P : Program} {n : Nat} {Q : Post} {σ : Sto} {w W0 : World} {S : FP} {D L : List Asn} {ops : Array Oper} {l : List Oper} {d : Nat} {ty T : TypeId} {pos : String} {af : Array Edge}
theorem R.toU {src dst' t e : TypeId} {x : Operand} {b : Nat} {cs : Array Value} (i : Nat) (hd : Nat.blt d n = true) (h : H W0 S w D L) (hi : L[i]? = some (ABox b e cs)) (hs : P.underlying src = some (.pointer t)) (hT : P.underlying dst' = some .unsafePointer) (ht : (P.info? t).map (fun j => Nat.beq j.size 0) = some false) (hc : Nat.blt 0 cs.size = true)
    (hx : evS σ x = some (.pointer (some ⟨b, 0, none⟩))) (k : R P n ops l Q ((d, .pointer (some ⟨b, 0, none⟩)) :: σ) w) :
    R P n ops ({ dst := some d, op := .convert src dst' x, type := ty, pos := pos, after := af, guard := none } :: l) Q σ w := by
  obtain ⟨j, hj, hjs⟩ := Option.map_eq_some_iff.1 ht
  have hb := h.boxAt i hi
  have hj0 : j.size ≠ 0 := by intro e0; rw [e0] at hjs; cases hjs
  have := Lib.run_to_unsafe (P := P) w ⟨b, 0, none⟩ hs hT hj hj0 (e := e) (cells := cs.size) (by simp [World.shape?, hb]) (by simpa [Nat.blt_eq] using hc)
  exact R.val hd (fun ρ a => by simp only [execOp, a.ev hx, Sem.run_bind, this, Result.andThen_ok]; rfl) k
theorem R.fromU {src dst' u e : TypeId} {x : Operand} {b : Nat} {cs : Array Value} (i : Nat) (hd : Nat.blt d n = true) (h : H W0 S w D L) (hi : L[i]? = some (ABox b e cs)) (hs : P.underlying src = some .unsafePointer) (hT : P.underlying dst' = some (.pointer u)) (hu : (P.info? u).isSome = true)
    (hl : liesAt P P.depth e (cs.size / P.cellsOf e) 0 u 1 = true) (hx : evS σ x = some (.pointer (some ⟨b, 0, none⟩))) (k : R P n ops l Q ((d, .pointer (some ⟨b, 0, none⟩)) :: σ) w) :
    R P n ops ({ dst := some d, op := .convert src dst' x, type := ty, pos := pos, after := af, guard := none } :: l) Q σ w := by
  obtain ⟨j, hj⟩ := Option.isSome_iff_exists.1 hu
  have hb := h.boxAt i hi
  have := Lib.run_from_unsafe (P := P) w ⟨b, 0, none⟩ hs hT hj (e := e) (cells := cs.size) (by simp [World.shape?, hb]) hl
  exact R.val hd (fun ρ a => by simp only [execOp, a.ev hx, Sem.run_bind, this, Result.andThen_ok]; rfl) k
theorem R.noEsc {f : FuncId} {x : Operand} {v : Value} {ts : Array TypeId} (hd : Nat.blt d n = true) (hf : ∀ args w, (callFunc f args).run P w = ((Extern.AbiNoEscape.same args).run P w).andThen fun v w' => .ok (.value v) w') (hx : evS σ x = some v) (k : R P n ops l Q ((d, v) :: σ) w) :
    R P n ops ({ dst := some d, op := .call { callee := .value (.func f), args := #[x], argTypes := ts }, type := ty, pos := pos, after := af, guard := none } :: l) Q σ w :=
  R.val hd (fun ρ a => by
    have hg : ρ (.func f) = .func (.func f) #[] #[] := a.ev rfl
    have h1 : (callFunc f #[v]).run P w = .ok (.value v) w := by rw [hf, Lib.run_noEscape]; rfl
    simp [execOp, resolve, Deferred.ofValue, hg, a.ev hx, invoke, h1]) k
theorem R.pSame {x y : Operand} {U u : TypeId} {ty' : TypeId} {a0 : Addr} (hd : Nat.blt d n = true) (hu : P.underlying U = some (.pointer u)) (hi : (P.info? u).isSome = true) (hx : evS σ x = some (.pointer (some a0))) (hy : evS σ y = some (.pointer (some a0)))
    (kk : R P n ops l Q ((d, .bool false) :: σ) w) : R P n ops ({ dst := some d, op := .binOp .neq U x y ty', type := ty, pos := pos, after := af, guard := none } :: l) Q σ w := by
  obtain ⟨j, hj⟩ := Option.isSome_iff_exists.1 hi
  have hg : ∀ u v, eqGuard .neq U x y (.pointer u) v = pure () := fun u v => rfl
  exact R.val hd (fun ρ h => by simp only [execOp, h.ev hx, h.ev hy, hg, Sem.run_bind, Sem.run_pure, Result.andThen_ok, Lib.run_neq_ptr_same w a0 hu hj]) kk
/-- 'append(bytes, text...)' -/
theorem strCells_byt (s : Str) : Lib.strCells ⟨s.toArray⟩ = (encI .u8).flat (byt s) := by
  rw [flatI]
  simp [Lib.strCells, byt, bytes]
theorem R.appS {x y : Operand} {E ts : TypeId} {p : Option Addr} {c : Nat} {xs : List Int} {s : Str} (i : Nat) (hd : Nat.blt d n = true) (h : H W0 S w D L) (hi : L[i]? = some (ASl E (encI .u8) p c xs))
    (hT : P.underlying T = some (.slice E)) (hS : P.underlying ts = some .string) (hin : (P.info? E).map (fun i => (i.zero, i.size, i.bytes)) = some (some (.int .u8 0), 1, 1))
    (hx : evS σ x = some (.slice p xs.length c)) (hy : evS σ y = some (vS s)) (hb : xs.length + s.length ≤ 140737488355328)
    (k : ∀ p' c' w', H W0 S w' D (L.set i (ASl E (encI .u8) p' c' (xs ++ byt s))) → R P n ops l Q ((d, .slice p' (xs ++ byt s).length c') :: σ) w') :
    R P n ops ({ dst := some d, op := .call { callee := .builtin .append, args := #[x, y], argTypes := #[T, ts] }, type := ty, pos := pos, after := af, guard := none } :: l) Q σ w := by
  obtain ⟨ti, hti, hp⟩ := Option.map_eq_some_iff.1 hin
  simp only [Prod.mk.injEq] at hp
  obtain ⟨hz, hsz, hby⟩ := hp
  obtain ⟨F0, hA0⟩ := h.l i hi
  have hss : (⟨s.toArray⟩ : ByteArray).size = s.length := size_str s
  have hm : xs.length + s.length ≤ maxLen := by unfold maxLen; omega
  obtain ⟨v', w', hr, h2, h3, h4⟩ := Lib.run_append_own_string (P := P) w 0 T ts ty E ti hT hS hti hz hsz hby (.slice p xs.length c) xs.length ((encI .u8).flat xs) hA0.1 ⟨s.toArray⟩ (by rw [hss]; exact hm) (by rw [hss]; exact hb) (Nat.zero_le _)
  rw [hss, strCells_byt, ← Enc.flat_append] at h2
  have hlen : (xs ++ byt s).length = xs.length + s.length := by simp [byt, bytes]
  have hor : ∃ q c', v' = .slice q (xs.length + s.length) c' ∧ ∀ b, v'.ownBlock = some b → b < w'.heap.size ∧ ((Value.slice p xs.length c).ownBlock = some b ∨ w.heap.size ≤ b) := by
    rcases h2.2 with ⟨hv, hn⟩ | ⟨g', cap', cur', hv', _, hg', _⟩
    · subst hv
      exact ⟨none, 0, by rw [hn], fun b hb => by simp [Value.ownBlock] at hb⟩
    · refine ⟨some ⟨g', 0, none⟩, cap', hv', fun b hb => ?_⟩
      subst hv'
      simp only [Value.ownBlock, Option.some.injEq] at hb
      subst hb
      refine ⟨(Array.getElem?_eq_some_iff.1 hg').1, ?_⟩
      rcases hA0.1.2 with ⟨hv, hn⟩ | ⟨g, cap, cur, hv, _, hgg, h5, h6, h7, h8⟩
      · by_cases hs0 : (⟨s.toArray⟩ : ByteArray).size = 0
        · have := h4.2 ⟨hv, hs0⟩
          cases this
        · have hr2 := run_append_nil_string (P := P) w T ts ty E ti (.int .u8 0) hT hS hti hz ⟨s.toArray⟩ (by omega) (by rw [hss]; omega) (by rw [hby, hss]; omega)
          rw [hv] at hr
          have := hr.symm.trans hr2
          injection this with e1 _
          injection e1 with e2 _ _
          injection e2 with e3
          injection e3 with e4
          exact .inr (by omega)
      · injection hv with hp _ hc
        subst hp
        subst hc
        have h7' : cur.size = c := by simpa [encI] using h7
        by_cases hroom : xs.length + (⟨s.toArray⟩ : ByteArray).size ≤ c
        · have hr2 := Lib.run_append_room_string (P := P) w T ts ty E ti hT hS hti hsz g xs.length c cur hgg ⟨s.toArray⟩ hroom (by omega)
          have := hr.symm.trans hr2
          injection this with e1 _
          injection e1 with e2 _ _
          injection e2 with e3
          injection e3 with e4
          exact .inl (by simp [Value.ownBlock, e4])
        · have holds : ∀ (j : Nat) u, ((encI .u8).flat xs)[j]? = some u → w.cell? ((⟨g, 0, none⟩ : Addr).add j) = some u := (RdS.ofA (h.l i hi)).all.2.1
          have hr2 := Lib.run_append_grow_string (P := P) w T ts ty E ti (.int .u8 0) hT hS hti hz ⟨g, 0, none⟩ xs.length c ((encI .u8).flat xs) (by rw [hsz, Enc.flat_len]; rfl) holds ⟨s.toArray⟩ (by omega) (by omega) (by rw [hby]; exact growslice_fits (by omega) (by omega))
          have := hr.symm.trans hr2
          injection this with e1 _
          injection e1 with e2 _ _
          injection e2 with e3
          injection e3 with e4
          exact .inr (by omega)
  obtain ⟨q, c', rfl, hblk⟩ := hor
  refine R.val hd (v := .slice q (xs ++ byt s).length c') (w' := w') (fun ρ a => ?_) (k _ _ _ ?_)
  · rw [hlen]
    simp only [execOp, resolve, invoke, builtin, Sem.run_bind, Sem.run_pure, Result.andThen_ok, List.map_toArray, List.map_cons, List.map_nil, a.ev hx, a.ev hy, vS, hr]
  · refine h.upd i hi (fun F hA hF => ⟨?_, fun b => (Value.slice q (xs.length + s.length) c').ownBlock = some b, ⟨?_, fun x => ?_⟩, fun b hb => ?_⟩)
    · have := Fr.of_grown h3
      exact ⟨this.os, this.tape, this.output, this.size, fun b hb hn => this.block b hb (fun e => hn ((hA.2 b).2 e))⟩
    · rw [hlen]; exact h2
    · rw [hlen]
    · obtain ⟨h5, h6⟩ := hblk b hb
      exact ⟨h5, h6.imp (fun e => (hA.2 b).2 e) (fun e => e)⟩
end
end Go.Proofs.YtflmncjhonmmhaaDoor
