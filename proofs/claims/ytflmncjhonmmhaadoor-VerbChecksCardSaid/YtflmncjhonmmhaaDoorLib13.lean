/- Slices that grow. -/
import Derived.Test.YtflmncjhonmmhaaDoorLib12
namespace Go.Proofs.YtflmncjhonmmhaaDoor
open Go
set_option linter.unusedVariables false
set_option linter.unusedSimpArgs false

section
variable {P : Program} {n : Nat} {Q : Post} {σ : Sto} {w W0 : World} {S : FP} {D L : List Asn} {ops : Array Oper} {l : List Oper} {d : Nat} {ty T : TypeId} {pos : String} {af : Array Edge}

/-- A slice that is nil. -/
theorem H.nilSl {α : Type} (E : TypeId) (e : Enc α) (h : H W0 S w D L) : H W0 S w D (L ++ [ASl E e none 0 []]) :=
  h.new (Fr.refl _ _) (F' := fun _ => False) ⟨⟨by simp [Enc.flat], .inl ⟨rfl, rfl⟩⟩, fun x => by simp [Value.ownBlock]⟩ (fun _ h => h.elim)

theorem H.allL {α : Type} {E : TypeId} {e : Enc α} {p : Option Addr} {c : Nat} {xs : List α} (h : H W0 S w D L) (i : Nat) (hi : L[i]? = some (ASl E e p c xs)) :
    ∀ (j : Nat) u, (e.flat xs)[j]? = some u → w.cell? ((adr p).add j) = some u := by
  obtain ⟨F, hh⟩ := h.l i hi
  obtain ⟨F', ⟨_, h2, _⟩, _⟩ := DSl.of_ASl hh
  exact h2
/-- 'append(xs, ys...)', ys not empty, wherever they lie. -/
theorem R.app {α : Type} {x y : Operand} {E : TypeId} {e : Enc α} {z : Value} {bt : Nat} {p q : Option Addr} {c cq : Nat} {xs ys : List α} (i : Nat) (hd : Nat.blt d n = true) (h : H W0 S w D L) (hi : L[i]? = some (ASl E e p c xs))
    (hT : P.underlying T = some (.slice E)) (hin : (P.info? E).map (fun i => (i.zero, i.size, i.bytes)) = some (some z, e.k, bt)) (hz : z.cells.size = e.k) (hk : 0 < e.k)
    (hx : evS σ x = some (.slice p xs.length c)) (hy : evS σ y = some (.slice q ys.length cq)) (hm : 0 < ys.length) (hq : q = some (adr q)) (hc : ∀ (j : Nat) u, (e.flat ys)[j]? = some u → w.cell? ((adr q).add j) = some u)
    (hr : (xs.length + ys.length) * bt ≤ 140737488355328) (h63 : xs.length + ys.length ≤ 9223372036854775807)
    (k : ∀ p' c' w', H W0 S w' D (L.set i (ASl E e p' c' (xs ++ ys))) → R P n ops l Q ((d, .slice p' (xs ++ ys).length c') :: σ) w') :
    R P n ops ({ dst := some d, op := .call { callee := .builtin .append, args := #[x, y], argTypes := #[T, T] }, type := ty, pos := pos, after := af, guard := none } :: l) Q σ w := by
  obtain ⟨F, hA, hF⟩ := h.l i hi
  obtain ⟨ti, hti, hp⟩ := Option.map_eq_some_iff.1 hin
  simp only [Prod.mk.injEq] at hp
  rw [hq] at hy
  obtain ⟨g, cap, w', hrun, hown, hgr, hor, hlt⟩ := run_append_lies (P := P) w T ty 0 E ti z e.k bt hT hti hp.1 hp.2.1 hp.2.2 hz hk (.slice p xs.length c) xs.length (e.flat xs) hA (adr q) ys.length cq (e.flat ys) (e.flat_len ys) hc
    (fun u hu => e.flat_one ys u hu) hm (by unfold maxLen; omega) hr (Nat.zero_le _) w.heap.size rfl
  have hlen : (xs ++ ys).length = xs.length + ys.length := List.length_append
  refine R.val hd (v := .slice (some ⟨g, 0, none⟩) (xs ++ ys).length cap) (w' := w') (fun ρ a => ?_) (k _ _ _ ?_)
  · rw [hlen]
    simp only [execOp, resolve, invoke, builtin, Sem.run_bind, Sem.run_pure, Result.andThen_ok, List.map_toArray, List.map_cons, List.map_nil, a.ev hx, a.ev hy, hrun]
  · refine h.upd i hi (fun F hA hF => ⟨?_, fun b => b = g, ⟨?_, fun x => ?_⟩, fun b hb => ?_⟩)
    · have := Fr.of_grown hgr
      exact ⟨this.os, this.tape, this.output, this.size, fun b hb hn => this.block b hb (fun e => hn ((hA.2 b).2 e))⟩
    · rw [hlen, e.flat_append]; exact hown
    · simp [Value.ownBlock, eq_comm]
    · subst hb
      refine ⟨hlt, ?_⟩
      rcases hor with h1 | h1
      · exact .inl ((hA.2 b).2 h1)
      · exact .inr (by omega)
end
end Go.Proofs.YtflmncjhonmmhaaDoor
