/- Rules of memory, more: ranging over a text, slices that are made, read, grown and turned into texts. -/
import Derived.Test.YtflmncjhonmmhaaDoorLib9
import Derived.Laws.RangeString
import Derived.Laws.BytesArg
namespace Go.Proofs.YtflmncjhonmmhaaDoor
open Go
set_option linter.unusedVariables false
set_option linter.unusedSimpArgs false

theorem H.nil (W : World) : H W (fun _ => False) W [] [] := by
  refine ⟨fun _ _ => False, fun _ _ => False, Fr.refl _ _, ?_, ?_, ?_, ?_, ?_, ?_⟩ <;> intros <;> simp_all
theorem H.fr0 {W w : World} {D L : List Asn} (h : H W (fun _ => False) w D L) : Fr0 W w := h.frame

/-- A text that is ranged over: block b stands at pos. -/
def AIter (b : Nat) (s : Str) (pos : Nat) : Asn :=
  ⟨fun w F => w.heap[b]? = some (.stringIter ⟨s.toArray⟩ pos) ∧ ∀ x, F x ↔ x = b, fun h hF => ⟨(hF b ((h.2 b).2 rfl)).trans h.1, h.2⟩⟩
/-- The rune at a place, and how wide it is. -/
def rune (s : Str) (pos : Nat) : Nat × Nat := Utf8.decode ⟨s.toArray⟩ pos
/-- Bytes as a text. -/
def text (xs : List Int) : Str := xs.map fun n => UInt8.ofNat n.toNat
/-- As many elements as there is room for. -/
def room (k n : Nat) : Option Unit := if n * k ≤ 140737488355328 then some () else none
theorem room_some {k n : Nat} {u : Unit} (h : room k n = some u) : n * k ≤ 140737488355328 := by
  unfold room at h
  split at h
  · assumption
  · cases h

section
variable {P : Program} {n : Nat} {Q : Post} {σ : Sto} {w W0 : World} {S : FP} {D L : List Asn} {ops : Array Oper} {l : List Oper} {d : Nat} {ty U : TypeId} {pos : String} {af : Array Edge}

theorem size_str (s : Str) : (⟨s.toArray⟩ : ByteArray).size = s.length := by show s.toArray.size = _; simp

theorem R.rng {x : Operand} {s : Str} (hd : Nat.blt d n = true) (h : H W0 S w D L) (hT : P.underlying U = some .string) (hx : evS σ x = some (vS s))
    (k : ∀ b w', H W0 S w' D (L ++ [AIter b s 0]) → R P n ops l Q ((d, .pointer (some ⟨b, 0, none⟩)) :: σ) w') :
    R P n ops ({ dst := some d, op := .range U x, type := ty, pos := pos, after := af, guard := none } :: l) Q σ w := by
  refine R.val hd (w' := w.alloc (.stringIter ⟨s.toArray⟩ 0)) (v := .pointer (some ⟨w.heap.size, 0, none⟩)) (fun ρ a => ?_) (k _ _ ?_)
  · simp only [execOp, a.ev hx, vS, Sem.run_bind, run_range_string (P := P) w U _ hT, Result.andThen_ok]; rfl
  · exact h.new (Fr.alloc _ _) (F' := fun x => x = w.heap.size) ⟨heap_alloc_new w _, fun _ => Iff.rfl⟩ (by rintro b rfl; simp)

theorem R.nxF {x : Operand} {b : Nat} {s : Str} {p : Nat} (i : Nat) (hd : Nat.blt d n = true) (h : H W0 S w D L) (hi : L[i]? = some (AIter b s p)) (hx : evS σ x = some (.pointer (some ⟨b, 0, none⟩))) (hp : decide (p < s.length) = false)
    (k : R P n ops l Q ((d, .tuple #[.bool false]) :: σ) w) :
    R P n ops ({ dst := some d, op := .next x true, type := ty, pos := pos, after := af, guard := none } :: l) Q σ w := by
  obtain ⟨F, hb, _⟩ := h.l i hi
  have hp' : ¬ p < s.length := of_decide_eq_false hp
  refine R.val hd (fun ρ a => ?_) k
  simp [execOp, a.ev hx, Instr.next, getObj, Sem.run, hb, size_str, hp']

theorem R.nxT {x : Operand} {b : Nat} {s : Str} {p : Nat} (i : Nat) (hd : Nat.blt d n = true) (h : H W0 S w D L) (hi : L[i]? = some (AIter b s p)) (hx : evS σ x = some (.pointer (some ⟨b, 0, none⟩))) (hp : decide (p < s.length) = true)
    (k : ∀ w', H W0 S w' D (L.set i (AIter b s (p + (rune s p).2))) → R P n ops l Q ((d, .tuple #[.bool true, .int .i64 (p : Int), .int .i32 ((rune s p).1 : Int)]) :: σ) w') :
    R P n ops ({ dst := some d, op := .next x true, type := ty, pos := pos, after := af, guard := none } :: l) Q σ w := by
  obtain ⟨F, hb, _⟩ := h.l i hi
  have hp' : p < s.length := of_decide_eq_true hp
  have hbl : b < w.heap.size := (Array.getElem?_eq_some_iff.1 hb).1
  refine R.val hd (w' := { w with heap := w.heap.setIfInBounds b (.stringIter ⟨s.toArray⟩ (p + (rune s p).2)) }) (fun ρ a => ?_) (k _ ?_)
  · simp [execOp, a.ev hx, Instr.next, getObj, setObj, Sem.run, hb, size_str, hp', goInt, rune]
  · refine h.upd i hi (fun F hA hF => ⟨⟨rfl, rfl, rfl, by simp, fun y hy hn => ?_⟩, F, ⟨by simp [hbl], hA.2⟩, fun y hy => ⟨by have := hF y hy; simpa using this, .inl hy⟩⟩)
    have : b ≠ y := fun e => hn ((hA.2 y).2 e.symm)
    simp [Array.getElem?_setIfInBounds, this]

/-! ### slices that are read -/
theorem H.bytes (h : H W0 S w D L) (i : Nat) {E : TypeId} {p : Option Addr} {c : Nat} {xs : List Int} (hi : L[i]? = some (ASl E (encI .u8) p c xs)) {src dst' : TypeId} (hs : slSz P src = some (E, 1)) (he : P.underlying E = some (.int .u8)) (hT : P.underlying dst' = some .string) :
    (convert src dst' (.slice p xs.length c)).run P w = .ok (vS (text xs)) w := by
  obtain ⟨F, hh⟩ := h.l i hi
  obtain ⟨hu, ti, hti, hsz⟩ := slSz_spec hs
  obtain ⟨⟨hl, h1⟩, _⟩ := hh
  rcases h1 with ⟨hv, hn⟩ | ⟨g, cap, cur, hv, hb, hg, h3, h4, h5, h6⟩
  · obtain rfl : xs = [] := List.eq_nil_of_length_eq_zero hn
    rw [hv]
    have := run_convert_bytes_nil (P := P) w src E hu he 0 0 dst' hT
    exact this
  · rw [hv]
    have := run_convert_bytes_arg (P := P) w src E hu he g 0 xs.length cap xs rfl (fun j hj => ?_) dst' hT
    · rw [this]; rfl
    · have hlen : ((encI .u8).flat xs).length = xs.length := by rw [Enc.flat_len]; show xs.length * 1 = _; omega
      have e1 : ((encI .u8).flat xs)[j]? = some (.int .u8 (xs.getD j 0)) := by
        have := (encI .u8).flat_get xs j 0 xs[j] (.int .u8 xs[j]) (List.getElem?_eq_getElem hj) rfl
        have e0 : j * (encI .u8).k + 0 = j := by show j * 1 + 0 = j; omega
        rw [e0] at this
        rw [this, List.getD_eq_getElem?_getD, List.getElem?_eq_getElem hj]; rfl
      rw [← h6, List.getElem?_take] at e1
      have hjk : j < xs.length * (encI .u8).k := by show j < xs.length * 1; omega
      rw [if_pos hjk] at e1
      have hc : ∀ m, w.cell? ⟨g, m, none⟩ = cur[m]? := fun m => by unfold World.cell?; simp only [hg]; rfl
      rw [Array.getElem?_toList] at e1
      first
        | (rw [hc, Nat.zero_add]; exact e1)
        | (rw [hc]; exact e1)
        | (have e : (⟨g, 0, none⟩ : Addr).add j = ⟨g, j, none⟩ := by { unfold Addr.add; split <;> simp_all }
           rw [e, hc]; exact e1)
theorem R.b2s {src dst' E : TypeId} {x : Operand} {p : Option Addr} {c : Nat} {xs : List Int} (i : Nat) (hd : Nat.blt d n = true) (h : H W0 S w D L) (hi : L[i]? = some (ASl E (encI .u8) p c xs)) (hs : slSz P src = some (E, 1)) (he : P.underlying E = some (.int .u8)) (hT : P.underlying dst' = some .string)
    (hx : evS σ x = some (.slice p xs.length c)) (k : R P n ops l Q ((d, vS (text xs)) :: σ) w) :
    R P n ops ({ dst := some d, op := .convert src dst' x, type := ty, pos := pos, after := af, guard := none } :: l) Q σ w :=
  R.val hd (fun ρ a => by simp only [execOp, a.ev hx, Sem.run_bind, h.bytes i hi hs he hT, Result.andThen_ok]; rfl) k

/-- A text cut. -/
theorem R.ssub {x y z : Operand} {s r : Str} {k1 k2 : IntKind} {i j : Int} (hd : Nat.blt d n = true) (hT : P.underlying U = some .string) (hx : evS σ x = some (vS s)) (hy : evS σ y = some (.int k1 i)) (hz : evS σ z = some (.int k2 j)) (hr : sub s i j = some r) (k : R P n ops l Q ((d, vS r) :: σ) w) :
    R P n ops ({ dst := some d, op := .slice U x (some y) (some z) none, type := ty, pos := pos, after := af, guard := none } :: l) Q σ w := by
  obtain ⟨h0, h1, h2, rfl⟩ := sub_some hr
  refine R.val hd (fun ρ a => ?_) k
  have e1 : (0 : Int) ≤ j ∧ j ≤ (s.length : Int) := by omega
  have e2 : (0 : Int) ≤ i ∧ i ≤ ((j.toNat : Nat) : Int) := by omega
  have e3 : ¬ (max j 0 < i) := by omega
  simp [execOp, a.ev hx, a.ev hy, a.ev hz, Instr.sliceAt, Instr.slice, run_underlying hT, vS, Instr.sliceBounds, Instr.sliceBound, asIntOf, size_str, e1, e2, e3, h0, run_ss]
  try omega
theorem R.ssubL {x y : Operand} {s r : Str} {k1 : IntKind} {i : Int} (hd : Nat.blt d n = true) (hT : P.underlying U = some .string) (hx : evS σ x = some (vS s)) (hy : evS σ y = some (.int k1 i)) (hr : sub s i (s.length : Int) = some r) (k : R P n ops l Q ((d, vS r) :: σ) w) :
    R P n ops ({ dst := some d, op := .slice U x (some y) none none, type := ty, pos := pos, after := af, guard := none } :: l) Q σ w := by
  obtain ⟨h0, h1, h2, rfl⟩ := sub_some hr
  refine R.val hd (fun ρ a => ?_) k
  have e2 : (0 : Int) ≤ i ∧ i ≤ ((s.length : Nat) : Int) := by omega
  simp [execOp, a.ev hx, a.ev hy, Instr.sliceAt, Instr.slice, run_underlying hT, vS, Instr.sliceBounds, Instr.sliceBound, asIntOf, size_str, e2, run_ss]
theorem R.ssubH {x z : Operand} {s r : Str} {k2 : IntKind} {j : Int} (hd : Nat.blt d n = true) (hT : P.underlying U = some .string) (hx : evS σ x = some (vS s)) (hz : evS σ z = some (.int k2 j)) (hr : sub s 0 j = some r) (k : R P n ops l Q ((d, vS r) :: σ) w) :
    R P n ops ({ dst := some d, op := .slice U x none (some z) none, type := ty, pos := pos, after := af, guard := none } :: l) Q σ w := by
  obtain ⟨h0, h1, h2, rfl⟩ := sub_some hr
  refine R.val hd (fun ρ a => ?_) k
  simp [execOp, a.ev hx, a.ev hz, Instr.sliceAt, Instr.slice, run_underlying hT, vS, Instr.sliceBounds, Instr.sliceBound, asIntOf, size_str, h1, h2, run_ss]
end
end Go.Proofs.YtflmncjhonmmhaaDoor
