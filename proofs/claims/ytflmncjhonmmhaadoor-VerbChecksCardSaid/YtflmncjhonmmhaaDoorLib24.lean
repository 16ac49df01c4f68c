/- Appending a string to bytes, to 200000000000000 bytes and not only to 2^47. -/
import Derived.Test.YtflmncjhonmmhaaDoorLib23
import Derived.Deep.DeepAppendWide
namespace Go.Proofs.YtflmncjhonmmhaaDoor
open Go
set_option linter.unusedVariables false
set_option linter.unusedSimpArgs false
section
variable {P : Program} (w : World)
theorem append_str_wide (base : Nat) (t u ty e : TypeId) (i : TypeInfo) (ht : P.underlying t = some (.slice e)) (hu : P.underlying u = some .string) (hi : P.info? e = some i) (hz : i.zero = some (.int .u8 0)) (hsize : i.size = 1) (hby : i.bytes = 1)
    (v : Value) (n : Nat) (xs : List Value) (hown : w.ownsRow base e 1 v n xs) (s : ByteArray) (h63 : n + s.size ≤ maxLen) (hb : n + s.size ≤ 200000000000000 ∧ s.size ≤ 140737488355328) (hbase : base ≤ w.heap.size) :
    ∃ v' w', (Builtin.append_ #[t, u] ty #[v, .string s]).run P w = .ok v' w' ∧ w'.ownsRow base e 1 v' (n + s.size) (xs ++ Lib.strCells s) ∧ w.grownBy w' v.ownBlock ∧ (v' = .slice none 0 0 ↔ v = .slice none 0 0 ∧ s.size = 0) := by
  by_cases hn : n + s.size ≤ 140737488355328
  · exact Lib.run_append_own_string (P := P) w base t u ty e i ht hu hi hz hsize hby v n xs hown s h63 hn hbase
  have hxl : xs.length = n := by simpa using hown.1
  rcases hown.2 with ⟨rfl, rfl⟩ | ⟨g, cap, cur, rfl, hbg, hg, hnc, hcm, hcs, htk⟩
  · omega
  by_cases hr : n + s.size ≤ cap
  · have hcs' : cur.size = cap := by simpa using hcs
    obtain ⟨v', w', h1, h2⟩ : ∃ v' w', v' = Value.slice (some ⟨g, 0, none⟩) (n + s.size) cap ∧ w' = w.setRow g (cur.toList.take n ++ Lib.strCells s ++ cur.toList.drop (n + s.size)).toArray := ⟨_, _, rfl, rfl⟩
    refine ⟨v', w', by rw [h1, h2]; exact Lib.run_append_room_string (P := P) w t u ty e i ht hu hi hsize g n cap cur hg s hr (by omega), ?_, ?_, by rw [h1]; simp⟩
    · subst h1 h2
      refine ⟨by simp [hxl, Lib.strCells_length], .inr ⟨g, cap, _, rfl, hbg, setRow_heap w g cur _ e _ hg, hr, hcm, ?_, ?_⟩⟩
      · simp [Lib.strCells_length]; omega
      · have h3 : cur.toList.take n = xs := by simpa using htk
        have h4 : (n + s.size) * 1 = (xs ++ Lib.strCells s).length := by simp [hxl, Lib.strCells_length]
        rw [h3, h4]
        exact List.take_left
    · subst h2
      exact ⟨rfl, rfl, rfl, by simp, fun k _ hk => setRow_other w g k _ (fun e => hk (by simp [Value.ownBlock, e]))⟩
  · have hc : ∀ (j : Nat) u, xs[j]? = some u → w.cell? ((⟨g, 0, none⟩ : Addr).add j) = some u := hown.cells (g := g) rfl
    refine ⟨_, _, Lib.run_append_grow_string (P := P) w t u ty e i (.int .u8 0) ht hu hi hz ⟨g, 0, none⟩ n cap xs (by rw [hsize]; simpa using hxl) hc s (by omega) (by omega) (by rw [hby]; exact growslice_fits_wide (by omega) (by omega)), ?_, ?_, by simp⟩
    · have h1 := grownCap_ge w (n + s.size) cap e
      refine ⟨by simp [hxl, Lib.strCells_length], .inr ⟨w.heap.size, _, _, rfl, hbase, heap_alloc_new w.drew _, h1, grownCap_le_maxLen w (n + s.size) cap e h63, ?_, ?_⟩⟩
      · have hz1 : (Value.int IntKind.u8 0).cells.size = 1 := rfl
        simp only [Array.size_append, List.size_toArray, size_zeroCells, hz1, hxl, Lib.strCells_length]
        omega
      · have h4 : (n + s.size) * 1 = (xs ++ Lib.strCells s).length := by simp [hxl, Lib.strCells_length]
        rw [h4]
        simp only [Array.toList_append]
        exact List.take_left
    · exact ⟨rfl, rfl, rfl, by simp, fun k hk _ => heap_alloc_old w.drew _ hk⟩
end
section
variable {P : Program} {n : Nat} {Q : Post} {σ : Sto} {w W0 : World} {S : FP} {D L : List Asn} {ops : Array Oper} {l : List Oper} {d : Nat} {ty T : TypeId} {pos : String} {af : Array Edge}
theorem R.appSw {x y : Operand} {E ts : TypeId} {p : Option Addr} {c : Nat} {xs : List Int} {s : Str} (i : Nat) (hd : Nat.blt d n = true) (h : H W0 S w D L) (hi : L[i]? = some (ASl E (encI .u8) p c xs))
    (hT : P.underlying T = some (.slice E)) (hS : P.underlying ts = some .string) (hin : (P.info? E).map (fun i => (i.zero, i.size, i.bytes)) = some (some (.int .u8 0), 1, 1))
    (hx : evS σ x = some (.slice p xs.length c)) (hy : evS σ y = some (vS s)) (hb : xs.length + s.length ≤ 200000000000000 ∧ s.length ≤ 140737488355328)
    (k : ∀ p' c' w', H W0 S w' D (L.set i (ASl E (encI .u8) p' c' (xs ++ byt s))) → R P n ops l Q ((d, .slice p' (xs ++ byt s).length c') :: σ) w') :
    R P n ops ({ dst := some d, op := .call { callee := .builtin .append, args := #[x, y], argTypes := #[T, ts] }, type := ty, pos := pos, after := af, guard := none } :: l) Q σ w := by
  obtain ⟨ti, hti, hp⟩ := Option.map_eq_some_iff.1 hin
  simp only [Prod.mk.injEq] at hp
  obtain ⟨hz, hsz, hby⟩ := hp
  obtain ⟨F0, hA0⟩ := h.l i hi
  have hss : (⟨s.toArray⟩ : ByteArray).size = s.length := size_str s
  have hm : xs.length + s.length ≤ maxLen := by unfold maxLen; omega
  obtain ⟨v', w', hr, h2, h3, h4⟩ := append_str_wide (P := P) w 0 T ts ty E ti hT hS hti hz hsz hby (.slice p xs.length c) xs.length ((encI .u8).flat xs) hA0.1 ⟨s.toArray⟩ (by rw [hss]; exact hm) (by rw [hss]; exact hb) (Nat.zero_le _)
  rw [hss, strCells_byt, ← Enc.flat_append] at h2
  have hlen : (xs ++ byt s).length = xs.length + s.length := by simp [byt, bytes]
  have hor : ∃ q c', v' = .slice q (xs.length + s.length) c' ∧ ∀ b, v'.ownBlock = some b → b < w'.heap.size ∧ ((Value.slice p xs.length c).ownBlock = some b ∨ w.heap.size ≤ b) := by
    rcases h2.2 with ⟨hv, hn⟩ | ⟨g', cap', cur', hv', _, hg', _⟩
    · subst hv
      exact ⟨none, 0, by rw [hn], fun b hb => by simp [Value.ownBlock] at hb⟩
    · refine ⟨some ⟨g', 0, none⟩, cap', hv', fun b hb => ?_⟩
      subst hv'
      simp only [Value.ownBlock, Option.some.injEq] at hb
      subst hb
      refine ⟨(Array.getElem?_eq_some_iff.1 hg').1, ?_⟩
      rcases hA0.1.2 with ⟨hv, hn⟩ | ⟨g, cap, cur, hv, _, hgg, h5, h6, h7, h8⟩
      · by_cases hs0 : (⟨s.toArray⟩ : ByteArray).size = 0
        · have := h4.2 ⟨hv, hs0⟩
          cases this
        · have hr2 := run_append_nil_string (P := P) w T ts ty E ti (.int .u8 0) hT hS hti hz ⟨s.toArray⟩ (by omega) (by rw [hss]; omega) (by rw [hby, hss]; omega)
          rw [hv] at hr
          have := hr.symm.trans hr2
          injection this with e1 _
          injection e1 with e2 _ _
          injection e2 with e3
          injection e3 with e4
          exact .inr (by omega)
      · injection hv with hp _ hc
        subst hp
        subst hc
        have h7' : cur.size = c := by simpa [encI] using h7
        by_cases hroom : xs.length + (⟨s.toArray⟩ : ByteArray).size ≤ c
        · have hr2 := Lib.run_append_room_string (P := P) w T ts ty E ti hT hS hti hsz g xs.length c cur hgg ⟨s.toArray⟩ hroom (by omega)
          have := hr.symm.trans hr2
          injection this with e1 _
          injection e1 with e2 _ _
          injection e2 with e3
          injection e3 with e4
          exact .inl (by simp [Value.ownBlock, e4])
        · have holds : ∀ (j : Nat) u, ((encI .u8).flat xs)[j]? = some u → w.cell? ((⟨g, 0, none⟩ : Addr).add j) = some u := (RdS.ofA (h.l i hi)).all.2.1
          have hr2 := Lib.run_append_grow_string (P := P) w T ts ty E ti (.int .u8 0) hT hS hti hz ⟨g, 0, none⟩ xs.length c ((encI .u8).flat xs) (by rw [hsz, Enc.flat_len]; rfl) holds ⟨s.toArray⟩ (by omega) (by omega) (by rw [hby]; exact growslice_fits_wide (by omega) (by omega))
          have := hr.symm.trans hr2
          injection this with e1 _
          injection e1 with e2 _ _
          injection e2 with e3
          injection e3 with e4
          exact .inr (by omega)
  obtain ⟨q, c', rfl, hblk⟩ := hor
  refine R.val hd (v := .slice q (xs ++ byt s).length c') (w' := w') (fun ρ a => ?_) (k _ _ _ ?_)
  · rw [hlen]
    simp only [execOp, resolve, invoke, builtin, Sem.run_bind, Sem.run_pure, Result.andThen_ok, List.map_toArray, List.map_cons, List.map_nil, a.ev hx, a.ev hy, vS, hr]
  · refine h.upd i hi (fun F hA hF => ⟨?_, fun b => (Value.slice q (xs.length + s.length) c').ownBlock = some b, ⟨?_, fun x => ?_⟩, fun b hb => ?_⟩)
    · have := Fr.of_grown h3
      exact ⟨this.os, this.tape, this.output, this.size, fun b hb hn => this.block b hb (fun e => hn ((hA.2 b).2 e))⟩
    · rw [hlen]; exact h2
    · rw [hlen]
    · obtain ⟨h5, h6⟩ := hblk b hb
      exact ⟨h5, h6.imp (fun e => (hA.2 b).2 e) (fun e => e)⟩
end
end Go.Proofs.YtflmncjhonmmhaaDoor
