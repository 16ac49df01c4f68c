/- What the program's tables hold, and the library's functions by the shelf's contracts, in the form of this text's walks. -/
import Derived.Test.YtlppoapbkmbipaaDoorShelf
import Derived.Test.YtlppoapbkmbipaaDoorLib10
namespace Go.Proofs.YtlppoapbkmbipaaDoor
open Go
set_option linter.unusedVariables false

/-- What is known of the program's tables, in every world that the calls see. -/
structure Gl (w : World) : Prop where
  pow10 : Lib.TabIs Tryd.prog w "internal/strconv.uint64pow10" .u64 Lib.pow10Tab
  maxLen : ∃ m : Int, w.cell? ⟨0, 0, none⟩ = some (.int .i64 m)

theorem var_fr {P : Program} {w w' : World} {name : String} {cs : Array Value} (h : w.var? P name = some cs) (hf : Fr0 w w') : w'.var? P name = some cs := by
  unfold World.var? at h ⊢
  obtain ⟨g, hg, h⟩ := Option.bind_eq_some_iff.1 h
  refine Option.bind_eq_some_iff.2 ⟨g, hg, ?_⟩
  have hb : g < w.heap.size := by
    rcases Nat.lt_or_ge g w.heap.size with hlt | hge
    · exact hlt
    · simp [Array.getElem?_eq_none hge] at h
  rw [hf.block g hb (fun h => h)]
  exact h
theorem cell_fr {w w' : World} {a : Addr} {v : Value} (h : w.cell? a = some v) (hf : Fr0 w w') : w'.cell? a = some v :=
  (World.cell?_of_block (hf.block a.block (World.block_lt_of_cell? w a h) (fun h => h))).trans h
theorem Gl.fr0 {w w' : World} (h : Gl w) (hf : Fr0 w w') : Gl w' :=
  ⟨var_fr h.pow10 hf, let ⟨m, hm⟩ := h.maxLen; ⟨m, cell_fr hm hf⟩⟩

theorem arr_str (s : Str) : (⟨s.toArray⟩ : ByteArray).data.toList = s := by simp

def lib_Itoa (n : Int) : Option Str := if -9223372036854775808 ≤ n ∧ n ≤ 9223372036854775807 then some (Lib.itoa n) else none
theorem lib_Itoa.ok {n : Int} {r : Str} {W0 : World} (F : lib_Itoa n = some r) (hg : Gl W0) :
    Calls Tryd.prog 45 [(.int .i64 n : Value)].toArray W0 fun e w' => ∃ v, e = .returned v ∧ (v = vS r ∧ Fr0 W0 w') := by
  unfold lib_Itoa at F
  split at F
  · rename_i hn
    cases F
    refine (Tryd.strconv_Itoa n hn.1 hn.2 W0 hg.pow10).mono ?_
    rintro e w' ⟨rfl, k, os, rfl⟩
    refine ⟨_, rfl, rfl, Fr0.tr (Fr.drewN W0 k) ⟨rfl, rfl, rfl, by simp [Go.Sort.grow], fun b hb _ => ?_⟩⟩
    simp only [Go.Sort.grow]
    rw [Array.getElem?_append_left hb]
  · cases F

def lib_Repeat (s : Str) (c : Int) : Option Str := if 0 ≤ c ∧ c ≤ 9223372036854775807 ∧ s.length * c.toNat ≤ 140737488355328 then some (Lib.repeatL s c.toNat) else none
theorem lib_Repeat.ok {s : Str} {c : Int} {r : Str} {W0 : World} (F : lib_Repeat s c = some r) (hg : Gl W0) :
    Calls Tryd.prog 46 [vS s, (.int .i64 c : Value)].toArray W0 fun e w' => ∃ v, e = .returned v ∧ (v = vS r ∧ Fr0 W0 w') := by
  unfold lib_Repeat at F
  split at F
  · rename_i hn
    cases F
    obtain ⟨m, rfl⟩ := Int.eq_ofNat_of_zero_le hn.1
    refine (Tryd.strings_Repeat (⟨s.toArray⟩ : ByteArray) m W0 (by omega) (by rw [size_str]; exact hn.2.2)).mono ?_
    rintro e w' ⟨rfl, hb⟩
    exact ⟨_, rfl, by rw [arr_str]; rfl, Fr.of_below hb⟩
  · cases F

def lib_TrimRight (s cs : Str) : Option Str := match cs with
  | [c] => if c.toNat < 128 ∧ s.length ≤ 9223372036854775807 then some (Lib.trimRightB s c) else none
  | _ => none
theorem lib_TrimRight.ok {s cs r : Str} {W0 : World} (F : lib_TrimRight s cs = some r) (hg : Gl W0) :
    Calls Tryd.prog 47 [vS s, vS cs].toArray W0 fun e w' => ∃ v, e = .returned v ∧ (v = vS r ∧ Fr0 W0 w') := by
  unfold lib_TrimRight at F
  split at F
  · rename_i c
    split at F
    · rename_i hc
      cases F
      refine (Tryd.strings_TrimRight_one ⟨s.toArray⟩ c hc.1 W0 (by rw [size_str]; exact hc.2)).mono ?_
      rintro e w' ⟨rfl, rfl⟩
      exact ⟨_, rfl, by rw [arr_str]; rfl, Fr0.refl _⟩
    · cases F
  · cases F

def lib_CutPrefix (s p : Str) : Option (Str × Bool) := some (Lib.trimPrefix s p, Lib.hasPrefix s p)
theorem lib_CutPrefix.ok {s p : Str} {r : Str × Bool} {W0 : World} (F : lib_CutPrefix s p = some r) (hg : Gl W0) :
    Calls Tryd.prog 48 [vS s, vS p].toArray W0 fun e w' => ∃ v, e = .returned v ∧ (v = .tuple #[vS r.1, .bool r.2] ∧ Fr0 W0 w') := by
  cases F
  refine (Tryd.strings_CutPrefix ⟨s.toArray⟩ ⟨p.toArray⟩ W0).mono ?_
  rintro e w' ⟨rfl, rfl⟩
  exact ⟨_, rfl, by rw [arr_str, arr_str]; rfl, Fr0.refl _⟩

def lib_Cut (s p : Str) : Option (Str × Str × Bool) := if s.length < 4294967281 then some (Lib.cut s p) else none
theorem lib_Cut.ok {s p : Str} {r : Str × Str × Bool} {W0 : World} (F : lib_Cut s p = some r) (hg : Gl W0) :
    Calls Tryd.prog 49 [vS s, vS p].toArray W0 fun e w' => ∃ v, e = .returned v ∧ (v = .tuple #[vS r.1, vS r.2.1, .bool r.2.2] ∧ Fr0 W0 w') := by
  unfold lib_Cut at F
  split at F
  · rename_i hs
    cases F
    obtain ⟨m, hm⟩ := hg.maxLen
    refine (Tryd.strings_Cut ⟨s.toArray⟩ ⟨p.toArray⟩ m W0 (by rw [size_str]; exact hs) hm).mono ?_
    rintro e w' ⟨rfl, k, rfl⟩
    exact ⟨_, rfl, by rw [arr_str, arr_str]; rfl, Fr.drewN _ _⟩
  · cases F
end Go.Proofs.YtlppoapbkmbipaaDoor
