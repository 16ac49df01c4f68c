/- What is known of the program's tables, and the library's functions by the shelf's contracts. -/
import Derived.Test.YtneahkibnaoiiaaDoorShelf
import Derived.Test.YtneahkibnaoiiaaDoorLib11
import Derived.Lib.LaidTab
namespace Go.Proofs.YtneahkibnaoiiaaDoor.Dg
open Go
set_option linter.unusedVariables false

def tab0 : List Int := [13787848793156543929, 10723151780598845931]
def tab1 : List Int := [30, 27, 31]
def tab6 : List Int := [0, 1, 28, 2, 29, 14, 24, 3, 30, 22, 20, 15, 25, 17, 4, 8, 31, 27, 13, 23, 21, 19, 16, 7, 26, 12, 18, 6, 11, 5, 10, 9]
def tab7 : List Int := [0, 1, 56, 2, 57, 49, 28, 3, 61, 58, 42, 50, 38, 29, 17, 4, 62, 47, 59, 36, 45, 43, 51, 22, 53, 39, 33, 30, 24, 18, 12, 5, 63, 55, 48, 27, 60, 41, 37, 16, 46, 35, 44, 21, 52, 32, 23, 11, 54, 26, 40, 15, 34, 20, 31, 10, 25, 14, 19, 9, 13, 8, 7, 6]

/-- What is known of the program's tables, in every world that the calls see. -/
structure Gl (w : World) : Prop where
  t0 : GTab w 0 .u64 tab0
  t1 : GTab w 1 .i64 tab1
  e2 : ∃ v, w.cell? ⟨2, 0, none⟩ = some v ∧ (v = .nilIface ∨ ∃ te pe, v = .iface te pe)
  e3 : ∃ v, w.cell? ⟨3, 0, none⟩ = some v ∧ (v = .nilIface ∨ ∃ te pe, v = .iface te pe)
  pow10 : Lib.TabIs Tryd.prog w "internal/strconv.uint64pow10" .u64 Lib.pow10Tab
  maxLen : ∃ m : Int, w.cell? ⟨5, 0, none⟩ = some (.int .i64 m)
  t6 : GTab w 6 .u8 tab6
  t7 : GTab w 7 .u8 tab7
theorem Gl.fr0 {w w' : World} (h : Gl w) (hf : Fr0 w w') : Gl w' :=
  ⟨fun j x hj => cell_fr (h.t0 j x hj) hf, fun j x hj => cell_fr (h.t1 j x hj) hf, (let ⟨v, h1, h2⟩ := h.e2; ⟨v, cell_fr h1 hf, h2⟩), (let ⟨v, h1, h2⟩ := h.e3; ⟨v, cell_fr h1 hf, h2⟩), var_fr h.pow10 hf, (let ⟨m, hm⟩ := h.maxLen; ⟨m, cell_fr hm hf⟩), fun j x hj => cell_fr (h.t6 j x hj) hf, fun j x hj => cell_fr (h.t7 j x hj) hf⟩

def lib_Itoa (n : Int) : Option Str := if -9223372036854775808 ≤ n ∧ n ≤ 9223372036854775807 then some (Lib.itoa n) else none
theorem lib_Itoa.ok {n : Int} {r : Str} {W0 : World} (F : lib_Itoa n = some r) (hg : Gl W0) :
    Calls Tryd.prog 45 [(.int .i64 n : Value)].toArray W0 fun e w' => ∃ v, e = .returned v ∧ (v = vS r ∧ Fr0 W0 w') := by
  unfold lib_Itoa at F
  split at F
  · rename_i hn
    cases F
    refine (Tryd.strconv_Itoa n hn.1 hn.2 W0 hg.pow10).mono ?_
    rintro e w' ⟨rfl, k, os, rfl⟩
    refine ⟨_, rfl, rfl, Fr0.tr (Fr.drewN W0 k) ⟨rfl, rfl, rfl, by simp [Go.Sort.grow], fun b hb _ => ?_⟩⟩
    simp only [Go.Sort.grow]
    rw [Array.getElem?_append_left hb]
  · cases F


def lib_Repeat (s : Str) (c : Int) : Option Str := if 0 ≤ c ∧ c ≤ 9223372036854775807 ∧ s.length * c.toNat ≤ 140737488355328 then some (Lib.repeatL s c.toNat) else none
theorem lib_Repeat.ok {s : Str} {c : Int} {r : Str} {W0 : World} (F : lib_Repeat s c = some r) (hg : Gl W0) :
    Calls Tryd.prog 49 [vS s, (.int .i64 c : Value)].toArray W0 fun e w' => ∃ v, e = .returned v ∧ (v = vS r ∧ Fr0 W0 w') := by
  unfold lib_Repeat at F
  split at F
  · rename_i hn
    cases F
    obtain ⟨m, rfl⟩ := Int.eq_ofNat_of_zero_le hn.1
    refine (Tryd.strings_Repeat (⟨s.toArray⟩ : ByteArray) m W0 (by omega) (by rw [size_str]; exact hn.2.2)).mono ?_
    rintro e w' ⟨rfl, hb⟩
    exact ⟨_, rfl, by rw [arr_str]; rfl, Fr.of_below hb⟩
  · cases F


def lib_toError (fn s : Str) (base bits : Int) (e : Value) : Option Bool := match e with
  | .iface t (.int .i64 k) => if t = 126 ∧ (k = 1 ∨ k = 2) ∧ s.length ≤ 281474976710656 then some true else none
  | _ => none
theorem lib_toError.ok {fn s : Str} {base bits : Int} {e : Value} {r : Bool} {W0 : World} (F : lib_toError fn s base bits e = some r) (hg : Gl W0) :
    Calls Tryd.prog 75 [vS fn, vS s, (.int .i64 base : Value), (.int .i64 bits : Value), e].toArray W0 fun e w' => ∃ v, e = .returned v ∧ ∃ e1, ErrV r e1 ∧ (v = e1 ∧ Fr0 W0 w') := by
  unfold lib_toError at F
  split at F
  · rename_i t k
    split at F
    · rename_i hc
      cases F
      obtain ⟨rfl, hk, hs⟩ := hc
      rcases hk with rfl | rfl
      · obtain ⟨ev, h1, h2⟩ := hg.e3
        refine (Tryd.strconv_toError_range (⟨fn.toArray⟩ : ByteArray) (⟨s.toArray⟩ : ByteArray) base bits ev W0 (by rw [size_str]; exact hs) h1 h2).mono ?_
        rintro e w' ⟨m, rfl, _, _, hb⟩
        exact ⟨_, rfl, _, ErrV.some _ _, rfl, Fr.of_below hb⟩
      · obtain ⟨ev, h1, h2⟩ := hg.e2
        refine (Tryd.strconv_toError_syntax (⟨fn.toArray⟩ : ByteArray) (⟨s.toArray⟩ : ByteArray) base bits ev W0 (by rw [size_str]; exact hs) h1 h2).mono ?_
        rintro e w' ⟨m, rfl, _, _, hb⟩
        exact ⟨_, rfl, _, ErrV.some _ _, rfl, Fr.of_below hb⟩
    · cases F
  · cases F

end Go.Proofs.YtneahkibnaoiiaaDoor.Dg
