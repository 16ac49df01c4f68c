/- What is known of the program's tables, and the library's functions by the shelf's contracts. -/
import Derived.Test.YtflmncjhonmmhaaDoorVcShelf
import Derived.Test.YtflmncjhonmmhaaDoorVcTy
import Derived.Lib.LaidTab
namespace Go.Proofs.YtflmncjhonmmhaaDoor.Vc
open Go
set_option linter.unusedVariables false

def tab0 : List Int := [-8, 0, 0, 1, 0, 0, 0]
def tab1 : List Int := [8, 0, 15, 3, 1, 15, 255]
def tab2 : List Str := [[120], [], [116, 111], [112, 111, 119, 101, 114], [111, 110], [116, 111], [119, 104, 97, 116]]
def tab12 : List Int := [0, 1, 28, 2, 29, 14, 24, 3, 30, 22, 20, 15, 25, 17, 4, 8, 31, 27, 13, 23, 21, 19, 16, 7, 26, 12, 18, 6, 11, 5, 10, 9]
def tab13 : List Int := [0, 1, 56, 2, 57, 49, 28, 3, 61, 58, 42, 50, 38, 29, 17, 4, 62, 47, 59, 36, 45, 43, 51, 22, 53, 39, 33, 30, 24, 18, 12, 5, 63, 55, 48, 27, 60, 41, 37, 16, 46, 35, 44, 21, 52, 32, 23, 11, 54, 26, 40, 15, 34, 20, 31, 10, 25, 14, 19, 9, 13, 8, 7, 6]

/-- What is known of the program's tables, in every world that the calls see. -/
structure Gl (w : World) : Prop where
  t0 : GT w 0 (encI .i64) tab0
  t1 : GT w 1 (encI .i64) tab1
  t2 : GT w 2 encS tab2
  e6 : ∃ v, w.cell? ⟨6, 0, none⟩ = some v ∧ (v = .nilIface ∨ ∃ te pe, v = .iface te pe)
  e7 : ∃ v, w.cell? ⟨7, 0, none⟩ = some v ∧ (v = .nilIface ∨ ∃ te pe, v = .iface te pe)
  pow10 : Lib.TabIs Tryd.prog w "internal/strconv.uint64pow10" .u64 Lib.pow10Tab
  maxLen : ∃ m : Int, w.cell? ⟨9, 0, none⟩ = some (.int .i64 m)
  t12 : GT w 12 (encI .u8) tab12
  t13 : GT w 13 (encI .u8) tab13
theorem Gl.fr0 {w w' : World} (h : Gl w) (hf : Fr0 w w') : Gl w' :=
  ⟨h.t0.fr hf, h.t1.fr hf, h.t2.fr hf, (let ⟨v, h1, h2⟩ := h.e6; ⟨v, cell_fr h1 hf, h2⟩), (let ⟨v, h1, h2⟩ := h.e7; ⟨v, cell_fr h1 hf, h2⟩), var_fr h.pow10 hf, (let ⟨m, hm⟩ := h.maxLen; ⟨m, cell_fr hm hf⟩), h.t12.fr hf, h.t13.fr hf⟩

def lib_Itoa (n : Int) : Option Str := if -9223372036854775808 ≤ n ∧ n ≤ 9223372036854775807 then some (Lib.itoa n) else none
theorem lib_Itoa.ok {n : Int} {r : Str} {W0 : World} (F : lib_Itoa n = some r) (hg : Gl W0) :
    Calls Tryd.prog 52 [(.int .i64 n : Value)].toArray W0 fun e w' => ∃ v, e = .returned v ∧ (v = vS r ∧ Fr0 W0 w') := by
  unfold lib_Itoa at F
  split at F
  · rename_i hn
    cases F
    refine (Tryd.strconv_Itoa n hn.1 hn.2 W0 hg.pow10).mono ?_
    rintro e w' ⟨rfl, k, os, rfl⟩
    refine ⟨_, rfl, rfl, Fr0.tr (Fr.drewN W0 k) ⟨rfl, rfl, rfl, by simp [Go.Sort.grow], fun b hb _ => ?_⟩⟩
    simp only [Go.Sort.grow]
    rw [Array.getElem?_append_left hb]
  · cases F


def lib_Repeat (s : Str) (c : Int) : Option Str := if 0 ≤ c ∧ c ≤ 9223372036854775807 ∧ s.length * c.toNat ≤ 140737488355328 then some (Lib.repeatL s c.toNat) else none
theorem lib_Repeat.ok {s : Str} {c : Int} {r : Str} {W0 : World} (F : lib_Repeat s c = some r) (hg : Gl W0) :
    Calls Tryd.prog 89 [vS s, (.int .i64 c : Value)].toArray W0 fun e w' => ∃ v, e = .returned v ∧ (v = vS r ∧ Fr0 W0 w') := by
  unfold lib_Repeat at F
  split at F
  · rename_i hn
    cases F
    obtain ⟨m, rfl⟩ := Int.eq_ofNat_of_zero_le hn.1
    refine (Tryd.strings_Repeat (⟨s.toArray⟩ : ByteArray) m W0 (by omega) (by rw [size_str]; exact hn.2.2)).mono ?_
    rintro e w' ⟨rfl, hb⟩
    exact ⟨_, rfl, by rw [arr_str]; rfl, Fr.of_below hb⟩
  · cases F


def lib_Join (xs : List Str) (sep : Str) : Option Str := if xs.length ≤ 140737488355328 ∧ (Lib.join xs sep).length ≤ 140737488355328 then some (Lib.join xs sep) else none
theorem lib_Join.ok {E : TypeId} {p : Option Addr} {c : Nat} {xs : List Str} {sep r : Str} {W0 : World} (F : lib_Join xs sep = some r) (hA : ∃ F, (ASl E encS p c xs).holds W0 F) (hg : Gl W0) :
    Calls Tryd.prog 53 [(.slice p xs.length c : Value), vS sep].toArray W0 fun e w' => ∃ v, e = .returned v ∧ (v = vS r ∧ Fr0 W0 w') := by
  unfold lib_Join at F
  split at F
  · rename_i hc
    cases F
    obtain ⟨F, ⟨hl, h1⟩, _⟩ := hA
    rcases h1 with ⟨hv, hn⟩ | ⟨g, cap, cur, hv, _, hb, h3, _, _, h6⟩
    · obtain rfl : xs = [] := List.eq_nil_of_length_eq_zero hn
      rw [hv]
      refine (Tryd.strings_Join_none none 0 (⟨sep.toArray⟩ : ByteArray) W0).mono ?_
      rintro e w' ⟨rfl, rfl⟩
      exact ⟨_, rfl, rfl, Fr0.refl _⟩
    · injection hv with hp hn hcc
      subst hp; subst hcc
      have hm : (xs.map fun s => (⟨s.toArray⟩ : ByteArray)).map (·.data.toList) = xs := by
        rw [List.map_map]
        conv => rhs; rw [← List.map_id xs]
        apply List.map_congr_left
        intro s _
        simp
      have hlt : g < W0.heap.size := (Array.getElem?_eq_some_iff.1 hb).1
      have hj := Tryd.strings_Join g 0 c (xs.map fun s => (⟨s.toArray⟩ : ByteArray)) (⟨sep.toArray⟩ : ByteArray) W0 (fun j x hx => ?_) hlt (by simpa using hc.1) (by simpa using h3) (by rw [hm]; simpa using hc.2)
      · rw [hm, List.length_map] at hj
        refine hj.mono ?_
        rintro e w' ⟨rfl, hbl⟩
        exact ⟨_, rfl, by simp [vS], Fr.of_below hbl⟩
      · rw [Nat.zero_add]
        simp only [List.getElem?_map, Option.map_eq_some_iff] at hx
        obtain ⟨s, hs, rfl⟩ := hx
        have e1 := encS.flat_get xs j 0 s (vS s) hs rfl
        have e0 : j * encS.k + 0 = j := by show j * 1 + 0 = j; omega
        rw [e0, ← h6, List.getElem?_take] at e1
        split at e1
        · simp [World.cell?, hb]
          simpa [vS] using e1
        · cases e1
  · cases F


def lib_Split (s sep : Str) : Option (List Str) := if s.length < 4294967281 ∧ 1 ≤ sep.length then some (Lib.split s sep) else none
theorem lib_Split.ok {s sep : Str} {r : List Str} {W0 : World} (F : lib_Split s sep = some r) (hg : Gl W0) :
    Calls Tryd.prog 65 [vS s, vS sep].toArray W0 fun e w' => ∃ v, e = .returned v ∧ ∃ q0 d0, (v = .slice q0 r.length d0 ∧ H W0 (fun _ => False) w' [] [ASl 9 encS q0 d0 r]) := by
  unfold lib_Split at F
  split at F
  · rename_i hc
    cases F
    obtain ⟨m, hm⟩ := hg.maxLen
    refine (Tryd.strings_Split (⟨s.toArray⟩ : ByteArray) (⟨sep.toArray⟩ : ByteArray) m W0 (by rw [size_str]; exact hc.1) hm (by rw [size_str]; exact hc.2)).mono ?_
    rintro e w' ⟨rfl, rfl⟩
    have hl : (Lib.splitB (⟨sep.toArray⟩ : ByteArray) 0 (Lib.countB (⟨s.toArray⟩ : ByteArray) (⟨sep.toArray⟩ : ByteArray)) (⟨s.toArray⟩ : ByteArray)).length = Lib.countB (⟨s.toArray⟩ : ByteArray) (⟨sep.toArray⟩ : ByteArray) + 1 :=
      Lib.splitB_all _ (by rw [size_str]; exact hc.2) 0 _ _ rfl
    have hk : Lib.countB (⟨s.toArray⟩ : ByteArray) (⟨sep.toArray⟩ : ByteArray) + 1 ≤ 4294967296 := by
      have := Lib.countB_le (⟨sep.toArray⟩ : ByteArray) (by rw [size_str]; exact hc.2) _ (⟨s.toArray⟩ : ByteArray) (Nat.le_refl _)
      have hz : (⟨s.toArray⟩ : ByteArray).size = s.length := size_str s
      omega
    have hd := Lib.splitB_data (⟨sep.toArray⟩ : ByteArray) 0 (Lib.countB (⟨s.toArray⟩ : ByteArray) (⟨sep.toArray⟩ : ByteArray)) (⟨s.toArray⟩ : ByteArray)
    have hs : Lib.splitK (⟨sep.toArray⟩ : ByteArray).data.toList 0 (Lib.countB (⟨s.toArray⟩ : ByteArray) (⟨sep.toArray⟩ : ByteArray)) (⟨s.toArray⟩ : ByteArray).data.toList = Lib.split s sep := by
      simp [Lib.split, Lib.countB]
    rw [hs] at hd
    generalize Lib.countB (⟨s.toArray⟩ : ByteArray) (⟨sep.toArray⟩ : ByteArray) = k at *
    generalize Lib.splitB (⟨sep.toArray⟩ : ByteArray) 0 k (⟨s.toArray⟩ : ByteArray) = X at *
    have hf : encS.flat (Lib.split s sep) = X.map Value.string := by
      rw [← hd]
      clear hd hl
      induction X with
      | nil => rfl
      | cons x X ih => simp only [List.map_cons, Enc.flat, List.flatMap_cons] at ih ⊢; rw [ih]; rfl
    have hn : (Lib.split s sep).length = k + 1 := by rw [← hd, List.length_map, hl]
    refine ⟨_, rfl, some ⟨W0.heap.size, 0, none⟩, k + 1, by rw [hn], ?_⟩
    refine (H.nil W0).new (L := []) (Fr.alloc W0 _) (F' := fun b => b = W0.heap.size) ⟨⟨?_, .inr ⟨W0.heap.size, k + 1, _, by rw [hn], Nat.zero_le _, heap_alloc_new W0 _, by rw [hn]; exact Nat.le_refl _, ?_, ?_, ?_⟩⟩, fun x => by simp [Value.ownBlock, eq_comm]⟩ ?_
    · rw [encS.flat_len]
    · have : maxLen = 9223372036854775807 := rfl
      omega
    · simp [hl, encS]
    · rw [hf, hn]
      have : ((k + 1) * encS.k) = (X.map Value.string).length := by simp [hl, encS]
      rw [this]
      exact List.take_length
    · intro b hb
      subst hb
      exact ⟨by simp, Nat.le_refl _⟩
  · cases F


def lib_Atoi (s : Str) : Option (Int × Bool) := if s.length ≤ 281474976710656 then (match Lib.atoiAll s with | .ok v => some (v, false) | x => some (if x = .range then Lib.atoiSat s else 0, true)) else none
theorem lib_Atoi.ok {s : Str} {r : Int × Bool} {W0 : World} (F : lib_Atoi s = some r) (hg : Gl W0) :
    Calls Tryd.prog 66 [vS s].toArray W0 fun e w' => ∃ v, e = .returned v ∧ ∃ e1, ErrV r.2 e1 ∧ (v = .tuple #[.int .i64 r.1, e1] ∧ Fr0 W0 w') := by
  unfold lib_Atoi at F
  split at F
  · rename_i hc
    have hs : (⟨s.toArray⟩ : ByteArray).data.toList = s := by simp
    cases h : Lib.atoiAll s with
    | ok v =>
      rw [h] at F
      cases F
      refine (Tryd.strconv_Atoi_ok (⟨s.toArray⟩ : ByteArray) (by rw [size_str]; omega) v (by rw [hs]; exact h) W0).mono ?_
      rintro e w' ⟨rfl, hw⟩
      refine ⟨_, rfl, _, ErrV.none, rfl, ?_⟩
      rcases hw with rfl | ⟨t, rfl⟩
      · exact Fr0.refl _
      · exact bytesWorld_fr W0 _ t
    | range =>
      rw [h] at F
      cases F
      obtain ⟨ev, h1, h2⟩ := hg.e7
      refine (Tryd.strconv_Atoi_range (⟨s.toArray⟩ : ByteArray) (by rw [size_str]; exact hc) (by rw [hs]; exact h) ev W0 h1 h2).mono ?_
      rintro e w' ⟨m, rfl, _, _, hb⟩
      exact ⟨_, rfl, _, ErrV.some _ _, by rw [hs]; rfl, Fr.of_below hb⟩
    | _ =>
      rw [h] at F
      cases F
      obtain ⟨ev, h1, h2⟩ := hg.e6
      refine (Any.strconv_Atoi_syntax Tryd.laysC172 (⟨s.toArray⟩ : ByteArray) (by rw [size_str]; exact hc) (by rw [hs]; exact h) ev W0 h1 h2).mono ?_
      rintro e w' ⟨m, rfl, _, _, hb⟩
      exact ⟨_, rfl, _, ErrV.some _ _, rfl, Fr.of_below hb⟩
  · cases F

theorem set_self {L : List Asn} {i : Nat} {A : Asn} (hi : L[i]? = some A) : L.set i A = L := by
  apply List.ext_getElem?
  intro j
  by_cases hj : i = j
  · subst hj; rw [List.getElem?_set_self (List.getElem?_eq_some_iff.1 hi).1, hi]
  · rw [List.getElem?_set_ne hj]
theorem bldF0 : fieldOff Tryd.prog 92 0 = some 0 := by kernel_rfl
theorem bldF1 : fieldOff Tryd.prog 92 1 = some 1 := by kernel_rfl
theorem bldSP : shapeOf Tryd.prog 90 = some (false, 1) := by kernel_rfl
theorem bldSB : shapeOf Tryd.prog 50 = some (false, 1) := by kernel_rfl
theorem bldUP : Tryd.prog.underlying 90 = some (.pointer 92) := by kernel_rfl
theorem bldUU : Tryd.prog.underlying 144 = some .unsafePointer := by kernel_rfl
theorem bldUB : Tryd.prog.underlying 50 = some (.slice 5) := by kernel_rfl
theorem bldUS : Tryd.prog.underlying 9 = some .string := by kernel_rfl
theorem bldIT : (Tryd.prog.info? 92).map (fun j => Nat.beq j.size 0) = some false := by kernel_rfl
theorem bldIs : (Tryd.prog.info? 92).isSome = true := by kernel_rfl
theorem bldIP : (Tryd.prog.info? 90).map (·.size) = some 1 := by kernel_rfl
theorem bldIB : (Tryd.prog.info? 50).map (·.size) = some 1 := by kernel_rfl
theorem bldIE : (Tryd.prog.info? 5).map (fun i => (i.zero, i.size, i.bytes)) = some (some (.int .u8 0), 1, 1) := by kernel_rfl
theorem bldLie : liesAt Tryd.prog Tryd.prog.depth 92 (2 / Tryd.prog.cellsOf 92) 0 92 1 = true := by kernel_rfl
theorem bldNE : ∀ (args : Array Value) (w : World), (callFunc 99 args).run Tryd.prog w = ((Extern.AbiNoEscape.same args).run Tryd.prog w).andThen fun v w' => .ok (.value v) w' :=
  fun args w => run_callFunc_extern Tryd.func99 (by kernel_rfl) (by kernel_rfl) (by kernel_rfl) (by kernel_rfl) args w
theorem H.reclose {W0 w : World} {S : FP} {D L : List Asn} {b : Nat} {s s' : Str} {a p : Option Addr} {c i : Nat} (hl : i < L.length) (ha : a = none ∨ a = some ⟨b, 0, none⟩)
    (h : H W0 S w D (L.set i (ABox b 92 #[.pointer a, .slice p (byt s').length c]) ++ [ASl 5 (encI .u8) p c (byt s')])) : H W0 S w D (L.set i (ABld 92 5 b s')) := by
  have h1 : (L.set i (ABox b 92 #[.pointer a, .slice p (byt s').length c]) ++ [ASl 5 (encI .u8) p c (byt s')])[i]? = some (ABox b 92 #[.pointer a, .slice p (byt s').length c]) := by
    rw [List.getElem?_append_left (by simpa using hl), List.getElem?_set_self hl]
  have h2 : (L.set i (ABox b 92 #[.pointer a, .slice p (byt s').length c]) ++ [ASl 5 (encI .u8) p c (byt s')])[L.length]? = some (ASl 5 (encI .u8) p c (byt s')) := by simp
  have := h.closeBld i L.length h1 h2 (by omega) ha
  rw [set_app_set hl, set_app_last] at this
  exact this.drop
theorem bld_copyCheck {W0 w : World} {S : FP} {D L : List Asn} {b : Nat} {s : Str} (i : Nat) (h : H W0 S w D L) (hi : L[i]? = some (ABld 92 5 b s)) :
    Calls Tryd.prog 81 [(.pointer (some ⟨b, 0, none⟩) : Value)].toArray w fun e w' => ∃ v, e = .returned v ∧ (v = .tuple #[] ∧ H W0 S w' D L) := by
  obtain ⟨a, p, c, ha, h⟩ := h.openBld i hi
  have hl := (List.getElem?_eq_some_iff.1 hi).1
  obtain ⟨h1, h2, h3⟩ := set_app (A := ABox b 92 #[.pointer a, .slice p (byt s).length c]) (B := ASl 5 (encI .u8) p c (byt s)) hi
  have fin : ∀ {w : World} {a : Option Addr}, (a = none ∨ a = some ⟨b, 0, none⟩) → H W0 S w D (L.set i (ABox b 92 #[.pointer a, .slice p (byt s).length c]) ++ [ASl 5 (encI .u8) p c (byt s)]) → H W0 S w D L := by
    intro w a ha h
    have := H.reclose (s := s) hl ha h
    rwa [set_self hi] at this
  refine calls_body 20 Tryd.func81 rfl rfl rfl ?_
  refine T.seq fun K1 k1 => ?_
  refine T.region ?_
  refine R.mv rfl rfl (R.nck rfl rfl (R.fldB rfl bldF0 rfl (R.ld rfl bldSP rfl (h.box i 0 h1 rfl) (R.pn (r := a.isNone) rfl ⟨_, bldUP⟩ rfl rfl ?_ (R.nil (k1 _ _ ?_))))))
  · cases a <;> rfl
  rcases ha with rfl | rfl
  · refine T.condT rfl ?_
    refine T.region ?_
    refine R.mv rfl rfl (R.mv rfl rfl (R.toU i rfl h h1 bldUP bldUU bldIT rfl rfl (R.noEsc rfl bldNE rfl (R.fromU i rfl h h1 bldUU bldUP bldIs bldLie rfl (R.nck rfl rfl (R.fldB rfl bldF0 rfl (R.stB (ds := [.pointer (some ⟨b, 0, none⟩)]) i h h1 bldIP rfl rfl rfl rfl rfl (fun w h => R.nil ?_))))))))
    rw [set_app_set hl] at h
    exact endG (vs := []) [] rfl trivial ⟨rfl, fin (.inr rfl) h⟩
  · refine T.condF rfl ?_
    refine T.seq fun K2 k2 => ?_
    refine T.region ?_
    refine R.mv rfl rfl (R.nck rfl rfl (R.fldB rfl bldF0 rfl (R.ld rfl bldSP rfl (h.box i 0 h1 rfl) (R.mv rfl rfl (R.pSame rfl bldUP bldIs rfl rfl (R.nil (k2 _ _ ?_)))))))
    refine T.condF rfl ?_
    exact T.skip (endG (vs := []) [] rfl trivial ⟨rfl, fin (.inr rfl) h⟩)
theorem lib_WriteString {W0 w : World} {S : FP} {D L : List Asn} {b : Nat} {s x : Str} (i : Nat) (h : H W0 S w D L) (hi : L[i]? = some (ABld 92 5 b s)) (hx : s.length + x.length ≤ 200000000000000 ∧ x.length ≤ 140737488355328) :
    Calls Tryd.prog 49 [(.pointer (some ⟨b, 0, none⟩) : Value), vS x].toArray w fun e w' => ∃ v, e = .returned v ∧ (v = .tuple #[.int .i64 (x.length : Int), .nilIface] ∧ H W0 S w' D (L.set i (ABld 92 5 b (s ++ x)))) := by
  refine calls_body 19 Tryd.func49 rfl rfl rfl ?_
  refine T.seq fun K1 k1 => ?_
  refine T.region ?_
  refine R.as rfl rfl (R.as rfl rfl (R.nil (k1 _ _ ?_)))
  refine T.seq fun K2 k2 => ?_
  refine T.region ?_
  refine R.mv rfl rfl (R.callC (fl := []) (cl := []) rfl ⟨⟨_, Tryd.func81, rfl, by decide⟩⟩ rfl rfl (bld_copyCheck i h hi) ?_)
  rintro _ w ⟨rfl, h⟩
  refine R.nil (k2 _ _ ?_)
  obtain ⟨a, p, c, ha, h⟩ := h.openBld i hi
  have hl := (List.getElem?_eq_some_iff.1 hi).1
  obtain ⟨h1, h2, h3⟩ := set_app (A := ABox b 92 #[.pointer a, .slice p (byt s).length c]) (B := ASl 5 (encI .u8) p c (byt s)) hi
  refine T.seq fun K3 k3 => ?_
  refine T.region ?_
  refine R.mv rfl rfl (R.mv rfl rfl (R.nck rfl rfl (R.fldB rfl bldF1 rfl (R.ld rfl bldSB rfl (h.box i 1 h1 rfl) (R.mv rfl rfl (R.appSw L.length rfl h h2 bldUB bldUS bldIE rfl rfl (by simpa [byt, bytes] using hx) ?_))))))
  intro p' c' w h
  rw [set_app_last] at h
  have h4 : (L.set i (ABox b 92 #[.pointer a, .slice p (byt s).length c]) ++ [ASl 5 (encI .u8) p' c' (byt s ++ byt x)])[i]? = some (ABox b 92 #[.pointer a, .slice p (byt s).length c]) := by
    rw [List.getElem?_append_left (by simpa using hl), List.getElem?_set_self hl]
  refine R.nck rfl rfl (R.fldB rfl bldF1 rfl (R.stB (ds := [.slice p' (byt s ++ byt x).length c']) i h h4 bldIB rfl rfl rfl rfl rfl (fun w h => R.nil (k3 _ _ ?_))))
  rw [set_app_set hl] at h
  have hb : byt s ++ byt x = byt (s ++ x) := by simp [byt, bytes]
  rw [hb] at h
  have hfin := H.reclose (s := s) hl ha h
  refine T.seq fun K4 k4 => ?_
  refine T.region ?_
  refine R.mv rfl rfl (R.lenS rfl bldUS rfl (R.as rfl rfl (R.as rfl rfl (R.nil (k4 _ _ ?_)))))
  exact T.ret (retG (vs := [.int .i64 (x.length : Int), .nilIface]) [.tmp 4, .tmp 5] rfl ⟨rfl, rfl, trivial⟩ ⟨rfl, hfin⟩)
theorem lib_String {W0 w : World} {D L : List Asn} {b : Nat} {s : Str} (i : Nat) (h : H W0 (fun _ => False) w D L) (hi : L[i]? = some (ABld 92 5 b s)) :
    Calls Tryd.prog 50 [(.pointer (some ⟨b, 0, none⟩) : Value)].toArray w fun e w' => ∃ v, e = .returned v ∧ (v = vS s ∧ Fr0 W0 w') := by
  have hfr := h.frame
  obtain ⟨FD, FL, h⟩ := h
  obtain ⟨a, p, c, G, h1, h2, h3, h4, h5⟩ := h.lh i _ hi
  have hlow : ∀ x, FL i x → W0.heap.size ≤ x := fun x hx => (h.lb i _ hi x hx).2.resolve_left (fun h => h)
  have hcells : Lib.byteCells s = (encI .u8).flat (byt s) := by
    rw [flatI]
    simp [Lib.byteCells, byt, bytes]
  have hbl : (Lib.byteCells s).length = (byt s).length := by simp [Lib.byteCells, byt, bytes]
  have hown : w.ownsRow W0.heap.size 5 1 (.slice p (byt s).length c) (Lib.byteCells s).length (Lib.byteCells s) := by
    rw [hbl, hcells]
    refine ⟨h3.1.1, ?_⟩
    rcases h3.1.2 with hn | ⟨g, cap, cur, hv, _, r⟩
    · exact .inl hn
    · refine .inr ⟨g, cap, cur, hv, hlow g ((h5 g).2 (.inr ((h3.2 g).2 (by rw [hv]; rfl)))), r⟩
  have hne : (Value.slice p (byt s).length c).ownBlock ≠ some b := fun e => h4 ((h3.2 b).2 e)
  have hbld : Lib.IsBuilder 92 5 W0.heap.size b (Lib.byteCells s) w := by
    have hb := hlow b ((h5 b).2 (.inl rfl))
    rcases h1 with rfl | rfl
    · exact .inl ⟨hb, _, h2, hown, hne⟩
    · exact .inr ⟨hb, _, h2, hown, hne⟩
  refine (Tryd.Builder_String_any W0.heap.size b s w hbld hfr.size).mono ?_
  rintro e w' ⟨rfl, hbw⟩
  refine ⟨_, rfl, rfl, ?_⟩
  exact ⟨hbw.os.trans hfr.os, hbw.tape.trans hfr.tape, hbw.output.trans hfr.output, Nat.le_trans hfr.size hbw.size, fun x hx _ => (hbw.block x hx).trans (hfr.block x hx (fun h => h))⟩

end Go.Proofs.YtflmncjhonmmhaaDoor.Vc
