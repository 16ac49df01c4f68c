/- The base of rows: the world for the witness, and what the listed tables give a call. -/
import Derived.Test.YtneahkibnaoiiaaDoorCards
import Derived.Test.YtneahkibnaoiiaaDoorTie
import Derived.Test.YtneahkibnaoiiaaDoorDgAdp
import Derived.WalkKit
import Derived.ProofKit
import Derived.OpenShut
import Derived.ShutString
import Derived.Below
import Derived.Lay
import Derived.MakeChecks
import Derived.Shelf.Vars
import Derived.Stop.LaidErr
import Derived.Deep.DeepHandedRow
import Derived.Lib.LaidTab
namespace Go.Proofs.YtneahkibnaoiiaaDoor.Dg
open Go
set_option maxRecDepth 100000
theorem own : ownKnob Tryd.prog.godebug = none := by kernel_rfl
def laidL : List (String × DataW Unit) := Rows.digestReadsRow.laid
noncomputable def laidW (os : Os) : World := World.laidAll Tryd.prog os laidL
theorem laidW_met (os : Os) (args : Array Value) : laidMet Tryd.prog laidL ((laidW os).forCall (fun _ _ => 0) ⟨#[], args, []⟩).memory :=
  laidMet_laidAll args (by kernel_rfl) (by kernel_rfl)
theorem laidW_shaped (os : Os) (args : Array Value) : ((laidW os).forCall (fun _ _ => 0) ⟨#[], args, []⟩).Shaped Tryd.prog :=
  World.shaped_of_ZipB (by kernel_rfl) (by kernel_rfl)
theorem gl_of {w : World} (hL : laidMetH Tryd.prog laidL w) (hs : w.ShapedOpen Tryd.prog) : Gl w := by
  rw [MakeChecks.laidMetH_plain _ _ _ (by kernel_rfl)] at hL
  exact ⟨GTab.of_tab (Lib.tabIs_of_head (zs := tab0) (rest := [_]) (g := 0) (t := 100) (by kernel_rfl) (by kernel_rfl) Tryd.underlying100 (by kernel_rfl) (by kernel_rfl) (by kernel_rfl) (hL.tail.tail.tail.tail.tail)) (by kernel_rfl),
    GTab.of_tab (Lib.tabIs_of_head (zs := tab1) (rest := []) (g := 1) (t := 101) (by kernel_rfl) (by kernel_rfl) Tryd.underlying101 (by kernel_rfl) (by kernel_rfl) (by kernel_rfl) (hL.tail.tail.tail.tail.tail.tail)) (by kernel_rfl),
    iface_of_laid (r := [_, _]) (g := 2) (t := 89) (hL.tail.tail.tail.tail) (by kernel_rfl) (by kernel_rfl) Tryd.underlying89,
    iface_of_laid (r := [_, _, _]) (g := 3) (t := 89) (hL.tail.tail.tail) (by kernel_rfl) (by kernel_rfl) Tryd.underlying89,
    Lib.tabIs_of_head (zs := Lib.pow10Tab) (rest := [_, _, _, _]) (g := 4) (t := 151) (by kernel_rfl) (by kernel_rfl) Tryd.underlying151 (by kernel_rfl) (by kernel_rfl) (by kernel_rfl) (hL.tail.tail),
    cell_of_shapedOpen_int hs (t := 3) (zero := #[.int .i64 0]) (of_decide_eq_true (by kernel_rfl)) (by kernel_rfl) rfl (by kernel_rfl) (by kernel_rfl) (by kernel_rfl),
    GTab.of_tab (Lib.tabIs_of_head (zs := tab6) (rest := [_, _, _, _, _, _]) (g := 6) (t := 170) (by kernel_rfl) (by kernel_rfl) Tryd.underlying170 (by kernel_rfl) (by kernel_rfl) (by kernel_rfl) (hL)) (by kernel_rfl),
    GTab.of_tab (Lib.tabIs_of_head (zs := tab7) (rest := [_, _, _, _, _]) (g := 7) (t := 171) (by kernel_rfl) (by kernel_rfl) Tryd.underlying171 (by kernel_rfl) (by kernel_rfl) (by kernel_rfl) (hL.tail)) (by kernel_rfl)⟩
end Go.Proofs.YtneahkibnaoiiaaDoor.Dg
