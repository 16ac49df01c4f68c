/- The base of rows: the world for the witness, and what the listed tables give a call. -/
import Derived.Test.YtflmncjhonmmhaaDoorCards
import Derived.Test.YtflmncjhonmmhaaDoorTie
import Derived.Test.YtflmncjhonmmhaaDoorVcAdp
import Derived.WalkKit
import Derived.ProofKit
import Derived.OpenShut
import Derived.ShutString
import Derived.Below
import Derived.Lay
import Derived.MakeChecks
import Derived.Shelf.Vars
import Derived.Stop.LaidErr
import Derived.Deep.DeepHandedRow
import Derived.Lib.LaidTab
namespace Go.Proofs.YtflmncjhonmmhaaDoor.Vc
open Go
set_option maxRecDepth 100000
theorem own : ownKnob Tryd.prog.godebug = none := by kernel_rfl
def laidL : List (String × DataW Unit) := Rows.verbChecksRow.laid
noncomputable def laidW (os : Os) : World := World.laidAll Tryd.prog os laidL
theorem laidW_met (os : Os) (args : Array Value) : laidMet Tryd.prog laidL ((laidW os).forCall (fun _ _ => 0) ⟨#[], args, []⟩).memory :=
  laidMet_laidAll args (by kernel_rfl) (by kernel_rfl)
theorem laidW_shaped (os : Os) (args : Array Value) : ((laidW os).forCall (fun _ _ => 0) ⟨#[], args, []⟩).Shaped Tryd.prog :=
  World.shaped_of_ZipB (by kernel_rfl) (by kernel_rfl)
theorem gl_of {w : World} (hL : laidMetH Tryd.prog laidL w) (hs : w.ShapedOpen Tryd.prog) : Gl w := by
  rw [MakeChecks.laidMetH_plain _ _ _ (by kernel_rfl)] at hL
  exact ⟨GT.ofTab (GTab.of_tab (Lib.tabIs_of_head (zs := tab0) (rest := [_, _, _, _, _, _, _, _]) (g := 0) (t := 122) (by kernel_rfl) (by kernel_rfl) Tryd.underlying122 (by kernel_rfl) (by kernel_rfl) (by kernel_rfl) (hL.tail)) (by kernel_rfl)),
    GT.ofTab (GTab.of_tab (Lib.tabIs_of_head (zs := tab1) (rest := [_, _, _, _, _, _, _]) (g := 1) (t := 122) (by kernel_rfl) (by kernel_rfl) Tryd.underlying122 (by kernel_rfl) (by kernel_rfl) (by kernel_rfl) (hL.tail.tail)) (by kernel_rfl)),
    GT.ofLaid (rest := [_, _, _, _, _, _, _, _, _]) (g := 2) (t := 123) (zs := tab2) (opD_str Tryd.underlying9 (by kernel_rfl)) datS_inj (by kernel_rfl) (by kernel_rfl) Tryd.underlying123 (hL),
    iface_of_laid (r := [_]) (g := 6) (t := 99) (hL.tail.tail.tail.tail.tail.tail.tail.tail) (by kernel_rfl) (by kernel_rfl) Tryd.underlying99,
    iface_of_laid (r := [_, _]) (g := 7) (t := 99) (hL.tail.tail.tail.tail.tail.tail.tail) (by kernel_rfl) (by kernel_rfl) Tryd.underlying99,
    Lib.tabIs_of_head (zs := Lib.pow10Tab) (rest := [_, _, _, _]) (g := 8) (t := 194) (by kernel_rfl) (by kernel_rfl) Tryd.underlying194 (by kernel_rfl) (by kernel_rfl) (by kernel_rfl) (hL.tail.tail.tail.tail.tail),
    cell_of_shapedOpen_int hs (t := 3) (zero := #[.int .i64 0]) (of_decide_eq_true (by kernel_rfl)) (by kernel_rfl) rfl (by kernel_rfl) (by kernel_rfl) (by kernel_rfl),
    GT.ofTab (GTab.of_tab (Lib.tabIs_of_head (zs := tab12) (rest := [_, _, _, _, _, _]) (g := 12) (t := 211) (by kernel_rfl) (by kernel_rfl) Tryd.underlying211 (by kernel_rfl) (by kernel_rfl) (by kernel_rfl) (hL.tail.tail.tail)) (by kernel_rfl)),
    GT.ofTab (GTab.of_tab (Lib.tabIs_of_head (zs := tab13) (rest := [_, _, _, _, _]) (g := 13) (t := 212) (by kernel_rfl) (by kernel_rfl) Tryd.underlying212 (by kernel_rfl) (by kernel_rfl) (by kernel_rfl) (hL.tail.tail.tail.tail)) (by kernel_rfl))⟩
end Go.Proofs.YtflmncjhonmmhaaDoor.Vc
