/- The table of package control, where a row lists it. -/
import Derived.Test.YtgchepijbpcckaaDoorTyp
import Derived.Lib.LaidTab
namespace Go.Gm
open Go.RowKit

def tab : List Int := [0, 7, 3, 12, 12, 20, 12, 8, 29]
/-- The table's cells at global g. -/
def HasAt (g : Nat) (w : World) : Prop := ∀ i, i < 9 → w.cell? ⟨g, i, none⟩ = some (.int .u8 (tab.getD i 0))
theorem HasAt.step {S : Nat → Prop} {g : Nat} {w w' : World} (h : HasAt g w) (hw : Step S w w') (hn : ¬ S g) : HasAt g w' := fun i hi =>
  (hw.cell (p := ⟨g, i, none⟩) (World.block_lt_of_cell? w _ (h i hi)) hn).trans (h i hi)
theorem HasAt.still {g : Nat} {w w' : World} (h : HasAt g w) (hw : Step None w w') : HasAt g w' := h.step hw fun s => s.elim
theorem HasAt.lt {g : Nat} {w : World} (h : HasAt g w) : g < w.heap.size := World.block_lt_of_cell? w _ (h 0 (by omega))
theorem HasAt.drewN {g : Nat} {w : World} (h : HasAt g w) (n : Nat) : HasAt g (w.drewN n) := h
theorem HasAt.ofTab {P : Program} {w : World} {g : Nat} (h : Lib.TabIs P w "gemel/control.has" .u8 tab) (hg : P.globalNamed "gemel/control.has" = some g) : HasAt g w := fun i hi => h.cell hg i hi
end Go.Gm
