/- What the package-level variables of the library hold while the statements run: a fact on worlds that new memory leaves as it is. -/
import Derived.Test.YtegeaomemgcciabDoorProg
import Derived.Lib.LaidTab
import Derived.Lib.ItoaNum
import Derived.WalkSmall
import Derived.Below
import Derived.KernelRfl
import Derived.Shelf.Strconv.Itoa3
namespace Go.Proofs.YtegeaomemgcciabDoor
open Go Go.Lib Go.RowKit

/-- The variables that are asked. -/
def asked : List Nat := [0, 3, 1, 2]

theorem gnamed_tab : Tryd.prog.globalNamed "internal/strconv.uint64pow10" = some 3 := by kernel_rfl
theorem gnamed_syn : Tryd.prog.globalNamed "strconv.ErrSyntax" = some 1 := by kernel_rfl
theorem gnamed_rng : Tryd.prog.globalNamed "strconv.ErrRange" = some 2 := by kernel_rfl

/-- The library's variables hold what their initialisers lay, as far as the walks ask. -/
structure Laid (w : World) : Prop where
  maxlen : ∃ m, w.cell? ⟨0, 0, none⟩ = some (.int .i64 m)
  tab : TabIs Tryd.prog w "internal/strconv.uint64pow10" .u64 pow10Tab
  syn : ∃ tp p, w.var? Tryd.prog "strconv.ErrSyntax" = some #[.iface tp p]
  rng : ∃ tp p, w.var? Tryd.prog "strconv.ErrRange" = some #[.iface tp p]
  size : ∀ g ∈ asked, g < w.heap.size

theorem Laid.belowB {w w' : World} (h : Laid w) {B : Nat} (hB : ∀ g ∈ asked, g < B) (hb : Below B w w') : Laid w' where
  maxlen := by
    obtain ⟨m, hm⟩ := h.maxlen
    exact ⟨m, by rw [hb.cell (p := ⟨0, 0, none⟩) (hB _ (by decide))]; exact hm⟩
  tab := var?_below hb gnamed_tab (hB _ (by decide)) h.tab
  syn := by
    obtain ⟨t, p, hv⟩ := h.syn
    exact ⟨t, p, var?_below hb gnamed_syn (hB _ (by decide)) hv⟩
  rng := by
    obtain ⟨t, p, hv⟩ := h.rng
    exact ⟨t, p, var?_below hb gnamed_rng (hB _ (by decide)) hv⟩
  size := fun g hg => Nat.lt_of_lt_of_le (h.size g hg) hb.size

theorem Laid.below {w w' : World} (h : Laid w) (hb : Below w.heap.size w w') : Laid w' := h.belowB h.size hb

end Go.Proofs.YtegeaomemgcciabDoor
