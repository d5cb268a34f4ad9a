/- Texts of this claim, joined by a program of this session: the declarations that its theorem uses. -/
import Derived.Test.YtanofkgnjmegdaaDoorProg
import Derived.Lib.LaidTab
import Derived.Lib.ItoaNum
import Derived.WalkSmall
import Derived.Below
import Derived.KernelRfl
import Derived.Shelf.Strconv.Itoa3
section
namespace Go.Proofs.YtanofkgnjmegdaaDoor
open Go Go.Lib Go.RowKit
def asked : List Nat := [0, 3, 4, 5]
theorem gnamed_tab : Tryd.prog.globalNamed "internal/strconv.uint64pow10" = some 3 := by kernel_rfl
theorem gnamed_syn : Tryd.prog.globalNamed "strconv.ErrSyntax" = some 4 := by kernel_rfl
theorem gnamed_rng : Tryd.prog.globalNamed "strconv.ErrRange" = some 5 := by kernel_rfl
structure Laid (w : World) : Prop where
  maxlen : ∃ m, w.cell? ⟨0, 0, none⟩ = some (.int .i64 m)
  tab : TabIs Tryd.prog w "internal/strconv.uint64pow10" .u64 pow10Tab
  syn : ∃ tp p, w.var? Tryd.prog "strconv.ErrSyntax" = some #[.iface tp p]
  rng : ∃ tp p, w.var? Tryd.prog "strconv.ErrRange" = some #[.iface tp p]
  size : ∀ g ∈ asked, g < w.heap.size
theorem Laid.belowB {w w' : World} (h : Laid w) {B : Nat} (hB : ∀ g ∈ asked, g < B) (hb : Below B w w') : Laid w' where
  maxlen := by
    obtain ⟨m, hm⟩ := h.maxlen
    exact ⟨m, by rw [hb.cell (p := ⟨0, 0, none⟩) (hB _ (by decide))]; exact hm⟩
  tab := var?_below hb gnamed_tab (hB _ (by decide)) h.tab
  syn := by
    obtain ⟨t, p, hv⟩ := h.syn
    exact ⟨t, p, var?_below hb gnamed_syn (hB _ (by decide)) hv⟩
  rng := by
    obtain ⟨t, p, hv⟩ := h.rng
    exact ⟨t, p, var?_below hb gnamed_rng (hB _ (by decide)) hv⟩
  size := fun g hg => Nat.lt_of_lt_of_le (h.size g hg) hb.size
theorem Laid.below {w w' : World} (h : Laid w) (hb : Below w.heap.size w w') : Laid w' := h.belowB h.size hb
end Go.Proofs.YtanofkgnjmegdaaDoor
end
