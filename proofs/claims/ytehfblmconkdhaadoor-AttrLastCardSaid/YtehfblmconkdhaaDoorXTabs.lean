/- What the program's library tables hold in a world, and that it stays so while older blocks are not turned. -/
import Derived.Test.YtehfblmconkdhaaDoorProg
import Derived.Below
import Derived.Shelf.Unicode.DecodeSlow
import Derived.Lib.AppendIntMem
import Derived.Lib.ItoaNum
namespace Go.Proofs.YtehfblmconkdhaaDoor
open Go.RowKit
/-- The library's tables as their initialisers lay them; the length's bound holds some number. -/
structure TabsOk (w : World) : Prop where
  utf8 : Lib.Utf8Tabs 4 5 w
  maxl : ∃ n, w.cell? ⟨2, 0, none⟩ = some (.int .i64 n)
  pow : Lib.TabIs Tryd.prog w "internal/strconv.uint64pow10" .u64 Lib.pow10Tab
theorem tabs_cell {w w1 : World} (h : Below w.heap.size w w1) {a : Addr} {v : Value} (hc : w.cell? a = some v) : w1.cell? a = some v := (h.cell (World.block_lt_of_cell? w a hc)).trans hc
theorem TabsOk.keep {w w1 : World} (h : TabsOk w) (hb : Below w.heap.size w w1) : TabsOk w1 where
  utf8 := ⟨fun c hc => tabs_cell hb (h.utf8.1 c hc), fun i hi => ⟨tabs_cell hb (h.utf8.2 i hi).1, tabs_cell hb (h.utf8.2 i hi).2⟩⟩
  maxl := by
    obtain ⟨n, hn⟩ := h.maxl
    exact ⟨n, tabs_cell hb hn⟩
  pow := Lib.tabBelow_of_tabIs h.pow _ hb
end Go.Proofs.YtehfblmconkdhaaDoor
