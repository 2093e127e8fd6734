/- The row's listed variables: what they give in a world (TabsOk), and a world that holds them (for the witness). -/
import Derived.Test.YtehfblmconkdhaaDoorRows
import Derived.Test.YtehfblmconkdhaaDoorChecked
import Derived.Test.YtehfblmconkdhaaDoorXTabs
import Derived.Test.YtehfblmconkdhaaDoorXShelf
import Derived.Lib.LaidIn
import Derived.Lib.LaidU8T
import Derived.Deep.DeepHandedRow
import Derived.Deep.DeepWitnessRowRef
import Derived.Stop.LaidErr
import Derived.ProofKit
import Derived.SizedLaws
namespace Go.Proofs.YtehfblmconkdhaaDoor.Row
open Go.Shelf Go.RowKit Go.Lib
theorem own : ownKnob Tryd.prog.godebug = none := by kernel_rfl
def litCell : DataW Unit → List Value
  | .lit (.int k n) => [.int k n]
  | _ => []
def tabCells : DataW Unit → List Value
  | .agg l => l.flatMap fun d => match d with
    | .agg l2 => l2.flatMap litCell
    | d => litCell d
  | _ => []
def text (l : List UInt8) : Value := .string ⟨l.toArray⟩
/-- The settled world; the listed variables hold what their initialisers lay; two blocks more: the two errors' structs. -/
noncomputable def laidWorld (os : Os) : World :=
  let n := (World.settled Tryd.prog os).heap.size
  let w0 := World.holding Tryd.prog os ⟨#[.cells #[text [105, 110, 118, 97, 108, 105, 100, 32, 115, 121, 110, 116, 97, 120]] 126, .cells #[text [118, 97, 108, 117, 101, 32, 111, 117, 116, 32, 111, 102, 32, 114, 97, 110, 103, 101]] 126], #[], []⟩
  let put (h : Array Obj) (g : Nat) (cs : Array Value) : Array Obj := h.modify g fun
    | .cells _ t frozen => .cells cs t frozen
    | o => o
  let h0 := put (put w0.heap 0 #[.iface 124 (.pointer (some ⟨n, 0, none⟩))]) 1 #[.iface 124 (.pointer (some ⟨n + 1, 0, none⟩))]
  let h1 := put (put h0 6 (tabCells Rows.laid_math_bits_deBruijn32tab).toArray) 7 (tabCells Rows.laid_math_bits_deBruijn64tab).toArray
  let h2 := put (put h1 3 (tabCells Rows.laid_internal_strconv_uint64pow10).toArray) 5 (tabCells Rows.laid_unicode_utf8_acceptRanges).toArray
  { w0 with heap := put h2 4 (Lib.firstTab.map fun z => Value.int .u8 z).toArray }
def laidList : List (String × DataW Unit) := [("math/bits.deBruijn32tab", Rows.laid_math_bits_deBruijn32tab), ("math/bits.deBruijn64tab", Rows.laid_math_bits_deBruijn64tab), ("internal/strconv.uint64pow10", Rows.laid_internal_strconv_uint64pow10), ("unicode/utf8.acceptRanges", Rows.laid_unicode_utf8_acceptRanges), ("strconv.ErrRange", Rows.laid_strconv_ErrRange), ("strconv.ErrSyntax", Rows.laid_strconv_ErrSyntax), ("unicode/utf8.first", Rows.laid_unicode_utf8_first)]
noncomputable abbrev N0 : Nat := (World.settled Tryd.prog default).heap.size
theorem laid_met (os : Os) (args : Array Value) : laidMet Tryd.prog laidList ((laidWorld os).forCall (fun _ _ => 0) ⟨#[], args, []⟩).memory :=
  (LaidIn.of_run (l := laidList) [6, 7, 3, 5, 1, N0 + 1, 0, N0, 4] 8 (by kernel_rfl) (by kernel_rfl) (by kernel_rfl) (by kernel_rfl)).met
theorem first_eq : Rows.laid_unicode_utf8_first = Lib.firstData := by kernel_rfl
theorem accept_eq : (Rows.laid_unicode_utf8_acceptRanges : DataW Unit) = Lib.acceptData := by kernel_rfl
theorem pow_eq : (Rows.laid_internal_strconv_uint64pow10 : DataW Unit) = Lib.tabData .u64 Lib.pow10Tab := by kernel_rfl
/-- WHAT THE ROW's LIST GIVES. -/
theorem tabs {W : World} (hL : laidMet Tryd.prog laidList W) (hS : W.ShapedOpen Tryd.prog) : TabsOk W where
  utf8 := utf8Tabs_of_readsT (U8Types.of196 Tryd.lays196) ⟨by kernel_rfl, by kernel_rfl, by kernel_rfl, by kernel_rfl, by kernel_rfl, by kernel_rfl, by kernel_rfl⟩
    (by rw [← first_eq]; exact Lib.laidMet.reads hL (.tail _ (.tail _ (.tail _ (.tail _ (.tail _ (.tail _ (.head _)))))))) (by rw [← accept_eq]; exact Lib.laidMet.reads hL (.tail _ (.tail _ (.tail _ (.head _)))))
  maxl := Tryd.maxLen_cell W hS
  pow := Lib.tabIs_of_head (rest := laidList.drop 3) (g := 3) (t := 118) (e := 99) (by kernel_rfl) (by kernel_rfl) Tryd.underlying118 Tryd.underlying99 (by kernel_rfl) (by kernel_rfl) (by rw [← pow_eq]; exact Go.laidMet.tail (Go.laidMet.tail hL))
end Go.Proofs.YtehfblmconkdhaaDoor.Row
